import Derived.Test.YtdmcjhnbmgmgoaaGreatDoorRfB2
import Derived.Test.YtdmcjhnbmgmgoaaGreatDoorRows
import Derived.WalkKit
import Derived.ProofKit
import Derived.Below
import Derived.SizedLaws
import Derived.KernelRfl
import Derived.Test.YtdmcjhnbmgmgoaaGreatDoorCards
import Derived.Test.YtdmcjhnbmgmgoaaGreatDoorTie
import Derived.LaidMore
import Derived.OpenShut
import Derived.Stop.Joined
import Derived.SevenTiedAt
set_option linter.unusedVariables false
set_option linter.unusedSimpArgs false
set_option linter.unusedSectionVars false
namespace Go.Rf
open Go.RowKit
structure FnM where
 P0X:FuncId
 P2x:FuncId
 P1p:FuncId
 P1b:FuncId
 P1I:FuncId
 P0q:FuncId
 P27:FuncId
 P1r:FuncId
 P2F:FuncId
 P2m:FuncId
 P2T:FuncId
 P0k:FuncId
 P07:FuncId
 P0G:FuncId
 P0l:FuncId
 P4F:FuncId
 P3s:FuncId
 P0L:FuncId
 P0g:FuncId
 P0M:FuncId
 P0b:FuncId
 P0A:FuncId
 P0a:FuncId
 P2E:FuncId
 P41:FuncId
 P3K:FuncId
 P3c:FuncId
 P1n:FuncId
 P1A:FuncId
 P0r:FuncId
 P1G:FuncId
 P1X:FuncId
 P1Y:FuncId
 P3d:FuncId
 P1a:FuncId
 P4C:FuncId
 P0Y:FuncId
 P0u:FuncId
 P0m:FuncId
 P0B:FuncId
 P17:FuncId
 P0K:FuncId
 P1i:FuncId
 P14:FuncId
 P0S:FuncId
 P1C:FuncId
 P1o:FuncId
 P3A:FuncId
 P1F:FuncId
 P2V:FuncId
 P3u:FuncId
 P1u:FuncId
 P1t:FuncId
 P0R:FuncId
 P34:FuncId
 P2U:FuncId
 P33:FuncId
 P2S:FuncId
 P1E:FuncId
 P1D:FuncId
 P0Z:FuncId
 P15:FuncId
 P10:FuncId
 P1d:FuncId
 P1c:FuncId
 P39:FuncId
 P2Q:FuncId
 P3y:FuncId
 P2k:FuncId
 P40:FuncId
 P1e:FuncId
 P0W:FuncId
 P1J:FuncId
 P1W:FuncId
 P1V:FuncId
 P4u:FuncId
 P1S:FuncId
 P1L:FuncId
 P2R:FuncId
 P4v:FuncId
 P2l:FuncId
 P1f:FuncId
 P1M:FuncId
 P3a:FuncId
 P3R:FuncId
 P1K:FuncId
 P4S:FuncId
 P32:FuncId
 P0i:FuncId
 P0e:FuncId
 strconv_Itoa:FuncId
 P0s:FuncId
 P0x:FuncId
 P0N:FuncId
 P35:FuncId
 P3t:FuncId
 P5f:Nat
 P5Y:Nat
structure SeM(P:Program)(F:FnM):Prop where
 hm:P.follows .mixedOrders=true
 P2a:Is P F.P0X Z4P [4] 2
 P36:Is P F.P2x Z7G [4] 2
 P2d:Is P F.P1p (Z46 F.P1b F.P1I) [4] 2
 P1Z:Is P F.P1b (Z4C F.P0X) [4] 2
 P21:Is P F.P1I Z4D [4] 2
 P23:Is P F.P0q Z2m [2] 1
 P3x:Is P F.P27 (Z88 F.P0q) [4] 2
 P2W:Is P F.P1r (Z4Z F.P27) [4] 2
 P3U:Is P F.P2F (Z5E F.P2m F.P2T F.P0k) [2] 1
 P3n:Is P F.P2m Z6S [3] 2
 P3o:Is P F.P2T (Z6T F.P07) [4] 3
 P0P:Is P F.P0k (Z3J F.P0G) [4] 2
 P0V:Is P F.P07 (Z3J F.P0l) [4] 2
 P12:Is P F.P0G Z3Z [4] 2
 P0E:Is P F.P0l Z3Z [4] 2
 P50:Is P F.P4F (ZgU F.P2F) [4] 2
 P4i:Is P F.P3s (Z4Z F.P4F) [4] 2
 P1y:Is P F.P0L Z3K [4] 2
 P1g:Is P F.P0g (Z3Y F.P0M) [4] 2
 P1z:Is P F.P0M Z4n [4] 2
 P1x:Is P F.P0b (Z4I 1 8 (.v (.int .i64 0))) [2] 1
 P11:Is P F.P0A (ZeK 1 8 (.v (.int .i64 0))) [4] 2
 P0Q:Is P F.P0a (Za0 1 8 F.P0A) [2] 1
 P4l:Is P F.P2E (Z9m F.P0b F.P0i F.P0e) [2] 1
 P4b:Is P F.P41 (Z7e F.P2E F.P0L) [6] 3
 P3W:Is P F.P3K (Z4R F.P41) [2] 1
 P3X:Is P F.P3c (Z6x F.P3c) [2] 1
 P2C:Is P F.P1n Z5t [4] 2
 P2O:IsS P F.P1A (Z2t F.P0b F.P1G F.P0r F.P2E F.P1n F.P1X F.P1Y F.P3d F.P1a) [.c 4 (some 3)] 2
 P13:Is P F.P0r (Z2u F.P0l) [4] 2
 P2w:Is P F.P1G Z3X [3] 2
 P2N:Is P F.P1X (Z5M F.P1A) [4] 2
 P2P:IsC P F.P1Y (Z5N F.P1a F.P0a F.P2E) [.c 4 (some 3)] 2
 P3J:IsC P F.P3d (Z7r F.P0a F.P2E) [.c 2 (some 3)] 1
 P2v:Is P F.P1a (Z5h F.P0a F.P2E) [] 3
 P4A:IsC P F.P4C (Z8a F.P3c F.P1n F.P1A F.P0b F.P2E) [.c 4 (some 4),.t 5] 2
 P2b:Is P F.P0Y (Z3B F.P0Y) [2] 1
 P2q:Is P F.P0u Z4l [4] 2
 P1v:IsC P F.P0m (Z0u F.P0u F.P0m F.P0B F.P17 F.P0K) [.c 4 (some 3)] 2
 P1l:Is P F.P0B (Z31 F.P17) [] 3
 P2o:Is P F.P17 (Z5f F.P0u) [4] 2
 P1w:IsC P F.P0K (Z3G F.P0m) [.c 4 (some 3)] 2
 P2y:IsO P F.P1i (Z3F F.P0Y F.P0m F.P0u) [.c 4 (some 4),.t 5] 2
 P1Q:Is P F.P14 Z5g [6] 3
 P20:Is P F.P0S (Z1I F.P14) [2] 1
 P2p:Is P F.P1C Z4m [4] 2
 P2c:Is P F.P1o (Z5B F.P0S F.P1C F.P0u) [6] 3
 P48:Is P F.P3A (ZbN F.strconv_Itoa F.P0s F.P0x F.P0N) [2] 1
 P2u:IsX P F.P1F (Z60 F.P3A F.P5f) [.t 4] 2
 P2Y:IsX P F.P2V (Z5s F.P1F F.P1t) [.c 4 (some 3)] 2
 P3q:Is P F.P3u Z6d [6] 4
 P2M:Is P F.P1u (Z6s F.P0g F.P0i F.P0e) [6] 3
 P2L:Is P F.P1t (Z6r F.P0R F.P07) [4] 2
 P2t:Is P F.P0R (Z5Z F.P0g) [3] 2
 P3V:IsC P F.P34 (Z7c F.P35 F.P2U) [.c 4 (some 3),.t 5] 2
 P3p:Is P F.P2U (Z7N F.P1u F.P0a) [6] 3
 P3T:IsC P F.P33 (Z7c F.P35 F.P2S) [.c 4 (some 3),.t 5] 2
 P3m:Is P F.P2S (Z7M F.P1t F.P1u) [6] 3
 P2s:Is P F.P1E Z4l [4] 2
 P2r:Is P F.P1D Z4m [4] 2
 P2e:Is P F.P0Z (Z5C F.P1D) [4] 2
 P1R:Is P F.P15 (Z3H F.P0Z F.P1o F.P1E) [8] 4
 P2f:IsC P F.P10 (Z5D F.P0S F.P15 F.P0X F.P0Z) [.c 6 (some 3),.t 7] 3
 P24:IsC P F.P1d (Z5o F.P10) [.c 4 (some 3),.t 5] 2
 P22:IsC P F.P1c (Z5n F.P10) [.c 4 (some 3),.t 5] 2
 P38:Is P F.P39 Z7j [2] 1
 P3I:Is P F.P2Q (Z9k F.strconv_Itoa F.P0s F.P0x F.P0N) [6] 3
 P3r:Is P F.P3y (Z7O F.P2Q) [4,5] 2
 P2Z:Is P F.P2k (Z6U F.P39 F.P3y) [2] 1
 P49:IsC P F.P40 (Za1 F.P2F F.P2k) [.c 2 (some 3),.t 3] 1
 P25:Is P F.P1e Z5p [2] 1
 P1O:Is P F.P0W (Z50 F.P0q F.P1e) [2] 1
 P2z:IsC P F.P1J (Z6b F.P0q F.P0W) [.c 2 (some 3),.t 3] 1
 P2i:Is P F.P1W Z4Q [4] 2
 P2h:IsC P F.P1V Z1C [.c 8 (some 2)] 4
 P4k:IsC P F.P4u (Zb6 F.P2F F.P1W F.P1V) [.c 6 (some 3),.t 7] 3
 P2g:IsC P F.P1S Z1B [.c 8 (some 2)] 4
 P2A:IsC P F.P1L (Z6c F.P0q F.P1S) [.c 6 (some 3),.t 7] 3
 P2X:IsC P F.P2R (Z89 F.P4C) [.c 8 (some 3),.t 9] 4
 P4a:IsC P F.P4v (Z6D F.P2R F.P34 F.P33 F.P4u F.P40) [.c 6 (some 3),.t 7] 3
 P2B:IsC P F.P2l (Z3I F.P1i F.P1d F.P1c F.P1L F.P1J) [.c 6 (some 3),.t 7] 3
 P1m:Is P F.P1f (Z3a F.P1f) [4] 2
 P26:Is P F.P1M (Z5q F.P1f) [4] 2
 P4c:Is P F.P3a Zaq [2] 1
 P4t:Is P F.P3R (Zcg F.P3a F.P07) [4] 2
 P37:Is P F.P1K Z7H [4] 2
 P4K:Is P F.P4S (ZeM F.P3R F.P3s) [6] 3
 P3H:Is P F.P32 (Z8x F.P1K F.P1r) [6] 3
 m1:ZtF P F.P35=some (Zj4 F.P3K F.P3t F.P3u F.P2V)
 P6g:Zjc P F.P3t=some (5,2,ZaD F.P5f,16)
 P5j:Z8k P F.P3A F.P5Y
 P5k:Z8k P F.P2Q F.P5Y
 sort:Zml P F.P0i
 comp:Zmj P F.P0e
 P4N:Z0t P F.P0i [.sl true []] (.tup [])
 P4E:Z0t P F.P0e [.sl true []] (.sl true [])
 bld:Zp7 P F.P0s F.P0x F.P0N F.P5Y 5
 itoa:ItK P F.strconv_Itoa (fun n=>0≤n∧n < 10000)
theorem Z9y{X:Type}{l:List X}{k:Nat}(h:l.length≤k)(hk:k≤140737488351232):Len l:=by unfold Len;omega
structure Z6C(n:Net):Prop where
 rows:∀l∈n.rows,l.length≤1000
 by_:n.by_.length≤1000
 follow:n.follow.length≤1000
theorem Z6C.ok{n:Net}(h:Z6C n):Zpi n:=by
 have h1:=h.by_;have h2:=h.follow;have h3:=fun l hl=>h.rows l hl
 refine⟨by unfold Len;omega,by unfold Len;omega,?_,fun r hr=>?_,fun r hr=>?_⟩
 ·have:=h3 n.last (by simp[Net.rows]);unfold Len;omega
 ·have:=h3 r (by simp[Net.rows,hr]);unfold Len;omega
 ·have:=h3 r (by simp[Net.rows,hr]);unfold Len;omega
theorem Zi2{n:Net}(R:Z4H n):Z6C n:=by
 have h1:=R.n2;have h2:=R.len;have h3:=R.s2;refine⟨fun l hl=>?_,by omega,by omega⟩;simp only[Net.rows,List.mem_cons,List.mem_append] at hl;rcases hl with rfl | hl | hl
 ·have:=Zfd R.last.1 R.last.2;omega
 ·obtain⟨i,hi,rfl⟩:=List.getElem_of_mem hl
  have:=Zfd (R.by_ i hi).1 (R.by_ i hi).2;omega
 ·obtain⟨i,hi,rfl⟩:=List.getElem_of_mem hl
  have:=Za3 R hi;omega
theorem Zfj:Z6C ZlJ:=⟨fun l hl=>by simp[ZlJ,Net.rows] at hl;subst hl;simp,by simp[ZlJ],by simp[ZlJ]⟩
theorem Z8i(p:Pat)(sg:Int):Z6C (Z2K p sg).1:=by
 unfold Z2K;split
 ·exact Zfj
 ·split
  ·exact Zfj
  ·exact Zi2 (Zkv (p:=p) (sg:=sg) (by omega) (by omega) (ZqE (by assumption))).R
theorem ZwW:∀k < 10000,(Lib.decDigits k).length≤4:=by
 intro k hk;rw[Lib.decDigits];split
 ·simp
 ·rw[Lib.decDigits]
  split
  ·simp
  ·rw[Lib.decDigits]
   split
   ·simp
   ·rw[Lib.decDigits,dif_pos (by omega)];simp
theorem Zfn:∀{l:List Int},(∀x∈l,0≤x∧x < 10000)→(Z5Q l).length≤5*l.length
 | [],_=>by simp[Z5Q]
 | n::l,h=>by
  have h1:=h n (by simp);have h2:=ZwW n.toNat (by omega);have h3:=Zfn (l:=l) (fun x hx=>h x (by simp[hx]));rw[Z8K,ZdL h1.1];simp only[List.length_append,List.length_cons];omega
namespace SeM
variable{P:Program}{F:FnM}(S:SeM P F)
include S
theorem P5K(a b:List Int)(ha:Len a)(hb:Len b):Z0t P F.P0X [Z03 a,Z03 b] (Z1n (a == b)):=S.P2a.pure S.hm rfl (Z99 _ a b ha hb)
theorem P4O(d:Det)(ok:Z7A d):Z0t P F.P0q [Z0v d] (Z1n (Z2r d)):=S.P23.pure S.hm rfl (Z8Q _ d ok)
theorem P4j(l:List Int)(p:Int→Bool)(g:FuncId)(cap:List AV)(hl:Len l)(hcap:∀y∈cap,Z0S y)(hp:∀x∈l,Z0t P g (Z06 x::cap) (Z1n (p x))):Z0t P F.P07 [Z03 l,.clo g [] cap] (Z1n (l.any p)) :=
 S.P0V.pure S.hm rfl (Z6H (enc:=Z06) Z04 hcap (S.P0E.pure S.hm rfl (Z6a (enc:=Z06) hl (fun _=>rfl) Z04 hcap hp)))
theorem P4U(l:List (List Int))(p:List Int→Bool)(g:FuncId)(cap:List AV)(hl:Len l)(hcap:∀y∈cap,Z0S y)(hp:∀x∈l,Z0t P g (Z03 x::cap) (Z1n (p x))):Z0t P F.P0k [Z0l l,.clo g [] cap] (Z1n (l.any p)) :=
 S.P0P.pure S.hm rfl (Z6H (enc:=Z03) Z02 hcap (S.P12.pure S.hm rfl (Z6a (enc:=Z03) hl (fun _=>rfl) Z02 hcap hp)))
omit S in
theorem P4W(k:Nat):Z0S (.clo F.P2m [] [.eptr (Z06 k) 0]):=.clo _ _ _ Z0a (Z01 (.eptr _ _ (Z04 _)) Z0a)
theorem P44(d:Det)(ok:Z7A d):Z0t P F.P2F [Z0v d] (Z1n (Z2r d)):=by
 refine S.P3U.pure S.hm rfl (Zen d ok ?_);refine S.P4U d.next (Zbn d) F.P2T _ ok.next (Z01 (.eptr _ _ (Z0e d)) (Z01 (.eptr _ _ (P4W _)) Z0a)) (fun r hr=>?_)
 refine S.P3o.pure S.hm rfl (Zcv d r ?_);exact S.P4j r (Zt7 d.next.length) F.P2m _ (ok.rows r hr) (Z01 (.eptr _ _ (Z04 _)) Z0a) (fun t _=>S.P3n.pure S.hm rfl (Zcu _ t _))
theorem P5L(a b:List (List Int))(ha:Len a)(hb:Len b)(h1:∀x∈a,Len x)(h2:∀x∈b,Len x):Z0t P F.P1b [Z0l a,Z0l b] (Z1n (a == b)) :=
 S.P1Z.pure S.hm rfl (ZgF a b ha hb (fun x hx y hy=>S.P5K x y (h1 x hx) (h2 y hy)))
theorem P61(a b:Det)(oa:Z7A a)(ob:Z7A b):Z0t P F.P1p [Z0v a,Z0v b] (Z1n (Zev a b)) :=
 S.P2d.pure S.hm rfl (Zip (fe:=0) a b (S.P5L _ _ oa.next ob.next oa.rows ob.rows) (S.P21.pure S.hm rfl (ZgA _ _ oa.fin ob.fin)))
theorem P5Q(a:Det)(oa:Z7A a):Z0t P F.P1p [Z0v a,Z0v a] (Z1n true):=by
 have:=S.P61 a a oa oa;rwa[ZlX] at this
theorem P43:ByC P F.P0b (Z32 1 8 (.v (.int .i64 0))) [.t 2] 1:=Zju S.hm S.P1x
theorem P6n:ZwA P F.P0b F.P0i F.P0e:=⟨S.P43,S.sort,S.comp,S.P4N,S.P4E⟩
theorem P6d(l:List Int)(hl:l.length≤17592186043904):Z0t P F.P2E [Z03 l] (Z03 (Z6l l)):=S.P4l.pure S.hm rfl (Zhz S.P6n l hl)
theorem P5G(a b:List Int)(ha:Len a)(hb:Len b):Z0t P F.P0L [Z03 a,Z03 b] (Z1n (a == b)):=S.P1y.pure S.hm rfl (Zc8 a b ha hb)
theorem P60(l:List Int)(a b:Int)(hl:l.length≤17592186043904):Z0t P F.P41 [Z03 l,Z06 a,Z06 b] (Z1n (Z4J l a b)):=S.P4b.pure S.hm rfl (Zg4 l a b hl (S.P6d l hl) S.P5G)
theorem P55(n:Net)(h:Z6C n):Z0t P F.P3K [Z0M n] (Z1n (Z4p n)):=S.P3W.pure S.hm rfl (Zeq n h.ok (fun l hl a b=>S.P60 l a b (by have:=h.rows l hl;omega)))
theorem P69:Zd8 P F.P4C F.P3c F.P1n F.P1A F.P0b F.P2E F.P1X F.P1Y F.P3d F.P1a F.P0r F.P0l F.P1G F.P0a F.P0A :=
 ⟨S.P4A,S.P3X,S.P2C,S.P2O,S.P43,S.P13,S.P0E,S.P2w,S.P2N,S.P2P,S.P3J,S.P2v,S.P0Q,S.P11,S.P6d⟩
theorem P5o(p:Pat)(hp:Zce p)(sg:Int):Z0t P F.P4C [Z1s p,Z06 sg] (Zbd (Z2K p sg)):=S.P69.ok S.hm p hp sg
theorem P5p(l:List Int)(x:Int)(hl:l.length≤100000):Z0t P F.P0u [Z03 l,Z06 x] (Z03 (Z7K l x)):=S.P2q.pure S.hm rfl (Z7s l x hl)
theorem P5U:ZgD P F.P1i F.P0Y F.P0m F.P0u F.P0B F.P17 F.P0K :=
 ⟨S.P2y,S.P2b,S.P1v,S.P5p,S.P1l,S.P2o,S.P1w⟩
theorem P5O(p:Pat)(hp:Zce p)(sg:Int):Z0t P F.P1i [Z1s p,Z06 sg] (Zbd (Z2K p sg)):=S.P5U.ok S.hm p hp sg
theorem P5J(l:List Int)(x:Int)(hl:Len l):Z0t P F.P0M [Z03 l,Z06 x] (Z06 (Zep (fun y=>x == y) l)):=S.P1z.pure S.hm rfl (Zc9 l x hl)
theorem P4x(l:List Int)(x:Int)(hl:Len l):Z0t P F.P0g [Z03 l,Z06 x] (Z1n (l.contains x)):=S.P1g.pure S.hm rfl (Zal l x (S.P5J l x hl))
theorem P62(l:List Int)(hx:∀x∈l,0≤x∧x < 10000)(hl:l.length≤1000000):Z0t P F.P3A [Z03 l] (Z8s (Z5Q l)):=by
 have h1:=Zfn hx;exact ZfN S.hm S.P48 S.P5j S.bld S.itoa hx (by omega) (by omega)
theorem P6m(n:Net)(h:n.follow.length≤1000):Ztz P F.P1F F.P5f n:=by
 intro id km most ss v set St K X M hv hs hm h1 h2 h3;refine S.P2u.P4D S.hm rfl ?_;exact Zj9 M (S.P62 set (fun x hx=>⟨(hv.1 x hx).1,by have:=(hv.1 x hx).2;omega⟩) (by have:=hv.2;omega)) hv.nn (fun s h=>(hs.v s h).nn) hs.l hm h1 h2 h3
theorem P67:ZtM P F.P0g F.P0i F.P0e:=⟨S.P4x,S.sort,S.comp,S.P4N,S.P4E⟩
theorem P6f(n:Net)(R:Z4H n):Zvl P F.P1u n:=fun set s hv=>S.P2M.P6a S.hm rfl (ZfM R S.P67 set (by have:=hv.2;omega) hv.1 s)
theorem P6l(n:Net)(h:Z6C n)(s:Int):Z0t P F.P0R [Z06 s,.eptr (Zck n) 0] (Z1n (n.last.contains s)):=S.P2t.pure S.hm rfl (Zdx n s (S.P4x n.last s h.ok.last))
omit S in
theorem P4V(n:Net):∀y∈[AV.eptr (Zck n) 0],Z0S y:=Z01 (.eptr _ _ (Zdu n)) Z0a
theorem P6k(n:Net)(h:Z6C n)(a:List Int)(ha:Len a):Z0t P F.P07 [Z03 a,.clo F.P0R [] [.eptr (Zck n) 0]] (Z1n (a.any fun s=>n.last.contains s)) :=
 S.P4j a _ F.P0R _ ha (P4V n) (fun x _=>S.P6l n h x)
theorem P5V(n:Net)(h:Z6C n):Zpg P F.P1t n:=fun set hv=>S.P2L.pure S.hm rfl (ZfL n set (S.P6k n h set (Z9y hv.2 (by omega))))
theorem P66:Zmk P F.P0A 1 (.v (.int .i64 0)):=Zjv S.hm (by omega) rfl (by omega) S.P11
theorem P5s(l:List Int)(hl:l.length≤1000):Z0t P F.P0a [.sl true [.sl true [Z06 0],Z03 l]] (Z03 (0::l)):=by
 have:=Zay S.hm S.P66 (by omega) S.P0Q (enc:=Z06) Z04 (fun _=>rfl) [(true,[0]),(false,l)] (by simp) (by simp;omega);simpa[Z03] using this
theorem P5n(n:Net)(h:Z6C n)(most:Int)(kd:Kd)(fb:FuncId)(hb:Z4H n→HB P fb n kd):Z0t P F.P35 [Z0M n,Z06 most,.clo fb [] []] (Z3N (Z9a kd n most)):=by
 have:=Zq7 S.hm S.m1 S.P6g S.P2Y S.P3q (most:=most) (S.P55 n h) (fun R=>S.P6m n h.follow) (fun R=>hb ((Z5c n).mp R)) (fun _=>S.P5V n h);rw[Znn] at this;exact this.pure (Z01 (Z1J n) (Z01 (Z04 _) (Z01 (.clo _ _ _ Z0a Z0a) Z0a))) (Z3L _)
theorem P5q(n:Net)(h:Z6C n)(most:Int):Z0t P F.P34 [Z0M n,Z06 most] (Z3N (Z9a .tails n most)) :=
 S.P3V.pure S.hm rfl (Zas (S.P5n n h most .tails F.P2U (fun R=>.tails S.hm R (S.P6f n R) S.P3p S.P5s)))
theorem P5l(n:Net)(h:Z6C n)(most:Int):Z0t P F.P33 [Z0M n,Z06 most] (Z3N (Z9a .heads n most)) :=
 S.P3T.pure S.hm rfl (Zas (S.P5n n h most .heads F.P2S (fun R=>.heads S.hm (S.P6f n R) (S.P5V n h) S.P3m)))
theorem P5H(l:List Int)(x:Int)(hl:Len l):Z0t P F.P1C [Z03 l,Z06 x] (Z1n (l.contains x)):=S.P2p.pure S.hm rfl (Zf4 l x hl)
theorem P5I(l:List Int)(x:Int)(hl:Len l):Z0t P F.P1D [Z03 l,Z06 x] (Z1n (l.contains x)):=S.P2r.pure S.hm rfl (Zf4 l x hl)
theorem P5w(l:List Int)(a b:Int)(hl:Len l):Z0t P F.P14 [Z03 l,Z06 a,Z06 b] (Z1n (Z4J l a b)):=S.P1Q.pure S.hm rfl (Zgl l a b hl)
theorem P4P(n:Net)(h:Z6C n):Z0t P F.P0S [Z0M n] (Z1n (Z4p n)):=S.P20.pure S.hm rfl (ZgJ n h.ok (fun l hl a b=>S.P5w l a b (Z9y (h.rows l hl) (by omega))))
theorem P5P(l:List Int)(x:Int)(hl:l.length≤100000):Z0t P F.P1E [Z03 l,Z06 x] (Z03 (Z7K l x)):=S.P2s.pure S.hm rfl (Z7s l x hl)
theorem P5x(n:Net)(h:Z6C n)(a:List Int)(s:Int)(ha:Len a):Z0t P F.P1o [Z0M n,Z03 a,Z06 s] (Z03 (ZwQ n a s)) :=
 S.P2c.pure S.hm rfl (Ziq n h.ok (S.P4P n h) (fun l hl x=>S.P5H l x (Z9y (h.rows l (by simp[Net.rows,hl])) (by omega))) S.P5p a ha s)
theorem P53(n:Net)(h:Z6C n)(set:List Int)(hs:Len set):Z0t P F.P0Z [Z0M n,Z03 set] (Z1n (Z5i n set)):=S.P2e.P1q S.hm rfl (ZiO n set hs (fun x=>S.P5I n.last x h.ok.last))
theorem P51(kd:Kd)(n:Net)(h:Z6C n)(R:Z4H n)(set:List Int)(s:Int)(hv:Val n set):Z0t P F.P15 [Z0M n,Z03 set,Z06 s,Z06 (kdI kd)] (Z03 (bhS kd n set s)):=by
 have hl:Len set:=Z9y hv.2 (by omega);have hst:=S.P5x n h set s hl;rw[ZwQ,if_pos ((Z5c n).mpr R)] at hst;exact S.P1R.P1q S.hm rfl (ZfC kd R set s (S.P53 n h set hl) hst (fun l hl=>S.P5P l 0 (by omega)))
theorem P54(kd:Kd)(n:Net)(h:Z6C n)(most:Int):Z0t P F.P10 [Z0M n,Z06 most,Z06 (kdI kd)] (Z3N (Z9a kd n most)) :=
 S.P2f.P1q S.hm rfl (Zj5 kd n most (S.P4P n h) (fun R set s hv=>S.P51 kd n h R set s hv) S.P5K (fun R set hv=>S.P53 n h set (Z9y hv.2 (by omega))))
theorem P5v(n:Net)(h:Z6C n)(most:Int):Z0t P F.P1d [Z0M n,Z06 most] (Z3N (Z9a .tails n most)):=S.P24.P1q S.hm rfl (ZcA (S.P54 .tails n h most))
theorem P5u(n:Net)(h:Z6C n)(most:Int):Z0t P F.P1c [Z0M n,Z06 most] (Z3N (Z9a .heads n most)):=S.P22.P1q S.hm rfl (Zcz (S.P54 .heads n h most))
theorem P63{d:Det}(R:Z1Q d){c:List Int}(hcl:c.length=d.next.length)(hc:∀n∈c,Goo n)(s:Nat)(hs:s < d.next.length):Z0t P F.P2Q [Z0v d,Z03 c,Z06 s] (Zm8 (Z9X d c s)) :=
 Zp5 S.hm S.P3I S.P5k S.bld S.itoa R hcl hc hs
theorem P52{d:Det}(R:Z1Q d):Z0t P F.P2k [Z0v d] (Z03 (Z3q d)) :=
 S.P2Z.P1q S.hm rfl (Zh0 R (S.P38.P1q S.hm rfl (ZiF d (by have:=R.fin;have:=R.n2;omega))) (fun c hcl hc=>S.P3r.P1q S.hm rfl (Zlx R hcl hc (S.P63 R hcl hc))))
theorem P5m(d:Det)(ok:Z7A d):Z0t P F.P40 [Z0v d] (Z3N (ZdP d)):=S.P49.P1q S.hm rfl (ZfZ (S.P44 d ok) S.P52)
theorem P5F{d:Det}(R:Z1Q d):Z0t P F.P1e [Z0v d] (Zbc (apM (Z3q d) d.next.length)):=S.P25.P1q S.hm rfl (Zla R)
theorem P4T(d:Det)(ok:Z7A d):Z0t P F.P0W [Z0v d] (Z03 (if Z2r d=true then Z3q d else [])):=S.P1O.P1q S.hm rfl (Zbt (S.P4O d ok) S.P5F)
theorem P5a(d:Det)(ok:Z7A d):Z0t P F.P1J [Z0v d] (Z3N (ZdP d)):=by
 refine S.P2z.P1q S.hm rfl (Zgg (S.P4O d ok) (fun R=>?_));have:=S.P4T d ok;rwa[if_pos ((Z5v d).mpr R)] at this
theorem P5M(b a:Det)(most:Int)(ob:Z7A b)(oa:Z7A a):Z0t P F.P4u [Z0v b,Z0v a,Z06 most] (Z3N (Z4j b a most)) :=
 S.P4k.P1q S.hm rfl (Zj6 b a most (S.P44 b ob) (S.P44 a oa) (fun o ss x ho hl=>Zod S.hm S.P2i b a o ss ho hl x)
  (fun Rb Ra hs x s hx hlt=>S.P2h.P1q S.hm rfl (Ziu Rb Ra hs x hx s hlt)))
theorem P5t(b a:Det)(most:Int)(ob:Z7A b)(oa:Z7A a):Z0t P F.P1L [Z0v b,Z0v a,Z06 most] (Z3N (Z4j b a most)) :=
 S.P2A.P1q S.hm rfl (Zof b a most (S.P4O b ob) (S.P4O a oa) (fun Rb Ra hs x s hx hlt=>S.P2g.P1q S.hm rfl (Zj8 Rb Ra hs x hx s hlt)))
end SeM
theorem Zl2:Z7A zDE:=⟨by simp[zDE,Len],by simp[zDE,Len],by simp[zDE],by simp[zDE]⟩
theorem ZcZ(kd:Kd)(p:Pat)(sg most:Int):Z7A (Z4V kd p sg most).1:=by
 unfold Z4V;split
 ·exact Ztb _ _ _
 ·exact Zl2
theorem Zkr(b a:Det)(most:Int):Z7A (Z4j b a most).1:=by
 cases h:Z4j b a most with
 | mk d e =>
  by_cases he:e=0
  ·subst he;exact ZhO (Zhv h).1.R
  ·unfold Z4j at h
   split at h
   ·split at h
    ·cases h;exact(he rfl).elim
    ·cases h;exact Zl2
   ·cases h;exact Zl2
namespace SeM
variable{P:Program}{F:FnM}(S:SeM P F)
include S
theorem P5S(p:Pat)(hp:Zce p)(sg most:Int):Z0t P F.P2R [Z1s p,Z06 sg,Z06 most,.clo F.P34 [] []] (Z3N (Z4V .tails p sg most)) :=
 S.P2X.P1q S.hm rfl (ZhZ p sg most .tails (S.P5o p hp sg) (S.P5q _ (Z8i p sg) most))
theorem P5R(p:Pat)(hp:Zce p)(sg most:Int):Z0t P F.P2R [Z1s p,Z06 sg,Z06 most,.clo F.P33 [] []] (Z3N (Z4V .heads p sg most)) :=
 S.P2X.P1q S.hm rfl (ZhZ p sg most .heads (S.P5o p hp sg) (S.P5l _ (Z8i p sg) most))
theorem P5N(r:Rul)(hb:Zce r.before)(ha:Zce r.after)(sg most:Int):Z0t P F.P4v [Z5u r,Z06 sg,Z06 most] (Z3N (Z96 r sg most)) :=
 S.P4a.P1q S.hm rfl (Zhx r sg most (S.P5S r.before hb sg most) (S.P5R r.after ha sg most) (fun _ _=>S.P5M _ _ most (ZcZ _ _ _ _) (ZcZ _ _ _ _)) (fun _ _ _=>S.P5m _ (Zkr _ _ _)))
theorem P5b(r:Rul)(hb:Zce r.before)(ha:Zce r.after)(sg most:Int):Z0t P F.P2l [Z5u r,Z06 sg,Z06 most] (Z3N (Z96 r sg most)) :=
 S.P2B.P1q S.hm rfl (ZlS r sg most (S.P5O r.before hb sg) (S.P5O r.after ha sg) (fun _=>S.P5v _ (Z8i _ sg) most) (fun _=>S.P5u _ (Z8i _ sg) most)
  (fun _ _=>S.P5t _ _ most (ZcZ _ _ _ _) (ZcZ _ _ _ _)) (fun _ _ _=>S.P5a _ (Zkr _ _ _)))
theorem P56(r:Rul)(hb:Zcx r.before)(ha:Zcx r.after)(m:Int)(h0:-1≤m)(h1:m≤100):Z0t P F.P1M [Z5u r,Z06 m] (Z1n (Zef r m)) :=
 S.P26.P1q S.hm rfl (Zl6 r m (Zg6 S.hm S.P1m r.before m hb h0 h1) (Zg6 S.hm S.P1m r.after m ha h0 h1))
end SeM
end Go.Rf
namespace Go.Rf
def ZqC(n:Net)(at_:List Int)(sign:Int):List Int:=Z8g [] (Z3P n at_ sign)
def bhP(kd:Kd)(n:Net)(set:List Int)(s:Int):List Int :=
 match kd with
 | .whole=>ZqC n set s
 | .tails=>0::ZqC n set s
 | .heads=>if Z5i n set=true then set else ZqC n set s
def nxP(kd:Kd)(n:Net)(most:Int)(i:Nat)(st:Sts):Option Sts :=
 match st.1[i]? with
 | none=>none
 | some set=>match ZcX most (bhP kd n set) n.signs.toNat st.1 with
  | none=>none
  | some (s2,r)=>some (s2,st.2.1++[r],st.2.2++[Z5i n set])
def goP(kd:Kd)(n:Net)(most:Int):Nat→Nat→Sts→Option Sts
 | 0,_,_=>none
 | f+1,i,st=>if i=st.1.length then some st else match nxP kd n most i st with
  | none=>none
  | some st'=>goP kd n most f (i+1) st'
def Zwn(kd:Kd)(n:Net)(most:Int):Det×Int :=
 if Z4p n=true∧1≤most∧most≤3000 then (match goP kd n most (most.toNat+1) 0 ([[0]],[],[]) with
  | some st=>(⟨n.signs,st.2.1,st.2.2⟩,0)
  | none=>(⟨0,[],[]⟩,13))
 else (⟨0,[],[]⟩,1)
theorem ZqD(n:Net)(a:List Int)(s:Int):ZqC n a s=Z70 n a s:=Zc1 _
theorem Zu3(kd:Kd)(n:Net)(a:List Int):bhP kd n a=bhS kd n a:=by
 funext s;cases kd<;>simp[bhP,bhS,ZqD]
theorem ZuH(kd:Kd)(n:Net)(most:Int)(i:Nat)(st:Sts):nxP kd n most i st=nxF kd n most i st:=by
 unfold nxP nxF;simp only[Zu3];rfl
theorem Zri(kd:Kd)(n:Net)(most:Int):∀(f i:Nat) (st:Sts),goP kd n most f i st=goF kd n most f i st
 | 0,_,_=>rfl
 | f+1,i,st=>by
  unfold goP goF;rw[ZuH];split
  ·rfl
  ·cases nxF kd n most i st with
   | none=>rfl
   | some st'=>exact Zri kd n most f (i+1) st'
theorem Ztc(kd:Kd)(n:Net)(most:Int):Zwn kd n most=Z9a kd n most:=by
 unfold Zwn Z9a Z7J;rw[Zri];rfl
def dI:AV→Option Int
 | .v (.int .i64 n)=>some n
 | _=>none
def dIL:List AV→Option (List Int)
 | []=>some []
 | x::xs=>match dI x,dIL xs with
  | some n,some l=>some (n::l)
  | _,_=>none
def dIs:AV→Option (List Int)
 | .sl _ xs=>dIL xs
 | _=>none
def Zvr:List AV→Option (List (List Int))
 | []=>some []
 | x::xs=>match dIs x,Zvr xs with
  | some n,some l=>some (n::l)
  | _,_=>none
def Zub:AV→Option (List (List Int))
 | .sl _ xs=>Zvr xs
 | _=>none
def ZvY:AV→Option Net
 | .agg [a,b,c,d]=>match dI a,Zub b,Zub c,dIs d with
  | some a,some b,some c,some d=>some ⟨a,b,c,d⟩
  | _,_,_,_=>none
 | _=>none
theorem Zng{x:AV}{n:Int}(h:dI x=some n):x=Z06 n:=by
 unfold dI at h;split at h
 ·cases h;rfl
 ·cases h
theorem Zr7:∀{xs:List AV} {l:List Int},dIL xs=some l→xs=l.map Z06
 | [],l,h=>by cases h;rfl
 | x::xs,l,h=>by
  unfold dIL at h;split at h
  ·rename_i n l' h1 h2
   cases h;rw[Zng h1,Zr7 h2];rfl
  ·cases h
theorem Zr8{x:AV}{l:List Int}(h:dIs x=some l):Wk x (Z03 l):=by
 unfold dIs at h;split at h
 ·rw[Zr7 h];exact Wk.sl' (WkL.refl _)
 ·cases h
theorem Znh:∀{xs:List AV} {l:List (List Int)},Zvr xs=some l→WkL xs (l.map Z03)
 | [],l,h=>by cases h;exact WkL.nil
 | x::xs,l,h=>by
  unfold Zvr at h;split at h
  ·rename_i n l' h1 h2
   cases h;exact WkL.cons (Zr8 h1) (Znh h2)
  ·cases h
theorem ZiH{x:AV}{l:List (List Int)}(h:Zub x=some l):Wk x (Z0l l):=by
 unfold Zub at h;split at h
 ·exact Wk.sl' (Znh h)
 ·cases h
theorem Zse{x:AV}{n:Net}(h:ZvY x=some n):Wk x (Z0M n):=by
 unfold ZvY at h;split at h
 ·split at h
  ·rename_i h1 h2 h3 h4
   cases h;refine Wk.agg' (WkL.cons ?_ (WkL.cons (ZiH h2) (WkL.cons (ZiH h3) (WkL.cons (Zr8 h4) WkL.nil))));rw[Zng h1];exact .refl _
  ·cases h
 ·cases h
def okN(n:Net):Bool:=n.rows.all (fun l=>Nat.ble l.length 1000) && Nat.ble n.by_.length 20 && Nat.ble n.follow.length 20
def xMk(kd:Kd):List AV→Option AV
 | [a,b]=>match ZvY a,dI b with
  | some n,some m=>if okN n=true then some (Z3N (Zwn kd n m)) else none
  | _,_=>none
 | _=>none
theorem Zrw{P:Program}{f:FuncId}{kd:Kd}(H:∀n m,okN n=true→Z0t P f [Z0M n,Z06 m] (Z3N (Z9a kd n m))){args:List AV}{r:AV}(h:xMk kd args=some r):Z0t P f args r:=by
 unfold xMk at h;split at h
 ·split at h
  ·rename_i n m h1 h2
   split at h
   ·rename_i hk
    cases h;rw[Ztc];exact(H n m hk).wk (WkL.cons (Zse h1) (WkL.cons (by rw[Zng h2];exact .refl _) WkL.nil))
   ·cases h
  ·cases h
 ·cases h
end Go.Rf
namespace Go.Rf
open Go.RowKit
def dB:AV→Option Bool
 | .v (.bool b)=>some b
 | _=>none
def dBL:List AV→Option (List Bool)
 | []=>some []
 | x::xs=>match dB x,dBL xs with
  | some n,some l=>some (n::l)
  | _,_=>none
def dBs:AV→Option (List Bool)
 | .sl _ xs=>dBL xs
 | _=>none
def Zsd:AV→Option Det
 | .agg [a,b,c]=>match dI a,Zub b,dBs c with
  | some a,some b,some c=>some ⟨a,b,c⟩
  | _,_,_=>none
 | _=>none
theorem ZvX{x:AV}{n:Bool}(h:dB x=some n):x=Z1n n:=by
 unfold dB at h;split at h
 ·cases h;rfl
 ·cases h
theorem Zr6:∀{xs:List AV} {l:List Bool},dBL xs=some l→xs=l.map Z1n
 | [],l,h=>by cases h;rfl
 | x::xs,l,h=>by
  unfold dBL at h;split at h
  ·rename_i n l' h1 h2
   cases h;rw[ZvX h1,Zr6 h2];rfl
  ·cases h
theorem Zua{x:AV}{l:List Bool}(h:dBs x=some l):Wk x (Z2E l):=by
 unfold dBs at h;split at h
 ·rw[Zr6 h];exact Wk.sl' (WkL.refl _)
 ·cases h
theorem ZiG{x:AV}{n:Det}(h:Zsd x=some n):Wk x (Z0v n):=by
 unfold Zsd at h;split at h
 ·split at h
  ·rename_i h1 h2 h3
   cases h;refine Wk.agg' (WkL.cons ?_ (WkL.cons (ZiH h2) (WkL.cons (Zua h3) WkL.nil)));rw[Zng h1];exact .refl _
  ·cases h
 ·cases h
def okD(d:Det):Bool:=decide (-1000≤d.signs) && decide (d.signs≤1000) && Nat.ble d.next.length 20 && Nat.ble d.fin.length 20 && d.next.all fun l=>Nat.ble l.length 20
theorem Zoh{d:Det}(h:okD d=true):Z7A d:=by
 simp only[okD,Bool.and_eq_true,List.all_eq_true,Nat.ble_eq,decide_eq_true_eq] at h;obtain⟨⟨⟨⟨h1,h2⟩,h3⟩,h4⟩,h5⟩:=h;exact⟨by unfold Len;omega,by unfold Len;omega,fun r hr=>by have:=h5 r hr;unfold Len;omega,by omega⟩
def x1(F:Det→AV):List AV→Option AV
 | [a]=>match Zsd a with
  | some d=>if okD d=true then some (F d) else none
  | none=>none
 | _=>none
def x2(F:Det→Det→AV):List AV→Option AV
 | [a,b]=>match Zsd a,Zsd b with
  | some d,some e=>if okD d=true∧okD e=true then some (F d e) else none
  | _,_=>none
 | _=>none
theorem Zwv{P:Program}{f:FuncId}{F:Det→AV}(H:∀d,Z7A d→Z0t P f [Z0v d] (F d)){args:List AV}{r:AV}(h:x1 F args=some r):Z0t P f args r:=by
 unfold x1 at h;split at h
 ·split at h
  ·rename_i d h1
   split at h
   ·rename_i hk
    cases h;exact(H d (Zoh hk)).wk (WkL.cons (ZiG h1) WkL.nil)
   ·cases h
  ·cases h
 ·cases h
def x3m(F:Det→Det→Int→AV):List AV→Option AV
 | [a,b,c]=>match Zsd a,Zsd b,dI c with
  | some d,some e,some m=>if okD d=true∧okD e=true then some (F d e m) else none
  | _,_,_=>none
 | _=>none
theorem Zvf{P:Program}{f:FuncId}{F:Det→Det→Int→AV}(H:∀d e m,Z7A d→Z7A e→Z0t P f [Z0v d,Z0v e,Z06 m] (F d e m)){args:List AV}{r:AV}(h:x3m F args=some r):Z0t P f args r:=by
 unfold x3m at h;split at h
 ·split at h
  ·rename_i d e m h1 h2 h3
   split at h
   ·rename_i hk
    cases h;rw[Zng h3];exact(H d e m (Zoh hk.1) (Zoh hk.2)).wk (WkL.cons (ZiG h1) (WkL.cons (ZiG h2) (WkL.cons (.refl _) WkL.nil)))
   ·cases h
  ·cases h
 ·cases h
theorem Zka(a:AF)(g:Nat→Option Blk):∀ts:List Nat,evC a g (ts.map RV.t)=some (ts.map a)
 | []=>rfl
 | t::ts=>by simp[evC,RV.ev,Zka a g ts]
theorem Zoo(a:AF):∀ts:List Nat,Z1b (ts.map a)=Z9b ts a
 | []=>rfl
 | [t]=>rfl
 | t::u::ts=>rfl
theorem Is.P6j{P:Program}(hm:P.follows .mixedOrders=true){f:FuncId}{ac:AC}{ts:List Nat}{n:Nat}(h:Is P f ac ts n):ByC P f ac (ts.map RV.t) n:=by
 intro args S K hn hb;refine h.P3z hm hn (Z9g _ (fun e a S' k=>?_) hb);cases e<;>simp only[Z2L,Z75] at k ⊢
 all_goals
  obtain⟨xs,h1,h2⟩:=k;rw[Zka] at h1;cases h1;rw[Zoo] at h2;exact h2
def Zj2{α:Type}:List (Nat×α)→Nat→Option α
 | [],_=>none
 | (k,a)::l,f=>bif Nat.beq f k then some a else Zj2 l f
theorem ZdO{α:Type}:∀{l:List (Nat×α)} {f:Nat} {g:α},Zj2 l f=some g→(f,g)∈l
 | [],f,g,h=>by cases h
 | (k,a)::l,f,g,h=>by
  simp only[Zj2] at h;cases hb:Nat.beq f k with
  | true =>
   rw[hb] at h;have:=Nat.eq_of_beq_eq_true hb;subst this;cases h;exact List.mem_cons_self
  | false=>rw[hb] at h;exact List.mem_cons_of_mem _ (ZdO h)
def KnC(P:Program)(c:Nat×AC×List RV×Nat):Prop:=ByC P c.1 c.2.1 c.2.2.1 c.2.2.2
def KnR(P:Program)(c:Nat×(List AV→Option AV)):Prop:=∀args r,c.2 args=some r→Z0t P c.1 args r
theorem Ztr{P:Program}(hm:P.follows .mixedOrders=true){cs:List (Nat×AC×List RV×Nat)}{ks:List (Nat×(List AV→Option AV))}(h1:∀c∈cs,KnC P c)(h2:∀k∈ks,KnR P k):Zdb P (ZvB P (Zj2 cs) (fun _=>none) (Zj2 ks)) :=
 Zts hm (fun f p h=>h1 _ (ZdO h)) (fun f g args v h=>by cases h) (fun f g args r h hg=>h2 _ (ZdO h) args r hg)
theorem ZmA{α:Type}{p:α→Prop}:∀x∈([]:List α),p x:=fun x h=>by cases h
theorem all_cons{α:Type}{p:α→Prop}{a:α}{l:List α}(h:p a)(k:∀x∈l,p x):∀x∈a::l,p x:=fun x hx=>by
 rcases List.mem_cons.mp hx with rfl | hx
 ·exact h
 ·exact k x hx
end Go.Rf
namespace Go.Proofs.YtdmcjhnbmgmgoaaGreatDoor
open Go.ChangeShapes Go.WideShapes Go.ChangeAt Go.RowKit Go.Rf
theorem ZnN:Tryz.prog.follows .mixedOrders=true:=by kernel_rfl
theorem Zu8:Is Tryz.prog 80 (Z4I 1 8 (.v (.int .i64 0))) [2] 1:=⟨Tryz.f80,Tryz.f80.body.getD .skip,Tryz.func80,by kernel_rfl,by kernel_rfl,by kernel_rfl,by kernel_rfl,by rw[Tryz.ntmps80];decide⟩
theorem P43:ByC Tryz.prog 80 (Z32 1 8 (.v (.int .i64 0))) [.t 2] 1:=Zju ZnN Zu8
noncomputable def Zv9:Tab:=Zwu Tryz.prog (fun f=>bif Nat.beq f 80 then some (Z32 1 8 (.v (.int .i64 0)),[.t 2],1) else none) (fun _=>none)
theorem Zru:Zdb Tryz.prog Zv9:=by
 refine Ztu ZnN (fun f p h=>?_) (fun f g args v h=>by cases h);cases hb:Nat.beq f 80 with
 | true =>
  rw[hb] at h;have:f=80:=Nat.eq_of_beq_eq_true hb;subst this;cases h;exact @P43
 | false=>rw[hb] at h;cases h
theorem ZoD:fnK Zv9 (Zox Zv9 500) 66 [.sl true []]=some (.tup [],true):=by kernel_rfl
theorem ZoA:fnK Zv9 (Zox Zv9 500) 67 [.sl true []]=some (.sl true [],true):=by kernel_rfl
theorem Zqw:Z0t Tryz.prog 66 [.sl true []] (.tup []):=.P6b ZnN Zru 500 ZoD
theorem Zqv:Z0t Tryz.prog 67 [.sl true []] (.sl true []):=.P6b ZnN Zru 500 ZoA
theorem Ztm:Zml Tryz.prog 66:=Zw6
theorem Ztj:Zmj Tryz.prog 67:=Zw4
theorem Zv4:Zp7 Tryz.prog 133 135 136 167 5:=Zx6
theorem Ztk:ItK Tryz.prog 134 (fun n=>0≤n∧n < 10000):=Zw5
theorem ZoF:Z8k Tryz.prog 132 167:=by unfold Z8k;kernel_rfl
theorem ZoG:Z8k Tryz.prog 115 167:=by unfold Z8k;kernel_rfl
theorem Zwp:ZtF Tryz.prog 48=some (Zj4 81 82 84 83):=by kernel_rfl
theorem Ztl:Zjc Tryz.prog 82=some (5,2,ZaD 122,16):=by kernel_rfl
theorem Zac:Is Tryz.prog 18 Z4P [4] 2:=⟨Tryz.f18,Tryz.f18.body.getD .skip,Tryz.func18,by kernel_rfl,by kernel_rfl,by kernel_rfl,by kernel_rfl,by rw[Tryz.ntmps18];decide⟩
theorem Z9N:Is Tryz.prog 13 Z7G [4] 2:=⟨Tryz.f13,Tryz.f13.body.getD .skip,Tryz.func13,by kernel_rfl,by kernel_rfl,by kernel_rfl,by kernel_rfl,by rw[Tryz.ntmps13];decide⟩
theorem Zaf:Is Tryz.prog 12 (Z46 35 36) [4] 2:=⟨Tryz.f12,Tryz.f12.body.getD .skip,Tryz.func12,by kernel_rfl,by kernel_rfl,by kernel_rfl,by kernel_rfl,by rw[Tryz.ntmps12];decide⟩
theorem Z9K:Is Tryz.prog 35 (Z4C 18) [4] 2:=⟨Tryz.f35,Tryz.f35.body.getD .skip,Tryz.func35,by kernel_rfl,by kernel_rfl,by kernel_rfl,by kernel_rfl,by rw[Tryz.ntmps35];decide⟩
theorem Z9M:Is Tryz.prog 36 Z4D [4] 2:=⟨Tryz.f36,Tryz.f36.body.getD .skip,Tryz.func36,by kernel_rfl,by kernel_rfl,by kernel_rfl,by kernel_rfl,by rw[Tryz.ntmps36];decide⟩
theorem Z9P:Is Tryz.prog 38 Z2m [2] 1:=⟨Tryz.f38,Tryz.f38.body.getD .skip,Tryz.func38,by kernel_rfl,by kernel_rfl,by kernel_rfl,by kernel_rfl,by rw[Tryz.ntmps38];decide⟩
theorem ZaO:Is Tryz.prog 70 (Z88 38) [4] 2:=⟨Tryz.f70,Tryz.f70.body.getD .skip,Tryz.func70,by kernel_rfl,by kernel_rfl,by kernel_rfl,by kernel_rfl,by rw[Tryz.ntmps70];decide⟩
theorem Z90:Is Tryz.prog 41 (Z4Z 70) [4] 2:=⟨Tryz.f41,Tryz.f41.body.getD .skip,Tryz.func41,by kernel_rfl,by kernel_rfl,by kernel_rfl,by kernel_rfl,by rw[Tryz.ntmps41];decide⟩
theorem ZhU:Is Tryz.prog 54 (Z5E 88 90 89) [2] 1:=⟨Tryz.f54,Tryz.f54.body.getD .skip,Tryz.func54,by kernel_rfl,by kernel_rfl,by kernel_rfl,by kernel_rfl,by rw[Tryz.ntmps54];decide⟩
theorem Zey:Is Tryz.prog 88 Z6S [3] 2:=⟨Tryz.f88,Tryz.f88.body.getD .skip,Tryz.func88,by kernel_rfl,by kernel_rfl,by kernel_rfl,by kernel_rfl,by rw[Tryz.ntmps88];decide⟩
theorem Zez:Is Tryz.prog 90 (Z6T 72) [4] 3:=⟨Tryz.f90,Tryz.f90.body.getD .skip,Tryz.func90,by kernel_rfl,by kernel_rfl,by kernel_rfl,by kernel_rfl,by rw[Tryz.ntmps90];decide⟩
theorem Z6N:Is Tryz.prog 89 (Z3J 114) [4] 2:=⟨Tryz.f89,Tryz.f89.body.getD .skip,Tryz.func89,by kernel_rfl,by kernel_rfl,by kernel_rfl,by kernel_rfl,by rw[Tryz.ntmps89];decide⟩
theorem Z77:Is Tryz.prog 72 (Z3J 102) [4] 2:=⟨Tryz.f72,Tryz.f72.body.getD .skip,Tryz.func72,by kernel_rfl,by kernel_rfl,by kernel_rfl,by kernel_rfl,by rw[Tryz.ntmps72];decide⟩
theorem Z7g:Is Tryz.prog 114 Z3Z [4] 2:=⟨Tryz.f114,Tryz.f114.body.getD .skip,Tryz.func114,by kernel_rfl,by kernel_rfl,by kernel_rfl,by kernel_rfl,by rw[Tryz.ntmps114];decide⟩
theorem Z7B:Is Tryz.prog 102 Z3Z [4] 2:=⟨Tryz.f102,Tryz.f102.body.getD .skip,Tryz.func102,by kernel_rfl,by kernel_rfl,by kernel_rfl,by kernel_rfl,by rw[Tryz.ntmps102];decide⟩
theorem ZlY:Is Tryz.prog 73 (ZgU 54) [4] 2:=⟨Tryz.f73,Tryz.f73.body.getD .skip,Tryz.func73,by kernel_rfl,by kernel_rfl,by kernel_rfl,by kernel_rfl,by rw[Tryz.ntmps73];decide⟩
theorem Zew:Is Tryz.prog 44 (Z4Z 73) [4] 2:=⟨Tryz.f44,Tryz.f44.body.getD .skip,Tryz.func44,by kernel_rfl,by kernel_rfl,by kernel_rfl,by kernel_rfl,by rw[Tryz.ntmps44];decide⟩
theorem Z8p:Is Tryz.prog 131 Z3K [4] 2:=⟨Tryz.f131,Tryz.f131.body.getD .skip,Tryz.func131,by kernel_rfl,by kernel_rfl,by kernel_rfl,by kernel_rfl,by rw[Tryz.ntmps131];decide⟩
theorem Z7P:Is Tryz.prog 86 (Z3Y 113) [4] 2:=⟨Tryz.f86,Tryz.f86.body.getD .skip,Tryz.func86,by kernel_rfl,by kernel_rfl,by kernel_rfl,by kernel_rfl,by rw[Tryz.ntmps86];decide⟩
theorem Z8q:Is Tryz.prog 113 Z4n [4] 2:=⟨Tryz.f113,Tryz.f113.body.getD .skip,Tryz.func113,by kernel_rfl,by kernel_rfl,by kernel_rfl,by kernel_rfl,by rw[Tryz.ntmps113];decide⟩
theorem Z8o:Is Tryz.prog 80 (Z4I 1 8 (.v (.int .i64 0))) [2] 1:=⟨Tryz.f80,Tryz.f80.body.getD .skip,Tryz.func80,by kernel_rfl,by kernel_rfl,by kernel_rfl,by kernel_rfl,by rw[Tryz.ntmps80];decide⟩
theorem Z8I:Is Tryz.prog 85 (ZeK 1 8 (.v (.int .i64 0))) [4] 2:=⟨Tryz.f85,Tryz.f85.body.getD .skip,Tryz.func85,by kernel_rfl,by kernel_rfl,by kernel_rfl,by kernel_rfl,by rw[Tryz.ntmps85];decide⟩
theorem Z87:Is Tryz.prog 50 (Za0 1 8 85) [2] 1:=⟨Tryz.f50,Tryz.f50.body.getD .skip,Tryz.func50,by kernel_rfl,by kernel_rfl,by kernel_rfl,by kernel_rfl,by rw[Tryz.ntmps50];decide⟩
theorem Zm0:Is Tryz.prog 79 (Z9m 80 66 67) [2] 1:=⟨Tryz.f79,Tryz.f79.body.getD .skip,Tryz.func79,by kernel_rfl,by kernel_rfl,by kernel_rfl,by kernel_rfl,by rw[Tryz.ntmps79];decide⟩
theorem Zjj:Is Tryz.prog 111 (Z7e 79 131) [6] 3:=⟨Tryz.f111,Tryz.f111.body.getD .skip,Tryz.func111,by kernel_rfl,by kernel_rfl,by kernel_rfl,by kernel_rfl,by rw[Tryz.ntmps111];decide⟩
theorem ZhW:Is Tryz.prog 81 (Z4R 111) [2] 1:=⟨Tryz.f81,Tryz.f81.body.getD .skip,Tryz.func81,by kernel_rfl,by kernel_rfl,by kernel_rfl,by kernel_rfl,by rw[Tryz.ntmps81];decide⟩
theorem ZhX:Is Tryz.prog 76 (Z6x 76) [2] 1:=⟨Tryz.f76,Tryz.f76.body.getD .skip,Tryz.func76,by kernel_rfl,by kernel_rfl,by kernel_rfl,by kernel_rfl,by rw[Tryz.ntmps76];decide⟩
theorem ZbC:Is Tryz.prog 77 Z5t [4] 2:=⟨Tryz.f77,Tryz.f77.body.getD .skip,Tryz.func77,by kernel_rfl,by kernel_rfl,by kernel_rfl,by kernel_rfl,by rw[Tryz.ntmps77];decide⟩
theorem Zc5:IsS Tryz.prog 78 (Z2t 80 106 105 79 77 108 107 109 110) [.c 4 (some 3)] 2:=⟨Tryz.f78,Tryz.f78.body.getD .skip,Tryz.func78,by kernel_rfl,by kernel_rfl,by kernel_rfl,by kernel_rfl,by rw[Tryz.ntmps78];decide⟩
theorem Z7u:Is Tryz.prog 105 (Z2u 102) [4] 2:=⟨Tryz.f105,Tryz.f105.body.getD .skip,Tryz.func105,by kernel_rfl,by kernel_rfl,by kernel_rfl,by kernel_rfl,by rw[Tryz.ntmps105];decide⟩
theorem ZaU:Is Tryz.prog 106 Z3X [3] 2:=⟨Tryz.f106,Tryz.f106.body.getD .skip,Tryz.func106,by kernel_rfl,by kernel_rfl,by kernel_rfl,by kernel_rfl,by rw[Tryz.ntmps106];decide⟩
theorem Zc4:Is Tryz.prog 108 (Z5M 78) [4] 2:=⟨Tryz.f108,Tryz.f108.body.getD .skip,Tryz.func108,by kernel_rfl,by kernel_rfl,by kernel_rfl,by kernel_rfl,by rw[Tryz.ntmps108];decide⟩
theorem Zc6:IsC Tryz.prog 107 (Z5N 110 50 79) [.c 4 (some 3)] 2:=⟨Tryz.f107,Tryz.f107.body.getD .skip,Tryz.func107,by kernel_rfl,by kernel_rfl,by kernel_rfl,by kernel_rfl,by rw[Tryz.ntmps107];decide⟩
theorem Zgt:IsC Tryz.prog 109 (Z7r 50 79) [.c 2 (some 3)] 1:=⟨Tryz.f109,Tryz.f109.body.getD .skip,Tryz.func109,by kernel_rfl,by kernel_rfl,by kernel_rfl,by kernel_rfl,by rw[Tryz.ntmps109];decide⟩
theorem ZaT:Is Tryz.prog 110 (Z5h 50 79) [] 3:=⟨Tryz.f110,Tryz.f110.body.getD .skip,Tryz.func110,by kernel_rfl,by kernel_rfl,by kernel_rfl,by kernel_rfl,by rw[Tryz.ntmps110];decide⟩
theorem ZoH:IsC Tryz.prog 47 (Z8a 76 77 78 80 79) [.c 4 (some 4),.t 5] 2:=⟨Tryz.f47,Tryz.f47.body.getD .skip,Tryz.func47,by kernel_rfl,by kernel_rfl,by kernel_rfl,by kernel_rfl,by rw[Tryz.ntmps47];decide⟩
theorem Zad:Is Tryz.prog 58 (Z3B 58) [2] 1:=⟨Tryz.f58,Tryz.f58.body.getD .skip,Tryz.func58,by kernel_rfl,by kernel_rfl,by kernel_rfl,by kernel_rfl,by rw[Tryz.ntmps58];decide⟩
theorem ZaN:Is Tryz.prog 60 Z4l [4] 2:=⟨Tryz.f60,Tryz.f60.body.getD .skip,Tryz.func60,by kernel_rfl,by kernel_rfl,by kernel_rfl,by kernel_rfl,by rw[Tryz.ntmps60];decide⟩
theorem Z8m:IsC Tryz.prog 59 (Z0u 60 59 93 94 95) [.c 4 (some 3)] 2:=⟨Tryz.f59,Tryz.f59.body.getD .skip,Tryz.func59,by kernel_rfl,by kernel_rfl,by kernel_rfl,by kernel_rfl,by rw[Tryz.ntmps59];decide⟩
theorem Z81:Is Tryz.prog 93 (Z31 94) [] 3:=⟨Tryz.f93,Tryz.f93.body.getD .skip,Tryz.func93,by kernel_rfl,by kernel_rfl,by kernel_rfl,by kernel_rfl,by rw[Tryz.ntmps93];decide⟩
theorem ZaL:Is Tryz.prog 94 (Z5f 60) [4] 2:=⟨Tryz.f94,Tryz.f94.body.getD .skip,Tryz.func94,by kernel_rfl,by kernel_rfl,by kernel_rfl,by kernel_rfl,by rw[Tryz.ntmps94];decide⟩
theorem Z8n:IsC Tryz.prog 95 (Z3G 59) [.c 4 (some 3)] 2:=⟨Tryz.f95,Tryz.f95.body.getD .skip,Tryz.func95,by kernel_rfl,by kernel_rfl,by kernel_rfl,by kernel_rfl,by rw[Tryz.ntmps95];decide⟩
theorem Zbx:IsO Tryz.prog 30 (Z3F 58 59 60) [.c 4 (some 4),.t 5] 2:=⟨Tryz.f30,Tryz.f30.body.getD .skip,Tryz.func30,by kernel_rfl,by kernel_rfl,by kernel_rfl,by kernel_rfl,by rw[Tryz.ntmps30];decide⟩
theorem Z9c:Is Tryz.prog 116 Z5g [6] 3:=⟨Tryz.f116,Tryz.f116.body.getD .skip,Tryz.func116,by kernel_rfl,by kernel_rfl,by kernel_rfl,by kernel_rfl,by rw[Tryz.ntmps116];decide⟩
theorem Z9L:Is Tryz.prog 96 (Z1I 116) [2] 1:=⟨Tryz.f96,Tryz.f96.body.getD .skip,Tryz.func96,by kernel_rfl,by kernel_rfl,by kernel_rfl,by kernel_rfl,by rw[Tryz.ntmps96];decide⟩
theorem ZaM:Is Tryz.prog 137 Z4m [4] 2:=⟨Tryz.f137,Tryz.f137.body.getD .skip,Tryz.func137,by kernel_rfl,by kernel_rfl,by kernel_rfl,by kernel_rfl,by rw[Tryz.ntmps137];decide⟩
theorem Zae:Is Tryz.prog 117 (Z5B 96 137 60) [6] 3:=⟨Tryz.f117,Tryz.f117.body.getD .skip,Tryz.func117,by kernel_rfl,by kernel_rfl,by kernel_rfl,by kernel_rfl,by rw[Tryz.ntmps117];decide⟩
theorem Zjf:Is Tryz.prog 132 (ZbN 134 133 135 136) [2] 1:=⟨Tryz.f132,Tryz.f132.body.getD .skip,Tryz.func132,by kernel_rfl,by kernel_rfl,by kernel_rfl,by kernel_rfl,by rw[Tryz.ntmps132];decide⟩
theorem ZaS:IsX Tryz.prog 112 (Z60 132 122) [.t 4] 2:=⟨Tryz.f112,Tryz.f112.body.getD .skip,Tryz.func112,by kernel_rfl,by kernel_rfl,by kernel_rfl,by kernel_rfl,by rw[Tryz.ntmps112];decide⟩
theorem ZcD:IsX Tryz.prog 83 (Z5s 112 53) [.c 4 (some 3)] 2:=⟨Tryz.f83,Tryz.f83.body.getD .skip,Tryz.func83,by kernel_rfl,by kernel_rfl,by kernel_rfl,by kernel_rfl,by rw[Tryz.ntmps83];decide⟩
theorem ZeB:Is Tryz.prog 84 Z6d [6] 4:=⟨Tryz.f84,Tryz.f84.body.getD .skip,Tryz.func84,by kernel_rfl,by kernel_rfl,by kernel_rfl,by kernel_rfl,by rw[Tryz.ntmps84];decide⟩
theorem Zc3:Is Tryz.prog 51 (Z6s 86 66 67) [6] 3:=⟨Tryz.f51,Tryz.f51.body.getD .skip,Tryz.func51,by kernel_rfl,by kernel_rfl,by kernel_rfl,by kernel_rfl,by rw[Tryz.ntmps51];decide⟩
theorem Zc2:Is Tryz.prog 53 (Z6r 87 72) [4] 2:=⟨Tryz.f53,Tryz.f53.body.getD .skip,Tryz.func53,by kernel_rfl,by kernel_rfl,by kernel_rfl,by kernel_rfl,by rw[Tryz.ntmps53];decide⟩
theorem ZaR:Is Tryz.prog 87 (Z5Z 86) [3] 2:=⟨Tryz.f87,Tryz.f87.body.getD .skip,Tryz.func87,by kernel_rfl,by kernel_rfl,by kernel_rfl,by kernel_rfl,by rw[Tryz.ntmps87];decide⟩
theorem ZhV:IsC Tryz.prog 26 (Z7c 48 49) [.c 4 (some 3),.t 5] 2:=⟨Tryz.f26,Tryz.f26.body.getD .skip,Tryz.func26,by kernel_rfl,by kernel_rfl,by kernel_rfl,by kernel_rfl,by rw[Tryz.ntmps26];decide⟩
theorem ZeA:Is Tryz.prog 49 (Z7N 51 50) [6] 3:=⟨Tryz.f49,Tryz.f49.body.getD .skip,Tryz.func49,by kernel_rfl,by kernel_rfl,by kernel_rfl,by kernel_rfl,by rw[Tryz.ntmps49];decide⟩
theorem ZhT:IsC Tryz.prog 27 (Z7c 48 52) [.c 4 (some 3),.t 5] 2:=⟨Tryz.f27,Tryz.f27.body.getD .skip,Tryz.func27,by kernel_rfl,by kernel_rfl,by kernel_rfl,by kernel_rfl,by rw[Tryz.ntmps27];decide⟩
theorem Zex:Is Tryz.prog 52 (Z7M 53 51) [6] 3:=⟨Tryz.f52,Tryz.f52.body.getD .skip,Tryz.func52,by kernel_rfl,by kernel_rfl,by kernel_rfl,by kernel_rfl,by rw[Tryz.ntmps52];decide⟩
theorem ZaQ:Is Tryz.prog 118 Z4l [4] 2:=⟨Tryz.f118,Tryz.f118.body.getD .skip,Tryz.func118,by kernel_rfl,by kernel_rfl,by kernel_rfl,by kernel_rfl,by rw[Tryz.ntmps118];decide⟩
theorem ZaP:Is Tryz.prog 119 Z4m [4] 2:=⟨Tryz.f119,Tryz.f119.body.getD .skip,Tryz.func119,by kernel_rfl,by kernel_rfl,by kernel_rfl,by kernel_rfl,by rw[Tryz.ntmps119];decide⟩
theorem Zag:Is Tryz.prog 98 (Z5C 119) [4] 2:=⟨Tryz.f98,Tryz.f98.body.getD .skip,Tryz.func98,by kernel_rfl,by kernel_rfl,by kernel_rfl,by kernel_rfl,by rw[Tryz.ntmps98];decide⟩
theorem Z9d:Is Tryz.prog 97 (Z3H 98 117 118) [8] 4:=⟨Tryz.f97,Tryz.f97.body.getD .skip,Tryz.func97,by kernel_rfl,by kernel_rfl,by kernel_rfl,by kernel_rfl,by rw[Tryz.ntmps97];decide⟩
theorem Zah:IsC Tryz.prog 61 (Z5D 96 97 18 98) [.c 6 (some 3),.t 7] 3:=⟨Tryz.f61,Tryz.f61.body.getD .skip,Tryz.func61,by kernel_rfl,by kernel_rfl,by kernel_rfl,by kernel_rfl,by rw[Tryz.ntmps61];decide⟩
theorem Z9Q:IsC Tryz.prog 31 (Z5o 61) [.c 4 (some 3),.t 5] 2:=⟨Tryz.f31,Tryz.f31.body.getD .skip,Tryz.func31,by kernel_rfl,by kernel_rfl,by kernel_rfl,by kernel_rfl,by rw[Tryz.ntmps31];decide⟩
theorem Z9O:IsC Tryz.prog 32 (Z5n 61) [.c 4 (some 3),.t 5] 2:=⟨Tryz.f32,Tryz.f32.body.getD .skip,Tryz.func32,by kernel_rfl,by kernel_rfl,by kernel_rfl,by kernel_rfl,by rw[Tryz.ntmps32];decide⟩
theorem Zeb:Is Tryz.prog 91 Z7j [2] 1:=⟨Tryz.f91,Tryz.f91.body.getD .skip,Tryz.func91,by kernel_rfl,by kernel_rfl,by kernel_rfl,by kernel_rfl,by rw[Tryz.ntmps91];decide⟩
theorem Zgr:Is Tryz.prog 115 (Z9k 134 133 135 136) [6] 3:=⟨Tryz.f115,Tryz.f115.body.getD .skip,Tryz.func115,by kernel_rfl,by kernel_rfl,by kernel_rfl,by kernel_rfl,by rw[Tryz.ntmps115];decide⟩
theorem ZeC:Is Tryz.prog 92 (Z7O 115) [4,5] 2:=⟨Tryz.f92,Tryz.f92.body.getD .skip,Tryz.func92,by kernel_rfl,by kernel_rfl,by kernel_rfl,by kernel_rfl,by rw[Tryz.ntmps92];decide⟩
theorem ZcE:Is Tryz.prog 57 (Z6U 91 92) [2] 1:=⟨Tryz.f57,Tryz.f57.body.getD .skip,Tryz.func57,by kernel_rfl,by kernel_rfl,by kernel_rfl,by kernel_rfl,by rw[Tryz.ntmps57];decide⟩
theorem Zjg:IsC Tryz.prog 29 (Za1 54 57) [.c 2 (some 3),.t 3] 1:=⟨Tryz.f29,Tryz.f29.body.getD .skip,Tryz.func29,by kernel_rfl,by kernel_rfl,by kernel_rfl,by kernel_rfl,by rw[Tryz.ntmps29];decide⟩
theorem Z9R:Is Tryz.prog 99 Z5p [2] 1:=⟨Tryz.f99,Tryz.f99.body.getD .skip,Tryz.func99,by kernel_rfl,by kernel_rfl,by kernel_rfl,by kernel_rfl,by rw[Tryz.ntmps99];decide⟩
theorem Z91:Is Tryz.prog 63 (Z50 38 99) [2] 1:=⟨Tryz.f63,Tryz.f63.body.getD .skip,Tryz.func63,by kernel_rfl,by kernel_rfl,by kernel_rfl,by kernel_rfl,by rw[Tryz.ntmps63];decide⟩
theorem Zby:IsC Tryz.prog 34 (Z6b 38 63) [.c 2 (some 3),.t 3] 1:=⟨Tryz.f34,Tryz.f34.body.getD .skip,Tryz.func34,by kernel_rfl,by kernel_rfl,by kernel_rfl,by kernel_rfl,by rw[Tryz.ntmps34];decide⟩
theorem Zak:Is Tryz.prog 55 Z4Q [4] 2:=⟨Tryz.f55,Tryz.f55.body.getD .skip,Tryz.func55,by kernel_rfl,by kernel_rfl,by kernel_rfl,by kernel_rfl,by rw[Tryz.ntmps55];decide⟩
theorem Zaj:IsC Tryz.prog 56 Z1C [.c 8 (some 2)] 4:=⟨Tryz.f56,Tryz.f56.body.getD .skip,Tryz.func56,by kernel_rfl,by kernel_rfl,by kernel_rfl,by kernel_rfl,by rw[Tryz.ntmps56];decide⟩
theorem ZlZ:IsC Tryz.prog 28 (Zb6 54 55 56) [.c 6 (some 3),.t 7] 3:=⟨Tryz.f28,Tryz.f28.body.getD .skip,Tryz.func28,by kernel_rfl,by kernel_rfl,by kernel_rfl,by kernel_rfl,by rw[Tryz.ntmps28];decide⟩
theorem Zai:IsC Tryz.prog 62 Z1B [.c 8 (some 2)] 4:=⟨Tryz.f62,Tryz.f62.body.getD .skip,Tryz.func62,by kernel_rfl,by kernel_rfl,by kernel_rfl,by kernel_rfl,by rw[Tryz.ntmps62];decide⟩
theorem Zbz:IsC Tryz.prog 33 (Z6c 38 62) [.c 6 (some 3),.t 7] 3:=⟨Tryz.f33,Tryz.f33.body.getD .skip,Tryz.func33,by kernel_rfl,by kernel_rfl,by kernel_rfl,by kernel_rfl,by rw[Tryz.ntmps33];decide⟩
theorem Zgs:IsC Tryz.prog 25 (Z89 47) [.c 8 (some 3),.t 9] 4:=⟨Tryz.f25,Tryz.f25.body.getD .skip,Tryz.func25,by kernel_rfl,by kernel_rfl,by kernel_rfl,by kernel_rfl,by rw[Tryz.ntmps25];decide⟩
theorem Zji:IsC Tryz.prog 10 (Z6D 25 26 27 28 29) [.c 6 (some 3),.t 7] 3:=⟨Tryz.f10,Tryz.f10.body.getD .skip,Tryz.func10,by kernel_rfl,by kernel_rfl,by kernel_rfl,by kernel_rfl,by rw[Tryz.ntmps10];decide⟩
theorem ZbB:IsC Tryz.prog 11 (Z3I 30 31 32 33 34) [.c 6 (some 3),.t 7] 3:=⟨Tryz.f11,Tryz.f11.body.getD .skip,Tryz.func11,by kernel_rfl,by kernel_rfl,by kernel_rfl,by kernel_rfl,by rw[Tryz.ntmps11];decide⟩
theorem Z9U:Is Tryz.prog 24 (Z3a 24) [4] 2:=⟨Tryz.f24,Tryz.f24.body.getD .skip,Tryz.func24,by kernel_rfl,by kernel_rfl,by kernel_rfl,by kernel_rfl,by rw[Tryz.ntmps24];decide⟩
theorem Z9T:Is Tryz.prog 9 (Z5q 24) [4] 2:=⟨Tryz.f9,Tryz.f9.body.getD .skip,Tryz.func9,by kernel_rfl,by kernel_rfl,by kernel_rfl,by kernel_rfl,by rw[Tryz.ntmps9];decide⟩
theorem Zec:Is Tryz.prog 71 Zaq [2] 1:=⟨Tryz.f71,Tryz.f71.body.getD .skip,Tryz.func71,by kernel_rfl,by kernel_rfl,by kernel_rfl,by kernel_rfl,by rw[Tryz.ntmps71];decide⟩
theorem Zgu:Is Tryz.prog 43 (Zcg 71 72) [4] 2:=⟨Tryz.f43,Tryz.f43.body.getD .skip,Tryz.func43,by kernel_rfl,by kernel_rfl,by kernel_rfl,by kernel_rfl,by rw[Tryz.ntmps43];decide⟩
theorem Z9S:Is Tryz.prog 42 Z7H [4] 2:=⟨Tryz.f42,Tryz.f42.body.getD .skip,Tryz.func42,by kernel_rfl,by kernel_rfl,by kernel_rfl,by kernel_rfl,by rw[Tryz.ntmps42];decide⟩
theorem Zjh:Is Tryz.prog 16 (ZeM 43 44) [6] 3:=⟨Tryz.f16,Tryz.f16.body.getD .skip,Tryz.func16,by kernel_rfl,by kernel_rfl,by kernel_rfl,by kernel_rfl,by rw[Tryz.ntmps16];decide⟩
theorem ZbA:Is Tryz.prog 17 (Z8x 42 41) [6] 3:=⟨Tryz.f17,Tryz.f17.body.getD .skip,Tryz.func17,by kernel_rfl,by kernel_rfl,by kernel_rfl,by kernel_rfl,by rw[Tryz.ntmps17];decide⟩
def fnM:FnM:={ P0X:=18,P2x:=13,P1p:=12,P1b:=35,P1I:=36,P0q:=38,P27:=70,P1r:=41,P2F:=54,P2m:=88,P2T:=90,P0k:=89,P07:=72,P0G:=114,P0l:=102,P4F:=73,P3s:=44,P0L:=131,P0g:=86,P0M:=113,P0b:=80,P0A:=85,P0a:=50,P2E:=79,P41:=111,P3K:=81,P3c:=76,P1n:=77,P1A:=78,P0r:=105,P1G:=106,P1X:=108,P1Y:=107,P3d:=109,P1a:=110,P4C:=47,P0Y:=58,P0u:=60,P0m:=59,P0B:=93,P17:=94,P0K:=95,P1i:=30,P14:=116,P0S:=96,P1C:=137,P1o:=117,P3A:=132,P1F:=112,P2V:=83,P3u:=84,P1u:=51,P1t:=53,P0R:=87,P34:=26,P2U:=49,P33:=27,P2S:=52,P1E:=118,P1D:=119,P0Z:=98,P15:=97,P10:=61,P1d:=31,P1c:=32,P39:=91,P2Q:=115,P3y:=92,P2k:=57,P40:=29,P1e:=99,P0W:=63,P1J:=34,P1W:=55,P1V:=56,P4u:=28,P1S:=62,P1L:=33,P2R:=25,P4v:=10,P2l:=11,P1f:=24,P1M:=9,P3a:=71,P3R:=43,P1K:=42,P4S:=16,P32:=17,P0i:=66,P0e:=67,strconv_Itoa:=134,P0s:=133,P0x:=135,P0N:=136,P35:=48,P3t:=82,P5f:=122,P5Y:=167 }
theorem seM:SeM Tryz.prog fnM:={ hm:=ZnN,P2a:=Zac,P36:=Z9N,P2d:=Zaf,P1Z:=Z9K,P21:=Z9M,P23:=Z9P,P3x:=ZaO,P2W:=Z90,P3U:=ZhU,P3n:=Zey,P3o:=Zez,P0P:=Z6N,P0V:=Z77,P12:=Z7g,P0E:=Z7B,P50:=ZlY,P4i:=Zew,P1y:=Z8p,P1g:=Z7P,P1z:=Z8q,P1x:=Z8o,P11:=Z8I,P0Q:=Z87,P4l:=Zm0,P4b:=Zjj,P3W:=ZhW,P3X:=ZhX,P2C:=ZbC,P2O:=Zc5,P13:=Z7u,P2w:=ZaU,P2N:=Zc4,P2P:=Zc6,P3J:=Zgt,P2v:=ZaT,P4A:=ZoH,P2b:=Zad,P2q:=ZaN,P1v:=Z8m,P1l:=Z81,P2o:=ZaL,P1w:=Z8n,P2y:=Zbx,P1Q:=Z9c,P20:=Z9L,P2p:=ZaM,P2c:=Zae,P48:=Zjf,P2u:=ZaS,P2Y:=ZcD,P3q:=ZeB,P2M:=Zc3,P2L:=Zc2,P2t:=ZaR,P3V:=ZhV,P3p:=ZeA,P3T:=ZhT,P3m:=Zex,P2s:=ZaQ,P2r:=ZaP,P2e:=Zag,P1R:=Z9d,P2f:=Zah,P24:=Z9Q,P22:=Z9O,P38:=Zeb,P3I:=Zgr,P3r:=ZeC,P2Z:=ZcE,P49:=Zjg,P25:=Z9R,P1O:=Z91,P2z:=Zby,P2i:=Zak,P2h:=Zaj,P4k:=ZlZ,P2g:=Zai,P2A:=Zbz,P2X:=Zgs,P4a:=Zji,P2B:=ZbB,P1m:=Z9U,P26:=Z9T,P4c:=Zec,P4t:=Zgu,P37:=Z9S,P4K:=Zjh,P3H:=ZbA,m1:=Zwp,P6g:=Ztl,P5j:=ZoF,P5k:=ZoG,sort:=Ztm,comp:=Ztj,P4N:=Zqw,P4E:=Zqv,bld:=Zv4,itoa:=Ztk }
end Go.Proofs.YtdmcjhnbmgmgoaaGreatDoor
namespace Go.Rf
attribute [local simp] Z4c Z48 Z2M Z2a Z2P Z2R Z2Q Z4a Z4b Z1e Z16 Z0c Z0B Z0q Z08 Z0o Z0h Z09 Z0p Z0i Z0Y Z0j Z0z Z0K Z0k Z0J Z1W Z3U Z0X Z25 Z22 Z24 Z23 Z26 Z1j Z0D Z11 Z12 Z1T Z1U Z1V Z0H Z0I Z1i Z0r Z0W Z20 Z1X Z1Z Z1Y Z21 Z1k Z13 Z1g Z0U Z0V Z0C Z1h Z0P Z1a Z1f Z14 Z1l ex Z00 Z0R Z6K Z6P Z0f Z0g Z0A Z2k Z1d Z10 Z0y Z0F Z0G Z0E Z0s Z0Z Z5y Z0O Z37 Z1c Z1O Z1R Z3s Z0b Z1q Z19 Z0Q Z1F Z3S Z1P Z6A Z3C Z6z Z3w Z2Y Z3t Z6w Z3D Z51 AV.solid S0 Z06 Z1n
def ZmU:AC :=
 (.block 6 (.loop (.seq (.reg none [
       ro 66 (.bin .lss (.t 65) (.t 64))])
       (.seq (.cond (.t 66) .skip (.exit 6))
       (.seq (.block 7 (.seq (.reg none [
        ro 67 (.idxA 1 (.t 63) (.t 65)),
        ro 68 (.load none (.t 67)),
        rm 14 68])
       (.seq (.reg none [
        rm 69 14,
        ro 70 (.bin .neq (.t 69) (ci (-1))),
        rm 71 70,
        rg 72 71 true (.mv (.t 6)),
        rg 73 71 true (.mv (.t 14)),
        rg 74 71 true (.idxA 1 (.t 72) (.t 73)),
        rg 75 71 true (.load none (.t 74)),
        rg 76 71 true (.mv (.t 8)),
        rg 77 71 true (.bin .eql (.t 75) (.t 76)),
        ro 78 (.pick (.t 71) (.t 77) (.c (.v (.bool false))))])
       (.cond (.t 78) (.reg none [
        rm 79 10,
        rm 80 14,
        ro 81 (.bslice 1 1 (.v (.int .i64 0)) [(0,(.t 80))]),
        ro 82 (.app 1 8 (.t 79) (.t 81)),
        rm 10 82]) .skip))))
       (.reg none [
       ro 83 (.bin .add (.t 65) (ci 1)),
       rm 65 83]))))))
def ZrZ:AC :=
 (.block 4 (.loop (.seq (.reg none [
      ro 50 (.bin .lss (.t 49) (.t 48))])
     (.seq (.cond (.t 50) .skip (.exit 4))
     (.seq (.block 5 (.seq (.reg none [
      ro 51 (.idxA 1 (.t 47) (.t 49)),
      ro 52 (.load none (.t 51)),
      rm 12 52])
      (.seq (.reg none [
      ro 53 (.fieldA 0 (.t 5)),
      ro 54 (.load none (.t 53)),
      rm 55 12,
      ro 56 (.idxA 1 (.t 54) (.t 55)),
      ro 57 (.load none (.t 56)),
      rm 58 9,
      ro 59 (.bin .mul (ci 2) (.t 58)),
      rm 60 9,
      ro 61 (.bin .mul (ci 2) (.t 60)),
      ro 62 (.bin .add (.t 61) (ci 2)),
      ro 63 (.slc 1 (.t 57) (some (.t 59)) (some (.t 62))),
      ro 64 (.len (.t 63)),
      ro 65 (.mv (ci 0))])
      ZmU)))
     (.reg none [
      ro 84 (.bin .add (.t 49) (ci 1)),
      rm 49 84]))))))
def ZmV(P06 P04:FuncId):AC :=
 (.seq (.reg none [
     rm 85 10,
     ro 86 (.len (.t 85)),
     ro 87 (.bin .gtr (.t 86) (ci 0))])
    (.cond (.t 87) (.seq (.reg none [
     rm 88 10,
     rk 89 P06 [(.t 88)]])
     (.seq (.reg none [
     rm 90 10,
     rk 91 P04 [(.t 90)],
     rm 7 91])
     (.seq (.reg none [
     rm 92 2,
     rm 93 9,
     ro 94 (.bslice 1 1 (.v (.int .i64 0)) [(0,(.t 93))]),
     ro 95 (.app 1 8 (.t 92) (.t 94)),
     rm 2 95])
     (.exit 1)))) .skip))
def ZmS(P06 P04:FuncId):AC :=
 (.block 2 (.loop (.seq (.reg none [
    ro 45 (.bin .lss (.t 44) (.t 43))])
    (.seq (.cond (.t 45) .skip (.exit 2))
    (.seq (.block 3 (.seq (.reg none [
     rm 46 44,
     rm 9 46])
    (.seq (.reg none [
     ro 10 (.mv (.c (.sl true [])))])
    (.seq (.seq (.reg none [
     rm 47 7,
     ro 48 (.len (.t 47)),
     ro 49 (.mv (ci 0))])
    ZrZ)
    (ZmV P06 P04)))))
    (.reg none [
    ro 96 (.bin .add (.t 44) (ci 1)),
    rm 44 96]))))))
def ZmT(P06 P04:FuncId):AC :=
 (.block 0 (.loop (.seq (.seq (.reg none [
   rm 37 8,
   ro 38 (.bin .geq (.t 37) (ci 0))])
  (.cond (.t 38) .skip (.exit 0)))
  (.seq (.block 1 (.seq (.reg none [
   ro 41 (.fieldA 0 (.t 1)),
   ro 42 (.load none (.t 41)),
   ro 43 (.bin .quo (.t 42) (ci 2)),
   ro 44 (.mv (ci 0))])
   (ZmS P06 P04)))
  (.reg none [
   rm 39 8,
   ro 40 (.bin .sub (.t 39) (ci 1)),
   rm 8 40])))))
def Zld(P1k P16:FuncId):AC :=
 (.block 8 (.loop (.seq (.seq (.reg (some []) [
   ro 97 (.load (some 3) (.t 1)),
   rm 98 2,
   rm 99 3,
   rk 100 P1k [(.t 98),(.t 99)],
   rk 101 P16 [(.t 97),(.t 100)],
   ro 102 (.un .not (.t 101))])
  (.cond (.t 102) .skip (.exit 8)))
  (.seq (.block 9 .skip)
  (.reg none [
   rm 103 3,
   ro 104 (.bin .add (.t 103) (ci 1)),
   rm 3 104])))))
def Zpy(P1k P16:FuncId):AC :=
 (.seq (.seq (.reg none [
  ro 3 (.mv (ci 1))])
 (Zld P1k P16))
 (.seq (.reg none [
  rm 105 2,
  rm 106 3,
  rm 2 105,
  rm 3 106,
  ro 4 (.mv (.c (.v (.bool true))))])
 .ret))
def Zb7(P1j P4r P3Z P06 P04 P1k P16:FuncId):AC :=
 (.seq (.reg none [
 ro 1 (.box 3 (.t 0)),
 ro 2 (.mv (.c (.sl true []))),
 ro 3 (.mv (ci 0)),
 ro 4 (.mv (.c (.v (.bool false))))])
 (.scp (.seq (.seq (.reg none [
  ro 15 (.load (some 3) (.t 1)),
  rk 16 P1j [(.t 15)],
  ro 17 (.un .not (.t 16)),
  rm 18 17,
  rg 19 18 false (.fieldA 0 (.t 1)),
  rg 20 18 false (.load none (.t 19)),
  rg 21 18 false (.bin .and (.t 20) (ci 1)),
  rg 22 18 false (.bin .eql (.t 21) (ci 1)),
  ro 23 (.pick (.t 18) (.c (.v (.bool true))) (.t 22))])
 (.cond (.t 23) (.seq (.reg none [
  ro 2 (.mv (.c (.sl true []))),
  ro 3 (.mv (ci 0)),
  ro 4 (.mv (.c (.v (.bool false))))])
  .ret) .skip))
 (.seq (.reg none [
  ro 24 (.load (some 3) (.t 1)),
  rk 25 P4r [(.t 24)],
  ro 5 (.alloc (.agg [(.sl true []),(.sl true [])]) 2),
  rn (.store 2 (.t 5) (.t 25))])
 (.seq (.reg none [
  ro 26 (.load (some 2) (.t 5)),
  rk 27 P3Z [(.t 26)],
  rm 6 27])
 (.seq (.seq (.reg none [
  rm 28 6,
  ro 29 (.idxA 1 (.t 28) (ci 0)),
  ro 30 (.load none (.t 29)),
  ro 31 (.bin .eql (.t 30) (ci (-1)))])
 (.cond (.t 31) (.seq (.reg none [
  ro 2 (.mv (.c (.sl true []))),
  ro 3 (.mv (ci 0)),
  ro 4 (.mv (.c (.v (.bool false))))])
  .ret) .skip))
 (.seq (.reg none [
  ro 32 (.bslice 1 1 (.v (.int .i64 0)) [(0,(ci 0))]),
  rm 7 32])
 (.seq .skip
 (.seq (.seq (.reg none [
  rm 33 6,
  ro 34 (.idxA 1 (.t 33) (ci 0)),
  ro 35 (.load none (.t 34)),
  ro 36 (.bin .sub (.t 35) (ci 1)),
  rm 8 36])
 (ZmT P06 P04))
 (Zpy P1k P16))))))))))
def AtV(g:Nat→Option Blk)(v:AV)(l:List Int):Prop:=v=.sl true (l.map Z06)∨∃id off ys,v=.own id off l.length∧g id=some (.arr 1 ys)∧off+l.length=ys.length∧ys.drop off=l.map Z06
theorem AtV.frame{g g':Nat→Option Blk}{v:AV}{l:List Int}(h:AtV g v l)(hs:∀i∈v.ids,g' i=g i):AtV g' v l:=by
 rcases h with h | ⟨id,off,ys,rfl,h1,h2,h3⟩
 ·exact .inl h
 ·exact .inr ⟨id,off,ys,rfl,by rw[hs id (by simp[AV.ids])];exact h1,h2,h3⟩
end Go.Rf
namespace Go.Proofs.YtdmcjhnbmgmgoaaGreatDoor
open Go.ChangeShapes Go.WideShapes Go.ChangeAt Go.RowKit Go.Rf
theorem Zxa:Is Tryz.prog 37 (Zb7 54 64 65 66 67 43 44) [2,3,4] 1:=⟨Tryz.f37,Tryz.f37.body.getD .skip,Tryz.func37,by kernel_rfl,by kernel_rfl,by kernel_rfl,by kernel_rfl,by rw[Tryz.ntmps37];decide⟩
theorem ZhD{n:Net}(h:okN n=true):Z6C n:=by
 simp only[okN,Bool.and_eq_true,List.all_eq_true,Nat.ble_eq] at h;obtain⟨⟨h1,h2⟩,h3⟩:=h;exact⟨h1,by omega,by omega⟩
def ZvV:List (Nat×AC×List RV×Nat):=[(80,Z32 1 8 (.v (.int .i64 0)),[.t 2],1),(37,Zb7 54 64 65 66 67 43 44,[.t 2,.t 3,.t 4],1)]
def Zwe:List (Nat×(List AV→Option AV)):=[(26,xMk .tails),(27,xMk .heads),(28,x3m fun b a m=>Z3N (Z4j b a m)),(29,x1 fun d=>Z3N (ZdP d))]
noncomputable def tab:Tab:=ZvB Tryz.prog (Zj2 ZvV) (fun _=>none) (Zj2 Zwe)
theorem Zwt:Zdb Tryz.prog tab :=
 Ztr ZnN (all_cons @P43 (all_cons (Zxa.P6j ZnN) ZmA))
  (all_cons (fun _ _ h=>Zrw (fun n m hk=>seM.P5q n (ZhD hk) m) h) (all_cons (fun _ _ h=>Zrw (fun n m hk=>seM.P5l n (ZhD hk) m) h)
   (all_cons (fun _ _ h=>Zvf (fun b a m hb ha=>seM.P5M b a m hb ha) h) (all_cons (fun _ _ h=>Zwv (fun d hd=>seM.P5m d hd) h) ZmA))))
theorem ZsB:fnK tab (Zox tab 500) 8 []=some (Z1n true,true):=by kernel_rfl
theorem Zu5:Z0t Tryz.prog 8 [] (Z1n true):=.P6b ZnN Zwt 500 ZsB
end Go.Proofs.YtdmcjhnbmgmgoaaGreatDoor
namespace Go.Rf
open Go.RowKit
def ZgE(n:Int):Prop:=IntKind.i64.min≤n∧n≤IntKind.i64.max
def ZtC(P:Program)(t:TypeId):Bool:=(match P.underlying t with | some (.int .i64)=>true | _=>false) && Nat.beq (P.cellsOf t) 1
def Zu7(P:Program)(t:TypeId):Bool:=(match P.underlying t with | some .bool=>true | _=>false) && Nat.beq (P.cellsOf t) 1
def Zli(P:Program)(t e:TypeId):Bool:=(match P.underlying t with | some (.slice e')=>Nat.beq e' e | _=>false) && (Nat.beq (P.cellsOf t) 1 && (decide (0 < P.cellsOf e) && decide (0 < P.bytesOf e)))
def Zlh(P:Program):Nat→List Field→List TypeId→Bool
 | _,[],[]=>true
 | o,f::fs,t::ts=>Nat.beq f.offset o && (Nat.beq f.type t && Zlh P (o+P.cellsOf t) fs ts)
 | _,_,_=>false
def Zs6(P:Program)(t:TypeId)(ts:List TypeId):Bool:=match P.underlying t with
 | some (.struct fs)=>Zlh P 0 fs.toList ts && Nat.beq (P.cellsOf t) ((fs.toList.map fun f=>P.cellsOf f.type).sum)
 | _=>false
section
variable{P:Program}
theorem ZbR{t:TypeId}(h:ZtC P t=true)(n:Nat):Z7p P n t Z06 ZgE:=by
 simp only[ZtC,Bool.and_eq_true] at h;obtain⟨h1,h2⟩:=h;split at h1
 ·rename_i hu;exact Z7p.int hu (Nat.eq_of_beq_eq_true h2) n
 ·cases h1
theorem Zs3{t:TypeId}(h:Zu7 P t=true)(n:Nat):Z7p P n t Z1n (fun _=>True):=by
 simp only[Zu7,Bool.and_eq_true] at h;obtain⟨h1,h2⟩:=h;split at h1
 ·rename_i hu;exact Z7p.bool hu (Nat.eq_of_beq_eq_true h2) n
 ·cases h1
theorem Zs5{X:Type}{enc:X→AV}{good:X→Prop}{t e:TypeId}(h:Zli P t e=true)(he:∀n,Z7p P n e enc good):∀n,Z7p P n t (fun l:List X=>.sl false (l.map enc)) (fun l=>Len l∧∀x∈l,good x):=by
 simp only[Zli,Bool.and_eq_true,decide_eq_true_eq] at h;obtain⟨h1,h2,h3,h4⟩:=h;have hc:=Nat.eq_of_beq_eq_true h2;intro n;cases n with
 | zero=>exact .zero (fun _ _=>by simp[AV.cells,hc]) (fun _ _=>by simp[AV.cells,AV.atom])
 | succ n =>
  split at h1
  ·rename_i e' hu
   have:=Nat.eq_of_beq_eq_true h1;subst this;exact Z7p.slice hu hc h3 h4 (he n)
  ·cases h1
def Zvm{X:Type}(l:List X):Prop:=l.length≤17592186043904
def Zn9(P:Program)(t e:TypeId):Bool:=Zli P t e && Nat.beq (P.bytesOf e) 8
theorem Zs4{t e:TypeId}(h:Zn9 P t e=true):Zli P t e=true:=by simp only[Zn9,Bool.and_eq_true] at h;exact h.1
theorem ZpC{X:Type}{enc:X→AV}{good:X→Prop}{t e:TypeId}(h:Zn9 P t e=true)(he:∀n,Z7p P n e enc good):∀n,Z7p P n t (fun l:List X=>.sl false (l.map enc)) (fun l=>Zvm l∧∀x∈l,good x):=by
 simp only[Zn9,Zli,Bool.and_eq_true,decide_eq_true_eq] at h;obtain⟨⟨h1,h2,h3,h4⟩,h8⟩:=h;have hc:=Nat.eq_of_beq_eq_true h2;have hb:=Nat.eq_of_beq_eq_true h8;intro n;cases n with
 | zero=>exact .zero (fun _ _=>by simp[AV.cells,hc]) (fun _ _=>by simp[AV.cells,AV.atom])
 | succ n =>
  split at h1
  ·rename_i e' hu
   have:=Nat.eq_of_beq_eq_true h1;subst this;have hD:=Z7p.sliceB hu hc h3 h4 (he n);rw[hb] at hD;refine⟨fun x _=>by simp[AV.cells,hc],fun x _ y hy=>by simp[AV.cells] at hy;subst hy;rfl,fun eh w cs r hr hw=>?_⟩;obtain⟨x,hx,g⟩:=hD.run eh w cs r hr hw;exact⟨x,⟨by have:=hx.1;unfold Zvm;omega,hx.2⟩,g⟩
  ·cases h1
theorem Zna{X:Type}{enc:X→AV}{good:X→Prop}{t e:TypeId}(h:Zli P t e=true){n:Nat}(he:Z7p P n e enc good):Z7p P (n+1) t (fun l:List X=>.sl false (l.map enc)) (fun l=>Len l∧∀x∈l,good x):=by
 simp only[Zli,Bool.and_eq_true,decide_eq_true_eq] at h;obtain⟨h1,h2,h3,h4⟩:=h;have hc:=Nat.eq_of_beq_eq_true h2;split at h1
 ·rename_i e' hu
  have:=Nat.eq_of_beq_eq_true h1;subst this;exact Z7p.slice hu hc h3 h4 he
 ·cases h1
theorem Znb{X:Type}{enc:X→AV}{good:List X→Prop}{t e:TypeId}(h:Zli P t e=true):Z7p P 0 t (fun l:List X=>.sl false (l.map enc)) good:=by
 simp only[Zli,Bool.and_eq_true,decide_eq_true_eq] at h;have hc:=Nat.eq_of_beq_eq_true h.2.1;exact .zero (fun _ _=>by simp[AV.cells,hc]) (fun _ _=>by simp[AV.cells,AV.atom])
theorem ZfJ{n o:Nat}(fs:List Field)(h:Zlh P o fs []=true):Zm5 P n o fs (fun _:Unit=>[]) (fun _=>True):=by
 cases fs with
 | nil=>exact Zm5.nil
 | cons f fs=>simp[Zlh] at h
theorem Z63{n o:Nat}{t:TypeId}{ts:List TypeId}{X Y:Type}{e1:X→AV}{g1:X→Prop}{e2:Y→List AV}{g2:Y→Prop}(h1:Z7p P n t e1 g1)(h2:∀fs,Zlh P (o+P.cellsOf t) fs ts=true→Zm5 P n (o+P.cellsOf t) fs e2 g2)
  (fs:List Field) (h:Zlh P o fs (t::ts)=true):Zm5 P n o fs (fun p:X×Y=>(e1 p.1).cells++e2 p.2) (fun p=>g1 p.1∧g2 p.2):=by
 cases fs with
 | nil=>simp[Zlh] at h
 | cons f fs =>
  simp only[Zlh,Bool.and_eq_true] at h;obtain⟨a,b,c⟩:=h;have hb:=Nat.eq_of_beq_eq_true b;subst hb;exact Zm5.cons (Nat.eq_of_beq_eq_true a) h1 (h2 fs c)
theorem ZiC{t:TypeId}{ts:List TypeId}{n:Nat}{X:Type}{enc:X→List AV}{good:X→Prop}(h:Zs6 P t ts=true)(hR:∀fs,Zlh P 0 fs ts=true→Zm5 P n 0 fs enc good):Z7p P (n+1) t (fun x=>.agg (enc x)) good:=by
 unfold Zs6 at h;split at h
 ·rename_i fs hu
  simp only[Bool.and_eq_true] at h;exact Z7p.struct hu (Nat.eq_of_beq_eq_true h.2) (hR _ h.1)
 ·cases h
theorem ZbS{t:TypeId}{ts:List TypeId}(h:Zs6 P t ts=true):P.cellsOf t=(ts.map fun t=>P.cellsOf t).sum:=by
 unfold Zs6 at h;split at h
 ·rename_i fs hu
  simp only[Bool.and_eq_true] at h;rw[Nat.eq_of_beq_eq_true h.2]
  have key:∀(o:Nat) (l:List Field) (ts:List TypeId),Zlh P o l ts=true→l.map (fun f=>P.cellsOf f.type)=ts.map fun t=>P.cellsOf t:=by
   intro o l;induction l generalizing o with
   | nil=>intro ts h;cases ts with
    | nil=>rfl
    | cons t ts=>simp[Zlh] at h
   | cons f l ih=>intro ts h;cases ts with
    | nil=>simp[Zlh] at h
    | cons t ts =>
     simp only[Zlh,Bool.and_eq_true] at h;rw[List.map_cons,List.map_cons,ih _ _ h.2.2,Nat.eq_of_beq_eq_true h.2.1]
  rw[key _ _ _ h.1]
 ·cases h
theorem Zn6{t:TypeId}(h:ZtC P t=true):P.cellsOf t=1:=by simp only[ZtC,Bool.and_eq_true] at h;exact Nat.eq_of_beq_eq_true h.2
theorem Zu6{t:TypeId}(h:Zu7 P t=true):P.cellsOf t=1:=by simp only[Zu7,Bool.and_eq_true] at h;exact Nat.eq_of_beq_eq_true h.2
theorem Zn7{t e:TypeId}(h:Zli P t e=true):P.cellsOf t=1:=by simp only[Zli,Bool.and_eq_true] at h;exact Nat.eq_of_beq_eq_true h.2.1
structure BTy where
 i:TypeId
 b:TypeId
 s:TypeId
 is:TypeId
 rg:TypeId
 rgs:TypeId
 p:TypeId
 ps:TypeId
 ru:TypeId
 rus:TypeId
 nd:TypeId
 nds:TypeId
 it:TypeId
 its:TypeId
 vr:TypeId
 vrs:TypeId
 ss:TypeId
 bk:TypeId
def Zdr(P:Program)(T:BTy):Bool:=ZtC P T.i && Zn9 P T.is T.i && Zs6 P T.rg [T.i,T.i] && Zli P T.rgs T.rg && Zs6 P T.p [T.i,T.rgs,T.is,T.ps] && Zli P T.ps T.p
def ZnJ(r:Rg):Prop:=ZgE r.low∧ZgE r.high
mutual
def okP:Pat→Prop
 | .mk k s g ks=>ZgE k∧(Len s∧∀r∈s,ZnJ r)∧(Zvm g∧∀x∈g,ZgE x)∧Len ks∧Zoi ks
def Zoi:List Pat→Prop
 | []=>True
 | p::ps=>okP p∧Zoi ps
end
theorem Zga:∀{ks:List Pat},Zoi ks↔∀q∈ks,okP q
 | []=>by simp[Zoi]
 | p::ps=>by simp[Zoi,Zga (ks:=ps)]
mutual
def ZuJ:Nod→Prop
 | .mk k s a b ks=>ZgE k∧ZwB s∧ZgE a∧ZgE b∧Len ks∧ZsP ks
def ZsP:List Nod→Prop
 | []=>True
 | p::ps=>ZuJ p∧ZsP ps
end
theorem Zw0{T:BTy}(h:Zdr P T=true):∀n,Z7p P n T.rg Zrc ZnJ:=by
 simp only[Zdr,Bool.and_eq_true] at h;obtain⟨⟨⟨⟨⟨hi,his⟩,hrg⟩,hrgs⟩,hp⟩,hps⟩:=h;intro n;cases n with
 | zero=>exact .zero (fun x _=>by rw[ZbS hrg];simp[Zrc,AV.cells,Zn6 hi]) (fun x _ y hy=>by simp[Zrc,AV.cells] at hy;rcases hy with rfl | rfl<;>rfl)
 | succ n =>
  have hD:=ZiC (n:=n) hrg (Z63 (ZbR hi n) (Z63 (ZbR hi n) ZfJ));exact hD.map Zrc ZnJ (fun p=>⟨p.1,p.2.1⟩) (fun r=>(r.low,r.high,())) (fun x=>by simp[Zrc,Z06,AV.cells]) (fun x hx=>⟨hx.1,hx.2.1⟩) (fun y hy=>⟨⟨hy.1,hy.2,trivial⟩,by simp[Zrc,Z06,AV.cells]⟩)
theorem Zuc{T:BTy}(h:Zdr P T=true):∀n,Z7p P n T.p Z1s okP∧Z7p P n T.ps (fun l:List Pat=>.sl false (l.map Z1s)) (fun l=>Len l∧∀x∈l,okP x):=by
 have hr:=Zw0 h;simp only[Zdr,Bool.and_eq_true] at h;obtain⟨⟨⟨⟨⟨hi,his⟩,hrg⟩,hrgs⟩,hp⟩,hps⟩:=h;intro n;induction n with
 | zero =>
  refine⟨.zero (fun x _=>?_) (fun x _ y hy=>?_),Znb hps⟩
  ·rw[ZbS hp];simp[Z9p,Zn6 hi,Zn7 hrgs,Zn7 (Zs4 his),Zn7 hps]
  ·obtain⟨k,s,g,ks⟩:=x
   rw[Z0d] at hy;simp only[AV.cells,List.mem_cons,List.not_mem_nil,or_false] at hy;rcases hy with rfl | rfl | rfl | rfl<;>rfl
 | succ n ih =>
  refine⟨?_,Zna hps ih.1⟩;have hD:=ZiC (n:=n) hp (Z63 (ZbR hi n) (Z63 (Zs5 hrgs hr n) (Z63 (ZpC his (ZbR hi) n) (Z63 ih.2 ZfJ))));refine hD.map Z1s okP (fun p=>.mk p.1 p.2.1 p.2.2.1 p.2.2.2.1) (fun p=>(p.kind,p.set,p.signs,p.kids,())) (fun x=>?_) (fun x hx=>?_) (fun y hy=>?_)
  ·rw[Z0d];simp[Z06,Zdz,Z03,AV.cells]
  ·rw[okP,Zga];exact⟨hx.1,hx.2.1,hx.2.2.1,hx.2.2.2.1.1,hx.2.2.2.1.2⟩
  ·obtain⟨k,s,g,ks⟩:=y
   rw[okP,Zga] at hy;exact⟨⟨hy.1,hy.2.1,hy.2.2.1,⟨hy.2.2.2.1,hy.2.2.2.2⟩,trivial⟩,by rw[Z0d];simp[Z06,Zdz,Z03,AV.cells,Pat.kind,Pat.set,Pat.signs,Pat.kids]⟩
structure Zoj(r:Rul):Prop where
 num:ZgE r.num
 b:okP r.before
 a:okP r.after
 pos:ZgE r.pos
theorem ZjE(p:Pat):∀y∈(Z1s p).cells,y.atom=true:=by
 obtain⟨k,s,g,ks⟩:=p;rw[Z0d];intro y hy;simp only[AV.cells,List.mem_cons,List.not_mem_nil,or_false] at hy;rcases hy with rfl | rfl | rfl | rfl<;>rfl
theorem Zud{T:BTy}(h:Zdr P T=true)(hb:Zu7 P T.b=true)(hr:Zs6 P T.ru [T.i,T.b,T.p,T.p,T.i]=true):∀n,Z7p P n T.ru Z5u Zoj:=by
 have hp:=fun n=>(Zuc h n).1
 have hpc:P.cellsOf T.p=4:=by have:=(hp 0).size (.mk 0 [] [] []) (by simp[okP,Zoi,ZgE,Len,Zvm,IntKind.min,IntKind.max];decide);rw[Z9p] at this;exact this.symm
 have hi:ZtC P T.i=true:=by simp only[Zdr,Bool.and_eq_true] at h;exact h.1.1.1.1.1
 intro n;cases n with
 | zero =>
  refine .zero (fun x _=>?_) (fun x _ y hy=>?_)
  ·rw[ZbS hr,ZrF];simp[Zn6 hi,Zu6 hb,hpc]
  ·unfold Z5u at hy
   simp only[AV.cells,List.mem_append,List.mem_cons,List.not_mem_nil,or_false] at hy;rcases hy with(((rfl | rfl) | hy) | hy) | rfl
   ·rfl
   ·rfl
   ·exact ZjE _ _ hy
   ·exact ZjE _ _ hy
   ·rfl
 | succ n =>
  have hD:=ZiC (n:=n) hr (Z63 (ZbR hi n) (Z63 (Zs3 hb n) (Z63 (hp n) (Z63 (hp n) (Z63 (ZbR hi n) ZfJ)))));refine hD.map Z5u Zoj (fun p=>⟨p.1,p.2.1,p.2.2.1,p.2.2.2.1,p.2.2.2.2.1⟩) (fun r=>(r.num,r.cut,r.before,r.after,r.pos,())) (fun x=>?_) (fun x hx=>⟨hx.1,hx.2.2.1,hx.2.2.2.1,hx.2.2.2.2.1⟩) (fun y hy=>⟨⟨hy.num,trivial,hy.b,hy.a,hy.pos,trivial⟩,?_⟩)
  ·simp[Z5u,Z06,Z1n,AV.cells]
  ·simp[Z5u,Z06,Z1n,AV.cells]
end
mutual
theorem okP.good:∀{p:Pat},okP p→Zcx p
 | .mk k s g ks,h=>by simp only[okP] at h;simp only[Zcx];exact⟨h.2.1.1,h.2.2.1.1,h.2.2.2.1,Zoi.good h.2.2.2.2⟩
theorem Zoi.good:∀{ks:List Pat},Zoi ks→Z9v ks
 | [],_=>trivial
 | p::ps,h=>by simp only[Zoi] at h;exact⟨okP.good h.1,Zoi.good h.2⟩
end
mutual
theorem ZuJ.good:∀{p:Nod},ZuJ p→ZpX p
 | .mk k s a b ks,h=>by simp only[ZuJ] at h;simp only[ZpX];exact⟨h.2.1,h.2.2.2.2.1,ZsP.good h.2.2.2.2.2⟩
theorem ZsP.good:∀{ks:List Nod},ZsP ks→ZdJ ks
 | [],_=>trivial
 | p::ps,h=>by simp only[ZsP] at h;exact⟨ZuJ.good h.1,ZsP.good h.2⟩
end
theorem Z7p.arr{P:Program}{t e:TypeId}{n fuel:Nat}{X:Type}{enc:X→AV}{good:X→Prop}(ht:P.underlying t=some (.array n e))(hc:P.cellsOf t=n)(he:P.cellsOf e=1)(hat:∀x,(enc x).atom=true)(h:Z7p P fuel e enc good) :
  Z7p P (fuel+1) t (fun l:List X=>.agg (l.map enc)) (fun l=>l.length=n∧∀x∈l,good x):=by
 refine⟨fun x hx=>by simp[AV.cells,hc,hx.1],fun x hx y hy=>?_,fun eh w cs r hr hw=>?_⟩
 ·simp only[AV.cells] at hy
  obtain⟨z,_,rfl⟩:=List.mem_map.mp hy;exact hat z
 ·unfold DataW.trod at hr
  rw[ht] at hr
  have hr':(if cs.length=P.cellsOf t then ((List.range n).mapM fun i=>DataW.trod eh P w 0 (fun _=>true) true fuel e ((cs.drop (i*P.cellsOf e)).take (P.cellsOf e))).map fun xs=>(DataW.agg (xs.map (·.1)),xs.flatMap (·.2)) else none)=some r:=by
   revert hr;split<;>simp_all
  clear hr;split at hr'
  ·rename_i hlen
   simp only[Option.map_eq_some_iff] at hr';obtain⟨ds,hds,hr2⟩:=hr';obtain⟨hdl,hget⟩:=Z7l hds;rw[List.length_range] at hdl
   have hw2:∀i (hi:i < ds.length),ZdN P e (ds[i]).1:=by
    intro i hi k hk;refine hw k ?_;rw[←hr2];simp only[DataW.weights,ht]
    have key:∀(l:List (DataW _×List MemPlace)),ds[i]∈l→k∈DataW.weightsAll P e (l.map (·.1)):=by
     intro l hl;induction l with
     | nil=>simp at hl
     | cons d l ih =>
      simp only[List.map_cons,DataW.weightsAll,List.mem_append];rcases List.mem_cons.mp hl with rfl | hl
      ·exact .inl hk
      ·exact .inr (ih hl)
    exact key ds (List.getElem_mem hi)
   obtain⟨l,hll,hq⟩:=Z8U (X:=X) (Q:=fun i x=>good x∧∃v,cs[i]? = some v∧Rep (E0 w) (enc x) v) n (by
    intro i hi;obtain⟨j,h1,h2⟩:=hget i (by omega);rw[List.getElem?_range hi] at h1;cases h1;obtain⟨x,g1,g2,g3⟩:=h.run eh w _ _ h2 (hw2 i (by omega));have hcx:=AV.P1T (hat x);obtain⟨v,g4,g5⟩:=g3 0 (by rw[hcx];simp);refine⟨x,g1,v,?_,?_⟩
    ·rw[he,List.getElem?_take,if_pos (by omega),List.getElem?_drop] at g4
     simpa using g4
    ·simpa[hcx] using g5)
   refine⟨l,⟨hll,fun x hx=>?_⟩,hlen,fun k hk=>?_⟩
   ·obtain⟨i,hi,rfl⟩:=List.mem_iff_getElem.mp hx
    exact(hq i hi).1
   ·have hk':k < l.length:=by simpa[AV.cells] using hk
    obtain⟨_,v,g1,g2⟩:=hq k hk';exact⟨v,g1,by simpa[AV.cells] using g2⟩
  ·cases hr'
structure DTy where
 i:TypeId
 b:TypeId
 is:TypeId
 iss:TypeId
 bs:TypeId
 d:TypeId
def gIs(l:List Int):Prop:=Len l∧∀x∈l,ZgE x
def Zx4(l:List (List Int)):Prop:=Len l∧∀x∈l,gIs x
def gBs(l:List Bool):Prop:=Len l∧∀x∈l,True
def ZwE(d:Det):Prop:=ZgE d.signs∧Zx4 d.next∧gBs d.fin
theorem ZwE.ok{d:Det}(h:ZwE d):Z7A d :=
 ⟨h.2.1.1,h.2.2.1,fun r hr=>(h.2.1.2 r hr).1,by have:=h.1;simp[ZgE,IntKind.min,IntKind.max] at this;first | exact this | (simp[IntKind.bits] at this;omega)⟩
section
variable{P:Program}{T:DTy}
end
end Go.Rf
namespace Go.Rf
open Go.RowKit
attribute [local simp] Z4t Z4q Z3h Z2s Z3f Z3j Z3g Z4r Z4s Z3i Z3n Z1A Z1y Z2q Z1H Z41 Z3v ZcH Z7E Z7D Z5R ZcG Z7C Z5P Z4v Z3k Z4u Z7x Z7w Z5J Z4x Z3l Z4w Z7z Z7y Z5K Z1z Z2v Z3o Z3p Z1D Z1o Z0c Z0B Z0q Z08 Z0o Z0h Z09 Z0p Z0i Z0Y Z0j Z0z Z0K Z0k Z0J Z1W Z3U Z0X Z25 Z22 Z24 Z23 Z26 Z1j Z0D Z11 Z12 Z1T Z1U Z1V Z0H Z0I Z1i Z0r Z0W Z20 Z1X Z1Z Z1Y Z21 Z1k Z13 Z1g Z0U Z0V Z0C Z1h Z0P Z1a Z1f Z14 Z1l ex Z00 Z0R Z6K Z6P Z0f Z0g Z0A Z2k Z1d Z10 Z0y Z0F Z0G Z0E Z0s Z0Z Z5y Z0O Z37 Z1c Z1O Z1R Z3s Z0b Z1E Z28 Z19 Z0Q Z2w Z27 Z3u Z2x Z1P Z6A Z3C Z6z Z3w Z2Y Z3t Z6w Z3D Z51 Z4A Z3z Z2B Z2C Z29 Z2z Z2A Z3y Z1M Z2y Z3x Z3A S0 Z06 Z1n Z39 Z34 Z56 Z38 Z33 Z55 Z44 Z36 Z43 Z6j Z5a Z6i Z59 Z45 Z58 Z2U Z72.cl Z5z.cl Z04 Z0L Z02 Z0T Z1w Z2j Z1N Z2n Z1p Z3r Z4N Z3V Z4M Z5L Z5W Z3E Z4O Z5w Z5m Z5S Z4U Z4X Z4W Z42 Z2c Z2H Z62 Z3m Z3W Z4y Z2J Z2I Z17 Z68 Z2G Z4k Z1S Z4B
def Z5k(P3e P3l P4Z P3Q P3w:FuncId):AC :=
 (.seq (.reg none [
 ro 3 (.box 11 (.t 0)),
 ro 6 (.mv (.c (.v (.bool false))))])
 (.seq (.seq (.reg none [
 rk 11 P3e [],
 ro 12 (.un .not (.t 11))])
 (.cond (.t 12) (.seq (.reg none [
  ro 6 (.mv (.c (.v (.bool false))))])
 .ret) .skip))
 (.seq (.seq (.reg none [
 ro 13 (.load (some 11) (.t 3)),
 rk 14 P3l [(.t 13),(ci 9)],
 ro 15 (.un .not (.t 14)),
 rm 16 15,
 rg 17 16 false (.mv (.t 1)),
 rg 18 16 false (.bin .gtr (.t 17) (ci 5)),
 rg 19 16 false (.mv (.t 18)),
 rg 20 19 true (.mv (.t 1)),
 rg 21 19 true (.bin .leq (.t 20) (ci 200)),
 rg 22 16 false (.pick (.t 19) (.t 21) (.c (.v (.bool false)))),
 ro 23 (.pick (.t 16) (.c (.v (.bool true))) (.t 22)),
 rm 24 23,
 rg 25 24 false (.mv (.t 2)),
 rg 26 24 false (.bin .gtr (.t 25) (ci 400)),
 rg 27 24 false (.mv (.t 26)),
 rg 28 27 true (.mv (.t 2)),
 rg 29 27 true (.bin .leq (.t 28) (ci 3000)),
 rg 30 24 false (.pick (.t 27) (.t 29) (.c (.v (.bool false)))),
 ro 31 (.pick (.t 24) (.c (.v (.bool true))) (.t 30))])
 (.cond (.t 31) (.seq (.reg none [
  ro 6 (.mv (.c (.v (.bool true))))])
 .ret) .skip))
 (.seq (.reg none [
 ro 33 (.load (some 11) (.t 3)),
 rm 34 1,
 rm 35 2,
 rk 36 P4Z [(.t 33),(.t 34),(.t 35)],
 rm 32 36,
 ro 37 (.ext 0 (.t 32)),
 ro 38 (.ext 1 (.t 32)),
 ro 7 (.alloc (.agg [(.v (.int .i64 0)),(.sl true []),(.sl true [])]) 3),
 rn (.store 3 (.t 7) (.t 37)),
 rm 8 38])
 (.seq (.reg none [
 ro 40 (.load (some 11) (.t 3)),
 rm 41 1,
 rm 42 2,
 rk 43 P3Q [(.t 40),(.t 41),(.t 42)],
 rm 39 43,
 ro 44 (.ext 0 (.t 39)),
 ro 45 (.ext 1 (.t 39)),
 ro 9 (.alloc (.agg [(.v (.int .i64 0)),(.sl true []),(.sl true [])]) 3),
 rn (.store 3 (.t 9) (.t 44)),
 rm 10 45])
 (.seq (.reg none [
 ro 46 (.load (some 3) (.t 7)),
 ro 47 (.load (some 3) (.t 9)),
 rk 48 P3w [(.t 46),(.t 47)],
 rm 49 48,
 rg 50 49 true (.mv (.t 8)),
 rg 51 49 true (.mv (.t 10)),
 rg 52 49 true (.bin .eql (.t 50) (.t 51)),
 ro 53 (.pick (.t 49) (.t 52) (.c (.v (.bool false)))),
 rm 6 53])
 .ret))))))
theorem Zlt(r:Rul):∃x1 x2 x3 x4 x5 x6 x7 x8 x9 x10 x11:AV,Z5u r=.agg [x1,x2,x3,x4,x5,x6,x7,x8,x9,x10,x11]:=by
 obtain⟨num,cut,b,a,pos⟩:=r;obtain⟨bk,bs,bg,bks,hb,_⟩:=Z9B b;obtain⟨ak,as_,ag,aks,ha,_⟩:=Z9B a;exact⟨_,_,_,_,_,_,_,_,_,_,_,Z8d hb ha⟩
theorem Zd7{P:Program}{fal fs fo fr fsm:FuncId}(r:Rul)(sg most:Int)(hal:Z0t P fal [] (Z1n true))(sb:Bool)(hs:Z0t P fs [Z5u r,Z06 9] (Z1n sb))
  (h:sb=true→¬(5 < sg∧sg≤200)→¬(400 < most∧most≤3000)→∃D:Det×Int,Z0t P fo [Z5u r,Z06 sg,Z06 most] (Z3N D)∧Z0t P fr [Z5u r,Z06 sg,Z06 most] (Z3N D)∧Z0t P fsm [Z0v D.1,Z0v D.1] (Z1n true)) :
  AWb P 0 (Z5k fal fs fo fr fsm) (Z75 [6] (FzK (Z1n true))) (Z53 [Z5u r,Z06 sg,Z06 most]) S0:=by
 have hcr:=Zlj r;obtain⟨x1,x2,x3,x4,x5,x6,x7,x8,x9,x10,x11,hx⟩:=Zlt r;rw[hx] at hs h hcr ⊢;simp[Z5k];refine Z0x.pure hal Z0a (Z0L _) ?_;simp;refine Z0x.pure hs (Z01 hcr (Z01 (Z04 _) Z0a)) (Z0L _) ?_;cases sb with
 | false =>
  simp;exact Z2p _ _
 | true =>
 by_cases g1:5 < sg
 ·by_cases g2:sg≤200
  ·simp[g1,g2]
   exact Z2p _ _
  ·by_cases g3:400 < most
   ·by_cases g4:most≤3000
    ·simp[g1,g2,g3,g4]
     exact Z2p _ _
    ·simp[g1,g2,g3,g4]
     obtain⟨⟨d,e⟩,h1,h2,h3⟩:=h rfl (by omega) (by omega);have k1:=Z3L (d,e);simp only[Z3N] at h1 h2 k1;simp only at h3;refine Z0x.pure h1 (Z01 hcr (Z01 (Z04 _) (Z01 (Z04 _) Z0a))) k1 ?_;simp[Z0b];refine Z0x.pure h2 (Z01 hcr (Z01 (Z04 _) (Z01 (Z04 _) Z0a))) k1 ?_;simp[Z0b];refine Z0x.pure h3 (Z01 (Z0e _) (Z01 (Z0e _) Z0a)) (Z0L _) ?_;simp;exact Z2p _ _
   ·simp[g1,g2,g3]
    obtain⟨⟨d,e⟩,h1,h2,h3⟩:=h rfl (by omega) (by omega);have k1:=Z3L (d,e);simp only[Z3N] at h1 h2 k1;simp only at h3;refine Z0x.pure h1 (Z01 hcr (Z01 (Z04 _) (Z01 (Z04 _) Z0a))) k1 ?_;simp[Z0b];refine Z0x.pure h2 (Z01 hcr (Z01 (Z04 _) (Z01 (Z04 _) Z0a))) k1 ?_;simp[Z0b];refine Z0x.pure h3 (Z01 (Z0e _) (Z01 (Z0e _) Z0a)) (Z0L _) ?_;simp;exact Z2p _ _
 ·by_cases g3:400 < most
  ·by_cases g4:most≤3000
   ·simp[g1,g3,g4]
    exact Z2p _ _
   ·simp[g1,g3,g4]
    obtain⟨⟨d,e⟩,h1,h2,h3⟩:=h rfl (by omega) (by omega);have k1:=Z3L (d,e);simp only[Z3N] at h1 h2 k1;simp only at h3;refine Z0x.pure h1 (Z01 hcr (Z01 (Z04 _) (Z01 (Z04 _) Z0a))) k1 ?_;simp[Z0b];refine Z0x.pure h2 (Z01 hcr (Z01 (Z04 _) (Z01 (Z04 _) Z0a))) k1 ?_;simp[Z0b];refine Z0x.pure h3 (Z01 (Z0e _) (Z01 (Z0e _) Z0a)) (Z0L _) ?_;simp;exact Z2p _ _
  ·simp[g1,g3]
   obtain⟨⟨d,e⟩,h1,h2,h3⟩:=h rfl (by omega) (by omega);have k1:=Z3L (d,e);simp only[Z3N] at h1 h2 k1;simp only at h3;refine Z0x.pure h1 (Z01 hcr (Z01 (Z04 _) (Z01 (Z04 _) Z0a))) k1 ?_;simp[Z0b];refine Z0x.pure h2 (Z01 hcr (Z01 (Z04 _) (Z01 (Z04 _) Z0a))) k1 ?_;simp[Z0b];refine Z0x.pure h3 (Z01 (Z0e _) (Z01 (Z0e _) Z0a)) (Z0L _) ?_;simp;exact Z2p _ _
end Go.Rf
namespace Go.Rf
open Go.RowKit
structure ZtT(r:Rul)(m:Nat):Prop where
 b:Zce r.before
 a:Zce r.after
 nb:ndP r.before≤m
 na:ndP r.after≤m
theorem ZqB{r:Rul}{m:Nat}(hb:Zcx r.before)(ha:Zcx r.after)(hm:m≤100)(h:Zef r m=true):ZtT r m:=by
 simp only[Zef,Bool.and_eq_true,decide_eq_true_eq] at h;obtain⟨b1,b2⟩:=Zc0 r.before m hb (by omega) h.1;obtain⟨a1,a2⟩:=Zc0 r.after m ha (by omega) h.2;exact⟨b1,a1,by omega,by omega⟩
theorem Zo3(r:Rul)(n most:Int):Z7A (Z96 r n most).1:=by
 cases h:Z96 r n most with
 | mk d e =>
  by_cases he:e=0
  ·subst he;exact ZhO (ZlI h).1.R
  ·have:d=zDE:=by
    unfold Z96 at h;split at h
    ·cases h;rfl
    unfold Zia at h;split at h
    ·split at h
     ·dsimp only at h
      split at h
      ·unfold ZdP at h
       split at h
       ·cases h;exact(he rfl).elim
       ·cases h;rfl
      ·cases h;rfl
     ·cases h;rfl
    ·cases h;rfl
   subst this;exact Zl2
end Go.Rf
namespace Go.Proofs.YtdmcjhnbmgmgoaaGreatDoor
open Go.ChangeShapes Go.WideShapes Go.ChangeAt Go.RowKit Go.Rf
def tyB:BTy:={ i:=3,b:=4,s:=9,is:=23,rg:=212,rgs:=22,p:=26,ps:=24,ru:=28,rus:=0,nd:=0,nds:=0,it:=0,its:=0,vr:=0,vrs:=0,ss:=0,bk:=0 }
theorem Zvd:Zdr Tryz.prog tyB=true:=by kernel_rfl
theorem ZvZ:∀n,Z7p Tryz.prog n 28 Z5u Zoj:=Zud (T:=tyB) Zvd (by kernel_rfl) (by kernel_rfl)
theorem ZwC(n:Nat):Z7p Tryz.prog n 3 Rf.Z06 ZgE:=Z7p.int (by kernel_rfl) (by kernel_rfl) n
theorem ZtZ:∀x:Rul,Z5u x=.agg ((Z5u x).cells):=fun x=>by unfold Z5u;rfl
theorem ZuD:∃fs,Tryz.prog.underlying 28=some (.struct fs)∨∃n e,Tryz.prog.underlying 28=some (.array n e):=⟨(match Tryz.prog.underlying 28 with | some (.struct fs)=>fs | _=>#[]),.inl (by kernel_rfl)⟩
abbrev ZnV:List (String×DataW Unit):=[("math/bits.deBruijn32tab",Rows.laid_math_bits_deBruijn32tab),("math/bits.deBruijn64tab",Rows.laid_math_bits_deBruijn64tab),("internal/strconv.uint64pow10",Rows.laid_internal_strconv_uint64pow10)]
theorem ZpM(os:Os)(args:Array Value):laidMetH Tryz.prog ZnV ((World.doorLaid Tryz.prog 400 os).forCall (fun _ _=>0) ⟨#[],args,[]⟩).memory :=
 laidMetH_of_parts3 (fuel:=8) (laidMet_of_run' 8 (by kernel_rfl) (by kernel_rfl)) (by kernel_rfl) (by kernel_rfl)
theorem Zx5(W:World)(h:laidMetH Tryz.prog ZnV W):Gam Tryz.prog (E0 W).H :=
 ZpW h (by kernel_rfl) (List.mem_cons_of_mem _ (List.mem_cons_of_mem _ (List.mem_singleton.mpr (by kernel_rfl)))) (g:=0) (t:=194) (e:=162) (n:=20) (by kernel_rfl) (by kernel_rfl) (by kernel_rfl) (by kernel_rfl) (by kernel_rfl) (by kernel_rfl)
theorem P56(r:Rul)(g:Zoj r)(m:Int)(h0:-1≤m)(h1:m≤100):Z0t Tryz.prog 9 [Z5u r,Rf.Z06 m] (Z1n (Zef r m)):=seM.P56 r g.b.good g.a.good m h0 h1
end Go.Proofs.YtdmcjhnbmgmgoaaGreatDoor
