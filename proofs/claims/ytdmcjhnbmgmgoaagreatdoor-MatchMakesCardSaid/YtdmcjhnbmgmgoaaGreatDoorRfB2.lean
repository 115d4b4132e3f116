import Derived.Test.YtdmcjhnbmgmgoaaGreatDoorRfZ5
set_option linter.unusedVariables false
set_option linter.unusedSimpArgs false
set_option linter.unusedSectionVars false
namespace Go.Rf
open Go.RowKit
attribute [local simp] Z4t Z4q Z3h Z2s Z3f Z3j Z3g Z4r Z4s Z3i Z3n Z1A Z1y Z2q Z1H Z41 Z3v ZcH Z7E Z7D Z5R ZcG Z7C Z5P Z4v Z3k Z4u Z7x Z7w Z5J Z4x Z3l Z4w Z7z Z7y Z5K Z1z Z2v Z3o Z3p Z1D Z1o Z0c Z0B Z0q Z08 Z0o Z0h Z09 Z0p Z0i Z0Y Z0j Z0z Z0K Z0k Z0J Z1W Z3U Z0X Z25 Z22 Z24 Z23 Z26 Z1j Z0D Z11 Z12 Z1T Z1U Z1V Z0H Z0I Z1i Z0r Z0W Z20 Z1X Z1Z Z1Y Z21 Z1k Z13 Z1g Z0U Z0V Z0C Z1h Z0P Z1a Z1f Z14 Z1l ex Z00 Z0R Z6K Z6P Z0f Z0g Z0A Z2k Z1d Z10 Z0y Z0F Z0G Z0E Z0s Z0Z Z5y Z0O Z37 Z1c Z1O Z1R Z3s Z0b Z1E Z28 Z19 Z0Q Z2w Z27 Z3u Z2x Z1P Z6A Z3C Z6z Z3w Z2Y Z3t Z6w Z3D Z51 Z4A Z3z Z2B Z2C Z29 Z2z Z2A Z3y Z1M Z2y Z3x Z3A S0 Z06 Z1n Z39 Z34 Z56 Z38 Z33 Z55 Z44 Z36 Z43 Z6j Z5a Z6i Z59 Z45 Z58 Z2U Z72.cl Z5z.cl Z04 Z0L Z02 Z0T Z1w Z2j Z1N Z2n Z1p Z3r Z4N Z3V Z4M Z5L Z5W Z3E Z4O Z5w Z5m Z5S Z4U Z4X Z4W Z42 Z2c Z2H Z62 Z3m Z3W Z4y Z2J Z2I Z17 Z68 Z2G Z4k Z1S Z4B
def ZmW(P0t:FuncId):AC :=
 (.loop (.seq (.seq (.reg none [
  rm 9 6,
  ro 10 (.fieldA 3 (.t 2)),
  ro 11 (.load none (.t 10)),
  ro 12 (.len (.t 11)),
  ro 13 (.bin .lss (.t 9) (.t 12)),
  rm 14 13,
  rg 15 14 true (.mv (.t 5)),
  rg 16 14 true (.mv (.t 1)),
  rg 17 14 true (.bin .leq (.t 15) (.t 16)),
  ro 18 (.pick (.t 14) (.t 17) (.c (.v (.bool false))))])
  (.cond (.t 18) .skip (.exit 0)))
  (.seq (.block 1 (.reg none [
   rm 21 5,
   ro 22 (.fieldA 3 (.t 2)),
   ro 23 (.load none (.t 22)),
   rm 24 6,
   ro 25 (.idxA 4 (.t 23) (.t 24)),
   ro 26 (.load (some 4) (.t 25)),
   rm 27 1,
   ro 28 (.bin .sub (.t 27) (ci 1)),
   rk 29 P0t [(.t 26),(.t 28)],
   ro 30 (.bin .add (.t 21) (.t 29)),
   rm 5 30]))
  (.reg none [
  rm 19 6,
  ro 20 (.bin .add (.t 19) (ci 1)),
  rm 6 20]))))
def Z3a(P0t:FuncId):AC :=
 (.seq (.reg none [
 ro 2 (.box 4 (.t 0)),
 ro 4 (.mv (ci 0))])
 (.seq (.reg none [
 ro 5 (.mv (ci 1))])
 (.seq (.seq (.reg none [
 rm 7 1,
 ro 8 (.bin .lss (.t 7) (ci 0))])
 (.cond (.t 8) (.seq (.reg none [
  ro 4 (.mv (ci 1000))])
 .ret) .skip))
 (.seq (.seq (.reg none [
 ro 6 (.mv (ci 0))])
 (.block 0 (ZmW P0t)))
 (.seq (.reg none [
 rm 31 5,
 rm 4 31])
 .ret)))))
def Z5q(P0t:FuncId):AC :=
 (.seq (.reg none [
 ro 2 (.box 11 (.t 0)),
 ro 4 (.mv (.c (.v (.bool false))))])
 (.seq (.reg none [
 ro 5 (.fieldA 2 (.t 2)),
 ro 6 (.load (some 4) (.t 5)),
 rm 7 1,
 rk 8 P0t [(.t 6),(.t 7)],
 rm 9 1,
 ro 10 (.bin .leq (.t 8) (.t 9)),
 rm 11 10,
 rg 12 11 true (.fieldA 6 (.t 2)),
 rg 13 11 true (.load (some 4) (.t 12)),
 rg 14 11 true (.mv (.t 1)),
 rl 15 11 true P0t [(.t 13),(.t 14)],
 rg 16 11 true (.mv (.t 1)),
 rg 17 11 true (.bin .leq (.t 15) (.t 16)),
 ro 18 (.pick (.t 11) (.t 17) (.c (.v (.bool false)))),
 rm 4 18])
 .ret))
def Z8x(P3k P30:FuncId):AC :=
 (.seq (.reg none [
 ro 3 (.box 3 (.t 0)),
 ro 6 (.mv (.c (.v (.bool false))))])
 (.seq (.reg none [
 rm 8 1,
 rm 9 2,
 rk 10 P3k [(.t 8),(.t 9)],
 rm 7 10])
 (.seq (.reg none [
 rm 11 7,
 ro 12 (.len (.t 11)),
 ro 13 (.bin .gtr (.t 12) (ci 0)),
 rm 14 13,
 rg 15 14 true (.load (some 3) (.t 3)),
 rg 16 14 true (.mv (.t 7)),
 rl 17 14 true P30 [(.t 15),(.t 16)],
 ro 18 (.pick (.t 14) (.t 17) (.c (.v (.bool false)))),
 rm 6 18])
 .ret)))
mutual
def Za7:Pat→Int→Int
 | .mk _ _ _ ks,m=>if m < 0 then 1000 else Zo9 ks m 1
def Zo9:List Pat→Int→Int→Int
 | [],_,s=>s
 | p::ps,m,s=>if s≤m then Zo9 ps m (s+Za7 p (m - 1)) else s
end
theorem ZcV:∀(ks:List Pat) (m s:Int),Zo9 ks m s=Zd3 m s (ks.map (Za7 · (m - 1)))
 | [],_,_=>by simp[Zo9,Zd3]
 | p::ps,m,s=>by simp[Zo9,Zd3,ZcV ps]
mutual
theorem ZsL:∀(p:Pat) (m:Int),-1≤m→m≤100→1≤Za7 p m∧Za7 p m≤2000+200*(m+1)
 | .mk k s g ks,m,h0,h1=>by
  rw[Za7];split
  ·omega
  ·have hb:=ZcU ks m (by omega) h1
   rw[ZcV]
   have:=ZoU (most:=m) (B:=2000+200*m) (M:=2000+200*(m+1)) (by omega) (ws:=ks.map (Za7 · (m - 1))) (s:=1) (fun w hw=>by
    obtain⟨q,hq,rfl⟩:=List.mem_map.mp hw;have:=hb q hq;omega) (by omega)
   omega
theorem ZcU:∀(ks:List Pat) (m:Int),0≤m→m≤100→∀q∈ks,1≤Za7 q (m - 1)∧Za7 q (m - 1)≤2000+200*m
 | [],_,_,_,q,hq=>by simp at hq
 | p::ps,m,h0,h1,q,hq=>by
  rcases List.mem_cons.mp hq with e | hq
  ·rw[e];have:=ZsL p (m - 1) (by omega) (by omega);omega
  ·exact ZcU ps m h0 h1 q hq
end
mutual
theorem Zc0:∀(p:Pat) (m:Int),Zcx p→m≤100→Za7 p m≤m→Zce p∧(ndP p:Int)≤Za7 p m
 | .mk k s g ks,m,hg,h1,h=>by
  rw[Za7] at h ⊢;split at h
  ·omega
  rename_i h0;rw[if_neg h0];rw[ZcV] at h ⊢;simp only[Zcx] at hg;obtain⟨g1,g2,g3,g4⟩:=hg;have hb:=ZcU ks m (by omega) h1
  have hpos:∀w∈ks.map (Za7 · (m - 1)),1≤w:=fun w hw=>by
   obtain⟨q,hq,rfl⟩:=List.mem_map.mp hw;exact(hb q hq).1
  obtain⟨a1,a2,a3⟩:=ZkT (fun w hw=>by have:=hpos w hw;omega) h;rw[ZoW (fun w hw=>by have:=hpos w hw;omega) h];have hl:=ZoY _ hpos;simp only[List.length_map] at hl;have hq:=ZdU ks m g4 h1 (fun q hq=>by have:=a2 _ (List.mem_map_of_mem hq);omega);have hs:=Zfl (f:=(Za7 · (m - 1))) (g:=ndP) (ks:=ks) (fun q hq'=>(hq q hq').2);refine⟨?_,?_⟩
  ·simp only[Zce]
   exact⟨g2,by omega,Zjy fun q hq'=>(hq q hq').1⟩
  ·simp only[ndP]
   rw[Zo7]
   push_cast
   omega
theorem ZdU:∀(ks:List Pat) (m:Int),Z9v ks→m≤100→(∀q∈ks,Za7 q (m - 1)≤m - 1)→∀q∈ks,Zce q∧(ndP q:Int)≤Za7 q (m - 1)
 | [],_,_,_,_,q,hq=>by simp at hq
 | p::ps,m,hg,h1,h,q,hq=>by
  simp only[Z9v] at hg;rcases List.mem_cons.mp hq with e | hq
  ·rw[e];exact Zc0 p (m - 1) hg.1 (by omega) (h p (by simp))
  ·exact ZdU ps m hg.2 h1 (fun q hq=>h q (by simp[hq])) q hq
end
def nqI(m:Int)(ks:List Pat)(k:Nat)(s:Int):Prop:=Zd3 m s ((ks.map (Za7 · (m - 1))).drop k)=Zd3 m 1 (ks.map (Za7 · (m - 1)))∧1≤s∧s≤30000
def nqA(m:Int)(k:Nat)(s:Int):List (Nat×AV):=[(1,Z06 m),(2,.ptr 0 0 0),(5,Z06 s),(6,Z06 k)]
def nqG(p:Pat)(_:Nat)(_:Int):List (Nat×Option Blk):=[(0,some (.arr 4 [Z1s p]))]
theorem ZlK{P:Program}{fn:FuncId}(k:Int)(ps:List Rg)(pg:List Int)(ks:List Pat)(hl:Len ks)(m:Int)(h0:-1≤m)(h1:m≤100)(hq:0≤m→∀q∈ks,Z0t P fn [Z1s q,Z06 (m - 1)] (Z06 (Za7 q (m - 1)))) :
  AWb P 0 (Z3a fn) (Z75 [4] (FzK (Z06 (Za7 (.mk k ps pg ks) m)))) (Z53 [Z1s (.mk k ps pg ks),Z06 m]) S0:=by
 rw[Za7];by_cases hm:m < 0
 ·rw[if_pos hm]
  simp[Z3a,Z0d,hm];exact Zft _ _
 rw[if_neg hm,ZcV];have hq:=hq (by omega);have hb:=ZcU ks m (by omega) h1;unfold Len at hl;simp[Z3a,Z0d,hm,ZmW];refine Z2D ks.length (nqI m ks) (nqA m) 5 (nqG (.mk k ps pg ks)) 1 ⟨by simp,by omega,by omega⟩ ?_ ?_
 ·refine Abs.of [(0,0)] [] (by omega) ⟨by simp,by simp⟩ ?_ ?_
  ·simp[nqG,Z0d,Z4S,Z2h]
  ·simp[nqA]
 ·rintro i s hi ⟨hs,hs1,hs2⟩
  by_cases hlt:i < ks.length
  ·have hsk:ks[i]? = some ks[i]:=List.getElem?_eq_getElem hlt
   have hqk:=hq _ (List.getElem_mem hlt);have hbk:=hb _ (List.getElem_mem hlt);have hcp:=Z3M ks[i];obtain⟨x1,x2,x3,x4,hx⟩:=ZpP ks[i];rw[hx] at hqk hcp;by_cases hsm:s≤m
   ·have hw1:IntKind.i64.wrap (m - 1)=m - 1:=Z0m _ (by omega)
    have hst:Zd3 m s ((ks.map (Za7 · (m - 1))).drop i)=Zd3 m (s+Za7 ks[i] (m - 1)) ((ks.map (Za7 · (m - 1))).drop (i+1)):=by
     have:=ZoV (most:=m) (s:=s) (ws:=ks.map (Za7 · (m - 1))) (i:=i) (by simpa using hlt) hsm;rw[this];simp
    have hltI:(i:Int) < (ks.length:Int):=by omega
    generalize Za7 ks[i] (m - 1)=z at *;have hw2:IntKind.i64.wrap (s+z)=s+z:=Z0m _ (by omega);simp[nqA,nqG,Z0d,hlt,hltI,hsk,hx,hsm,hw1];refine Z0x.pure hqk (Z01 hcp (Z01 (Z04 _) Z0a)) (Z04 _) ?_;simp[hw2];rw[Z0m _ (by omega)];refine⟨hlt,s+z,⟨by rw[←hst];exact hs,by omega,by omega⟩,Abs.of [(0,0)] [] (by omega) ⟨by simp,by simp⟩ ?_ ?_⟩
    ·simp[nqG,Z0d,Z4S,Z2h]
    ·simp[nqA]
   ·rw[ZoX hsm] at hs
    have hltI:(i:Int) < (ks.length:Int):=by omega
    simp[nqA,nqG,Z0d,hlt,hltI,hsm];rw[hs];exact Zft _ _
  ·have hke:i=ks.length:=by omega
   subst hke;have hdr:(ks.map (Za7 · (m - 1))).drop ks.length=[]:=List.drop_eq_nil_of_le (by simp);rw[hdr] at hs;simp only[Zd3] at hs;simp[nqA,nqG,Z0d];rw[hs];exact Zft _ _
mutual
theorem Zg6{P:Program}(hm:P.follows .mixedOrders=true){f:FuncId}(h:Is P f (Z3a f) [4] 2):∀(p:Pat) (m:Int),Zcx p → -1≤m→m≤100→Z0t P f [Z1s p,Z06 m] (Z06 (Za7 p m))
 | .mk k ps pg ks,m,hp,h0,h1=>by
  simp only[Zcx] at hp;exact h.P1q hm rfl (ZlK k ps pg ks hp.2.2.1 m h0 h1 (fun h2=>ZhA hm h ks m hp.2.2.2 h2 h1))
theorem ZhA{P:Program}(hm:P.follows .mixedOrders=true){f:FuncId}(h:Is P f (Z3a f) [4] 2):∀(ks:List Pat) (m:Int),Z9v ks→0≤m→m≤100→∀q∈ks,Z0t P f [Z1s q,Z06 (m - 1)] (Z06 (Za7 q (m - 1)))
 | [],_,_,_,_,q,hq=>by simp at hq
 | p::ps,m,hg,h0,h1,q,hq=>by
  simp only[Z9v] at hg;rcases List.mem_cons.mp hq with e | hq
  ·rw[e];exact Zg6 hm h p (m - 1) hg.1 (by omega) (by omega)
  ·exact ZhA hm h ps m hg.2 h0 h1 q hq
end
def Zef(r:Rul)(m:Int):Bool:=decide (Za7 r.before m≤m) && decide (Za7 r.after m≤m)
theorem Zl6{P:Program}{fn:FuncId}(r:Rul)(m:Int)(h1:Z0t P fn [Z1s r.before,Z06 m] (Z06 (Za7 r.before m)))(h2:Z0t P fn [Z1s r.after,Z06 m] (Z06 (Za7 r.after m))) :
  AWb P 0 (Z5q fn) (Z75 [4] (FzK (Z1n (Zef r m)))) (Z53 [Z5u r,Z06 m]) S0:=by
 obtain⟨num,cut,b,a,pos⟩:=r;simp only at h1 h2;unfold Zef;simp only;obtain⟨bk,bs,bg,bks,hb,hpb⟩:=Z9B b;obtain⟨ak,as_,ag,aks,ha,hpa⟩:=Z9B a;have hcl:=Z8d (num:=num) (cut:=cut) (pos:=pos) hb ha;have hcb:=Z3M b;have hca:=Z3M a;rw[hcl];generalize Za7 b m=x at *;generalize Za7 a m=y at *;simp[Z5q,hpb];refine Z0x.pure h1 (Z01 hcb (Z01 (Z04 _) Z0a)) (Z04 _) ?_;by_cases hx:x≤m
 ·simp[hx,hpa]
  refine Z0x.pure h2 (Z01 hca (Z01 (Z04 _) Z0a)) (Z04 _) ?_;by_cases hy:y≤m
  ·simp[hy]
   exact Z2p _ _
  ·simp[hy]
   exact Z2p _ _
 ·simp[hx]
  exact Z2p _ _
end Go.Rf
namespace Go.Rf
open Go.RowKit
structure Zd8(P:Program)(fOf fz fst ff fc fset fe fj fei ffo fd fi f1 fcat fgr:FuncId):Prop where
 of:IsC P fOf (Z8a fz fst ff fc fset) [.c 4 (some 4),.t 5] 2
 size:Is P fz (Z6x fz) [2] 1
 state:Is P fst Z5t [4] 2
 form:IsS P ff (Z2t fc f1 fd fset fst fe fj fei ffo) [.c 4 (some 3)] 2
 clone:ByC P fc (Z32 1 8 (.v (.int .i64 0))) [.t 2] 1
 del:Is P fd (Z2u fi) [4] 2
 idx:Is P fi Z3Z [4] 2
 f1:Is P f1 Z3X [3] 2
 each:Is P fe (Z5M ff) [4] 2
 join:IsC P fj (Z5N ffo fcat fset) [.c 4 (some 3)] 2
 either:IsC P fei (Z7r fcat fset) [.c 2 (some 3)] 1
 follow:Is P ffo (Z5h fcat fset) [] 3
 cat:Is P fcat (Za0 1 8 fgr) [2] 1
 grow:Is P fgr (ZeK 1 8 (.v (.int .i64 0))) [4] 2
 set:Zl5 P fset
section
variable{P:Program}{fOf fz fst ff fc fset fe fj fei ffo fd fi f1 fcat fgr:FuncId}
theorem Zd8.hgrow(N:Zd8 P fOf fz fst ff fc fset fe fj fei ffo fd fi f1 fcat fgr)(hm:P.follows .mixedOrders=true):Zmk P fgr 1 (.v (.int .i64 0)):=Zjv hm (by omega) rfl (by omega) N.grow
theorem Zd8.P4Q(N:Zd8 P fOf fz fst ff fc fset fe fj fei ffo fd fi f1 fcat fgr)(hm:P.follows .mixedOrders=true):Zvi P fcat:=fun a b h=>by
 have:=Zay hm (N.hgrow hm) (by_:=8) (by omega) N.cat (enc:=Z06) Z04 (fun _=>rfl) [(false,a),(false,b)] (by simp) (by simp;omega);simpa[Z03] using this
theorem Zd8.P68(N:Zd8 P fOf fz fst ff fc fset fe fj fei ffo fd fi f1 fcat fgr)(hm:P.follows .mixedOrders=true):ZtL P fcat:=fun b h=>by
 have:=Zay hm (N.hgrow hm) (by_:=8) (by omega) N.cat (enc:=Z06) Z04 (fun _=>rfl) [(true,[]),(false,b)] (by simp) (by simp;omega);simpa[Z03] using this
theorem Zd8.fns(N:Zd8 P fOf fz fst ff fc fset fe fj fei ffo fd fi f1 fcat fgr)(hm:P.follows .mixedOrders=true)(sg:Int):Zjx P sg ff fc f1 fd fset fst fe fj fei ffo where
 clone:=N.clone
 del:=fun l hl o ho st=>Zsg hm N.del l hl o ho
  (N.idx.pure hm rfl (Z6a (enc:=Z06) (by unfold Len;omega) (fun _=>rfl) Z04 (Z01 (Zlk sg) Z0a) (fun x _=>N.f1.P1q hm rfl (ZeX sg x))))
  (fun n=>N.f1.P1q hm rfl (ZeX sg n)) st
 set:=N.set
 state:=fun o b st h1 h2=>ZkS hm N.state sg o b st h1 h2
 each:=fun ks hl hq st hst hb=>ZpO hm N.each hl hq st hst hb
 join:=fun es hl st hst he hb=>Zq0 hm N.join (N.P4Q hm) (N.P68 hm) N.set (fun ss be st h1 h2 h3 h4=>Zhh hm N.follow (N.P4Q hm) N.set sg ss be st h1 h2 h3 h4) es hl st hst he hb
 either:=fun es hl he=>N.either.P1q hm rfl (ZiN (N.P4Q hm) N.set es hl he)
 follow:=fun ss be st h1 h2 h3 h4=>Zhh hm N.follow (N.P4Q hm) N.set sg ss be st h1 h2 h3 h4
theorem Zd8.ok(N:Zd8 P fOf fz fst ff fc fset fe fj fei ffo fd fi f1 fcat fgr)(hm:P.follows .mixedOrders=true)(p:Pat)(hp:Zce p)(sg:Int):Z0t P fOf [Z1s p,Z06 sg] (Zbd (Z2K p sg)) :=
 N.of.P1q hm rfl (P4e (ZoO hm N.size p hp) (ZkS hm N.state sg false [] ⟨[],[]⟩ rfl (by simp)) (Zkh hm (N.fns hm sg) N.form p hp) N.clone N.set)
end
def Zdq(all e:Ed):Ed:=⟨all.nul && e.nul,if all.nul=true then Z6l (all.fst++e.fst) else all.fst,Z6l ((if e.nul=true then all.lst else [])++e.lst)⟩
def Zl9(all e:Ed):Ed:=⟨all.nul || e.nul,Z6l (all.fst++e.fst),Z6l (all.lst++e.lst)⟩
mutual
def Z35(sg:Int):Pat→Gs→Ed×Gs
 | .mk k _ g ks,st=>if k=1 then (⟨true,[],[]⟩,st) else if k=2 then (⟨false,[(st.by_.length:Int)],[(st.by_.length:Int)]⟩,⟨st.by_++[ZaG sg g],st.fo++[[]]⟩)
  else if k=3 then Z64 sg ks ⟨true,[],[]⟩ st else if k=4 then dor sg ks ⟨false,[],[]⟩ st else ZbF (Z6m sg ks st).1 k (Z6m sg ks st).2
def Z6m(sg:Int):List Pat→Gs→List Ed×Gs
 | [],st=>([],st)
 | q::qs,st=>((Z35 sg q st).1::(Z6m sg qs (Z35 sg q st).2).1,(Z6m sg qs (Z35 sg q st).2).2)
def Z64(sg:Int):List Pat→Ed→Gs→Ed×Gs
 | [],all,st=>(all,st)
 | q::qs,all,st=>Z64 sg qs (Zdq all (Z35 sg q st).1) ⟨(Z35 sg q st).2.by_,Z6k (Z35 sg q st).2.fo all.lst (Z35 sg q st).1.fst⟩
def dor(sg:Int):List Pat→Ed→Gs→Ed×Gs
 | [],all,st=>(all,st)
 | q::qs,all,st=>dor sg qs (Zl9 all (Z35 sg q st).1) (Z35 sg q st).2
end
theorem Zp3{l m:List Int}(hl:Up l)(hm:Up m)(h:∀t:Nat,(t:Int)∈l↔(t:Int)∈m):l=m:=by
 refine Zfc hl.1 hm.1 fun x=>?_
 constructor
 ·intro hx
  have h0:=hl.2 x hx;have e:((x.toNat:Nat):Int)=x:=by omega
  rw[←e] at hx ⊢;exact(h _).mp hx
 ·intro hx
  have h0:=hm.2 x hx;have e:((x.toNat:Nat):Int)=x:=by omega
  rw[←e] at hx ⊢;exact(h _).mpr hx
theorem Zcs.unique{e f:Ed}{E:GE}(h:Zcs e E)(k:Zcs f E):e=f:=by
 have h1:=Zp3 h.uf k.uf (fun t=>(h.fst t).trans (k.fst t).symm);have h2:=Zp3 h.ul k.ul (fun t=>(h.lst t).trans (k.lst t).symm)
 have h3:e.nul=f.nul:=by
  have:=h.nul.trans k.nul.symm;cases he:e.nul<;>cases hf:f.nul<;>simp_all
 cases e;cases f;simp_all
theorem Zur{s r:Gs}(hs:Zek s)(hr:Zek r)(hb:s.by_=r.by_)(h:∀i t,FoR s.fo i t↔FoR r.fo i t):s=r:=by
 have hl:s.fo.length=r.fo.length:=by rw[hs.len,hr.len,hb]
 have hfo:s.fo=r.fo:=by
  apply List.ext_getElem hl;intro i h1 h2;refine Zp3 (hs.up _ (List.getElem_mem h1)) (hr.up _ (List.getElem_mem h2)) fun t=>?_
  have:=h i t;unfold FoR at this;rw[List.getD_eq_getElem?_getD,List.getElem?_eq_getElem h1,List.getD_eq_getElem?_getD,List.getElem?_eq_getElem h2] at this;exact this
 cases s;cases r;simp_all
theorem ZgC.unique{sg:Int}{p:Pat}{st:Gs}{r q:Ed×Gs}(h:ZgC sg p st r)(k:ZgC sg p st q):r=q:=by
 have h1:=h.ed.unique k.ed;have h2:=Zur h.ok k.ok (h.by_.trans k.by_.symm) (fun i t=>(h.fo i t).trans (k.fo i t).symm);exact Prod.ext h1 h2
mutual
theorem ZcL(sg:Int):∀(p:Pat) (st:Gs),Zek st→ZgC sg p st (Z35 sg p st)
 | .mk k r g ks,st,h=>by
  have hg:=Z9t sg (.mk k r g ks) st h;simp only[Z2Z] at hg;simp only[Z35];by_cases h1:k=1
  ·rw[if_pos h1] at hg ⊢;exact hg
  rw[if_neg h1] at hg ⊢;by_cases h2:k=2
  ·rw[if_pos h2] at hg ⊢;exact hg
  rw[if_neg h2] at hg ⊢;have hlv:lvP sg (.mk k r g ks)=lvL sg ks:=by simp only[lvP];rw[if_neg h1,if_neg h2]
  have hcn:Z79 (.mk k r g ks)=Z76 ks:=by simp only[Z79];rw[if_neg h1,if_neg h2]
  by_cases h3:k=3
  ·have hp:geP (.mk k r g ks) st.by_.length=geA ks st.by_.length:=by simp only[geP];rw[if_neg h1,if_neg h2,if_pos h3]
   rw[if_pos h3];obtain⟨i1,i2,i3,i4⟩:=Zk4 sg ks ⟨true,[],[]⟩ ZbG st h Znm (fun s hs=>hs.elim);refine⟨by rw[i1,hlv],hg.len,i2,?_,fun s t=>?_⟩
   ·rw[hp]
    exact Z6t i3 (by simp[Zar,ZbG]) (fun t=>by simp[Zar,ZbG]) (fun t=>by simp[Zar,ZbG])
   ·rw[i4,hp]
    simp only[ZbG,false_and,or_false]
  rw[if_neg h3] at hg ⊢;by_cases h4:k=4
  ·have hp:geP (.mk k r g ks) st.by_.length=geO ks st.by_.length:=by simp only[geP];rw[if_neg h1,if_neg h2,if_neg h3,if_pos h4]
   rw[if_pos h4];obtain⟨i1,i2,i3,i4⟩:=Zr9 sg ks ⟨false,[],[]⟩ noE st h Zsk;refine⟨by rw[i1,hlv],hg.len,i2,?_,fun s t=>?_⟩
   ·rw[hp]
    exact Z6t i3 (by simp[ZaX,noE]) (fun t=>by simp[ZaX,noE]) (fun t=>by simp[ZaX,noE])
   ·rw[i4,hp,ZiV]
  rw[if_neg h4] at hg ⊢;rw[ZcK sg ks st h];exact hg
theorem ZcK(sg:Int):∀(ks:List Pat) (st:Gs),Zek st→Z6m sg ks st=Z30 sg ks st
 | [],st,h=>by simp only[Z6m,Z30]
 | q::qs,st,h=>by
  have e:=(ZcL sg q st h).unique (Z9t sg q st h);simp only[Z6m,Z30,e];rw[ZcK sg qs _ (Z9t sg q st h).ok]
theorem Zk4(sg:Int):∀(ks:List Pat) (all:Ed) (A:GE) (st:Gs),Zek st→Zcs all A→(∀s,A.lst s→s < st.by_.length) →
  (Z64 sg ks all st).2.by_=st.by_++lvL sg ks∧Zek (Z64 sg ks all st).2∧Zcs (Z64 sg ks all st).1 (Zar A (geA ks st.by_.length)) ∧
   ∀s t,FoR (Z64 sg ks all st).2.fo s t↔FoR st.fo s t∨(geA ks st.by_.length).fol s t∨(A.lst s∧(geA ks st.by_.length).fst t)
 | [],all,A,st,h,hA,hlt=>by
  simp only[Z64,geA,lvL];exact⟨by simp,h,Z6t hA (by simp[Zar,ZbG]) (fun t=>by simp[Zar,ZbG]) (fun t=>by simp[Zar,ZbG]),fun s t=>by simp[ZbG]⟩
 | q::qs,all,A,st,h,hA,hlt=>by
  have f:=ZcL sg q st h;have hb:(Z35 sg q st).2.by_.length=st.by_.length+Z79 q:=by rw[f.by_,List.length_append,f.len]
  have hE:=Zp9 q st.by_.length;have hst':Zek ⟨(Z35 sg q st).2.by_,Z6k (Z35 sg q st).2.fo all.lst (Z35 sg q st).1.fst⟩:=⟨(Z7k _ _ _).trans f.ok.len,ZfQ _ _ _ f.ok.up f.ed.uf.2⟩
  obtain⟨i1,i2,i3,i4⟩:=Zk4 sg qs (Zdq all (Z35 sg q st).1) (Zar A (geP q st.by_.length)) ⟨(Z35 sg q st).2.by_,Z6k (Z35 sg q st).2.fo all.lst (Z35 sg q st).1.fst⟩ hst' (Zrb hA f.ed) (fun s hs=>by
   simp only[hb];rcases hs with⟨hs,_⟩ | hs
   ·have:=hlt s hs;omega
   ·have:=hE.lst s hs;omega)
  simp only[hb] at i3 i4;simp only[Z64,geA,lvL];refine⟨by rw[i1,f.by_];simp,i2,Z6t i3 ?_ (fun t=>?_) (fun t=>?_),fun s t=>?_⟩
  ·simp only[Zar,and_assoc]
  ·simp only[Zar]
   constructor
   ·rintro((h | ⟨h1,h2⟩) | ⟨⟨h1,h2⟩,h3⟩)
    ·exact .inl h
    ·exact .inr ⟨h1,.inl h2⟩
    ·exact .inr ⟨h1,.inr ⟨h2,h3⟩⟩
   ·rintro(h | ⟨h1,h2 | ⟨h2,h3⟩⟩)
    ·exact .inl (.inl h)
    ·exact .inl (.inr ⟨h1,h2⟩)
    ·exact .inr ⟨⟨h1,h2⟩,h3⟩
  ·simp only[Zar]
   constructor
   ·rintro(⟨⟨h1,h2⟩ | h1,h3⟩ | h)
    ·exact .inl ⟨h1,h2,h3⟩
    ·exact .inr (.inl ⟨h1,h3⟩)
    ·exact .inr (.inr h)
   ·rintro(⟨h1,h2,h3⟩ | ⟨h1,h3⟩ | h)
    ·exact .inl ⟨.inl ⟨h1,h2⟩,h3⟩
    ·exact .inl ⟨.inr h1,h3⟩
    ·exact .inr h
  ·rw[i4,ZcO _ _ _ hA.ul.2,f.fo,hA.lst s,f.ed.fst t,f.ok.len,hb]
   simp only[Zar];constructor
   ·rintro(((h | h) | ⟨h1,h2,h3⟩) | h | ⟨⟨h1,h2⟩ | h1,h3⟩)
    ·exact .inl h
    ·exact .inr (.inl (.inl h))
    ·exact .inr (.inr ⟨h1,.inl h3⟩)
    ·exact .inr (.inl (.inr (.inl h)))
    ·exact .inr (.inr ⟨h1,.inr ⟨h2,h3⟩⟩)
    ·exact .inr (.inl (.inr (.inr ⟨h1,h3⟩)))
   ·rintro(h | (h | h | ⟨h1,h3⟩) | ⟨h1,h2 | ⟨h2,h3⟩⟩)
    ·exact .inl (.inl (.inl h))
    ·exact .inl (.inl (.inr h))
    ·exact .inr (.inl h)
    ·exact .inr (.inr ⟨.inr h1,h3⟩)
    ·have:=hlt s h1
     exact .inl (.inr ⟨h1,by omega,h2⟩)
    ·exact .inr (.inr ⟨.inl ⟨h1,h2⟩,h3⟩)
theorem Zr9(sg:Int):∀(ks:List Pat) (all:Ed) (A:GE) (st:Gs),Zek st→Zcs all A →
  (dor sg ks all st).2.by_=st.by_++lvL sg ks∧Zek (dor sg ks all st).2∧Zcs (dor sg ks all st).1 (ZaX A (geO ks st.by_.length)) ∧
   ∀s t,FoR (dor sg ks all st).2.fo s t↔FoR st.fo s t∨geW ks st.by_.length s t
 | [],all,A,st,h,hA=>by
  simp only[dor,geO,lvL,geW];exact⟨by simp,h,Z6t hA (by simp[ZaX,noE]) (fun t=>by simp[ZaX,noE]) (fun t=>by simp[ZaX,noE]),fun s t=>by simp⟩
 | q::qs,all,A,st,h,hA=>by
  have f:=ZcL sg q st h;have hb:(Z35 sg q st).2.by_.length=st.by_.length+Z79 q:=by rw[f.by_,List.length_append,f.len]
  obtain⟨i1,i2,i3,i4⟩:=Zr9 sg qs (Zl9 all (Z35 sg q st).1) (ZaX A (geP q st.by_.length)) (Z35 sg q st).2 f.ok (Zra hA f.ed);rw[hb] at i3 i4;simp only[dor,geO,lvL,geW];refine⟨by rw[i1,f.by_];simp,i2,Z6t i3 (by simp only[ZaX,or_assoc]) (fun t=>by simp only[ZaX,or_assoc]) (fun t=>by simp only[ZaX,or_assoc]),fun s t=>?_⟩;rw[i4,f.fo,or_assoc]
end
theorem Zk3(sg:Int)(p:Pat)(st:Gs)(h:Zek st):Z35 sg p st=Z2Z sg p st:=(ZcL sg p st h).unique (Z9t sg p st h)
theorem StN.ok{st:Gs}(h:StN st):Zek st:=⟨h.len,fun r hr=>(h.rows r hr).1⟩
theorem Zdy(sg:Int)(p:Pat)(st:Gs)(h:StN st):StN (Z35 sg p st).2∧EdN (Z35 sg p st).2.by_.length (Z35 sg p st).1∧(Z35 sg p st).2.by_.length=st.by_.length+Z79 p:=by
 rw[Zk3 sg p st h.ok];exact ZfT sg p st h
theorem Ztn{l:List Int}(h:Up l):Z6l l=l:=Zfc (Z8r l) h.1 (fun x=>Z4o)
theorem ZiT{l m:List Int}(h:Up l):m.foldl Z7K l=Z6l (l++m):=Zfc (Ze0 m h.1) (Z8r _) (fun x=>by rw[ZbY,Z4o,List.mem_append])
theorem ZeR(sg:Int):∀(ks:List Pat) (q:Pat) (all:Ed) (st:Gs),Z64 sg (ks++[q]) all st =
  (Zdq (Z64 sg ks all st).1 (Z35 sg q (Z64 sg ks all st).2).1,⟨(Z35 sg q (Z64 sg ks all st).2).2.by_,Z6k (Z35 sg q (Z64 sg ks all st).2).2.fo (Z64 sg ks all st).1.lst (Z35 sg q (Z64 sg ks all st).2).1.fst⟩)
 | [],q,all,st=>by simp only[List.nil_append,Z64]
 | k::ks,q,all,st=>by simp only[List.cons_append,Z64];rw[ZeR sg ks]
theorem Zk5(sg:Int):∀(ks:List Pat) (q:Pat) (all:Ed) (st:Gs),dor sg (ks++[q]) all st=(Zl9 (dor sg ks all st).1 (Z35 sg q (dor sg ks all st).2).1,(Z35 sg q (dor sg ks all st).2).2)
 | [],q,all,st=>by simp only[List.nil_append,dor]
 | k::ks,q,all,st=>by simp only[List.cons_append,dor];rw[Zk5 sg ks]
theorem ZeQ(sg:Int):∀(ks:List Pat) (q:Pat) (st:Gs),(Z6m sg (ks++[q]) st).2=(Z35 sg q (Z6m sg ks st).2).2
 | [],q,st=>by simp only[List.nil_append,Z6m]
 | k::ks,q,st=>by simp only[List.cons_append,Z6m];rw[ZeQ sg ks]
theorem Zs2{N:Nat}{a e:Ed}(ha:EdN N a)(he:EdN N e):EdN N (Zdq a e):=by
 refine⟨?_,?_⟩
 ·simp only[Zdq]
  split
  ·exact ha.f.app he.f
  ·exact ha.f
 ·simp only[Zdq]
  split
  ·exact ha.l.app he.l
  ·exact UpN.nil.app he.l
theorem ZrS{N:Nat}{a e:Ed}(ha:EdN N a)(he:EdN N e):EdN N (Zl9 a e):=⟨ha.f.app he.f,ha.l.app he.l⟩
theorem Znk(sg:Int):∀(ks:List Pat) (all:Ed) (st:Gs),StN st→EdN st.by_.length all→StN (Z64 sg ks all st).2∧EdN (Z64 sg ks all st).2.by_.length (Z64 sg ks all st).1∧(Z64 sg ks all st).2.by_.length=st.by_.length+Z76 ks
 | [],all,st,h,ha=>by simp only[Z64,Z76];exact⟨h,ha,rfl⟩
 | q::qs,all,st,h,ha=>by
  obtain⟨i1,i2,i3⟩:=Zdy sg q st h;have ha':EdN (Z35 sg q st).2.by_.length all:=ha.mono (by omega);obtain⟨j1,j2,j3⟩:=Znk sg qs (Zdq all (Z35 sg q st).1) ⟨(Z35 sg q st).2.by_,Z6k (Z35 sg q st).2.fo all.lst (Z35 sg q st).1.fst⟩ (i1.fol i2.f) (Zs2 ha' i2);simp only[Z64,Z76];exact⟨j1,j2,by rw[j3];simp only;omega⟩
theorem Zuh(sg:Int):∀(ks:List Pat) (all:Ed) (st:Gs),StN st→EdN st.by_.length all→StN (dor sg ks all st).2∧EdN (dor sg ks all st).2.by_.length (dor sg ks all st).1∧(dor sg ks all st).2.by_.length=st.by_.length+Z76 ks
 | [],all,st,h,ha=>by simp only[dor,Z76];exact⟨h,ha,rfl⟩
 | q::qs,all,st,h,ha=>by
  obtain⟨i1,i2,i3⟩:=Zdy sg q st h;have ha':EdN (Z35 sg q st).2.by_.length all:=ha.mono (by omega);obtain⟨j1,j2,j3⟩:=Zuh sg qs (Zl9 all (Z35 sg q st).1) (Z35 sg q st).2 i1 (ZrS ha' i2);simp only[dor,Z76];exact⟨j1,j2,by omega⟩
theorem Zsf(sg:Int)(ks:List Pat)(st:Gs)(h:StN st):StN (Z6m sg ks st).2∧(∀e∈(Z6m sg ks st).1,EdN (Z6m sg ks st).2.by_.length e)∧(Z6m sg ks st).2.by_.length=st.by_.length+Z76 ks:=by
 rw[ZcK sg ks st h.ok];exact ZdH sg ks st h
theorem Zdv{ks:List Pat}{k:Nat}(h:k < ks.length):Z76 (ks.take k)+Z79 ks[k]≤Z76 ks:=by
 have h1:Z76 (ks.take (k+1))≤Z76 ks:=by
  have:=Z7W (ks.take (k+1)) (ks.drop (k+1));rw[List.take_append_drop] at this;omega
 rw[List.take_add_one,List.getElem?_eq_getElem h] at h1;simp only[Option.toList_some] at h1;rw[Z7W] at h1;simp only[Z76] at h1;omega
def cst:Opd→Option AV
 | .c x=>some x
 | .t _=>none
def ZtE(P:Program)(op:Op):Option AOp :=
 match op with
 | .buildSlice t m ps=>match Zk1 ps,Z6V P t with
  | some qs,some p=>match qs.mapM (fun q=>(cst q.2).map fun x=>(q.1,x)) with
   | some cs=>match Z37 p.2.1 (List.replicate m p.1) cs with
    | some xs=>if 0 < xs.length∧m*p.2.1≤16777216 then some (.app p.2.1 p.2.2 (.c (.sl true [])) (.c (.sl true xs))) else none
    | none=>none
   | none=>none
  | _,_=>none
 | _=>none
def ZgS(P:Program)(n:Nat)(ops:Array Oper)(o:Oper):Option Z1x :=
 match ZtE P o.op with
 | some op=>if ZpN n o.dst=true then (Zb9 ops o).map fun g=>⟨o.dst,op,g,none⟩ else none
 | none=>Z7b P n ops o
theorem Zlc{P:Program}{n:Nat}{ops:Array Oper}{o:Oper}{ao:Z1x}(h:ZgS P n ops o=some ao) :
  (∀d,o.dst=some d→d < n)∧ao.dst=o.dst∧Zb9 ops o=some ao.guard∧((∃p,ao.call=some p∧ccl o.op=some p)∨(ao.call=none∧(cop P o.op=some ao.op∨ZtE P o.op=some ao.op))):=by
 unfold ZgS at h;split at h
 ·rename_i op hop
  split at h
  ·rename_i hd
   have hd':∀d,o.dst=some d→d < n:=fun d e=>by rw[e] at hd;simpa[ZpN] using hd
   simp only[Option.map_eq_some_iff] at h;obtain⟨g,h2,rfl⟩:=h;exact⟨hd',rfl,h2,.inr ⟨rfl,.inr hop⟩⟩
  ·cases h
 ·obtain⟨h1,h2,h3,h4⟩:=Z7U h
  exact⟨h1,h2,h3,h4.imp id fun h=>⟨h.1,.inl h.2⟩⟩
theorem ZjZ{P:Program}{op:Op}{ao:AOp}(h:ZtE P op=some ao):∃t m ps qs z es by_ cs xs,op=.buildSlice t m ps∧Zk1 ps=some qs∧Z6V P t=some (z,es,by_)∧qs.mapM (fun q=>(cst q.2).map fun x=>(q.1,x))=some cs ∧
  Z37 es (List.replicate m z) cs=some xs∧0 < xs.length∧m*es≤16777216∧ao=.app es by_ (.c (.sl true [])) (.c (.sl true xs)):=by
 unfold ZtE at h;split at h
 ·rename_i t m ps
  split at h
  ·rename_i qs p hq hp
   obtain⟨z,es,by_⟩:=p;split at h
   ·rename_i cs hc
    split at h
    ·rename_i xs hx
     split at h
     ·rename_i hh
      cases h;exact⟨t,m,ps,qs,z,es,by_,cs,xs,rfl,hq,hp,hc,hx,hh.1,hh.2,rfl⟩
     ·cases h
    ·cases h
   ·cases h
  ·cases h
 ·cases h
theorem Zr5{a:AF}:∀{qs:List (Nat×Opd)} {cs:List (Nat×AV)},qs.mapM (fun q=>(cst q.2).map fun x=>(q.1,x))=some cs→(qs.map fun q=>(q.1,q.2.ev a))=cs
 | [],cs,h=>by simp at h;subst h;rfl
 | (i,x)::qs,cs,h=>by
  simp only[List.mapM_cons,Option.bind_eq_bind,Option.bind_eq_some_iff,Option.pure_def,Option.some.injEq,Option.map_eq_some_iff] at h;obtain⟨c,⟨y,hy,rfl⟩,cs',h2,rfl⟩:=h;rw[List.map_cons,Zr5 h2];cases x with
  | t _=>simp[cst] at hy
  | c z=>simp only[cst,Option.some.injEq] at hy;subst hy;simp only[Opd.ev]
theorem ZpI{P:Program}{op:Op}{ao:AOp}(h:ZtE P op=some ao){a:AF}{k:AV→Prop}(hn:Zer ao a k):False:=by
 obtain⟨t,m,ps,qs,z,es,by_,cs,xs,_,_,_,_,_,_,_,rfl⟩:=ZjZ h;simp only[Zer] at hn
section
variable{P:Program}{n:Nat}{o:Oper}{a:AF}{S:St}{nid:Nat}{v:AV}
theorem Zsc(hd:∀d,o.dst=some d→d < n){ao:AOp}(hc:ZtE P o.op=some ao){S':St}(h:(ex ao a).run S nid=some (v,S')):Z74 P n o a S nid v S':=by
 obtain⟨t,m,ps,qs,z,es,by_,cs,xs,hop,hq,ht,hcs,hf,hx0,hms,rfl⟩:=ZjZ hc;have hqc:=Zr5 (a:=a) hcs;obtain⟨e,i,hu,hz,hi,hb⟩:=Z7f ht;obtain⟨_,_,q1,q2,q3,q4,q5,q6,q7⟩:=Z8N hz;have hrepl:∀x∈List.replicate m z,x.cells.length=es:=by intro x hx;rw[(List.mem_replicate.mp hx).2];exact q5
 obtain⟨f1,f2,f3⟩:=ZaH _ _ _ hrepl hf
 have hv:v=.own nid 0 xs.length∧S'=S.set nid (some (.arr es xs)):=by
  have h3:Z9f es [] (.sl true xs)=some xs:=by simp only[Z9f];rw[if_pos f2]
  have hne:¬xs.length=0:=by omega
  simp only[ex,Opd.ev,Z57,Eff.run,AV.oid,List.mapM_nil,Option.pure_def,h3,Option.bind_some] at h;by_cases hap:Z1K by_ 0 xs.length
  ·rw[if_pos ⟨by simp,by simpa using hap⟩,if_neg hne] at h
   simp only[Option.some.injEq,Prod.mk.injEq] at h;obtain⟨rfl,rfl⟩:=h;exact⟨by simp,by simp[St.P1B,St.P1P]⟩
  ·rw[if_neg (fun hh=>hap (by simpa using hh.2))] at h
   cases h
 obtain⟨rfl,rfl⟩:=hv;refine Z74.alloc (f:=fun i=>.own i 0 xs.length) hd (by rw[hop];rfl) f2 fun E w act hS hF=>?_
 obtain⟨i',zv,g1,g2,g3,g4,g5⟩:=Z5V (E:=E) hz;rw[hi] at g1;cases g1;obtain⟨p1,p2⟩:=Zgd hF hq;have hl0:=Z2i hrepl;simp only[List.length_replicate] at hl0
 have hstart:ZtA E (flat (List.replicate m z)) ((Array.range (m*es)).map (zv.cells[· % zv.cells.size]!)):=by
  refine⟨by simp[hl0],?_,Z9D g4 q5 m m (Nat.le_refl _)⟩;intro y hy;obtain⟨x,hx,hyx⟩:=List.mem_flatMap.mp hy;rw[(List.mem_replicate.mp hx).2] at hyx;exact g4.2.1 y hyx
 let ps':=ps.map fun p=>(p.1,act.eval p.2)
 obtain⟨cells',e1,e2⟩:=ZdC (fun j=>some (j*es,es)) ps'.toList ((qs.map fun q=>(q.1,q.2.ev a)).map fun p=>(p.1*es,es,p.2)) _ _ _ hstart (by simp[ps'];simpa using p1)
  (fun j hj hj'=>by
   simp only[ps',Array.toList_map,List.length_map] at hj hj';obtain⟨a1,a2⟩:=p2 j hj (by omega);simp only[ps',Array.toList_map,List.getElem_map];exact⟨by rw[a1],a2⟩) (by rw[hqc];exact f1)
 have hrun:(execOp act.eval o).run P w=.ok (.value (.slice (some ⟨w.heap.size,0,none⟩) m m)) (w.alloc (.cells cells' e)):=by
  simp only[execOp,hop];by_cases h0:m*i.size=0
  ·have h00:m*es=0:=by rw[←g3];exact h0
   have e1':Instr.fill (fun j=>some (j*i.size,i.size)) #[] ps'.toList=some cells':=by
    rw[g3,←e1];congr 1;rw[h00];simp[Array.range_zero']
   simp[Instr.buildSlice,run_underlying hu,Z3e hi,h0,newRow,Array.range_zero'];have e1'':Instr.fill (fun j=>some (j*i.size,i.size)) #[] (List.map (fun x=>(x.1,act.eval x.2)) ps.toList)=some cells':=by simpa[ps'] using e1'
   rw[e1''];simp
  ·have hle:¬(m*i.size > 16777216):=by rw[g3];omega
   have e1'':Instr.fill (fun j=>some (j*i.size,i.size)) ((Array.range (m*i.size)).map (zv.cells[· % zv.cells.size]!)) (List.map (fun x=>(x.1,act.eval x.2)) ps.toList)=some cells':=by
    rw[g3];simpa[ps'] using e1
   simp[Instr.buildSlice,run_underlying hu,Z3e hi,h0,newRow,zeroValue,typeInfo,hi,g2];rw[if_neg (by omega)];simp[e1'']
 have hxl:xs.length=m:=by rw[f3];simp
 have hfl:=Z2i f2;have hcz:cells'.size=m*es:=by rw[e2.1,hfl,hxl]
 refine⟨_,cells',e,m,w,rfl,hS,.refl _ _ _,hrun,e2.2.1,by omega,by omega,e2.2.2,fun E' he=>?_⟩;rw[hxl];exact .own nid 0 m (some ⟨w.heap.size,0,none⟩) m _ he (Nat.le_refl _) (fun _=>⟨by simp,by simp⟩)
end
theorem Ze3{P:Program}{n:Nat}{ops:Array Oper}{base:Nat}{Q:Exit→AF→St→Prop}{E0:Env}{S0:St}{w0:World}(hG0:Gam P E0.H)(hb:S0.n≤base) :
  ∀(os:List Z1x) (i:Nat) (a:AF) (S:St),(∀k (hk:k < os.length),∃o,ops[i+k]? = some o∧ZgS P n ops o=some (os[k]))→RG P base os i (fun a S=>Q .normal a S) a S →
   ∀E w act,Sim E S w→Z6O E n a act→(∀k,i≤k→k < i+os.length→E.ρ (base+k)=none∧base+k < S.n)→Ev E0 S0 w0 E S w →
    wpOps P ops (ZbJ E0 S0 w0 n Q) (List.range' i os.length) act w
 | [],i,a,S,_,h,E,w,act,hS,hF,_,hE=>⟨a,S,E,h,hS,hF,hE⟩
 | ao::os,i,a,S,hc,h,E,w,act,hS,hF,hr,hE=>by
  obtain⟨o,ho,hco⟩:=hc 0 (by simp);simp only[Nat.add_zero,List.getElem_cons_zero] at ho hco;obtain⟨hd,hdst,hgd,hor⟩:=Zlc hco
  have hc':∀k (hk:k < os.length),∃o,ops[i+1+k]? = some o∧ZgS P n ops o=some (os[k]):=by
   intro k hk;obtain⟨o',h1,h2⟩:=hc (k+1) (by simpa using hk);exact⟨o',by rw[←h1];congr 1;omega,by simpa using h2⟩
  have hr0:=hr i (Nat.le_refl _) (by simp);simp only[List.length_cons,List.range'_succ,wpOps,ho];simp only[RG] at h;split at h
  ·exact h.elim
  ·rename_i hg
   rw[Z67 hF hgd hg];simp only[Bool.false_eq_true,if_false];rw[hdst] at h;exact Ze3 hG0 hb os (i+1) _ S hc' h E w _ hS (hF.put hd Z9E) (fun k h1 h2=>hr k (by omega) (by simp;omega)) hE
  ·rename_i hg
   rw[Z67 hF hgd hg];simp only[if_true];left;rw[hdst] at h
   have next:∀{r:AV} {S':St} {act':Act} {w':World} {E':Env},RG P base os (i+1) (fun a S=>Q .normal a S) (a.put o.dst r) S'→Sim E' S' w'→Z6O E' n (a.put o.dst r) act'→Ev E0 S0 w0 E' S' w' →
     (∀k,i < k→k < i+(os.length+1)→E'.ρ (base+k)=none∧base+k < S'.n)→wpOps P ops (ZbJ E0 S0 w0 n Q) (List.range' (i+1) os.length) act' w' :=
    fun h1 h2 h3 h4 h5=>Ze3 hG0 hb os (i+1) _ _ hc' h1 _ _ _ h2 h3 (fun k a1 a2=>h5 k (by omega) (by omega)) h4
   have hcall:∀{f:FuncId} {args:List AV} {vals:Array Value},Z0x P f args S (fun r S'=>RG P base os (i+1) (fun a S=>Q .normal a S) (a.put o.dst r) S')→Z98 E args vals →
     (execOp act.eval o).run P w=.ok (.enter f vals) w→o.wp P act w (wpOps P ops (ZbJ E0 S0 w0 n Q) (List.range' (i+1) os.length)) (ZbJ E0 S0 w0 n Q):=by
    intro f args vals h1 h2 h3;refine Zb8 hd h1 (hG0.le hE.evo.le) hS hF h2 h3 fun r S' act' w' E' k1 k2 k3 k4=>next k1 k2 k3 (hE.trans k4) fun k a1 a2=>?_
    obtain⟨b1,b2⟩:=hr k (by omega) (by simp;omega);exact⟨k4.low _ b2 b1,Nat.lt_of_lt_of_le b2 k4.nle⟩
   rcases hor with⟨p,hp1,hp2⟩ | ⟨hp1,hop⟩
   ·
    rw[hp1] at h;obtain⟨G,xs⟩:=p;simp only at h;unfold ccl at hp2;split at hp2
    ·rename_i g ys ts hoo
     simp only[Option.bind_eq_some_iff,Option.map_eq_some_iff,Prod.mk.injEq] at hp2;obtain⟨G',hG,XS,hXS,rfl,rfl⟩:=hp2;have rg:=Z07 hF hG;split at h
     ·rename_i f first cap hclo
      rw[hclo] at rg;generalize hev:act.eval g=gv at rg;cases rg with
      | clo _ _ _ fv cv hn hm hf hcc =>
       have hx:=Z6g hF hXS;have hargs:Z98 E (first++XS.map (·.ev a)++cap) (fv++ys.map act.eval++cv):=(Z98.append ⟨hn,hf⟩ hx).append ⟨hm,hcc⟩;refine hcall h hargs ?_;simp only[execOp,hoo,Sem.run_bind,Z4z act.eval g ys ts o.type hev,Result.andThen_ok,invoke];exact Z69 h.1 _ _
     ·exact h.elim
    ·cases hp2
   ·rw[hp1] at h
    simp only at h;split at h
    ·rename_i v S' hex
     have hok:Z74 P n o a S (base+i) v S':=hop.elim (fun h1=>ZeP (P:=P) (n:=n) (o:=o) hd h1 hex) (fun h1=>Zsc (P:=P) (n:=n) (o:=o) hd h1 hex);have hn:=Eff.P5e hex;refine hok E w act hS hF hr0.1 hr0.2 _ _ fun act' w' E' k1 k2 k3 k4=>next h k1 k2 ⟨hE.evo.trans k3,by have:=hE.nle;omega,fun id hid e=>k4.2 id (by omega) (hE.low id hid e)⟩ fun k a1 a2=>?_
     ·obtain⟨b1,b2⟩:=hr k (by omega) (by simp;omega)
      exact⟨k4.2 _ (by omega) b1,by omega⟩
    ·have hop:cop P o.op=some ao.op:=hop.elim id fun h1=>(ZpI h1 h).elim
     obtain⟨b,g1,g2⟩:=Zg5 hop h hF w;unfold Oper.wp;rw[g2,Oper.upon_value];exact next g1 hS (hF.put hd (.v _ rfl)) hE fun k a1 a2=>hr k (by omega) (by simp;omega)
def Zv1(P:Program)(n:Nat)(draw:Bool)(ops:Array Oper):AC :=
 if draw=true then Zii P n draw ops else match ops.toList.mapM (ZgS P n ops) with
  | some os=>.reg none os
  | none=>.bad
def ZvW(P:Program)(n:Nat)(c:Code):Option AC:=Z3Q Zv1 P n c
theorem Zt9{P:Program}(hm:P.follows .mixedOrders=true){n:Nat}:Zio P n Zv1:=by
 intro id ops dr Q a S h;unfold Zv1 at h;split at h
 ·exact Z8Z hm id ops dr Q a S h
 ·rename_i hdr
  simp only[Bool.not_eq_true] at hdr;subst hdr;split at h
  ·rename_i ys hy
   obtain⟨h1,h2⟩:=Z7l hy;have hlen:ys.length=ops.size:=by rw[h1];simp
   intro E w act hG hS hF;simp only[AW] at h;refine wp_region ?_
   have:=Ze3 (P:=P) (n:=n) (ops:=ops) (base:=S.n) (E0:=E) (S0:=S) (w0:=w) hG (Nat.le_refl _) ys 0 a ⟨S.n+ys.length,S.g⟩ (fun k hk=>by
    obtain⟨o,a1,a2⟩:=h2 k hk;exact⟨o,by rw[Nat.zero_add];simpa using a1,a2⟩) h E w act (hS.drop S.g (fun _ _ e=>e) _ (by show S.n≤S.n+_;omega)) hF (fun k _ hk=>⟨hS.fresh _ (by omega),by show S.n+k < S.n+ys.length;omega⟩)
    ⟨⟨rfl,rfl,rfl,Nat.le_refl _,fun _ _ _=>rfl,fun id l k hk hl=>.inr ⟨id,l,k,hk,hl,rfl⟩,Env.le_refl _,fun _ _ e=>.inl e⟩,by show S.n≤S.n+_;omega,fun _ _ e=>e⟩
   rw[List.range_eq_range',←hlen];exact this
  ·simp only[AW] at h
theorem ZnX{P:Program}{n:Nat}(d:Bool)(ops:Array Oper):ZdM (Zv1 P n d ops)=true:=by
 unfold Zv1;split
 ·exact Z7X d ops
 ·split<;>rfl
structure IsO(P:Program)(f:FuncId)(ac:AC)(rs:List RV)(n:Nat):Prop where
 h:∃fn c,P.funcs[f]? = some fn∧(fn.name == "runtime.NumGoroutine")=false∧fn.body=some c∧ZvW P fn.ntmps c=some ac∧fn.results.toList.mapM (ZlW P)=some rs∧n≤fn.ntmps
theorem IsO.P2D{P:Program}(hm:P.follows .mixedOrders=true){f:FuncId}{ac:AC}{rs:List RV}{n:Nat}(h:IsO P f ac rs n){args:List AV}(hn:args.length=n){S:St}{K:AV→St→Prop}
  (hb:AWb P S.n ac (Z86 S.n rs K) (Z53 args) S):Z0x P f args S K:=ZbP (fun _=>Zt9 hm) (fun _=>ZnX) h.h hn hb
theorem IsO.P1q{P:Program}(hm:P.follows .mixedOrders=true){f:FuncId}{ac:AC}{rs:List RV}{n:Nat}(h:IsO P f ac rs n){args:List AV}(hn:args.length=n){r:AV}
  (hb:AWb P 0 ac (Z2L rs (FzK r)) (Z53 args) S0):Z0t P f args r :=
 .P1h (h.P2D hm hn (Z9Y _ (fun e a S k=>⟨a,S,.refl _ _,k⟩) hb))
end Go.Rf
namespace Go.Rf
open Go.RowKit
attribute [local simp] Z4t Z4q Z3h Z2s Z3f Z3j Z3g Z4r Z4s Z3i Z3n Z1A Z1y Z2q Z1H Z41 Z3v ZcH Z7E Z7D Z5R ZcG Z7C Z5P Z4v Z3k Z4u Z7x Z7w Z5J Z4x Z3l Z4w Z7z Z7y Z5K Z1z Z2v Z3o Z3p Z1D Z1o Z0c Z0B Z0q Z08 Z0o Z0h Z09 Z0p Z0i Z0Y Z0j Z0z Z0K Z0k Z0J Z1W Z3U Z0X Z25 Z22 Z24 Z23 Z26 Z1j Z0D Z11 Z12 Z1T Z1U Z1V Z0H Z0I Z1i Z0r Z0W Z20 Z1X Z1Z Z1Y Z21 Z1k Z13 Z1g Z0U Z0V Z0C Z1h Z0P Z1a Z1f Z14 Z1l ex Z00 Z0R Z6K Z6P Z0f Z0g Z0A Z2k Z1d Z10 Z0y Z0F Z0G Z0E Z0s Z0Z Z5y Z0O Z37 Z1c Z1O Z1R Z3s Z0b Z1E Z28 Z19 Z0Q Z2w Z27 Z3u Z2x Z1P Z6A Z3C Z6z Z3w Z2Y Z3t Z6w Z3D Z51 Z4A Z3z Z2B Z2C Z29 Z2z Z2A Z3y Z1M Z2y Z3x Z3A S0 Z06 Z1n Z39 Z34 Z56 Z38 Z33 Z55 Z44 Z36 Z43 Z6j Z5a Z6i Z59 Z45 Z58 Z2U Z72.cl Z5z.cl Z04 Z0L Z02 Z0T Z1w Z2j Z1N Z2n Z1p Z3r Z4N Z3V Z4M Z5L Z5W Z3E Z4O Z5w Z5m Z5S Z4U Z4X Z4W Z42 Z2c Z2H Z62 Z3m Z3W Z4y Z2J Z2I Z17 Z68 Z2G Z4k Z1S Z4B
def ZmL(P05:FuncId):AC :=
 (.loop (.seq (.seq (.reg none [
  rm 6 5,
  rm 7 1,
  ro 8 (.len (.t 7)),
  ro 9 (.bin .lss (.t 6) (.t 8))])
  (.cond (.t 9) .skip (.exit 0)))
  (.seq (.block 1 (.reg none [
   rm 12 0,
   rm 13 1,
   rm 14 5,
   ro 15 (.idxA 1 (.t 13) (.t 14)),
   ro 16 (.load none (.t 15)),
   rk 17 P05 [(.t 12),(.t 16)],
   rm 0 17]))
  (.reg none [
  rm 10 5,
  ro 11 (.bin .add (.t 10) (ci 1)),
  rm 5 11]))))
def Z5f(P05:FuncId):AC :=
 (.seq (.reg none [
 ro 4 (.mv (.c (.sl true [])))])
 (.seq (.seq (.reg none [
 ro 5 (.mv (ci 0))])
 (.block 0 (ZmL P05)))
 (.seq (.reg none [
 rm 18 0,
 rm 4 18])
 .ret)))
def ZmO(P08:FuncId):AC :=
 (.loop (.seq (.seq (.reg none [
  rm 7 6,
  rm 8 1,
  ro 9 (.len (.t 8)),
  ro 10 (.bin .lss (.t 7) (.t 9))])
  (.cond (.t 10) .skip (.exit 0)))
  (.seq (.block 1 (.reg (some []) [
   rm 13 0,
   ro 14 (.nilc (.t 13)),
   ro 15 (.fieldA 0 (.t 14)),
   ro 16 (.fieldA 2 (.t 15)),
   ro 17 (.load none (.t 16)),
   rm 18 1,
   rm 19 6,
   ro 20 (.idxA 1 (.t 18) (.t 19)),
   ro 21 (.load none (.t 20)),
   rm 22 0,
   ro 23 (.nilc (.t 22)),
   ro 24 (.fieldA 0 (.t 23)),
   ro 25 (.fieldA 2 (.t 24)),
   ro 26 (.load none (.t 25)),
   rm 27 1,
   rm 28 6,
   ro 29 (.idxA 1 (.t 27) (.t 28)),
   ro 30 (.load none (.t 29)),
   ro 31 (.idxA 1 (.t 26) (.t 30)),
   ro 32 (.load none (.t 31)),
   rm 33 2,
   rk 34 P08 [(.t 32),(.t 33)],
   ro 35 (.idxA 1 (.t 17) (.t 21)),
   rn (.store 1 (.t 35) (.t 34))]))
  (.reg none [
  rm 11 6,
  ro 12 (.bin .add (.t 11) (ci 1)),
  rm 6 12]))))
def Z31(P08:FuncId):AC :=
 (.seq (.reg none [
 ro 6 (.mv (ci 0))])
 (.block 0 (ZmO P08)))
def ZmP(P02:FuncId):AC :=
 (.loop (.seq (.seq (.reg none [
  rm 6 5,
  ro 7 (.fieldA 3 (.t 3)),
  ro 8 (.load none (.t 7)),
  ro 9 (.len (.t 8)),
  ro 10 (.bin .lss (.t 6) (.t 9))])
  (.cond (.t 10) .skip (.exit 0)))
  (.seq (.block 1 (.reg none [
   rm 13 0,
   ro 14 (.fieldA 3 (.t 3)),
   ro 15 (.load none (.t 14)),
   rm 16 5,
   ro 17 (.idxA 4 (.t 15) (.t 16)),
   ro 18 (.load (some 4) (.t 17)),
   rk 19 P02 [(.t 13),(.t 18)]]))
  (.reg none [
  rm 11 5,
  ro 12 (.bin .add (.t 11) (ci 1)),
  rm 5 12]))))
def Z3G(P02:FuncId):AC :=
 (.seq (.reg none [
 ro 3 (.box 4 (.t 1)),
 ro 4 (.alloc (.agg [(.v (.bool false)),(.sl true []),(.sl true [])]) 3)])
 (.seq (.seq (.reg none [
 ro 5 (.mv (ci 0))])
 (.block 0 (ZmP P02)))
 (.seq (.reg none [
 ro 20 (.build (.agg [(.v (.bool false)),(.sl true []),(.sl true [])]) [] []),
 rn (.store 3 (.t 4) (.t 20))])
 .ret)))
def Zn2(P0H:FuncId):AC :=
 (.loop (.seq (.seq (.reg none [
  rm 5 4,
  ro 6 (.fieldA 3 (.t 1)),
  ro 7 (.load none (.t 6)),
  ro 8 (.len (.t 7)),
  ro 9 (.bin .lss (.t 5) (.t 8))])
  (.cond (.t 9) .skip (.exit 0)))
  (.seq (.block 1 (.reg none [
   rm 12 3,
   ro 13 (.fieldA 3 (.t 1)),
   ro 14 (.load none (.t 13)),
   rm 15 4,
   ro 16 (.idxA 4 (.t 14) (.t 15)),
   ro 17 (.load (some 4) (.t 16)),
   rk 18 P0H [(.t 17)],
   ro 19 (.bin .add (.t 12) (.t 18)),
   ro 20 (.mm false (ci 100000) (.t 19)),
   rm 3 20]))
  (.reg none [
  rm 10 4,
  ro 11 (.bin .add (.t 10) (ci 1)),
  rm 4 11]))))
def Z3B(P0H:FuncId):AC :=
 (.seq (.reg none [
 ro 1 (.box 4 (.t 0)),
 ro 2 (.mv (ci 0))])
 (.seq (.reg none [
 ro 3 (.mv (ci 1))])
 (.seq (.seq (.reg none [
 ro 4 (.mv (ci 0))])
 (.block 0 (Zn2 P0H)))
 (.seq (.reg none [
 rm 21 3,
 rm 2 21])
 .ret))))
abbrev Zvk(P:Program)(f:FuncId):Prop:=∀(l:List Int) (x:Int),l.length≤100000→Z0t P f [Z03 l,Z06 x] (Z03 (Z7K l x))
abbrev ZvH(P:Program)(f:FuncId):Prop:=∀(l m:List Int),Up l→l.length+m.length≤100000→Z0t P f [Z03 l,Z03 m] (Z03 (Z6l (l++m)))
theorem ZhG:∀(l:List Int) (x:Int),(Z7K l x).length≤l.length+1
 | [],x=>by simp[Z7K]
 | y::l,x=>by
  have:=ZhG l x;simp only[Z7K];split
  ·simp only[List.length_cons];omega
  ·split<;>simp only[List.length_cons]<;>omega
theorem ZdF:∀(m l:List Int),(m.foldl Z7K l).length≤l.length+m.length
 | [],l=>by simp
 | x::m,l=>by have:=ZdF m (Z7K l x);have:=ZhG l x;simp only[List.foldl_cons,List.length_cons];omega
def alI(_:Nat)(_:Unit):Prop:=True
def alA(l m:List Int)(k:Nat)(_:Unit):List (Nat×AV):=[(0,Z03 ((m.take k).foldl Z7K l)),(1,Z03 m),(5,Z06 k)]
def alG(_:Nat)(_:Unit):List (Nat×Option Blk):=[]
theorem Zpr{P:Program}{fp:FuncId}(hp:Zvk P fp)(l m:List Int)(hl:l.length+m.length≤100000):AWb P 0 (Z5f fp) (Z75 [4] (FzK (Z03 (m.foldl Z7K l)))) (Z53 [Z03 l,Z03 m]) S0:=by
 simp[Z5f,ZmL];refine Z2D m.length alI (alA l m) 0 alG () trivial ?_ ?_
 ·refine Abs.of [] [] (by omega) ⟨by simp,by simp⟩ ?_ ?_
  ·simp[alG]
  ·simp[alA]
 ·rintro k _ hk _
  by_cases hlt:k < m.length
  ·have hsk:m[k]? = some m[k]:=List.getElem?_eq_getElem hlt
   have hsd:m.getD k 0=m[k]:=Zrh hlt;have htk:m.take (k+1)=m.take k++[m[k]]:=by rw[List.take_add_one,hsk];rfl
   have hfo:(m.take (k+1)).foldl Z7K l=Z7K ((m.take k).foldl Z7K l) m[k]:=by rw[htk,List.foldl_append];rfl
   have hfl:=ZdF (m.take k) l;have htl:(m.take k).length≤m.length:=by rw[List.length_take];omega
   have hx:=hp ((m.take k).foldl Z7K l) m[k] (by omega);simp[alA,alG,hlt,hsd];refine Z0x.pure hx (Z01 (Z02 _) (Z01 (Z04 _) Z0a)) (Z02 _) ?_;simp;rw[Z0m _ (by omega)];refine⟨hlt,(),trivial,Abs.of [] [] (by omega) ⟨by simp,by simp⟩ ?_ ?_⟩
   ·simp[alG]
   ·simp[alA,hfo]
  ·have hke:k=m.length:=by omega
   subst hke;simp[alA,alG];exact .closed _ (Z02 _)
def gbI(_:Nat)(_:Unit):Prop:=True
def gbA(ss be:List Int)(k:Nat)(_:Unit):List (Nat×AV):=[(0,.ptr 0 0 0),(1,Z03 ss),(2,Z03 be),(6,Z06 k)]
theorem Zlb{P:Program}(hm:P.follows .mixedOrders=true){f fa:FuncId}(h:Is P f (Z31 fa) [] 3)(ha:ZvH P fa)(sg:Int)(ss be:List Int)(st:Gs)(hst:StN st)
  (hss:UpN st.by_.length ss) (hbe:UpN st.by_.length be) (hl:st.by_.length≤10000):Z52 P f [Z03 ss,Z03 be] sg true st ⟨st.by_,Z6k st.fo ss be⟩ (.tup []):=by
 refine h.P2D hm rfl ?_;have hsl:=hss.len;have hbl:=hbe.len;simp[Z31,mG,Z0N,ZmO];refine Z2D ss.length gbI (gbA ss be) 3 (nfG sg st ss be) () trivial ?_ ?_
 ·refine Abs.of [(0,0),(1,1),(2,2)] [] (by omega) ⟨by simp,by simp⟩ ?_ ?_
  ·simp[nfG,mG,Z0N,Z6k]
  ·simp[gbA]
 ·rintro k _ hk _
  by_cases hlt:k < ss.length
  ·have hsk:ss[k]? = some ss[k]:=List.getElem?_eq_getElem hlt
   have hsd:ss.getD k 0=ss[k]:=by rw[List.getD_eq_getElem?_getD,hsk];rfl
   have hs0:=hss.1.2 _ (List.getElem_mem hlt);have hs1:=hss.2 _ (List.getElem_mem hlt);have hfl:=Z7k (ss.take k) st.fo be;have hlen:=hst.len;have hrow:=ZfS (Zkf (ss.take k) st.fo be hst.rows hbe) (ss[k]).toNat;have hrl:=hrow.len;have hcc:=ha ((Z6k st.fo (ss.take k) be).getD (ss[k]).toNat []) be hrow.1 (by omega);have htk:ss.take (k+1)=ss.take k++[ss[k]]:=by rw[List.take_add_one,hsk];rfl
   have hfs:=ZdE (ss.take k) st.fo ss[k] be;rw[←htk] at hfs;have hxl:(ss[k]).toNat < (Z6k st.fo (ss.take k) be).length:=by omega
   have hxl2:ss[k] < ((Z6k st.fo (ss.take k) be).length:Int):=by omega
   have hge:((Z6k st.fo (ss.take k) be))[(ss[k]).toNat]? = some ((Z6k st.fo (ss.take k) be).getD (ss[k]).toNat []):=by
    rw[List.getD_eq_getElem?_getD,List.getElem?_eq_getElem hxl];rfl
   have hgl:(Z6k st.fo (ss.take k) be)[(ss[k]).toNat]=(Z6k st.fo (ss.take k) be).getD (ss[k]).toNat []:=by
    rw[List.getD_eq_getElem?_getD,List.getElem?_eq_getElem hxl];rfl
   have D1:=fun n' g'=>Z5A.cd (S:=⟨n',g'⟩) hcc (Z01 (Z02 _) (Z01 (Z02 _) Z0a)) (Z02 _)
   generalize hro:(Z6k st.fo (ss.take k) be).getD (ss[k]).toNat []=row at *;generalize hgx:ss[k]=x at *;generalize hff:Z6k st.fo (ss.take k) be=fo at *;simp[gbA,nfG,mG,Z0N,hlt,hgx,hff,Z47,hsd,hxl,hxl2,hs0,hge,hgl,Z2G,Z1S];refine⟨_,⟨_,D1 _ _⟩,?_⟩;simp[Z2G,Z1S,Z1z,hxl];rw[Z0m _ (by omega)];refine⟨hlt,(),trivial,Abs.of [(0,0),(1,1),(2,2)] [] (by omega) ⟨by simp,by simp⟩ ?_ ?_⟩
   ·simp[nfG,mG,Z0N,hfs]
    rw[←List.map_set];exact .cl (Z3E _)
   ·simp[gbA]
  ·have hke:k=ss.length:=by omega
   subst hke;simp[gbA,nfG,mG,Z0N];refine⟨Z6h [],⟨10,gOf (mG sg true ⟨st.by_,Z6k st.fo ss be⟩ 0 3 4++[])⟩,Abs.of [(0,0),(3,1),(4,2)] [] (by omega) ⟨by simp,by simp⟩ ?_ ?_,.of⟩
   ·simp[mG,Z0N]
   ·simp
def Z8P(P:Program)(f:FuncId)(sg:Int)(q:Pat):Prop:=∀st:Gs,StN st→st.by_.length+Z79 q≤10000→Z52 P f [Z1s q] sg true st (Z35 sg q st).2 (Z1r (Z35 sg q st).1)
def gzI(_:Nat)(_:Unit):Prop:=True
def gzA(k:Nat)(_:Unit):List (Nat×AV):=[(0,.ptr 0 0 0),(3,.ptr 5 0 0),(4,.ptr 6 0 0),(5,Z06 k)]
def gzG(sg:Int)(st:Gs)(p:Pat)(ks:List Pat)(k:Nat)(_:Unit):List (Nat×Option Blk):=(5,some (.arr 4 [Z1s p]))::(6,some (.arr 3 [Z1r (ed0 false)]))::mG sg true (Z6m sg (ks.take k) st).2 0 3 4
theorem Z5F(k:Int)(s:List Rg)(g:List Int)(ks:List Pat):Z0S (.agg [.v (.int .i64 k),Zdz s,Z03 g,.sl false (ks.map Z1s)]):=by
 have:=Z3M (.mk k s g ks);rwa[Z0d] at this
theorem Zqr{P:Program}(hm:P.follows .mixedOrders=true){f ff:FuncId}(h:IsC P f (Z3G ff) [.c 4 (some 3)] 2){sg k0:Int}{ps:List Rg}{pg:List Int}{ks:List Pat}(hl:ks.length≤100000)(hq:∀q∈ks,Z8P P ff sg q)
  (st:Gs) (hst:StN st) (hb:st.by_.length+Z76 ks≤10000):Z52 P f [Z1s (.mk k0 ps pg ks)] sg true st (Z6m sg ks st).2 (Z1r (ed0 false)):=by
 refine h.P2D hm rfl ?_;have hcp:=Z5F k0 ps pg ks;simp[Z3G,Z0d,mG,Z0N,ZmP,Z0b];refine Z2D ks.length gzI gzA 10 (gzG sg st (.mk k0 ps pg ks) ks) () trivial ?_ ?_
 ·refine Abs.of [(0,0),(3,1),(4,2),(5,3),(6,4)] [] (by omega) ⟨by simp,by simp⟩ ?_ ?_
  ·simp[gzG,mG,Z0N,Z6m,ed0,Z1r,Z0d,Z4S,Z2h]
   exact .loose (by simp)
  ·simp[gzA]
 ·rintro k _ hk _
  by_cases hlt:k < ks.length
  ·have hsk:ks[k]? = some ks[k]:=List.getElem?_eq_getElem hlt
   have htk:ks.take (k+1)=ks.take k++[ks[k]]:=by rw[List.take_add_one,hsk];rfl
   have hsn:=ZeQ sg (ks.take k) ks[k] st;rw[←htk] at hsn;obtain⟨n1,n2,n3⟩:=Zsf sg (ks.take k) st hst;have hcl:=Zdv hlt;have hqk:=hq _ (List.getElem_mem hlt) (Z6m sg (ks.take k) st).2 n1 (by omega);rcases hpq:ks[k] with⟨pk,qs,qg,pks⟩
   rw[hpq] at hqk hsn;simp only[Z0d,Z06] at hqk;have hck:=Z5F pk qs qg pks;simp[gzA,gzG,mG,Z0N,hlt,hsk,hpq,Z0d];refine Z52.use hqk (fun _=>.cl (Z01 hck Z0a)) (Z2W _) (id:=0) (b:=3) (c:=4) (by simp[Z0N,Z2G]) (by simp[Z1S]) (by simp[Z1S]) (by simp) (by simp) ?_;simp[Z7v];rw[Z0m _ (by omega)];refine⟨hlt,(),trivial,Abs.of [(0,0),(3,22),(4,23),(5,5),(6,6)] [] (by omega) ⟨by simp,by simp⟩ ?_ ?_⟩
   ·simp[gzG,mG,Z0N,hsn,Z2W,Z0d,hcp]
   ·simp[gzA]
  ·have hke:k=ks.length:=by omega
   subst hke;simp[gzA,gzG,mG,Z0N,Z0w,Z1t,Z0n,Z86,Z0d];refine⟨Z6h [(4,.ptr 5 0 0)],⟨10,gOf (mG sg true (Z6m sg ks st).2 0 3 4++[(5,some (.arr 3 [Z1r (ed0 false)]))])⟩,Abs.of [(0,0),(3,3),(4,4),(5,6)] [] (by omega) ⟨by simp,by simp⟩ ?_ ?_,?_⟩
   ·simp[mG,Z0N,Z1r,ed0]
    exact .loose (by simp)
   ·simp
   ·simp[Z2L,evC,RV.ev,ldC,Z1b,Z5l,Z0n,Z54]
    first | exact .of | exact⟨rfl,.of⟩
def syI(_:Nat)(_:Unit):Prop:=True
def syA(ks:List Pat)(k:Nat)(_:Unit):List (Nat×AV):=[(1,.ptr 0 0 0),(3,Z06 (min 100000 (1+ndL (ks.take k):Nat))),(4,Z06 k)]
def syG(p:Pat)(_:Nat)(_:Unit):List (Nat×Option Blk):=[(0,some (.arr 4 [Z1s p]))]
theorem Zjk{P:Program}{fz:FuncId}(k:Int)(ps:List Rg)(pg:List Int)(ks:List Pat)(hl:ks.length≤100000)(hq:∀q∈ks,Z0t P fz [Z1s q] (Z06 (szP q))) :
  AWb P 0 (Z3B fz) (Z75 [2] (FzK (Z06 (szP (.mk k ps pg ks))))) (Z53 [Z1s (.mk k ps pg ks)]) S0:=by
 have hcp:=Z5F k ps pg ks;simp[Z3B,Z0d,Zn2];refine Z2D ks.length syI (syA ks) 5 (syG (.mk k ps pg ks)) () trivial ?_ ?_
 ·refine Abs.of [(0,0)] [] (by omega) ⟨by simp,by simp⟩ ?_ ?_
  ·simp[syG,Z0d,hcp]
  ·simp[syA,ndL]
   omega
 ·rintro i _ hi _
  by_cases hlt:i < ks.length
  ·have hsk:ks[i]? = some ks[i]:=List.getElem?_eq_getElem hlt
   have htk:ks.take (i+1)=ks.take i++[ks[i]]:=by rw[List.take_add_one,hsk];rfl
   have hqk:=hq _ (List.getElem_mem hlt);have hcq:=Z3M ks[i];have hnd:ndL (ks.take (i+1))=ndL (ks.take i)+ndP ks[i]:=by rw[htk,ZbZ];simp[ndL]
   have hsz:szP ks[i]=min 100000 (ndP ks[i]:Int):=rfl
   obtain⟨x1,x2,x3,x4,hx⟩:∃x1 x2 x3 x4:AV,Z1s ks[i]=.agg [x1,x2,x3,x4]:=by
    obtain⟨k,s,g,ks⟩:=ks[i];rw[Z0d];exact⟨_,_,_,_,rfl⟩
   rw[hx] at hqk hcq;generalize hnn:ndL (ks.take i)=nn at *;generalize szP ks[i]=zz at *;have hww:IntKind.i64.wrap (min 100000 (1+(nn:Int))+zz)=min 100000 (1+(nn:Int))+zz:=Z0m _ (by omega);simp[syA,syG,hlt,hsk,hx,Z0d,hnn];refine Z0x.pure hqk (Z01 hcq Z0a) (Z04 _) ?_;simp[hww];rw[Z0m _ (by omega)];refine⟨hlt,(),trivial,Abs.of [(0,0)] [] (by omega) ⟨by simp,by simp⟩ ?_ ?_⟩
   ·simp[syG,Z0d,hcp]
   ·simp[syA,hnd,hnn]
    omega
  ·have hke:i=ks.length:=by omega
   subst hke;simp[syA,syG,Z0d];have e:szP (.mk k ps pg ks)=min 100000 (1+(ndL ks:Int)):=by simp only[szP,ndP];push_cast;rfl
   rw[e];exact Zft _ _
mutual
theorem Zi0{P:Program}(hm:P.follows .mixedOrders=true){f:FuncId}(h:Is P f (Z3B f) [2] 1):∀(p:Pat),Zce p→Z0t P f [Z1s p] (Z06 (szP p))
 | .mk k ps pg ks,hp=>by
  simp only[Zce] at hp;exact h.P1q hm rfl (Zjk k ps pg ks hp.2.1 (Zfi hm h ks hp.2.2))
theorem Zfi{P:Program}(hm:P.follows .mixedOrders=true){f:FuncId}(h:Is P f (Z3B f) [2] 1):∀(ks:List Pat),ZaB ks→∀q∈ks,Z0t P f [Z1s q] (Z06 (szP q))
 | [],_,q,hq=>by simp at hq
 | p::ps,hp,q,hq=>by
  simp only[ZaB] at hp;rcases List.mem_cons.mp hq with e | hq
  ·rw[e];exact Zi0 hm h p hp.1
  ·exact Zfi hm h ps hp.2 q hq
end
end Go.Rf
namespace Go.Rf
open Go.RowKit
attribute [local simp] Z4t Z4q Z3h Z2s Z3f Z3j Z3g Z4r Z4s Z3i Z3n Z1A Z1y Z2q Z1H Z41 Z3v ZcH Z7E Z7D Z5R ZcG Z7C Z5P Z4v Z3k Z4u Z7x Z7w Z5J Z4x Z3l Z4w Z7z Z7y Z5K Z1z Z2v Z3o Z3p Z1D Z1o Z0c Z0B Z0q Z08 Z0o Z0h Z09 Z0p Z0i Z0Y Z0j Z0z Z0K Z0k Z0J Z1W Z3U Z0X Z25 Z22 Z24 Z23 Z26 Z1j Z0D Z11 Z12 Z1T Z1U Z1V Z0H Z0I Z1i Z0r Z0W Z20 Z1X Z1Z Z1Y Z21 Z1k Z13 Z1g Z0U Z0V Z0C Z1h Z0P Z1a Z1f Z14 Z1l ex Z00 Z0R Z6K Z6P Z0f Z0g Z0A Z2k Z1d Z10 Z0y Z0F Z0G Z0E Z0s Z0Z Z5y Z0O Z37 Z1c Z1O Z1R Z3s Z0b Z1E Z28 Z19 Z0Q Z2w Z27 Z3u Z2x Z1P Z6A Z3C Z6z Z3w Z2Y Z3t Z6w Z3D Z51 Z4A Z3z Z2B Z2C Z29 Z2z Z2A Z3y Z1M Z2y Z3x Z3A S0 Z06 Z1n Z39 Z34 Z56 Z38 Z33 Z55 Z44 Z36 Z43 Z6j Z5a Z6i Z59 Z45 Z58 Z2U Z72.cl Z5z.cl Z04 Z0L Z02 Z0T Z1w Z2j Z1N Z2n Z1p Z3r Z4N Z3V Z4M Z5L Z5W Z3E Z4O Z5w Z5m Z5S Z4U Z4X Z4W Z42 Z2c Z2H Z62 Z3m Z3W Z4y Z2J Z2I Z17 Z68
def Zr1(P05:FuncId):AC :=
 (.loop (.seq (.seq (.reg none [
    rm 30 7,
    ro 31 (.fieldA 2 (.t 3)),
    ro 32 (.load none (.t 31)),
    ro 33 (.len (.t 32)),
    ro 34 (.bin .lss (.t 30) (.t 33))])
   (.cond (.t 34) .skip (.exit 1)))
   (.seq (.block 2 (.seq (.reg (some []) [
    ro 37 (.fieldA 2 (.t 3)),
    ro 38 (.load none (.t 37)),
    rm 39 7,
    ro 40 (.idxA 1 (.t 38) (.t 39)),
    ro 41 (.load none (.t 40)),
    ro 42 (.bin .geq (.t 41) (ci 0)),
    rm 43 42,
    rg 44 43 true (.fieldA 2 (.t 3)),
    rg 45 43 true (.load none (.t 44)),
    rg 46 43 true (.mv (.t 7)),
    rg 47 43 true (.idxA 1 (.t 45) (.t 46)),
    rg 48 43 true (.load none (.t 47)),
    rg 49 43 true (.mv (.t 0)),
    rg 50 43 true (.nilc (.t 49)),
    rg 51 43 true (.fieldA 0 (.t 50)),
    rg 52 43 true (.fieldA 0 (.t 51)),
    rg 53 43 true (.load none (.t 52)),
    rg 54 43 true (.bin .lss (.t 48) (.t 53)),
    ro 55 (.pick (.t 43) (.t 54) (.c (.v (.bool false))))])
    (.cond (.t 55) (.reg none [
     rm 56 6,
     ro 57 (.fieldA 2 (.t 3)),
     ro 58 (.load none (.t 57)),
     rm 59 7,
     ro 60 (.idxA 1 (.t 58) (.t 59)),
     ro 61 (.load none (.t 60)),
     rk 62 P05 [(.t 56),(.t 61)],
     rm 6 62]) .skip)))
   (.reg none [
    rm 35 7,
    ro 36 (.bin .add (.t 35) (ci 1)),
    rm 7 36]))))
def ZqZ(P02 P0v P08:FuncId):AC :=
 (.loop (.seq (.seq (.reg none [
    rm 96 9,
    ro 97 (.fieldA 3 (.t 3)),
    ro 98 (.load none (.t 97)),
    ro 99 (.len (.t 98)),
    ro 100 (.bin .lss (.t 96) (.t 99))])
    (.cond (.t 100) .skip (.exit 3)))
    (.seq (.block 4 (.seq (.reg none [
     rm 103 0,
     ro 104 (.fieldA 3 (.t 3)),
     ro 105 (.load none (.t 104)),
     rm 106 9,
     ro 107 (.idxA 4 (.t 105) (.t 106)),
     ro 108 (.load (some 4) (.t 107)),
     rk 109 P02 [(.t 103),(.t 108)],
     ro 10 (.alloc (.agg [(.v (.bool false)),(.sl true []),(.sl true [])]) 3),
     rn (.store 3 (.t 10) (.t 109))])
    (.seq (.reg none [
     rm 110 0,
     ro 111 (.fieldA 2 (.t 8)),
     ro 112 (.load none (.t 111)),
     ro 113 (.fieldA 1 (.t 10)),
     ro 114 (.load none (.t 113)),
     rk 115 P0v [(.t 110),(.t 112),(.t 114)]])
    (.seq (.seq (.reg none [
     ro 116 (.fieldA 0 (.t 8)),
     ro 117 (.load none (.t 116))])
    (.cond (.t 117) (.reg none [
     ro 118 (.fieldA 1 (.t 8)),
     ro 119 (.load none (.t 118)),
     ro 120 (.fieldA 1 (.t 10)),
     ro 121 (.load none (.t 120)),
     rk 122 P08 [(.t 119),(.t 121)],
     ro 123 (.fieldA 1 (.t 8)),
     rn (.store 1 (.t 123) (.t 122))]) .skip))
    (.seq (.seq (.reg none [
     ro 124 (.fieldA 0 (.t 10)),
     ro 125 (.load none (.t 124))])
    (.cond (.t 125) (.reg none [
     ro 126 (.fieldA 2 (.t 8)),
     ro 127 (.load none (.t 126)),
     ro 128 (.fieldA 2 (.t 10)),
     ro 129 (.load none (.t 128)),
     rk 130 P08 [(.t 127),(.t 129)],
     ro 131 (.fieldA 2 (.t 8)),
     rn (.store 1 (.t 131) (.t 130))]) (.reg none [
     ro 132 (.fieldA 2 (.t 10)),
     ro 133 (.load none (.t 132)),
     ro 134 (.fieldA 2 (.t 8)),
     rn (.store 1 (.t 134) (.t 133))])))
    (.reg none [
     ro 135 (.fieldA 0 (.t 8)),
     ro 136 (.load none (.t 135)),
     rm 137 136,
     rg 138 137 true (.fieldA 0 (.t 10)),
     rg 139 137 true (.load none (.t 138)),
     ro 140 (.pick (.t 137) (.t 139) (.c (.v (.bool false)))),
     ro 141 (.fieldA 0 (.t 8)),
     rn (.store 1 (.t 141) (.t 140))]))))))
    (.reg none [
    rm 101 9,
    ro 102 (.bin .add (.t 101) (ci 1)),
    rm 9 102]))))
def Zr0(P02 P08:FuncId):AC :=
 (.loop (.seq (.seq (.reg none [
     rm 147 12,
     ro 148 (.fieldA 3 (.t 3)),
     ro 149 (.load none (.t 148)),
     ro 150 (.len (.t 149)),
     ro 151 (.bin .lss (.t 147) (.t 150))])
    (.cond (.t 151) .skip (.exit 5)))
    (.seq (.block 6 (.seq (.reg none [
     rm 154 0,
     ro 155 (.fieldA 3 (.t 3)),
     ro 156 (.load none (.t 155)),
     rm 157 12,
     ro 158 (.idxA 4 (.t 156) (.t 157)),
     ro 159 (.load (some 4) (.t 158)),
     rk 160 P02 [(.t 154),(.t 159)],
     ro 13 (.alloc (.agg [(.v (.bool false)),(.sl true []),(.sl true [])]) 3),
     rn (.store 3 (.t 13) (.t 160))])
     (.reg (some []) [
     ro 161 (.fieldA 0 (.t 11)),
     ro 162 (.load none (.t 161)),
     rm 163 162,
     rg 164 163 false (.fieldA 0 (.t 13)),
     rg 165 163 false (.load none (.t 164)),
     ro 166 (.pick (.t 163) (.c (.v (.bool true))) (.t 165)),
     ro 167 (.fieldA 1 (.t 11)),
     ro 168 (.load none (.t 167)),
     ro 169 (.fieldA 1 (.t 13)),
     ro 170 (.load none (.t 169)),
     rk 171 P08 [(.t 168),(.t 170)],
     ro 172 (.fieldA 2 (.t 11)),
     ro 173 (.load none (.t 172)),
     ro 174 (.fieldA 2 (.t 13)),
     ro 175 (.load none (.t 174)),
     rk 176 P08 [(.t 173),(.t 175)],
     ro 177 (.build (.agg [(.v (.bool false)),(.sl true []),(.sl true [])]) [(0,1),(1,1),(2,1)] [(0,(.t 166)),(1,(.t 171)),(2,(.t 176))]),
     rn (.store 3 (.t 11) (.t 177))])))
    (.reg none [
     rm 152 12,
     ro 153 (.bin .add (.t 152) (ci 1)),
     rm 12 153]))))
def Z0u(P05 P02 P0v P08 P2H:FuncId):AC :=
 (.seq (.reg none [
 ro 3 (.box 4 (.t 1)),
 ro 4 (.alloc (.agg [(.v (.bool false)),(.sl true []),(.sl true [])]) 3)])
 (.seq (.block 0 (.seq (.reg none [
  ro 16 (.fieldA 0 (.t 3)),
  ro 17 (.load none (.t 16)),
  ro 18 (.bin .eql (.t 17) (ci 1)),
  rm 15 18])
 (.cond (.t 15) (.seq (.reg none [
  ro 19 (.build (.agg [(.v (.bool false)),(.sl true []),(.sl true [])]) [(0,1)] [(0,(.c (.v (.bool true))))]),
  rn (.store 3 (.t 4) (.t 19))])
  .ret) (.seq (.reg none [
  ro 21 (.fieldA 0 (.t 3)),
  ro 22 (.load none (.t 21)),
  ro 23 (.bin .eql (.t 22) (ci 2)),
  rm 20 23])
  (.cond (.t 20) (.seq (.reg none [
   rm 24 0,
   ro 25 (.nilc (.t 24)),
   ro 26 (.fieldA 0 (.t 25)),
   ro 27 (.fieldA 1 (.t 26)),
   ro 28 (.load none (.t 27)),
   ro 29 (.len (.t 28)),
   rm 5 29])
  (.seq (.reg none [
   ro 6 (.mv (.c (.sl true [])))])
  (.seq (.seq (.reg none [
   ro 7 (.mv (ci 0))])
  (.block 1 (Zr1 P05)))
  (.seq (.reg (some [[],[],[],[],[],[],[],[],[],[false,false,false,false,false,false,false,true,true],[true],[false,true],[false,false,true],[false,false,false,true],[false,false,false,false,true],[false,false,false,false,false,true],[false,false,false,false,false,false,false,false,false,false,false,false,false,false,true,true],[],[],[],[false,false,false,false,false,false,false,false,false,false,false,false,false,false,false,false,false,false,true]]) [
   rm 63 0,
   rm 64 0,
   rm 65 0,
   ro 66 (.nilc (.t 65)),
   ro 67 (.fieldA 0 (.t 66)),
   ro 68 (.fieldA 1 (.t 67)),
   ro 69 (.load none (.t 68)),
   rm 70 6,
   ro 71 (.bslice 1 1 (.sl true []) [(0,(.t 70))]),
   ro 72 (.app 1 24 (.t 69) (.t 71)),
   rm 73 0,
   ro 74 (.nilc (.t 73)),
   ro 75 (.fieldA 0 (.t 74)),
   ro 76 (.fieldA 2 (.t 75)),
   ro 77 (.load none (.t 76)),
   ro 78 (.bslice 1 1 (.sl true []) [(0,(.c (.sl true [])))]),
   ro 79 (.app 1 24 (.t 77) (.t 78)),
   ro 80 (.nilc (.t 63)),
   ro 81 (.fieldA 0 (.t 80)),
   ro 82 (.fieldA 1 (.t 81)),
   rn (.store 1 (.t 82) (.t 72)),
   ro 83 (.nilc (.t 64)),
   ro 84 (.fieldA 0 (.t 83)),
   ro 85 (.fieldA 2 (.t 84)),
   rn (.store 1 (.t 85) (.t 79))])
  (.seq (.reg none [
   rm 86 5,
   ro 87 (.bslice 1 1 (.v (.int .i64 0)) [(0,(.t 86))]),
   rm 88 5,
   ro 89 (.bslice 1 1 (.v (.int .i64 0)) [(0,(.t 88))]),
   ro 90 (.build (.agg [(.v (.bool false)),(.sl true []),(.sl true [])]) [(1,1),(2,1)] [(1,(.t 87)),(2,(.t 89))]),
   rn (.store 3 (.t 4) (.t 90))])
  .ret))))) (.seq (.reg none [
   ro 92 (.fieldA 0 (.t 3)),
   ro 93 (.load none (.t 92)),
   ro 94 (.bin .eql (.t 93) (ci 3)),
   rm 91 94])
  (.cond (.t 91) (.seq (.reg none [
   ro 95 (.build (.agg [(.v (.bool false)),(.sl true []),(.sl true [])]) [(0,1)] [(0,(.c (.v (.bool true))))]),
   ro 8 (.alloc (.agg [(.v (.bool false)),(.sl true []),(.sl true [])]) 3),
   rn (.store 3 (.t 8) (.t 95))])
   (.seq (.seq (.reg none [
   ro 9 (.mv (ci 0))])
   (.block 3 (ZqZ P02 P0v P08)))
   (.seq (.reg none [
   ro 142 (.load (some 3) (.t 8)),
   rn (.store 3 (.t 4) (.t 142))])
   .ret))) (.seq (.reg none [
   ro 144 (.fieldA 0 (.t 3)),
   ro 145 (.load none (.t 144)),
   ro 146 (.bin .eql (.t 145) (ci 4)),
   rm 143 146])
   (.cond (.t 143) (.seq (.reg none [
    ro 11 (.alloc (.agg [(.v (.bool false)),(.sl true []),(.sl true [])]) 3)])
   (.seq (.seq (.reg none [
    ro 12 (.mv (ci 0))])
   (.block 5 (Zr0 P02 P08)))
   (.seq (.reg none [
    ro 178 (.load (some 3) (.t 11)),
    rn (.store 3 (.t 4) (.t 178))])
   .ret))) (.seq (.reg none [
    ro 180 (.fieldA 0 (.t 3)),
    ro 181 (.load none (.t 180)),
    ro 182 (.bin .eql (.t 181) (ci 5)),
    rm 183 182,
    rg 184 183 false (.fieldA 0 (.t 3)),
    rg 185 183 false (.load none (.t 184)),
    rg 186 183 false (.bin .eql (.t 185) (ci 6)),
    ro 187 (.pick (.t 183) (.c (.v (.bool true))) (.t 186)),
    rm 188 187,
    rg 189 188 false (.fieldA 0 (.t 3)),
    rg 190 188 false (.load none (.t 189)),
    rg 191 188 false (.bin .eql (.t 190) (ci 7)),
    ro 192 (.pick (.t 188) (.c (.v (.bool true))) (.t 191)),
    rm 193 192,
    rg 194 193 true (.fieldA 3 (.t 3)),
    rg 195 193 true (.load none (.t 194)),
    rg 196 193 true (.len (.t 195)),
    rg 197 193 true (.bin .eql (.t 196) (ci 1)),
    ro 198 (.pick (.t 193) (.t 197) (.c (.v (.bool false)))),
    rm 179 198])
   (.cond (.t 179) (.seq (.reg none [
    rm 199 0,
    ro 200 (.fieldA 3 (.t 3)),
    ro 201 (.load none (.t 200)),
    ro 202 (.idxA 4 (.t 201) (ci 0)),
    ro 203 (.load (some 4) (.t 202)),
    rk 204 P02 [(.t 199),(.t 203)],
    ro 14 (.alloc (.agg [(.v (.bool false)),(.sl true []),(.sl true [])]) 3),
    rn (.store 3 (.t 14) (.t 204))])
    (.seq (.seq (.reg none [
    ro 205 (.fieldA 0 (.t 3)),
    ro 206 (.load none (.t 205)),
    ro 207 (.bin .neq (.t 206) (ci 7))])
    (.cond (.t 207) (.reg none [
     rm 208 0,
     ro 209 (.fieldA 2 (.t 14)),
     ro 210 (.load none (.t 209)),
     ro 211 (.fieldA 1 (.t 14)),
     ro 212 (.load none (.t 211)),
     rk 213 P0v [(.t 208),(.t 210),(.t 212)]]) .skip))
    (.seq (.reg none [
    ro 214 (.fieldA 0 (.t 14)),
    ro 215 (.load none (.t 214)),
    rm 216 215,
    rg 217 216 false (.fieldA 0 (.t 3)),
    rg 218 216 false (.load none (.t 217)),
    rg 219 216 false (.bin .neq (.t 218) (ci 6)),
    ro 220 (.pick (.t 216) (.c (.v (.bool true))) (.t 219)),
    ro 221 (.fieldA 1 (.t 14)),
    ro 222 (.load none (.t 221)),
    ro 223 (.fieldA 2 (.t 14)),
    ro 224 (.load none (.t 223)),
    ro 225 (.build (.agg [(.v (.bool false)),(.sl true []),(.sl true [])]) [(0,1),(1,1),(2,1)] [(0,(.t 220)),(1,(.t 222)),(2,(.t 224))]),
    rn (.store 3 (.t 4) (.t 225))])
    .ret))) .skip)))))))))))
 (.seq (.reg none [
 rm 226 0,
 ro 227 (.load (some 4) (.t 3)),
 rk 228 P2H [(.t 226),(.t 227)],
 rn (.store 3 (.t 4) (.t 228))])
 .ret)))
structure Zfu(P:Program)(sg:Int)(ff fp fb fa fr:FuncId):Prop where
 sg4:sg≤400
 put:Zvk P fp
 all:ZvH P fa
 behind:∀(ss be:List Int) (st:Gs),StN st→UpN st.by_.length ss→UpN st.by_.length be→st.by_.length≤10000→Z52 P fb [Z03 ss,Z03 be] sg true st ⟨st.by_,Z6k st.fo ss be⟩ (.tup [])
 rest:∀(k0:Int) (ps:List Rg) (pg:List Int) (ks:List Pat),ks.length≤100000→(∀q∈ks,Z8P P ff sg q)→∀(st:Gs),StN st→st.by_.length+Z76 ks≤10000→Z52 P fr [Z1s (.mk k0 ps pg ks)] sg true st (Z6m sg ks st).2 (Z1r (ed0 false))
def gfI(_:Nat)(_:Unit):Prop:=True
def gsA(sg:Int)(st:Gs)(pg:List Int)(k:Nat)(_:Unit):List (Nat×AV):=[(0,.ptr 0 0 0),(3,.ptr 5 0 0),(4,.ptr 6 0 0),(5,Z06 st.by_.length),(6,Z03 (((pg.take k).filter (kpI sg)).foldl Z7K [])),(7,Z06 k)]
def gsG(sg:Int)(st:Gs)(p:Pat)(_:Nat)(_:Unit):List (Nat×Option Blk):=(5,some (.arr 4 [Z1s p]))::(6,some (.arr 3 [Z1r (ed0 false)]))::mG sg true st 0 3 4
def gjA(k:Nat)(_:Unit):List (Nat×AV):=[(0,.ptr 0 0 0),(3,.ptr 5 0 0),(4,.ptr 6 0 0),(8,.ptr 7 0 0),(9,Z06 k)]
def gjG(sg:Int)(st:Gs)(p:Pat)(ks:List Pat)(k:Nat)(_:Unit):List (Nat×Option Blk) :=
 (5,some (.arr 4 [Z1s p]))::(6,some (.arr 3 [Z1r (ed0 false)]))::(7,some (.arr 3 [Z1r (Z64 sg (ks.take k) (ed0 true) st).1]))::mG sg true (Z64 sg (ks.take k) (ed0 true) st).2 0 3 4
def goA(k:Nat)(_:Unit):List (Nat×AV):=[(0,.ptr 0 0 0),(3,.ptr 5 0 0),(4,.ptr 6 0 0),(11,.ptr 7 0 0),(12,Z06 k)]
def goG(sg:Int)(st:Gs)(p:Pat)(ks:List Pat)(k:Nat)(_:Unit):List (Nat×Option Blk) :=
 (5,some (.arr 4 [Z1s p]))::(6,some (.arr 3 [Z1r (ed0 false)]))::(7,some (.arr 3 [Z1r (dor sg (ks.take k) (ed0 false) st).1]))::mG sg true (dor sg (ks.take k) (ed0 false) st).2 0 3 4
theorem Zsu{es:List Ed}{k:Int}{st:Gs}(h:¬((k=5∨k=6∨k=7)∧es.length=1)):ZbF es k st=(⟨false,[],[]⟩,st):=by
 match es,h with
 | [],_=>rfl
 | [e],h=>simp only[ZbF];rw[if_neg (by simp at h;omega)]
 | _::_::_,_=>rfl
theorem Zly{P:Program}(hm:P.follows .mixedOrders=true){sg:Int}{ff fp fb fa fr:FuncId}(F:Zfu P sg ff fp fb fa fr)(h:IsC P ff (Z0u fp ff fb fa fr) [.c 4 (some 3)] 2)
  {k:Int} {ps:List Rg} {pg:List Int} {ks:List Pat} (hks:ks.length≤100000) (hpg:pg.length≤17592186043904) (hq:∀q∈ks,Z8P P ff sg q) (k1:¬k=1) (k2:¬k=2) (k3:¬k=3) (k4:¬k=4):Z8P P ff sg (.mk k ps pg ks):=by
 intro st hst hb;have hbl:st.by_.length≤10000:=by omega
 have hcp:=Z5F k ps pg ks;refine h.P2D hm rfl ?_;have k1':(k == 1)=false:=by simpa using k1
 have k2':(k == 2)=false:=by simpa using k2
 have k3':(k == 3)=false:=by simpa using k3
 have k4':(k == 4)=false:=by simpa using k4
 have hcn:Z79 (.mk k ps pg ks)=Z76 ks:=by simp only[Z79];rw[if_neg k1,if_neg k2]
 have hres:Z35 sg (.mk k ps pg ks) st=ZbF (Z6m sg ks st).1 k (Z6m sg ks st).2:=by simp[Z35,k1,k2,k3,k4]
 have hR:=F.rest k ps pg ks hks hq st hst (by omega);simp only[Z0d,Z06] at hR;have hdl:(Z6m sg ks st).1.length=ks.length:=by rw[ZcK sg ks st hst.ok];exact Z9u sg ks st
 by_cases h57:(k=5∨k=6∨k=7)∧ks.length=1
 ·obtain⟨h57,hk1⟩:=h57
  obtain⟨q,rfl⟩:=List.length_eq_one_iff.mp hk1;have hcq:Z76 [q]=Z79 q:=by simp[Z76]
  obtain⟨m1,m2,m3⟩:=Zdy sg q st hst;have hqk:=hq q (by simp) st hst (by omega);have hde:Z6m sg [q] st=([(Z35 sg q st).1],(Z35 sg q st).2):=by simp[Z6m]
  rw[hde] at hres;obtain⟨pk,qs,qg,pks⟩:=q;simp only[Z0d,Z06] at hqk;have hck:=Z5F pk qs qg pks;generalize hfm:Z35 sg (.mk pk qs qg pks) st=fm at *;obtain⟨e,st1⟩:=fm;simp only at m1 m2 m3 hqk hres;have hbb:=F.behind e.lst e.fst st1 m1 m2.l m2.f (by omega);rcases h57 with rfl | rfl | rfl
  ·simp[Z0u,Z0d,mG,Z0N,Z0b]
   refine Z52.use hqk (fun _=>.cl (Z01 hck Z0a)) (Z2W _) (id:=0) (b:=1) (c:=2) (by simp[Z0N,Z2G]) (by simp[Z1S]) (by simp[Z1S]) (by simp) (by simp) ?_;simp[Z7v,Z0N,Z0b,Z0n,Z18];refine Z52.use hbb (fun _=>.cl (Z01 (Z02 _) (Z01 (Z02 _) Z0a))) (.tup _ (by simp)) (id:=0) (b:=49) (c:=50) (by simp[Z0N,Z2G]) (by simp[Z1S]) (by simp[Z1S]) (by simp) (by simp) ?_;cases hn:e.nul
   ·have hres2:Z35 sg (.mk 5 ps pg [.mk pk qs qg pks]) st=(⟨true,e.fst,e.lst⟩,⟨st1.by_,Z6k st1.fo e.lst e.fst⟩):=by rw[hres];simp[ZbF,hn]
    simp[Z7v,Z0N,Z0w,Z1t,Z0n,Z18,hn,Z86];refine⟨Z6h [(4,.ptr 5 0 0)],⟨10,gOf (mG sg true ⟨st1.by_,Z6k st1.fo e.lst e.fst⟩ 0 3 4++[(5,some (.arr 3 [Z1r ⟨true,e.fst,e.lst⟩]))])⟩,Abs.of [(0,0),(3,65),(4,66),(5,4)] [] (by omega) ⟨by simp,by simp⟩ ?_ ?_,?_⟩
    ·simp[Z2G,Z4k,Z1S,Z4B,mG,Z0N,Z1r]
    ·simp[Z2G,Z4k,Z1S,Z4B]
    ·simp[Z2L,evC,RV.ev,ldC,Z1b,Z5l,Z0n,Z54,hres2]
     first | exact .of | exact⟨rfl,.of⟩
   ·have hres2:Z35 sg (.mk 5 ps pg [.mk pk qs qg pks]) st=(⟨true,e.fst,e.lst⟩,⟨st1.by_,Z6k st1.fo e.lst e.fst⟩):=by rw[hres];simp[ZbF,hn]
    simp[Z7v,Z0N,Z0w,Z1t,Z0n,Z18,hn,Z86];refine⟨Z6h [(4,.ptr 5 0 0)],⟨10,gOf (mG sg true ⟨st1.by_,Z6k st1.fo e.lst e.fst⟩ 0 3 4++[(5,some (.arr 3 [Z1r ⟨true,e.fst,e.lst⟩]))])⟩,Abs.of [(0,0),(3,65),(4,66),(5,4)] [] (by omega) ⟨by simp,by simp⟩ ?_ ?_,?_⟩
    ·simp[Z2G,Z4k,Z1S,Z4B,mG,Z0N,Z1r]
    ·simp[Z2G,Z4k,Z1S,Z4B]
    ·simp[Z2L,evC,RV.ev,ldC,Z1b,Z5l,Z0n,Z54,hres2]
     first | exact .of | exact⟨rfl,.of⟩
  ·simp[Z0u,Z0d,mG,Z0N,Z0b]
   refine Z52.use hqk (fun _=>.cl (Z01 hck Z0a)) (Z2W _) (id:=0) (b:=1) (c:=2) (by simp[Z0N,Z2G]) (by simp[Z1S]) (by simp[Z1S]) (by simp) (by simp) ?_;simp[Z7v,Z0N,Z0b,Z0n,Z18];refine Z52.use hbb (fun _=>.cl (Z01 (Z02 _) (Z01 (Z02 _) Z0a))) (.tup _ (by simp)) (id:=0) (b:=49) (c:=50) (by simp[Z0N,Z2G]) (by simp[Z1S]) (by simp[Z1S]) (by simp) (by simp) ?_;cases hn:e.nul
   ·have hres2:Z35 sg (.mk 6 ps pg [.mk pk qs qg pks]) st=(⟨false,e.fst,e.lst⟩,⟨st1.by_,Z6k st1.fo e.lst e.fst⟩):=by rw[hres];simp[ZbF,hn]
    simp[Z7v,Z0N,Z0w,Z1t,Z0n,Z18,hn,Z86];refine⟨Z6h [(4,.ptr 5 0 0)],⟨10,gOf (mG sg true ⟨st1.by_,Z6k st1.fo e.lst e.fst⟩ 0 3 4++[(5,some (.arr 3 [Z1r ⟨false,e.fst,e.lst⟩]))])⟩,Abs.of [(0,0),(3,65),(4,66),(5,4)] [] (by omega) ⟨by simp,by simp⟩ ?_ ?_,?_⟩
    ·simp[Z2G,Z4k,Z1S,Z4B,mG,Z0N,Z1r]
    ·simp[Z2G,Z4k,Z1S,Z4B]
    ·simp[Z2L,evC,RV.ev,ldC,Z1b,Z5l,Z0n,Z54,hres2]
     first | exact .of | exact⟨rfl,.of⟩
   ·have hres2:Z35 sg (.mk 6 ps pg [.mk pk qs qg pks]) st=(⟨true,e.fst,e.lst⟩,⟨st1.by_,Z6k st1.fo e.lst e.fst⟩):=by rw[hres];simp[ZbF,hn]
    simp[Z7v,Z0N,Z0w,Z1t,Z0n,Z18,hn,Z86];refine⟨Z6h [(4,.ptr 5 0 0)],⟨10,gOf (mG sg true ⟨st1.by_,Z6k st1.fo e.lst e.fst⟩ 0 3 4++[(5,some (.arr 3 [Z1r ⟨true,e.fst,e.lst⟩]))])⟩,Abs.of [(0,0),(3,65),(4,66),(5,4)] [] (by omega) ⟨by simp,by simp⟩ ?_ ?_,?_⟩
    ·simp[Z2G,Z4k,Z1S,Z4B,mG,Z0N,Z1r]
    ·simp[Z2G,Z4k,Z1S,Z4B]
    ·simp[Z2L,evC,RV.ev,ldC,Z1b,Z5l,Z0n,Z54,hres2]
     first | exact .of | exact⟨rfl,.of⟩
  ·simp[Z0u,Z0d,mG,Z0N,Z0b]
   refine Z52.use hqk (fun _=>.cl (Z01 hck Z0a)) (Z2W _) (id:=0) (b:=1) (c:=2) (by simp[Z0N,Z2G]) (by simp[Z1S]) (by simp[Z1S]) (by simp) (by simp) ?_;simp[Z7v,Z0N,Z0b,Z0n,Z18];cases hn:e.nul
   ·have hres2:Z35 sg (.mk 7 ps pg [.mk pk qs qg pks]) st=(⟨true,e.fst,e.lst⟩,st1):=by rw[hres];simp[ZbF,hn]
    simp[Z7v,Z0N,Z0w,Z1t,Z0n,Z18,hn,Z86];refine⟨Z6h [(4,.ptr 5 0 0)],⟨10,gOf (mG sg true st1 0 3 4++[(5,some (.arr 3 [Z1r ⟨true,e.fst,e.lst⟩]))])⟩,Abs.of [(0,0),(3,49),(4,50),(5,4)] [] (by omega) ⟨by simp,by simp⟩ ?_ ?_,?_⟩
    ·simp[Z2G,Z4k,Z1S,Z4B,mG,Z0N,Z1r]
    ·simp[Z2G,Z4k,Z1S,Z4B]
    ·simp[Z2L,evC,RV.ev,ldC,Z1b,Z5l,Z0n,Z54,hres2]
     first | exact .of | exact⟨rfl,.of⟩
   ·have hres2:Z35 sg (.mk 7 ps pg [.mk pk qs qg pks]) st=(⟨true,e.fst,e.lst⟩,st1):=by rw[hres];simp[ZbF,hn]
    simp[Z7v,Z0N,Z0w,Z1t,Z0n,Z18,hn,Z86];refine⟨Z6h [(4,.ptr 5 0 0)],⟨10,gOf (mG sg true st1 0 3 4++[(5,some (.arr 3 [Z1r ⟨true,e.fst,e.lst⟩]))])⟩,Abs.of [(0,0),(3,49),(4,50),(5,4)] [] (by omega) ⟨by simp,by simp⟩ ?_ ?_,?_⟩
    ·simp[Z2G,Z4k,Z1S,Z4B,mG,Z0N,Z1r]
    ·simp[Z2G,Z4k,Z1S,Z4B]
    ·simp[Z2L,evC,RV.ev,ldC,Z1b,Z5l,Z0n,Z54,hres2]
     first | exact .of | exact⟨rfl,.of⟩
 ·have hres2:Z35 sg (.mk k ps pg ks) st=(ed0 false,(Z6m sg ks st).2):=by
   rw[hres,Zsu]
   ·rfl
   ·rw[hdl];omega
  by_cases hk1:ks.length=1
  ·have m5:¬k=5:=by omega
   have m6:¬k=6:=by omega
   have m7:¬k=7:=by omega
   have k5':(k == 5)=false:=by simpa using m5
   have k6':(k == 6)=false:=by simpa using m6
   have k7':(k == 7)=false:=by simpa using m7
   simp[Z0u,Z0d,mG,Z0N,Z0b,k1',k2',k3',k4',k5',k6',k7'];refine Z52.use hR (fun _=>.cl (Z01 hcp Z0a)) (Z2W _) (id:=0) (b:=1) (c:=2) (by simp[Z0N,Z2G]) (by simp[Z1S]) (by simp[Z1S]) (by simp) (by simp) ?_;simp[Z7v,Z0N,Z0n,Z18,Z86];refine⟨Z6h [(4,.ptr 5 0 0)],⟨10,gOf (mG sg true (Z6m sg ks st).2 0 3 4++[(5,some (.arr 3 [Z1r (ed0 false)]))])⟩,Abs.of [(0,0),(3,45),(4,46),(5,4)] [] (by omega) ⟨by simp,by simp⟩ ?_ ?_,?_⟩
   ·simp[Z2G,Z4k,Z1S,Z4B,mG,Z0N,Z1r]
   ·simp[Z2G,Z4k,Z1S,Z4B]
   ·simp[Z2L,evC,RV.ev,ldC,Z1b,Z5l,Z0n,Z54,hres2]
    first | exact .of | exact⟨rfl,.of⟩
  ·have hk2:((ks.length:Int) == 1)=false:=by simp;omega
   have hk3:¬((ks.length:Int)=1):=by omega
   by_cases m5:k=5
   ·subst m5
    simp[Z0u,Z0d,mG,Z0N,Z0b,hk1,hk2,hk3];refine Z52.use hR (fun _=>.cl (Z01 hcp Z0a)) (Z2W _) (id:=0) (b:=1) (c:=2) (by simp[Z0N,Z2G]) (by simp[Z1S]) (by simp[Z1S]) (by simp) (by simp) ?_;simp[Z7v,Z0N,Z0n,Z18,Z86];refine⟨Z6h [(4,.ptr 5 0 0)],⟨10,gOf (mG sg true (Z6m sg ks st).2 0 3 4++[(5,some (.arr 3 [Z1r (ed0 false)]))])⟩,Abs.of [(0,0),(3,45),(4,46),(5,4)] [] (by omega) ⟨by simp,by simp⟩ ?_ ?_,?_⟩
    ·simp[Z2G,Z4k,Z1S,Z4B,mG,Z0N,Z1r]
    ·simp[Z2G,Z4k,Z1S,Z4B]
    ·simp[Z2L,evC,RV.ev,ldC,Z1b,Z5l,Z0n,Z54,hres2]
     first | exact .of | exact⟨rfl,.of⟩
   have k5':(k == 5)=false:=by simpa using m5
   by_cases m6:k=6
   ·subst m6
    simp[Z0u,Z0d,mG,Z0N,Z0b,hk1,hk2,hk3];refine Z52.use hR (fun _=>.cl (Z01 hcp Z0a)) (Z2W _) (id:=0) (b:=1) (c:=2) (by simp[Z0N,Z2G]) (by simp[Z1S]) (by simp[Z1S]) (by simp) (by simp) ?_;simp[Z7v,Z0N,Z0n,Z18,Z86];refine⟨Z6h [(4,.ptr 5 0 0)],⟨10,gOf (mG sg true (Z6m sg ks st).2 0 3 4++[(5,some (.arr 3 [Z1r (ed0 false)]))])⟩,Abs.of [(0,0),(3,45),(4,46),(5,4)] [] (by omega) ⟨by simp,by simp⟩ ?_ ?_,?_⟩
    ·simp[Z2G,Z4k,Z1S,Z4B,mG,Z0N,Z1r]
    ·simp[Z2G,Z4k,Z1S,Z4B]
    ·simp[Z2L,evC,RV.ev,ldC,Z1b,Z5l,Z0n,Z54,hres2]
     first | exact .of | exact⟨rfl,.of⟩
   have k6':(k == 6)=false:=by simpa using m6
   by_cases m7:k=7
   ·subst m7
    simp[Z0u,Z0d,mG,Z0N,Z0b,hk1,hk2,hk3];refine Z52.use hR (fun _=>.cl (Z01 hcp Z0a)) (Z2W _) (id:=0) (b:=1) (c:=2) (by simp[Z0N,Z2G]) (by simp[Z1S]) (by simp[Z1S]) (by simp) (by simp) ?_;simp[Z7v,Z0N,Z0n,Z18,Z86];refine⟨Z6h [(4,.ptr 5 0 0)],⟨10,gOf (mG sg true (Z6m sg ks st).2 0 3 4++[(5,some (.arr 3 [Z1r (ed0 false)]))])⟩,Abs.of [(0,0),(3,45),(4,46),(5,4)] [] (by omega) ⟨by simp,by simp⟩ ?_ ?_,?_⟩
    ·simp[Z2G,Z4k,Z1S,Z4B,mG,Z0N,Z1r]
    ·simp[Z2G,Z4k,Z1S,Z4B]
    ·simp[Z2L,evC,RV.ev,ldC,Z1b,Z5l,Z0n,Z54,hres2]
     first | exact .of | exact⟨rfl,.of⟩
   have k7':(k == 7)=false:=by simpa using m7
   simp[Z0u,Z0d,mG,Z0N,Z0b,k1',k2',k3',k4',k5',k6',k7'];refine Z52.use hR (fun _=>.cl (Z01 hcp Z0a)) (Z2W _) (id:=0) (b:=1) (c:=2) (by simp[Z0N,Z2G]) (by simp[Z1S]) (by simp[Z1S]) (by simp) (by simp) ?_;simp[Z7v,Z0N,Z0n,Z18,Z86];refine⟨Z6h [(4,.ptr 5 0 0)],⟨10,gOf (mG sg true (Z6m sg ks st).2 0 3 4++[(5,some (.arr 3 [Z1r (ed0 false)]))])⟩,Abs.of [(0,0),(3,45),(4,46),(5,4)] [] (by omega) ⟨by simp,by simp⟩ ?_ ?_,?_⟩
   ·simp[Z2G,Z4k,Z1S,Z4B,mG,Z0N,Z1r]
   ·simp[Z2G,Z4k,Z1S,Z4B]
   ·simp[Z2L,evC,RV.ev,ldC,Z1b,Z5l,Z0n,Z54,hres2]
    first | exact .of | exact⟨rfl,.of⟩
theorem Zlz{P:Program}(hm:P.follows .mixedOrders=true){sg:Int}{ff fp fb fa fr:FuncId}(F:Zfu P sg ff fp fb fa fr)(h:IsC P ff (Z0u fp ff fb fa fr) [.c 4 (some 3)] 2)
  {k:Int} {ps:List Rg} {pg:List Int} {ks:List Pat} (hks:ks.length≤100000) (hpg:pg.length≤17592186043904) (hq:∀q∈ks,Z8P P ff sg q):Z8P P ff sg (.mk k ps pg ks):=by
 intro st hst hb;have hbl:st.by_.length≤10000:=by omega
 have hcp:=Z5F k ps pg ks;by_cases k1:k=1
 ·subst k1
  refine h.P2D hm rfl ?_;have hres:Z35 sg (.mk 1 ps pg ks) st=(⟨true,[],[]⟩,st):=by simp[Z35]
  simp[Z0u,Z0d,mG,Z0N,Z0b,Z0w,Z1t,Z86];refine⟨Z6h [(4,.ptr 5 0 0)],⟨10,gOf (mG sg true st 0 3 4++[(5,some (.arr 3 [Z1r ⟨true,[],[]⟩]))])⟩,Abs.of [(0,0),(3,1),(4,2),(5,4)] [] (by omega) ⟨by simp,by simp⟩ ?_ ?_,?_⟩
  ·simp[Z2G,Z4k,Z1S,Z4B,mG,Z0N,Z1r]
   exact .loose (by simp)
  ·simp[Z2G,Z4k,Z1S,Z4B]
  ·simp[Z2L,evC,RV.ev,ldC,Z1b,Z5l,Z0n,Z54,hres]
   first | exact .of | exact⟨rfl,.of⟩
 have k1':(k == 1)=false:=by simpa using k1
 by_cases k2:k=2
 ·subst k2
  refine h.P2D hm rfl ?_;have hres:Z35 sg (.mk 2 ps pg ks) st=(⟨false,[(st.by_.length:Int)],[(st.by_.length:Int)]⟩,⟨st.by_++[ZaG sg pg],st.fo++[[]]⟩):=by simp[Z35]
  simp[Z0u,Z0d,mG,Z0N,Z0b,Z0w,Z1t,Z47,Zr1];refine Z2D pg.length gfI (gsA sg st pg) 10 (gsG sg st (.mk 2 ps pg ks)) () trivial ?_ ?_
  ·refine Abs.of [(0,0),(3,1),(4,2),(5,3),(6,4)] [] (by omega) ⟨by simp,by simp⟩ ?_ ?_
   ·simp[Z2G,Z4k,Z1S,Z4B,gsG,mG,Z0N,ed0,Z1r,Z0d,Z4S,Z2h]
    exact .loose (by simp)
   ·simp[Z2G,Z4k,Z1S,Z4B,gsA]
    exact .loose (by simp)
  ·rintro i _ hi _
   by_cases hlt:i < pg.length
   ·have hsk:pg[i]? = some pg[i]:=List.getElem?_eq_getElem hlt
    have hsd:pg.getD i 0=pg[i]:=Zrh hlt;have htk:pg.take (i+1)=pg.take i++[pg[i]]:=by rw[List.take_add_one,hsk];rfl
    have hfo:((pg.take (i+1)).filter (kpI sg)).foldl Z7K []=if kpI sg pg[i]=true then Z7K (((pg.take i).filter (kpI sg)).foldl Z7K []) pg[i] else ((pg.take i).filter (kpI sg)).foldl Z7K []:=by
     rw[htk,List.filter_append,List.foldl_append];by_cases hkp:kpI sg pg[i]=true
     ·rw[if_pos hkp];simp[hkp]
     ·rw[if_neg hkp];simp[hkp]
    have hle:(((pg.take i).filter (kpI sg)).foldl Z7K []).length≤100000:=by
     have s4:=F.sg4;rw[ZiT Zco]
     have hu:UpN 400 (Z6l ([]++(pg.take i).filter (kpI sg))):=⟨⟨Z8r _,fun x hx=>by
      rw[Z4o,List.mem_append] at hx;rcases hx with hx | hx
      ·simp at hx
      ·have:=(List.mem_filter.mp hx).2;simp[kpI] at this;exact this.1⟩,fun x hx=>by
      rw[Z4o,List.mem_append] at hx;rcases hx with hx | hx
      ·simp at hx
      ·have:=(List.mem_filter.mp hx).2;simp[kpI] at this;omega⟩
     have:=hu.len;omega
    have hput:=F.put (((pg.take i).filter (kpI sg)).foldl Z7K []) pg[i] (by omega);generalize hgv:pg[i]=v at *;have fin:∀(f:AF) (S:St),(∀(acc:List Int),acc=((pg.take (i+1)).filter (kpI sg)).foldl Z7K []→True)→True:=fun _ _ _=>trivial
    by_cases h1:0≤v
    ·by_cases h2:v < sg
     ·have hkp:kpI sg v=true:=by simp[kpI,h1,h2]
      rw[if_pos hkp] at hfo;simp[gsA,gsG,mG,Z0N,hlt,hsd,hgv,h1,h2,Z0d,Z47];refine Z0x.pure hput (Z01 (Z02 _) (Z01 (Z04 _) Z0a)) (Z02 _) ?_;simp;rw[Z0m _ (by omega)];refine⟨hlt,(),trivial,Abs.of [(0,0),(3,3),(4,4),(5,5),(6,6)] [] (by omega) ⟨by simp,by simp⟩ ?_ ?_⟩
      ·simp[Z2G,Z4k,Z1S,Z4B,gsG,mG,Z0N,Z0d,Z4S,Z2h,Z2W]
      ·simp[Z2G,Z4k,Z1S,Z4B,gsA,hfo]
     ·have hkp:¬kpI sg v=true:=by simp[kpI,h2]
      rw[if_neg hkp] at hfo;simp[gsA,gsG,mG,Z0N,hlt,hsd,hgv,h1,h2,Z0d,Z47];rw[Z0m _ (by omega)];refine⟨hlt,(),trivial,Abs.of [(0,0),(3,3),(4,4),(5,5),(6,6)] [] (by omega) ⟨by simp,by simp⟩ ?_ ?_⟩
      ·simp[Z2G,Z4k,Z1S,Z4B,gsG,mG,Z0N,Z0d,Z4S,Z2h,Z2W]
      ·simp[Z2G,Z4k,Z1S,Z4B,gsA,hfo]
    ·have hkp:¬kpI sg v=true:=by simp[kpI,h1]
     rw[if_neg hkp] at hfo;simp[gsA,gsG,mG,Z0N,hlt,hsd,hgv,h1,Z0d,Z47];rw[Z0m _ (by omega)];refine⟨hlt,(),trivial,Abs.of [(0,0),(3,3),(4,4),(5,5),(6,6)] [] (by omega) ⟨by simp,by simp⟩ ?_ ?_⟩
     ·simp[Z2G,Z4k,Z1S,Z4B,gsG,mG,Z0N,Z0d,Z4S,Z2h,Z2W]
     ·simp[Z2G,Z4k,Z1S,Z4B,gsA,hfo]
   ·have hke:i=pg.length:=by omega
    subst hke;have hlf:(pg.filter (kpI sg)).foldl Z7K []=ZaG sg pg:=ZhF _;have ok1:Z1K 24 st.by_.length 1:=by unfold Z1K;omega
    have ok2:Z1K 24 st.fo.length 1:=by unfold Z1K;have:=hst.len;omega
    simp[gsA,gsG,mG,Z0N,hlf,ok1,ok2,Z47,Z0w,Z1t,Z0d,Z0n,Z86];refine⟨Z6h [(4,.ptr 5 0 0)],⟨10,gOf (mG sg true ⟨st.by_++[ZaG sg pg],st.fo++[[]]⟩ 0 3 4++[(5,some (.arr 3 [Z1r ⟨false,[(st.by_.length:Int)],[(st.by_.length:Int)]⟩]))])⟩,Abs.of [(0,0),(3,24),(4,31),(5,6)] [] (by omega) ⟨by simp,by simp⟩ ?_ ?_,?_⟩
    ·simp[Z2G,Z4k,Z1S,Z4B,mG,Z0N,Z1r]
     refine⟨?_,?_⟩<;>first | exact .loose (Z01 (Z3r _) Z0a) | exact .loose (by simp)
    ·simp[Z2G,Z4k,Z1S,Z4B]
    ·simp[Z2L,evC,RV.ev,ldC,Z1b,Z5l,Z0n,Z54,hres]
     first | exact .of | exact⟨rfl,.of⟩
 have k2':(k == 2)=false:=by simpa using k2
 have hcn:Z79 (.mk k ps pg ks)=Z76 ks:=by simp only[Z79];rw[if_neg k1,if_neg k2]
 by_cases k3:k=3
 ·subst k3
  refine h.P2D hm rfl ?_;simp[Z0u,Z0d,mG,Z0N,Z0b,Z0w,Z1t,Z47,ZqZ];have hres:Z35 sg (.mk 3 ps pg ks) st=Z64 sg ks (ed0 true) st:=by simp[Z35,ed0]
  refine Z2D ks.length gfI gjA 10 (gjG sg st (.mk 3 ps pg ks) ks) () trivial ?_ ?_
  ·refine Abs.of [(0,0),(3,1),(4,2),(5,3),(6,4),(7,18)] [] (by omega) ⟨by simp,by simp⟩ ?_ ?_
   ·simp[Z2G,Z4k,Z1S,Z4B,gjG,mG,Z0N,ed0,Z1r,Z64,Z0d,Z4S,Z2h]
    exact .loose (by simp)
   ·simp[Z2G,Z4k,Z1S,Z4B,gjA]
  ·rintro i _ hi _
   by_cases hlt:i < ks.length
   ·have hsk:ks[i]? = some ks[i]:=List.getElem?_eq_getElem hlt
    have htk:ks.take (i+1)=ks.take i++[ks[i]]:=by rw[List.take_add_one,hsk];rfl
    have hsn:=ZeR sg (ks.take i) ks[i] (ed0 true) st;rw[←htk] at hsn;obtain⟨n1,n2,n3⟩:=Znk sg (ks.take i) (ed0 true) st hst ⟨UpN.nil,UpN.nil⟩;have hcl:=Zdv hlt;obtain⟨m1,m2,m3⟩:=Zdy sg ks[i] (Z64 sg (ks.take i) (ed0 true) st).2 n1;have hqk:=hq _ (List.getElem_mem hlt) (Z64 sg (ks.take i) (ed0 true) st).2 n1 (by omega);have hbb:=F.behind (Z64 sg (ks.take i) (ed0 true) st).1.lst (Z35 sg ks[i] (Z64 sg (ks.take i) (ed0 true) st).2).1.fst (Z35 sg ks[i] (Z64 sg (ks.take i) (ed0 true) st).2).2 m1 (n2.l.mono (by omega)) m2.f (by omega);rcases hpq:ks[i] with⟨pk,qs,qg,pks⟩
    rw[hpq] at hqk hsn hbb m1 m2 m3 hcl;simp only[Z0d,Z06] at hqk;have hck:=Z5F pk qs qg pks;generalize hac:Z64 sg (ks.take i) (ed0 true) st=ac at *;obtain⟨acc,st1⟩:=ac;simp only at n1 n2 n3 m1 m2 m3 hqk hbb hsn;generalize hfm:Z35 sg (.mk pk qs qg pks) st1=fm at *;obtain⟨e,st2⟩:=fm;simp only at m1 m2 m3 hqk hbb hsn;have l1:=m2.f.len;have l2:=m2.l.len;have l3:=n2.f.len;have l4:=n2.l.len;have D1:=F.all acc.fst e.fst n2.f.1 (by omega);have D2:=F.all acc.lst e.lst n2.l.1 (by omega);have hsl:=Ztn m2.l.1;simp[gjA,gjG,mG,Z0N,hac,hlt,hsk,hpq,Z0d];refine Z52.use hqk (fun _=>.cl (Z01 hck Z0a)) (Z2W _) (id:=0) (b:=3) (c:=4) (by simp[Z0N,Z2G]) (by simp[Z1S]) (by simp[Z1S]) (by simp) (by simp) ?_;simp[Z7v,Z0b,Z0n,Z18];refine Z52.use hbb (fun _=>.cl (Z01 (Z02 _) (Z01 (Z02 _) Z0a))) (.tup _ (by simp)) (id:=0) (b:=24) (c:=25) (by simp[Z0N,Z2G]) (by simp[Z1S]) (by simp[Z1S]) (by simp) (by simp) ?_;cases hn1:acc.nul<;>cases hn2:e.nul
    ·simp[Z7v,Z0n,Z18,hn1,hn2]
     rw[Z0m _ (by omega)];refine⟨hlt,(),trivial,Abs.of [(0,0),(3,37),(4,38),(5,5),(6,6),(7,7)] [] (by omega) ⟨by simp,by simp⟩ ?_ ?_⟩
     ·simp[Z2G,Z4k,Z1S,Z4B,gjG,mG,Z0N,hsn,Zdq,hn1,hn2,hsl,Z1r,Z0d,Z4S,Z2h]
     ·simp[Z2G,Z4k,Z1S,Z4B,gjA]
    ·simp[Z7v,Z0n,Z18,hn1,hn2]
     refine Z0x.pure D2 (Z01 (Z02 _) (Z01 (Z02 _) Z0a)) (Z02 _) ?_;simp[Z0n,Z18,Z1z,Z1M,hn1,hn2];rw[Z0m _ (by omega)];refine⟨hlt,(),trivial,Abs.of [(0,0),(3,37),(4,38),(5,5),(6,6),(7,7)] [] (by omega) ⟨by simp,by simp⟩ ?_ ?_⟩
     ·simp[Z2G,Z4k,Z1S,Z4B,gjG,mG,Z0N,hsn,Zdq,hn1,hn2,hsl,Z1r,Z0d,Z4S,Z2h]
     ·simp[Z2G,Z4k,Z1S,Z4B,gjA]
    ·simp[Z7v,Z0n,Z18,hn1,hn2]
     refine Z0x.pure D1 (Z01 (Z02 _) (Z01 (Z02 _) Z0a)) (Z02 _) ?_;simp[Z0n,Z18,Z1z,Z1M,hn1,hn2];rw[Z0m _ (by omega)];refine⟨hlt,(),trivial,Abs.of [(0,0),(3,37),(4,38),(5,5),(6,6),(7,7)] [] (by omega) ⟨by simp,by simp⟩ ?_ ?_⟩
     ·simp[Z2G,Z4k,Z1S,Z4B,gjG,mG,Z0N,hsn,Zdq,hn1,hn2,hsl,Z1r,Z0d,Z4S,Z2h]
     ·simp[Z2G,Z4k,Z1S,Z4B,gjA]
    ·simp[Z7v,Z0n,Z18,hn1,hn2]
     refine Z0x.pure D1 (Z01 (Z02 _) (Z01 (Z02 _) Z0a)) (Z02 _) ?_;simp[Z0n,Z18,Z1z,Z1M,hn1,hn2];refine Z0x.pure D2 (Z01 (Z02 _) (Z01 (Z02 _) Z0a)) (Z02 _) ?_;simp[Z0n,Z18,Z1z,Z1M,hn1,hn2];rw[Z0m _ (by omega)];refine⟨hlt,(),trivial,Abs.of [(0,0),(3,37),(4,38),(5,5),(6,6),(7,7)] [] (by omega) ⟨by simp,by simp⟩ ?_ ?_⟩
     ·simp[Z2G,Z4k,Z1S,Z4B,gjG,mG,Z0N,hsn,Zdq,hn1,hn2,hsl,Z1r,Z0d,Z4S,Z2h]
     ·simp[Z2G,Z4k,Z1S,Z4B,gjA]
   ·have hke:i=ks.length:=by omega
    subst hke;simp[gjA,gjG,mG,Z0N,Z0n,Z18,Z0d,Z86];refine⟨Z6h [(4,.ptr 5 0 0)],⟨10,gOf (mG sg true (Z64 sg ks (ed0 true) st).2 0 3 4++[(5,some (.arr 3 [Z1r (Z64 sg ks (ed0 true) st).1]))])⟩,Abs.of [(0,0),(3,3),(4,4),(5,6)] [] (by omega) ⟨by simp,by simp⟩ ?_ ?_,?_⟩
    ·simp[Z2G,Z4k,Z1S,Z4B,mG,Z0N,Z1r]
    ·simp[Z2G,Z4k,Z1S,Z4B]
    ·simp[Z2L,evC,RV.ev,ldC,Z1b,Z5l,Z0n,Z54,hres]
     first | exact .of | exact⟨rfl,.of⟩
 have k3':(k == 3)=false:=by simpa using k3
 by_cases k4:k=4
 ·subst k4
  refine h.P2D hm rfl ?_;simp[Z0u,Z0d,mG,Z0N,Z0b,Z0w,Z1t,Z47,Zr0];have hres:Z35 sg (.mk 4 ps pg ks) st=dor sg ks (ed0 false) st:=by simp[Z35,ed0]
  refine Z2D ks.length gfI goA 10 (goG sg st (.mk 4 ps pg ks) ks) () trivial ?_ ?_
  ·refine Abs.of [(0,0),(3,1),(4,2),(5,3),(6,4),(7,21)] [] (by omega) ⟨by simp,by simp⟩ ?_ ?_
   ·simp[Z2G,Z4k,Z1S,Z4B,goG,mG,Z0N,ed0,Z1r,dor,Z0d,Z4S,Z2h]
    exact .loose (by simp)
   ·simp[Z2G,Z4k,Z1S,Z4B,goA]
  ·rintro i _ hi _
   by_cases hlt:i < ks.length
   ·have hsk:ks[i]? = some ks[i]:=List.getElem?_eq_getElem hlt
    have htk:ks.take (i+1)=ks.take i++[ks[i]]:=by rw[List.take_add_one,hsk];rfl
    have hsn:=Zk5 sg (ks.take i) ks[i] (ed0 false) st;rw[←htk] at hsn;obtain⟨n1,n2,n3⟩:=Zuh sg (ks.take i) (ed0 false) st hst ⟨UpN.nil,UpN.nil⟩;have hcl:=Zdv hlt;obtain⟨m1,m2,m3⟩:=Zdy sg ks[i] (dor sg (ks.take i) (ed0 false) st).2 n1;have hqk:=hq _ (List.getElem_mem hlt) (dor sg (ks.take i) (ed0 false) st).2 n1 (by omega);rcases hpq:ks[i] with⟨pk,qs,qg,pks⟩
    rw[hpq] at hqk hsn m1 m2 m3 hcl;simp only[Z0d,Z06] at hqk;have hck:=Z5F pk qs qg pks;generalize hac:dor sg (ks.take i) (ed0 false) st=ac at *;obtain⟨acc,st1⟩:=ac;simp only at n1 n2 n3 m1 m2 m3 hqk hsn;generalize hfm:Z35 sg (.mk pk qs qg pks) st1=fm at *;obtain⟨e,st2⟩:=fm;simp only at m1 m2 m3 hqk hsn;have l1:=m2.f.len;have l2:=m2.l.len;have l3:=n2.f.len;have l4:=n2.l.len;have D1:=fun n' g'=>Z5A.cd (S:=⟨n',g'⟩) (F.all acc.fst e.fst n2.f.1 (by omega)) (Z01 (Z02 _) (Z01 (Z02 _) Z0a)) (Z02 _)
    have D2:=fun n' g'=>Z5A.cd (S:=⟨n',g'⟩) (F.all acc.lst e.lst n2.l.1 (by omega)) (Z01 (Z02 _) (Z01 (Z02 _) Z0a)) (Z02 _)
    simp[goA,goG,mG,Z0N,hac,hlt,hsk,hpq,Z0d];refine Z52.use hqk (fun _=>.cl (Z01 hck Z0a)) (Z2W _) (id:=0) (b:=3) (c:=4) (by simp[Z0N,Z2G]) (by simp[Z1S]) (by simp[Z1S]) (by simp) (by simp) ?_;cases hn:acc.nul <;>
    ·simp[Z7v,Z0b,Z0n,Z18,hn]
     refine⟨_,⟨_,D1 _ _⟩,_,⟨_,D2 _ _⟩,?_⟩;simp[Z0w,Z1t,Z1z,Z1M,Z0n];rw[Z0m _ (by omega)];refine⟨hlt,(),trivial,Abs.of [(0,0),(3,24),(4,25),(5,5),(6,6),(7,7)] [] (by omega) ⟨by simp,by simp⟩ ?_ ?_⟩
     ·simp[Z2G,Z4k,Z1S,Z4B,goG,mG,Z0N,hsn,Zl9,hn,Z1r,Z0d,Z4S,Z2h]
     ·simp[Z2G,Z4k,Z1S,Z4B,goA]
   ·have hke:i=ks.length:=by omega
    subst hke;simp[goA,goG,mG,Z0N,Z0n,Z18,Z0d,Z86];refine⟨Z6h [(4,.ptr 5 0 0)],⟨10,gOf (mG sg true (dor sg ks (ed0 false) st).2 0 3 4++[(5,some (.arr 3 [Z1r (dor sg ks (ed0 false) st).1]))])⟩,Abs.of [(0,0),(3,3),(4,4),(5,6)] [] (by omega) ⟨by simp,by simp⟩ ?_ ?_,?_⟩
    ·simp[Z2G,Z4k,Z1S,Z4B,mG,Z0N,Z1r]
    ·simp[Z2G,Z4k,Z1S,Z4B]
    ·simp[Z2L,evC,RV.ev,ldC,Z1b,Z5l,Z0n,Z54,hres]
     first | exact .of | exact⟨rfl,.of⟩
 exact(Zly hm F h hks hpg hq k1 k2 k3 k4 st hst hb)
end Go.Rf
namespace Go.Rf
open Go.RowKit
attribute [local simp] Z4t Z4q Z3h Z2s Z3f Z3j Z3g Z4r Z4s Z3i Z3n Z1A Z1y Z2q Z1H Z41 Z3v ZcH Z7E Z7D Z5R ZcG Z7C Z5P Z4v Z3k Z4u Z7x Z7w Z5J Z4x Z3l Z4w Z7z Z7y Z5K Z1z Z2v Z3o Z3p Z1D Z1o Z0c Z0B Z0q Z08 Z0o Z0h Z09 Z0p Z0i Z0Y Z0j Z0z Z0K Z0k Z0J Z1W Z3U Z0X Z25 Z22 Z24 Z23 Z26 Z1j Z0D Z11 Z12 Z1T Z1U Z1V Z0H Z0I Z1i Z0r Z0W Z20 Z1X Z1Z Z1Y Z21 Z1k Z13 Z1g Z0U Z0V Z0C Z1h Z0P Z1a Z1f Z14 Z1l ex Z00 Z0R Z6K Z6P Z0f Z0g Z0A Z2k Z1d Z10 Z0y Z0F Z0G Z0E Z0s Z0Z Z5y Z0O Z37 Z1c Z1O Z1R Z3s Z0b Z1E Z28 Z19 Z0Q Z2w Z27 Z3u Z2x Z1P Z6A Z3C Z6z Z3w Z2Y Z3t Z6w Z3D Z51 Z4A Z3z Z2B Z2C Z29 Z2z Z2A Z3y Z1M Z2y Z3x Z3A S0 Z06 Z1n Z39 Z34 Z56 Z38 Z33 Z55 Z44 Z36 Z43 Z6j Z5a Z6i Z59 Z45 Z58
def Z3F(P0H P02 P05:FuncId):AC :=
 (.seq (.reg none [
 ro 2 (.box 4 (.t 0)),
 ro 4 (.alloc (.agg [(.v (.int .i64 0)),(.sl true []),(.sl true []),(.sl true [])]) 4),
 ro 5 (.mv (ci 0))])
 (.seq (.block 0 (.seq (.reg none [
  rm 9 1,
  ro 10 (.bin .lss (.t 9) (ci 1)),
  rm 11 10,
  rg 12 11 false (.mv (.t 1)),
  rg 13 11 false (.bin .gtr (.t 12) (ci 400)),
  ro 14 (.pick (.t 11) (.c (.v (.bool true))) (.t 13)),
  rm 8 14])
 (.cond (.t 8) (.seq (.reg none [
  ro 15 (.build (.agg [(.v (.int .i64 0)),(.sl true []),(.sl true []),(.sl true [])]) [] []),
  rn (.store 4 (.t 4) (.t 15)),
  ro 5 (.mv (ci 1))])
  .ret) (.seq (.reg none [
  ro 17 (.load (some 4) (.t 2)),
  rk 18 P0H [(.t 17)],
  ro 19 (.bin .gtr (.t 18) (ci 300)),
  rm 16 19])
  (.cond (.t 16) (.seq (.reg none [
   ro 20 (.build (.agg [(.v (.int .i64 0)),(.sl true []),(.sl true []),(.sl true [])]) [] []),
   rn (.store 4 (.t 4) (.t 20)),
   ro 5 (.mv (ci 9))])
  .ret) .skip)))))
 (.seq (.reg none [
 rm 21 1,
 ro 22 (.app 1 24 (.c (.sl true [])) (.c (.sl true [(.sl true [])]))),
 ro 23 (.app 1 24 (.c (.sl true [])) (.c (.sl true [(.sl true [])]))),
 ro 24 (.build (.agg [(.v (.int .i64 0)),(.sl true []),(.sl true []),(.sl true [])]) [(0,1),(1,1),(2,1)] [(0,(.t 21)),(1,(.t 22)),(2,(.t 23))]),
 ro 25 (.build (.agg [(.v (.int .i64 0)),(.sl true []),(.sl true []),(.sl true [])]) [(0,4)] [(0,(.t 24))]),
 ro 26 (.box 4 (.t 25)),
 rm 6 26])
 (.seq (.reg none [
 rm 27 6,
 ro 28 (.load (some 4) (.t 2)),
 rk 29 P02 [(.t 27),(.t 28)],
 ro 7 (.alloc (.agg [(.v (.bool false)),(.sl true []),(.sl true [])]) 3),
 rn (.store 3 (.t 7) (.t 29))])
 (.seq (.reg (some []) [
 rm 30 6,
 ro 31 (.nilc (.t 30)),
 ro 32 (.fieldA 0 (.t 31)),
 ro 33 (.fieldA 2 (.t 32)),
 ro 34 (.load none (.t 33)),
 ro 35 (.fieldA 1 (.t 7)),
 ro 36 (.load none (.t 35)),
 ro 37 (.idxA 1 (.t 34) (ci 0)),
 rn (.store 1 (.t 37) (.t 36))])
 (.seq (.reg none [
 rm 38 6,
 ro 39 (.fieldA 2 (.t 7)),
 ro 40 (.load none (.t 39)),
 ro 41 (.nilc (.t 38)),
 ro 42 (.fieldA 0 (.t 41)),
 ro 43 (.fieldA 3 (.t 42)),
 rn (.store 1 (.t 43) (.t 40))])
 (.seq (.seq (.reg none [
 ro 44 (.fieldA 0 (.t 7)),
 ro 45 (.load none (.t 44))])
 (.cond (.t 45) (.reg none [
  rm 46 6,
  rm 47 6,
  ro 48 (.nilc (.t 47)),
  ro 49 (.fieldA 0 (.t 48)),
  ro 50 (.fieldA 3 (.t 49)),
  ro 51 (.load none (.t 50)),
  rk 52 P05 [(.t 51),(ci 0)],
  ro 53 (.nilc (.t 46)),
  ro 54 (.fieldA 0 (.t 53)),
  ro 55 (.fieldA 3 (.t 54)),
  rn (.store 1 (.t 55) (.t 52))]) .skip))
 (.seq (.reg none [
 rm 56 6,
 ro 57 (.nilc (.t 56)),
 ro 58 (.fieldA 0 (.t 57)),
 ro 59 (.load (some 4) (.t 58)),
 rn (.store 4 (.t 4) (.t 59)),
 ro 5 (.mv (ci 0))])
 .ret))))))))
mutual
theorem Zkg{P:Program}(hm:P.follows .mixedOrders=true){sg:Int}{ff fp fb fa fr:FuncId}(F:Zfu P sg ff fp fb fa fr)(h:IsC P ff (Z0u fp ff fb fa fr) [.c 4 (some 3)] 2):∀(p:Pat),Zce p→Z8P P ff sg p
 | .mk k ps pg ks,hp=>by
  simp only[Zce] at hp;exact Zlz hm F h hp.2.1 hp.1 (Zhi hm F h ks hp.2.2)
theorem Zhi{P:Program}(hm:P.follows .mixedOrders=true){sg:Int}{ff fp fb fa fr:FuncId}(F:Zfu P sg ff fp fb fa fr)(h:IsC P ff (Z0u fp ff fb fa fr) [.c 4 (some 3)] 2):∀(ks:List Pat),ZaB ks→∀q∈ks,Z8P P ff sg q
 | [],_,q,hq=>by simp at hq
 | p::ps,hp,q,hq=>by
  simp only[ZaB] at hp;rcases List.mem_cons.mp hq with e | hq
  ·rw[e];exact Zkg hm F h p hp.1
  ·exact Zhi hm F h ps hp.2 q hq
end
theorem ZlQ{l:List Int}(h:Up l):Z7K l 0=Z6l (l++[0]):=by
 have:=ZiT (m:=[0]) h;simpa using this
theorem Zqf{P:Program}{fz ff fp:FuncId}{p:Pat}{sg:Int}(hz:Z0t P fz [Z1s p] (Z06 (szP p)))(hf0:sg≤400→Z8P P ff sg p)(hput:Zvk P fp) :
  AWb P 0 (Z3F fz ff fp) (Z2L [.c 4 (some 4),.t 5] (FzK (Zbd (Z2K p sg)))) (Z53 [Z1s p,Z06 sg]) S0:=by
 obtain⟨k,ps,pg,ks⟩:=p;have hcp:=Z5F k ps pg ks;by_cases h1:sg < 1
 ·have hr:Z2K (.mk k ps pg ks) sg=(ZlJ,1):=by rw[Z2K,if_pos (.inl h1)]
  rw[hr];simp[Z3F,Z0d,Z0b,Z0w,Z1t,h1,Z2L,evC,RV.ev,ldC,Z1b];exact ZbT _ 1
 by_cases h2:400 < sg
 ·have hr:Z2K (.mk k ps pg ks) sg=(ZlJ,1):=by rw[Z2K,if_pos (.inr h2)]
  rw[hr];simp[Z3F,Z0d,Z0b,Z0w,Z1t,h1,h2,Z2L,evC,RV.ev,ldC,Z1b];exact ZbT _ 1
 have hf:=hf0 (by omega);have hsz:=hz;simp only[Z0d,Z06] at hsz;by_cases h3:300 < szP (.mk k ps pg ks)
 ·have hr:Z2K (.mk k ps pg ks) sg=(ZlJ,9):=by rw[Z2K,if_neg (by omega),if_pos h3]
  rw[hr];simp[Z3F,Z0d,Z0b,Z0w,Z1t,h1,h2];refine Z0x.pure hsz (Z01 hcp Z0a) (Z04 _) ?_;simp[Z0w,Z1t,h3,Z2L,evC,RV.ev,ldC,Z1b];exact ZbT _ 9
 have hr:Z2K (.mk k ps pg ks) sg=(Z6L (.mk k ps pg ks) sg,0):=by rw[Z2K,if_neg (by omega),if_neg h3]
 rw[hr];have hcnt:=ZqE h3;have hN0:StN st0:=⟨rfl,fun r hr=>by simp[st0] at hr;subst hr;exact UpN.nil⟩;have hff:=hf st0 hN0 (by show 1+_≤_;omega);rw[Zk3 sg _ st0 hN0.ok] at hff;obtain⟨n1,n2,n3⟩:=ZfT sg (.mk k ps pg ks) st0 hN0;simp only[Z0d,Z06] at hff;have hno:Z6L (.mk k ps pg ks) sg=⟨sg,(Z2Z sg (.mk k ps pg ks) st0).2.by_,(Z2Z sg (.mk k ps pg ks) st0).2.fo.set 0 (Z2Z sg (.mk k ps pg ks) st0).1.fst,if (Z2Z sg (.mk k ps pg ks) st0).1.nul=true then Z6l ((Z2Z sg (.mk k ps pg ks) st0).1.lst++[0]) else (Z2Z sg (.mk k ps pg ks) st0).1.lst⟩:=rfl;rw[hno];have hb1:st0.by_.length=1:=rfl;generalize Z2Z sg (.mk k ps pg ks) st0=ge at *;obtain⟨e,st1⟩:=ge;simp only at n1 n2 n3 hff ⊢;have hl:=n1.len;have hfl:0 < st1.fo.length:=by omega
 have hll:=n2.l.len
 have hap:∀S nid,(Z57 1 24 (.sl true []) (.sl true [.sl true []])).run S nid=some (.own nid 0 1,S.set nid (some (.arr 1 [.sl true []]))):=fun S nid=>by
  simp[Z57,Eff.run,AV.oid,Z9f,AV.cells,Z1K,St.P1B,St.P1P]
 have hp0:=hput e.lst 0 (by omega);rw[ZlQ n2.l.1] at hp0;simp[Z3F,Z0d,Z0b,Z0w,Z1t,h1,h2];refine Z0x.pure hsz (Z01 hcp Z0a) (Z04 _) ?_;simp[Z0w,Z1t,h3,hap]
 have hnil:∀R,Zmr noG R (some (.arr 1 [.sl true []])) (some (.arr 1 [Z03 []])):=fun R=>by
  rw[Z17];exact⟨rfl,.cons (.loose (by simp)) .nil⟩
 refine Z52.P6i hff (fun _=>.cl (Z01 hcp Z0a)) (Z2W _) (id:=19) (b:=15) (c:=16) (by simp[Z0N,Z2G,st0]) (fun R=>?_) (fun R=>?_) (by simp) (by simp) ?_
 ·simp[Z1S,st0]
  exact hnil R
 ·simp[Z1S,st0]
  exact hnil R
 cases hn:e.nul
 ·rw[if_neg (by simp)]
  simp[Z7v,Z0N,Z0b,Z0n,Z18,hfl,Z47,hn,Z2L,evC,RV.ev,ldC,Z1b];exact ZfR (by simp[Z2U,Z72.cl,Z5z.cl,Z04,Z0L,Z02,Z0T,Z1w,Z2j,Z1N,Z2n,Z1p,Z3r,Z4N,Z3V,Z4M,Z5L,Z5W,Z3E,Z4O,Z5w,Z5m,Z5S,Z4U,Z4X,Z4W,Z42,Z2c,Z2H,Z62,Z3m,Z3W,Z4y,Z2J,Z2I,Z17,Z68,Z00,Z0R,Z0A,Z2k,Z1y,Z2q,Z1H,Z41,Z0f,Z0g,Z2G,Z4k,Z1S,Z4B,Z06,Z1n]) (by simp[Z2U,Z72.cl,Z5z.cl,Z04,Z0L,Z02,Z0T,Z1w,Z2j,Z1N,Z2n,Z1p,Z3r,Z4N,Z3V,Z4M,Z5L,Z5W,Z3E,Z4O,Z5w,Z5m,Z5S,Z4U,Z4X,Z4W,Z42,Z2c,Z2H,Z62,Z3m,Z3W,Z4y,Z2J,Z2I,Z17,Z68,Z00,Z0R,Z0A,Z2k,Z1y,Z2q,Z1H,Z41,Z0f,Z0g,Z2G,Z4k,Z1S,Z4B,Z06,Z1n,List.map_set])
 ·rw[if_pos rfl]
  simp[Z7v,Z0N,Z0b,Z0n,Z18,hfl,Z47,hn];refine Z0x.pure hp0 (Z01 (Z02 _) (Z01 (Z04 _) Z0a)) (Z02 _) ?_;simp[Z0N,Z47,Z1z,Z1M,Z2L,evC,RV.ev,ldC,Z1b];exact ZfR (by simp[Z2U,Z72.cl,Z5z.cl,Z04,Z0L,Z02,Z0T,Z1w,Z2j,Z1N,Z2n,Z1p,Z3r,Z4N,Z3V,Z4M,Z5L,Z5W,Z3E,Z4O,Z5w,Z5m,Z5S,Z4U,Z4X,Z4W,Z42,Z2c,Z2H,Z62,Z3m,Z3W,Z4y,Z2J,Z2I,Z17,Z68,Z00,Z0R,Z0A,Z2k,Z1y,Z2q,Z1H,Z41,Z0f,Z0g,Z2G,Z4k,Z1S,Z4B,Z06,Z1n]) (by simp[Z2U,Z72.cl,Z5z.cl,Z04,Z0L,Z02,Z0T,Z1w,Z2j,Z1N,Z2n,Z1p,Z3r,Z4N,Z3V,Z4M,Z5L,Z5W,Z3E,Z4O,Z5w,Z5m,Z5S,Z4U,Z4X,Z4W,Z42,Z2c,Z2H,Z62,Z3m,Z3W,Z4y,Z2J,Z2I,Z17,Z68,Z00,Z0R,Z0A,Z2k,Z1y,Z2q,Z1H,Z41,Z0f,Z0g,Z2G,Z4k,Z1S,Z4B,Z06,Z1n,List.map_set])
structure ZgD(P:Program)(fOf fz ff fp fb fa fr:FuncId):Prop where
 of:IsO P fOf (Z3F fz ff fp) [.c 4 (some 4),.t 5] 2
 size:Is P fz (Z3B fz) [2] 1
 form:IsC P ff (Z0u fp ff fb fa fr) [.c 4 (some 3)] 2
 put:Zvk P fp
 behind:Is P fb (Z31 fa) [] 3
 all:Is P fa (Z5f fp) [4] 2
 rest:IsC P fr (Z3G ff) [.c 4 (some 3)] 2
theorem ZgD.hall{P:Program}{fOf fz ff fp fb fa fr:FuncId}(N:ZgD P fOf fz ff fp fb fa fr)(hm:P.follows .mixedOrders=true):ZvH P fa:=fun l m hu hl=>by
 have:=N.all.P1q hm rfl (Zpr N.put l m hl);rwa[ZiT hu] at this
theorem ZgD.ok{P:Program}{fOf fz ff fp fb fa fr:FuncId}(N:ZgD P fOf fz ff fp fb fa fr)(hm:P.follows .mixedOrders=true)(p:Pat)(hp:Zce p)(sg:Int):Z0t P fOf [Z1s p,Z06 sg] (Zbd (Z2K p sg)) :=
 N.of.P1q hm rfl (Zqf (Zi0 hm N.size p hp) (fun hs4=>Zkg hm ⟨hs4,N.put,N.hall hm,fun ss be st h1 h2 h3 h4=>Zlb hm N.behind (N.hall hm) sg ss be st h1 h2 h3 h4,fun k0 ps pg ks hks hq st hst hb=>Zqr hm N.rest hks hq st hst hb⟩ N.form p hp) N.put)
end Go.Rf
namespace Go.Rf
open Go.RowKit
theorem Zh5{X:Type}{p q:X→Bool}:∀(l:List X),(∀x,p x=true→q x=true)→(∃x∈l,q x=true∧p x=false)→l.countP p < l.countP q
 | [],_,h=>by obtain⟨x,hx,_⟩:=h;simp at hx
 | y::l,h1,h2=>by
  have hle:l.countP p≤l.countP q:=List.countP_mono_left fun x _=>h1 x
  rw[List.countP_cons,List.countP_cons];obtain⟨x,hx,hq,hp⟩:=h2;rcases List.mem_cons.mp hx with rfl | hx
  ·rw[hq,hp];simp;omega
  ·have:=Zh5 l h1 ⟨x,hx,hq,hp⟩
   cases hpy:p y with
   | true=>rw[h1 y hpy];simp;omega
   | false=>cases q y<;>simp<;>omega
abbrev Mx:=Nat→Nat→Bool
def Zso(n:Nat)(M:Mx):Nat:=(List.range (n*n)).countP fun p=>!M (p / n) (p % n)
def Zil(M:Mx)(i k:Nat):Mx:=fun a b=>if (a=i∧b=k)∨(a=k∧b=i) then true else M a b
theorem Zsp{n:Nat}{M:Mx}{i k:Nat}(hi:i < n)(hk:k < n)(h:M i k=false):Zso n (Zil M i k) < Zso n M:=by
 refine Zh5 _ (fun x hx=>?_) ⟨i*n+k,?_,?_,?_⟩
 ·simp only[Zil,Bool.not_eq_true'] at hx ⊢
  split at hx
  ·cases hx
  ·exact hx
 ·rw[List.mem_range]
  have:(i+1)*n≤n*n:=Nat.mul_le_mul_right n hi;rw[Nat.add_mul] at this;omega
 ·have h1:(i*n+k) / n=i:=by rw[Nat.mul_comm,Nat.mul_add_div (by omega),Nat.div_eq_of_lt hk,Nat.add_zero]
  have h2:(i*n+k) % n=k:=by rw[Nat.mul_comm,Nat.mul_add_mod,Nat.mod_eq_of_lt hk]
  rw[h1,h2,h];rfl
 ·have h1:(i*n+k) / n=i:=by rw[Nat.mul_comm,Nat.mul_add_div (by omega),Nat.div_eq_of_lt hk,Nat.add_zero]
  have h2:(i*n+k) % n=k:=by rw[Nat.mul_comm,Nat.mul_add_mod,Nat.mod_eq_of_lt hk]
  rw[h1,h2];simp[Zil]
structure MOk(d:Det)(M:Mx):Prop where
 sym:∀i k,M i k=M k i
 irr:∀i,M i i=false
 snd:∀i k,i < d.next.length→k < d.next.length→M i k=true→¬Eqv d i k
 base:∀i k,Z6n d i≠Z6n d k→M i k=true
def Clp(d:Det)(M:Mx)(i k:Nat):Prop:=M i k=false→∀s:Nat,(s:Int) < d.signs→M (Z2o d i s) (Z2o d k s)=false
def neM(d:Det):Mx:=fun i k=>decide (Z6n d i≠Z6n d k)
theorem ZuA(d:Det):MOk d (neM d):=by
 refine⟨fun i k=>?_,fun i=>by simp[neM],fun i k _ _ h he=>?_,fun i k h=>by simp[neM,h]⟩
 ·simp only[neM];congr 1;exact propext ⟨fun h e=>h e.symm,fun h e=>h e.symm⟩
 ·have:=he [] (fun s hs=>by simp at hs)
  simp only[runT,List.foldl_nil] at this;simp[neM,this] at h
theorem MOk.upd{d:Det}{M:Mx}(h:MOk d M){i k:Nat}(hik:i≠k){s:Nat}(hs:(s:Int) < d.signs)(hv:i < d.next.length→k < d.next.length→M (Z2o d i s) (Z2o d k s)=true∧Z2o d i s < d.next.length∧Z2o d k s < d.next.length):MOk d (Zil M i k):=by
 refine⟨fun a b=>?_,fun a=>?_,fun a b ha hb hm he=>?_,fun a b hne=>?_⟩
 ·simp only[Zil,h.sym a b]
  congr 1;exact propext ⟨fun h=>h.elim (fun h=>.inr ⟨h.2,h.1⟩) (fun h=>.inl ⟨h.2,h.1⟩),fun h=>h.elim (fun h=>.inr ⟨h.2,h.1⟩) (fun h=>.inl ⟨h.2,h.1⟩)⟩
 ·have:¬((a=i∧a=k)∨(a=k∧a=i)):=by omega
  simp only[Zil,if_neg this,h.irr]
 ·simp only[Zil] at hm
  split at hm
  ·rename_i hc
   have he':Eqv d i k:=by
    rcases hc with⟨rfl,rfl⟩ | ⟨rfl,rfl⟩
    ·exact he
    ·exact he.symm
   have hik2:i < d.next.length∧k < d.next.length:=by omega
   obtain⟨h1,h2,h3⟩:=hv hik2.1 hik2.2;exact h.snd _ _ h2 h3 h1 (Zk9 he' (Int.natCast_nonneg s) hs)
  ·exact h.snd a b ha hb hm he
 ·simp only[Zil]
  split
  ·rfl
  ·exact h.base a b hne
theorem Znd{d:Det}{M:Mx}(R:Z1Q d)(h:MOk d M)(hc:∀i k,i < d.next.length→k < i→Clp d M i k):∀(l:List Int) (i k:Nat),i < d.next.length→k < d.next.length→Vl d l→M i k=false→Z6n d (runT d i l)=Z6n d (runT d k l)
 | [],i,k,hi,hk,_,hm=>by
  simp only[runT,List.foldl_nil];cases hd:decide (Z6n d i=Z6n d k) with
  | true=>exact of_decide_eq_true hd
  | false=>rw[h.base i k (of_decide_eq_false hd)] at hm;cases hm
 | s::l,i,k,hi,hk,hv,hm=>by
  have hs:=hv s (by simp);have hv2:Vl d l:=fun x hx=>hv x (by simp[hx])
  have e:∀q,runT d q (s::l)=runT d (Z2o d q s) l:=fun q=>rfl
  rw[e,e];have hsn:((s.toNat:Nat):Int)=s:=by omega
  refine Znd R h hc l _ _ (Z5Y R hi hs.1 hs.2) (Z5Y R hk hs.1 hs.2) hv2 ?_;rcases Nat.lt_trichotomy k i with hki | hki | hki
  ·have:=hc i k hi hki hm s.toNat (by omega)
   rwa[hsn] at this
  ·subst hki;exact h.irr _
  ·have:=hc k i hk hki (by rw[h.sym];exact hm) s.toNat (by omega)
   rw[hsn] at this;rw[h.sym];exact this
theorem Zsa{d:Det}{M:Mx}(R:Z1Q d)(h:MOk d M)(hc:∀i k,i < d.next.length→k < i→Clp d M i k){c:List Int}(C:Zl4 d c){i k:Nat}(hi:i < d.next.length)(hk:k < d.next.length):M i k=decide (c.getD i 0≠c.getD k 0):=by
 cases hm:M i k with
 | true =>
  have:=h.snd i k hi hk hm;exact(decide_eq_true (p:=c.getD i 0≠c.getD k 0) fun e=>this ((C.eq i k hi hk).mp e)).symm
 | false =>
  have:Eqv d i k:=fun l hv=>Znd R h hc l i k hi hk hv hm
  have:=(C.eq i k hi hk).mpr this;exact(decide_eq_false (p:=c.getD i 0≠c.getD k 0) fun hn=>hn this).symm
end Go.Rf
namespace Go.Rf
open Go.RowKit
attribute [local simp] Z4t Z4q Z3h Z2s Z3f Z3j Z3g Z4r Z4s Z3i Z3n Z1A Z1y Z2q Z1H Z41 Z3v ZcH Z7E Z7D Z5R ZcG Z7C Z5P Z4v Z3k Z4u Z7x Z7w Z5J Z4x Z3l Z4w Z7z Z7y Z5K Z1z Z2v Z3o Z3p Z1D Z1o Z0c Z0B Z0q Z08 Z0o Z0h Z09 Z0p Z0i Z0Y Z0j Z0z Z0K Z0k Z0J Z1W Z3U Z0X Z25 Z22 Z24 Z23 Z26 Z1j Z0D Z11 Z12 Z1T Z1U Z1V Z0H Z0I Z1i Z0r Z0W Z20 Z1X Z1Z Z1Y Z21 Z1k Z13 Z1g Z0U Z0V Z0C Z1h Z0P Z1a Z1f Z14 Z1l ex Z00 Z0R Z6K Z6P Z0f Z0g Z0A Z2k Z1d Z10 Z0y Z0F Z0G Z0E Z0s Z0Z Z5y Z0O Z37 Z1c Z1O Z1R Z3s Z0b Z1E Z28 Z19 Z0Q Z2w Z27 Z3u Z2x Z1P Z6A Z3C Z6z Z3w Z2Y Z3t Z6w Z3D Z51 Z4A Z3z Z2B Z2C Z29 Z2z Z2A Z3y Z1M Z2y Z3x Z3A S0 Z06 Z1n Z39 Z34 Z56 Z38 Z33 Z55 Z44 Z36 Z43 Z6j Z5a Z6i Z59 Z45 Z58 Z2U Z72.cl Z5z.cl Z04 Z0L Z02 Z0T Z1w Z2j Z1N Z2n Z1p Z3r Z4N Z3V Z4M Z5L Z5W Z3E Z4O Z5w Z5m Z5S Z4U Z4X Z4W Z42 Z2c Z2H Z62 Z3m Z3W Z4y Z2J Z2I Z17 Z68 Z2G Z4k Z1S Z4B
def ZqY:AC :=
 (.block 10 (.loop (.seq (.seq (.reg none [
       rm 59 10,
       ro 60 (.fieldA 0 (.t 1)),
       ro 61 (.load none (.t 60)),
       ro 62 (.bin .lss (.t 59) (.t 61)),
       rm 63 62,
       rg 64 63 true (.mv (.t 4)),
       rg 65 63 true (.mv (.t 8)),
       rg 66 63 true (.idxA 1 (.t 64) (.t 65)),
       rg 67 63 true (.load none (.t 66)),
       rg 68 63 true (.mv (.t 9)),
       rg 69 63 true (.idxA 1 (.t 67) (.t 68)),
       rg 70 63 true (.load none (.t 69)),
       rg 71 63 true (.un .not (.t 70)),
       ro 72 (.pick (.t 63) (.t 71) (.c (.v (.bool false))))])
      (.cond (.t 72) .skip (.exit 10)))
      (.seq (.block 11 (.seq (.reg (some []) [
       rm 75 4,
       ro 76 (.fieldA 1 (.t 1)),
       ro 77 (.load none (.t 76)),
       rm 78 8,
       ro 79 (.idxA 1 (.t 77) (.t 78)),
       ro 80 (.load none (.t 79)),
       rm 81 10,
       ro 82 (.idxA 1 (.t 80) (.t 81)),
       ro 83 (.load none (.t 82)),
       ro 84 (.idxA 1 (.t 75) (.t 83)),
       ro 85 (.load none (.t 84)),
       ro 86 (.fieldA 1 (.t 1)),
       ro 87 (.load none (.t 86)),
       rm 88 9,
       ro 89 (.idxA 1 (.t 87) (.t 88)),
       ro 90 (.load none (.t 89)),
       rm 91 10,
       ro 92 (.idxA 1 (.t 90) (.t 91)),
       ro 93 (.load none (.t 92)),
       ro 94 (.idxA 1 (.t 85) (.t 93)),
       ro 95 (.load none (.t 94))])
       (.cond (.t 95) (.seq (.reg (some [[],[],[],[],[],[],[],[],[],[],[],[false,true]]) [
        rm 96 4,
        rm 97 8,
        ro 98 (.idxA 1 (.t 96) (.t 97)),
        ro 99 (.load none (.t 98)),
        rm 100 9,
        rm 101 4,
        rm 102 9,
        ro 103 (.idxA 1 (.t 101) (.t 102)),
        ro 104 (.load none (.t 103)),
        rm 105 8,
        ro 106 (.idxA 1 (.t 99) (.t 100)),
        rn (.store 1 (.t 106) (.c (.v (.bool true)))),
        ro 107 (.idxA 1 (.t 104) (.t 105)),
        rn (.store 1 (.t 107) (.c (.v (.bool true))))])
       (.reg none [
        ro 7 (.mv (.c (.v (.bool true))))])) .skip)))
      (.reg none [
       rm 73 10,
       ro 74 (.bin .add (.t 73) (ci 1)),
       rm 10 74])))))
def ZqW:AC :=
 (.block 8 (.loop (.seq (.seq (.reg none [
     rm 54 9,
     rm 55 8,
     ro 56 (.bin .lss (.t 54) (.t 55))])
     (.cond (.t 56) .skip (.exit 8)))
     (.seq (.block 9 (.seq (.reg none [
      ro 10 (.mv (ci 0))])
     ZqY))
     (.reg none [
     rm 57 9,
     ro 58 (.bin .add (.t 57) (ci 1)),
     rm 9 58])))))
def ZqV:AC :=
 (.block 6 (.loop (.seq (.seq (.reg none [
    rm 49 8,
    rm 50 3,
    ro 51 (.bin .lss (.t 49) (.t 50))])
   (.cond (.t 51) .skip (.exit 6)))
   (.seq (.block 7 (.seq (.reg none [
    ro 9 (.mv (ci 0))])
    ZqW))
   (.reg none [
    rm 52 8,
    ro 53 (.bin .add (.t 52) (ci 1)),
    rm 8 53])))))
def ZmM:AC :=
 (.block 4 (.loop (.seq (.seq (.reg none [
  rm 48 7])
  (.cond (.t 48) .skip (.exit 4)))
  (.block 5 (.seq (.reg none [
   ro 7 (.mv (.c (.v (.bool false))))])
  (.seq (.reg none [
   ro 8 (.mv (ci 0))])
  ZqV))))))
def ZqU:AC :=
 (.block 2 (.loop (.seq (.seq (.reg none [
    rm 26 6,
    rm 27 3,
    ro 28 (.bin .lss (.t 26) (.t 27))])
   (.cond (.t 28) .skip (.exit 2)))
   (.seq (.block 3 (.reg (some []) [
    rm 31 4,
    rm 32 5,
    ro 33 (.idxA 1 (.t 31) (.t 32)),
    ro 34 (.load none (.t 33)),
    rm 35 6,
    ro 36 (.fieldA 2 (.t 1)),
    ro 37 (.load none (.t 36)),
    rm 38 5,
    ro 39 (.idxA 1 (.t 37) (.t 38)),
    ro 40 (.load none (.t 39)),
    ro 41 (.fieldA 2 (.t 1)),
    ro 42 (.load none (.t 41)),
    rm 43 6,
    ro 44 (.idxA 1 (.t 42) (.t 43)),
    ro 45 (.load none (.t 44)),
    ro 46 (.beq true (.t 40) (.t 45)),
    ro 47 (.idxA 1 (.t 34) (.t 35)),
    rn (.store 1 (.t 47) (.t 46))]))
   (.reg none [
    rm 29 6,
    ro 30 (.bin .add (.t 29) (ci 1)),
    rm 6 30])))))
def ZqX:AC :=
 (.block 0 (.loop (.seq (.seq (.reg none [
  rm 16 5,
  rm 17 3,
  ro 18 (.bin .lss (.t 16) (.t 17))])
  (.cond (.t 18) .skip (.exit 0)))
  (.seq (.block 1 (.seq (.reg none [
   rm 21 4,
   rm 22 5,
   rm 23 3,
   ro 24 (.mks 1 1 (.v (.bool false)) (.t 23) (.t 23)),
   ro 25 (.idxA 1 (.t 21) (.t 22)),
   rn (.store 1 (.t 25) (.t 24))])
  (.seq (.reg none [
   ro 6 (.mv (ci 0))])
  ZqU)))
  (.reg none [
  rm 19 5,
  ro 20 (.bin .add (.t 19) (ci 1)),
  rm 5 20])))))
def ZgT:AC :=
 (.seq (.seq (.reg none [
 ro 7 (.mv (.c (.v (.bool true))))])
 ZmM)
 (.seq (.reg none [
 rm 108 4,
 rm 2 108])
 .ret))
def Z5p:AC :=
 (.seq (.reg none [
 ro 1 (.box 3 (.t 0)),
 ro 2 (.mv (.c (.sl true [])))])
 (.seq (.reg none [
 ro 11 (.fieldA 1 (.t 1)),
 ro 12 (.load none (.t 11)),
 ro 13 (.len (.t 12)),
 rm 3 13])
 (.seq (.reg none [
 rm 14 3,
 ro 15 (.mks 1 24 (.sl true []) (.t 14) (.t 14)),
 rm 4 15])
 (.seq (.seq (.reg none [
 ro 5 (.mv (ci 0))])
 ZqX)
 ZgT))))
def ZcB(M:Mx)(n i:Nat):List Bool:=(List.range n).map (M i)
theorem Z7m(M:Mx)(n i:Nat):(ZcB M n i).length=n:=by simp[ZcB]
theorem Z8l(M:Mx)(n i k:Nat)(h:k < (ZcB M n i).length):(ZcB M n i)[k]=M i k:=by simp[ZcB]
def Z6M(n m:Nat):List AV:=(List.range n).map fun j=>if j < m then .own (11+j) 0 n else .sl true []
theorem Zbp(n m:Nat):(Z6M n m).length=n:=by simp[Z6M]
theorem ZdZ{n j:Nat}(h:j < (Z6M n n).length):(Z6M n n)[j]=.own (11+j) 0 n:=by
 have hn:j < n:=by rw[Zbp] at h;exact h
 simp[Z6M,hn]
theorem Zqn{n i:Nat}(h:i < (Z6M n i).length):(Z6M n i)[i]=.sl true []:=by simp[Z6M]
def Zje(M:Mx)(n m:Nat):List (Nat×Option Blk):=(List.range m).map fun i=>(11+i,some (.arr 1 ((ZcB M n i).map Z1n)))
def apG(d:Det)(n m:Nat)(M:Mx):List (Nat×Option Blk):=(0,some (.arr 3 [Z0v d]))::(10,some (.arr 1 (Z6M n m)))::Zje M n m
theorem ZpV(F:Nat→Option Blk)(a:Nat):∀(m j:Nat),j < m→gOf ((List.range' a m).map fun i=>(11+i,F i)) (11+(a+j))=F (a+j):=by
 intro m;induction m generalizing a with
 | zero=>intro j hj;omega
 | succ m ih =>
  intro j hj;rw[List.range'_succ,List.map_cons,Z1H];by_cases h:j=0
  ·subst h;rw[if_pos (by omega)];rfl
  ·rw[if_neg (by omega)]
   have:=ih (a+1) (j - 1) (by omega);have e:a+1+(j - 1)=a+j:=by omega
   rw[e] at this;exact this
theorem Zhk{M:Mx}{n m j:Nat}(h:j < m):gOf (Zje M n m) (11+j)=some (.arr 1 ((ZcB M n j).map Z1n)):=by
 have:=ZpV (fun i=>some (.arr 1 ((ZcB M n i).map Z1n))) 0 m j h;rw[Nat.zero_add,←List.range_eq_range'] at this;exact this
theorem ZgN(d:Det)(n m:Nat)(M:Mx):gOf (apG d n m M) 0=some (.arr 3 [Z0v d]):=by simp[apG,Z1H]
theorem Zb4(d:Det)(n m:Nat)(M:Mx):gOf (apG d n m M) 10=some (.arr 1 (Z6M n m)):=by simp[apG,Z1H]
theorem Zfz(d:Det){n m j:Nat}(M:Mx)(h:j < m):gOf (apG d n m M) (11+j)=some (.arr 1 ((ZcB M n j).map Z1n)):=by
 unfold apG;rw[Z1H,if_neg (by omega),Z1H,if_neg (by omega)];exact Zhk h
def idO(m:Nat):List (Nat×Nat):=(0,0)::(10,10)::(List.range m).map fun j=>(11+j,11+j)
theorem ZnO{m:Nat}(h:m≤3000):OOk (idO m) [] 0 4000:=by
 constructor
 ·intro p hp
  simp only[idO,List.mem_cons,List.mem_map,List.mem_range] at hp;rcases hp with rfl | rfl | ⟨j,hj,rfl⟩
  ·simp
  ·simp
  ·simp;omega
 ·rw[idO,List.pairwise_cons,List.pairwise_cons]
  refine⟨fun p hp=>?_,fun p hp=>?_,?_⟩
  ·simp only[List.mem_cons,List.mem_map,List.mem_range] at hp
   rcases hp with rfl | ⟨j,hj,rfl⟩<;>simp<;>omega
  ·simp only[List.mem_map,List.mem_range] at hp
   obtain⟨j,hj,rfl⟩:=hp;simp;omega
  ·rw[List.pairwise_map]
   exact List.pairwise_lt_range.imp fun h=>by simp;omega
theorem Zus{m j:Nat}(h:j < m):Zpa (idO m) 0 (11+j) (11+j):=.inl (by simp[idO,h])
theorem ZkG{gF:Nat→Option Blk}{R:Nat→Nat→Prop}{n m:Nat}(h:∀j,j < m→R (11+j) (11+j)):Z72 gF R (Z6M n m) (Z6M n m):=by
 refine⟨rfl,fun i h1 _=>?_⟩;simp only[Z6M,List.getElem_map,List.getElem_range];split
 ·rename_i hj;exact .own _ _ _ _ (h _ hj)
 ·exact .cl (Z1p _)
theorem Z7T{a:AF}{S:St}{d:Det}{n m:Nat}{M:Mx}{A:List (Nat×AV)}(hm:m≤3000)(h0:S.g 0=some (.arr 3 [Z0v d]))(h10:S.g 10=some (.arr 1 (Z6M n m)))
  (hr:∀j,j < m→S.g (11+j)=some (.arr 1 ((ZcB M n j).map Z1n))) (hA:∀p∈A,Z5z (only [] S.g) (Zpa (idO m) 0) (a p.1) p.2):Abs 0 a S (Z6h A) ⟨4000,gOf (apG d n m M)⟩:=by
 refine Abs.of (idO m) [] (by omega) (ZnO hm) (fun p hp=>.inr ?_) hA;simp only[apG,Zje,List.mem_cons,List.mem_map,List.mem_range] at hp;rcases hp with rfl | rfl | ⟨j,hj,rfl⟩
 ·refine⟨0,by simp[idO],?_⟩
  rw[h0,Z17];exact⟨rfl,Z72.cl (by intro y hy;simp at hy;subst hy;exact Z0e d)⟩
 ·refine⟨10,by simp[idO],?_⟩
  rw[h10,Z17];exact⟨rfl,ZkG fun j hj=>Zus hj⟩
 ·refine⟨11+j,by simp[idO,hj],?_⟩
  rw[hr j hj,Z17];exact⟨rfl,Z72.cl (Z5W _)⟩
def apA(n:Nat):List (Nat×AV):=[(1,.ptr 0 0 0),(3,Z06 n),(4,.own 10 0 n)]
theorem Zte{M:Mx}{n i k j:Nat}(hik:i≠k)(hi:i < n)(hk:k < n):ZcB (Zil M i k) n j=if j=k then (ZcB M n k).set i true else if j=i then (ZcB M n i).set k true else ZcB M n j:=by
 apply List.ext_getElem
 ·split
  ·simp[ZcB]
  ·split<;>simp[ZcB]
 ·intro x h1 h2
  rw[Z7m] at h1;rw[Z8l _ _ _ _ (by rw[Z7m];exact h1)];by_cases hjk:j=k
  ·subst hjk
   simp only[if_true];rw[List.getElem_set];split
   ·rename_i e;subst e;simp[Zil]
   ·rename_i e
    rw[Z8l];have:¬((j=i∧x=j)∨(j=j∧x=i)):=by omega
    simp[Zil,this];intro h;omega
  ·simp only[hjk,if_false]
   by_cases hji:j=i
   ·subst hji
    simp only[if_true];rw[List.getElem_set];split
    ·rename_i e;subst e;simp[Zil]
    ·rename_i e
     rw[Z8l];simp only[Zil];rw[if_neg (by omega)]
   ·simp only[hji,if_false]
    rw[Z8l];simp only[Zil];rw[if_neg (by omega)]
abbrev MS:=Mx×Bool
structure Rnd(d:Det)(M0:Mx)(s:MS):Prop where
 ok:MOk d s.1
 no:s.2=false→s.1=M0
 lt:s.2=true→Zso d.next.length s.1 < Zso d.next.length M0
def wI(d:Det)(m:Nat)(s:MS):Prop:=MOk d s.1∧m=2*Zso d.next.length s.1+(if s.2=true then 1 else 0)∧(s.2=false→∀i k,i < d.next.length→k < i→Clp d s.1 i k)
def wA(n:Nat)(s:MS):List (Nat×AV):=(7,Z1n s.2)::apA n
def wG(d:Det)(s:MS):List (Nat×Option Blk):=apG d d.next.length d.next.length s.1
def iI(d:Det)(M0:Mx)(i:Nat)(s:MS):Prop:=Rnd d M0 s∧(s.2=false→∀i' k',i' < i→k' < i'→Clp d M0 i' k')
def iA(n:Nat)(i:Nat)(s:MS):List (Nat×AV):=(8,Z06 i)::wA n s
def iG(d:Det)(_:Nat)(s:MS):List (Nat×Option Blk):=wG d s
def kI(d:Det)(M0:Mx)(i:Nat)(k:Nat)(s:MS):Prop:=iI d M0 i s∧(s.2=false→∀k',k' < k→Clp d M0 i k')
def kA(n i:Nat)(k:Nat)(s:MS):List (Nat×AV):=(9,Z06 k)::iA n i s
def sI(d:Det)(M0:Mx)(i k:Nat)(j:Nat)(s:MS):Prop:=kI d M0 i k s∧(s.2=false→∀t:Nat,t < j→M0 (Z2o d i t) (Z2o d k t)=false)
def sA(n i k:Nat)(j:Nat)(s:MS):List (Nat×AV):=(10,Z06 j)::kA n i k s
theorem Ztf{P:Program}{d:Det}(R:Z1Q d){M0:Mx}(h0:MOk d M0){a:AF}{S:St}{Q:Exit→AF→St→Prop}(hS:Abs 0 a S (Z6h (wA d.next.length (M0,true))) ⟨4000,gOf (wG d (M0,true))⟩)
  (hQ:∀M a S,MOk d M→(∀i k,i < d.next.length→k < i→Clp d M i k)→a 4=.own 10 0 d.next.length→S.g=gOf (apG d d.next.length d.next.length M)→Q .normal a S):AWb P 0 ZmM Q a S:=by
 have hn2:=R.n2;have hs1:=R.s1;have hs2:=R.s2;have ed:(Z0v d).cells=[Z06 d.signs,Z0l d.next,Z2E d.fin]:=rfl;have hpl:=Zbp d.next.length d.next.length
 simp[ZmM];refine Zgz (wI d) (wA d.next.length) 4000 (wG d) _ (M0,true) ⟨h0,rfl,by simp⟩ hS ?_;rintro m ⟨M,more⟩ ⟨hM,hm,hcl⟩;simp only at hM hm hcl;cases more with
 | false =>
  simp[wA,wG,apA];exact hQ M _ _ hM (hcl rfl) (by simp[Z00,Z1y]) rfl
 | true =>
  simp[wA,wG,apA,ZqV];refine Z2D d.next.length (iI d M) (iA d.next.length) 4000 (iG d) (M,false) ⟨⟨hM,fun _=>rfl,by simp⟩,fun _ i' k' h=>by omega⟩ ?_ ?_
  ·refine Z7T (n:=d.next.length) (m:=d.next.length) (M:=M) (by omega) (ZgN d d.next.length d.next.length M) (Zb4 d d.next.length d.next.length M) (fun j hj=>Zfz d M hj) ?_
   simp only[iA,wA,apA];simp;exact⟨by simp[idO],by simp[idO]⟩
  ·rintro i ⟨M1,mo⟩ hi ⟨hR,hCl⟩
   simp only at hCl;by_cases hin:i < d.next.length
   ·simp[iA,iG,wA,wG,apA,hin,ZqW]
    refine Z2D i (kI d M i) (kA d.next.length i) 4000 (iG d) (M1,mo) ⟨⟨hR,hCl⟩,fun _ k' h=>by omega⟩ ?_ ?_
    ·refine Z7T (n:=d.next.length) (m:=d.next.length) (M:=M1) (by omega) (ZgN d d.next.length d.next.length M1) (Zb4 d d.next.length d.next.length M1) (fun j hj=>Zfz d M1 hj) ?_
     simp only[kA,iA,wA,apA];simp;exact⟨by simp[idO],by simp[idO]⟩
    ·rintro k ⟨M2,mo2⟩ hk ⟨⟨hR2,hCl2⟩,hK2⟩
     simp only at hCl2 hK2;by_cases hkn:k < i
     ·simp[kA,iA,iG,wA,wG,apA,hkn,ZqY]
      refine Z2D d.signs.toNat (sI d M i k) (sA d.next.length i k) 4000 (iG d) (M2,mo2) ⟨⟨⟨hR2,hCl2⟩,hK2⟩,fun _ k' h=>by omega⟩ ?_ ?_
      ·refine Z7T (n:=d.next.length) (m:=d.next.length) (M:=M2) (by omega) (ZgN d d.next.length d.next.length M2) (Zb4 d d.next.length d.next.length M2) (fun j hj=>Zfz d M2 hj) ?_
       simp only[sA,kA,iA,wA,apA];simp;exact⟨by simp[idO],by simp[idO]⟩
      ·rintro j ⟨M3,mo3⟩ hj ⟨⟨⟨hR3,hCl3⟩,hK3⟩,hJ3⟩
       have hM3:MOk d M3:=hR3.ok;have g0:=ZgN d d.next.length d.next.length M3
       have g10:=Zb4 d d.next.length d.next.length M3
       have gr:=fun j (hj:j < d.next.length)=>Zfz d (n:=d.next.length) (m:=d.next.length) M3 hj
       generalize hG:gOf (apG d d.next.length d.next.length M3)=g at g0 g10 gr;have hkd:k < d.next.length:=by omega
       by_cases hjs:(j:Int) < d.signs
       ·obtain⟨hja,hsa1,hsa2⟩:=Zeh R hin (s:=(j:Int)) (by omega) hjs
        obtain⟨hjb,hsb1,hsb2⟩:=Zeh R hkd (s:=(j:Int)) (by omega) hjs;have hja':j < (d.next[i]).length:=hja;have hjb':j < (d.next[k]).length:=hjb;have ea:(d.next[i])[j]=(Z2o d i j:Int):=hsa1;have eb:(d.next[k])[j]=(Z2o d k j:Int):=hsb1;generalize hxa:Z2o d i j=xa at *;generalize hxb:Z2o d k j=xb at *;cases hik:M3 i k with
        | true =>
         simp[sA,kA,iA,iG,wA,wG,apA,hG,g0,g10,gr,ed,ZdZ,hpl,Z7m,Z8l,hjs,hin,hkd,hik,hja',hjb',ea,eb,hsa2,hsb2];rw[Z0m _ (by omega)];refine⟨hkn,(M3,mo3),⟨⟨hR3,hCl3⟩,fun hf k' hk'=>?_⟩,Z7T (by omega) g0 g10 gr ?_⟩
         ·by_cases hkk:k'=k
          ·subst hkk
           have:M3=M:=hR3.no hf;intro hfl;rw[←this,hik] at hfl;cases hfl
          ·exact hK3 hf k' (by omega)
         ·simp only[kA,iA,wA,apA]
          simp;exact⟨by simp[idO],by simp[idO]⟩
        | false =>
         simp[sA,kA,iA,iG,wA,wG,apA,hG,g0,g10,gr,ed,ZdZ,hpl,Z7m,Z8l,hjs,hin,hkd,hik,hja',hjb',ea,eb,hsa2,hsb2];have hjn:j < d.signs.toNat:=by omega
         cases hab:M3 xa xb with
         | false =>
          simp[hab];rw[Z0m _ (by omega)];refine⟨hjn,(M3,mo3),⟨⟨⟨hR3,hCl3⟩,hK3⟩,fun hf t ht=>?_⟩,Z7T (by omega) g0 g10 gr ?_⟩
          ·by_cases htj:t=j
           ·subst htj
            have:M3=M:=hR3.no hf;rw[hxa,hxb,←this];exact hab
           ·exact hJ3 hf t (by omega)
          ·simp only[sA,kA,iA,wA,apA]
           simp;exact⟨by simp[idO],by simp[idO]⟩
         | true =>
          have hki:¬(k=i):=by omega
          have z1:¬(0=11+k):=by omega
          have z2:¬(0=11+i):=by omega
          have z3:¬(10=11+k):=by omega
          have z4:¬(10=11+i):=by omega
          have hik':¬(i=k):=by omega
          simp[hab,hG,g0,g10,gr,ZdZ,hpl,Z7m,Z8l,hin,hkd,hki,hik'];rw[Z0m _ (by omega)]
          have hlt3:Zso d.next.length (Zil M3 i k) < Zso d.next.length M:=by
           have h1:=Zsp hin hkd hik;cases mo3 with
           | true=>have:=hR3.lt rfl;simp only at this;omega
           | false=>have:M3=M:=hR3.no rfl;rw[←this];exact h1
          refine⟨hjn,(Zil M3 i k,true),⟨⟨⟨⟨hM3.upd hik' hjs (fun _ _=>by rw[hxa,hxb];exact⟨hab,hsa2,hsb2⟩),by simp,fun _=>hlt3⟩,by simp⟩,by simp⟩,by simp⟩,Z7T (by omega) (by simp[Z0A,g0,z1,z2]) (by simp[Z0A,g10,z3,z4]) (fun j' hj'=>?_) ?_⟩
          ·rw[Zte hik' hin hkd]
           by_cases hjk:j'=k
           ·subst hjk
            simp[Z0A,List.map_set,Z1n]
           ·by_cases hji:j'=i
            ·subst hji
             simp[Z0A,List.map_set,Z1n,hjk]
            ·simp[Z0A,hjk,hji,gr j' hj']
          ·simp only[sA,kA,iA,wA,apA]
           simp;exact⟨by simp[idO],by simp[idO]⟩
       ·simp[sA,kA,iA,iG,wA,wG,apA,hG,g0,g10,gr,ed,ZdZ,hpl,Z7m,Z8l,hjs,hin,hkd]
        rw[Z0m _ (by omega)];refine⟨hkn,(M3,mo3),⟨⟨hR3,hCl3⟩,fun hf k' hk'=>?_⟩,Z7T (by omega) g0 g10 gr ?_⟩
        ·by_cases hkk:k'=k
         ·subst hkk
          intro _ t ht;exact hJ3 hf t (by omega)
         ·exact hK3 hf k' (by omega)
        ·simp only[kA,iA,wA,apA]
         simp;exact⟨by simp[idO],by simp[idO]⟩
     ·simp[kA,iA,iG,wA,wG,apA,hkn]
      rw[Z0m _ (by omega)];refine⟨hin,(M2,mo2),⟨hR2,fun hf i' k' hi' hk'=>?_⟩,Z7T (n:=d.next.length) (m:=d.next.length) (M:=M2) (by omega) (ZgN d d.next.length d.next.length M2) (Zb4 d d.next.length d.next.length M2) (fun j hj=>Zfz d M2 hj) ?_⟩
      ·by_cases hii:i'=i
       ·subst hii;exact hK2 hf k' (by omega)
       ·exact hCl2 hf i' k' (by omega) hk'
      ·simp only[iA,wA,apA]
       simp;exact⟨by simp[idO],by simp[idO]⟩
   ·simp[iA,iG,wA,wG,apA,hin]
    have hR1:=hR.ok;refine⟨_,(M1,mo),?_,⟨hR1,rfl,fun hf i' k' hi' hk'=>?_⟩,Z7T (n:=d.next.length) (m:=d.next.length) (M:=M1) (by omega) (ZgN d d.next.length d.next.length M1) (Zb4 d d.next.length d.next.length M1) (fun j hj=>Zfz d M1 hj) ?_⟩
    ·rw[hm]
     cases mo with
     | true=>have:=hR.lt rfl;simp only at this ⊢;simp;omega
     | false=>have:=hR.no rfl;simp only at this ⊢;rw[this];simp
    ·have:M1=M:=hR.no hf
     simp only;rw[this];exact hCl hf i' k' (by omega) hk'
    ·simp only[wA,apA]
     simp;exact⟨by simp[idO],by simp[idO]⟩
def oI(d:Det)(i:Nat)(_:Unit):Prop:=True
def oA(n:Nat)(i:Nat)(_:Unit):List (Nat×AV):=(5,Z06 i)::apA n
def oG(d:Det)(i:Nat)(_:Unit):List (Nat×Option Blk):=apG d d.next.length i (neM d)
def fI(d:Det)(i:Nat)(k:Nat)(rw_:List Bool):Prop:=rw_.length=d.next.length∧rw_.take k=(ZcB (neM d) d.next.length i).take k
def fA(n i:Nat)(k:Nat)(_:List Bool):List (Nat×AV):=(6,Z06 k)::oA n i ()
def fG(d:Det)(i:Nat)(_:Nat)(rw_:List Bool):List (Nat×Option Blk):=(11+i,some (.arr 1 (rw_.map Z1n)))::(0,some (.arr 3 [Z0v d]))::(10,some (.arr 1 (Z6M d.next.length (i+1))))::Zje (neM d) d.next.length i
theorem Zp0(l:List Bool)(k:Nat)(v:Bool)(h:k < l.length):(l.set k v).take (k+1)=l.take k++[v]:=by
 rw[List.take_succ_eq_append_getElem (by simpa using h),List.take_set_of_le (Nat.le_refl _)];simp
theorem Zsy{i new:Nat}(h:i < 3000)(hw:4000≤new):OOk ((11+i,new)::idO i) [] 0 4000:=by
 have h1:=ZnO (m:=i) (by omega);refine⟨fun p hp=>?_,?_⟩
 ·rcases List.mem_cons.mp hp with rfl | hp
  ·simp;omega
  ·exact h1.a p hp
 ·rw[List.pairwise_cons]
  refine⟨fun p hp=>?_,h1.u⟩
  have h2:p.1 < 11+i∧p.2 < 4000:=by
   simp only[idO,List.mem_cons,List.mem_map,List.mem_range] at hp;rcases hp with rfl | rfl | ⟨j,hj,rfl⟩<;>simp<;>omega
  simp only;omega
theorem ZlP(n:Nat):Z6M n 0=List.replicate n (.sl true []):=by
 apply List.ext_getElem
 ·simp[Z6M]
 ·intro i h1 h2
  simp[Z6M]
theorem Zov{gF:Nat→Option Blk}{R:Nat→Nat→Prop}{n i new:Nat}(h:∀j,j < i→R (11+j) (11+j))(h2:R (11+i) new):Z72 gF R ((Z6M n i).set i (.own new 0 n)) (Z6M n (i+1)):=by
 refine⟨by simp[Z6M],fun j h1 h3=>?_⟩;rw[List.getElem_set];simp only[Z6M,List.getElem_map,List.getElem_range];by_cases hji:j=i
 ·subst hji
  rw[if_pos rfl,if_pos (by omega)];exact .own _ _ _ _ h2
 ·rw[if_neg (by omega)]
  by_cases hlt:j < i
  ·rw[if_pos hlt,if_pos (by omega)]
   exact .own _ _ _ _ (h j hlt)
  ·rw[if_neg hlt,if_neg (by omega)]
   exact .cl (Z1p _)
theorem ZtW{a:AF}{S:St}{d:Det}{n i new:Nat}{rw_:List Bool}{A:List (Nat×AV)}(hi:i < 3000)(hw:4000≤new)(hn:n=d.next.length)(h0:S.g 0=some (.arr 3 [Z0v d]))(h10:S.g 10=some (.arr 1 ((Z6M n i).set i (.own new 0 n))))
  (hnew:S.g new=some (.arr 1 (rw_.map Z1n))) (hr:∀j,j < i→S.g (11+j)=some (.arr 1 ((ZcB (neM d) n j).map Z1n))) (hA:∀p∈A,Z5z (only [] S.g) (Zpa ((11+i,new)::idO i) 0) (a p.1) p.2):Abs 0 a S (Z6h A) ⟨4000,gOf (fG d i 0 rw_)⟩:=by
 subst hn;refine Abs.of ((11+i,new)::idO i) [] (by omega) (Zsy hi hw) (fun p hp=>.inr ?_) hA;simp only[fG,Zje,List.mem_cons,List.mem_map,List.mem_range] at hp;rcases hp with rfl | rfl | rfl | ⟨j,hj,rfl⟩
 ·refine⟨new,by simp,?_⟩
  rw[hnew,Z17];exact⟨rfl,Z72.cl (Z5W _)⟩
 ·refine⟨0,by simp[idO],?_⟩
  rw[h0,Z17];exact⟨rfl,Z72.cl (by intro y hy;simp at hy;subst hy;exact Z0e d)⟩
 ·refine⟨10,by simp[idO],?_⟩
  rw[h10,Z17];exact⟨rfl,Zov (fun j hj=>.inl (by simp[idO,hj])) (.inl (by simp))⟩
 ·refine⟨11+j,by simp[idO,hj],?_⟩
  rw[hr j hj,Z17];exact⟨rfl,Z72.cl (Z5W _)⟩
theorem ZrJ{a:AF}{S:St}{d:Det}{n i:Nat}{rw_:List Bool}{A:List (Nat×AV)}(hi:i < 3000)(hn:n=d.next.length)(h0:S.g 0=some (.arr 3 [Z0v d]))(h10:S.g 10=some (.arr 1 (Z6M n (i+1))))
  (hnew:S.g (11+i)=some (.arr 1 (rw_.map Z1n))) (hr:∀j,j < i→S.g (11+j)=some (.arr 1 ((ZcB (neM d) n j).map Z1n))) (hA:∀p∈A,Z5z (only [] S.g) (Zpa (idO (i+1)) 0) (a p.1) p.2):Abs 0 a S (Z6h A) ⟨4000,gOf (fG d i 0 rw_)⟩:=by
 subst hn;refine Abs.of (idO (i+1)) [] (by omega) (ZnO (by omega)) (fun p hp=>.inr ?_) hA;simp only[fG,Zje,List.mem_cons,List.mem_map,List.mem_range] at hp;rcases hp with rfl | rfl | rfl | ⟨j,hj,rfl⟩
 ·refine⟨11+i,by simp[idO],?_⟩
  rw[hnew,Z17];exact⟨rfl,Z72.cl (Z5W _)⟩
 ·refine⟨0,by simp[idO],?_⟩
  rw[h0,Z17];exact⟨rfl,Z72.cl (by intro y hy;simp at hy;subst hy;exact Z0e d)⟩
 ·refine⟨10,by simp[idO],?_⟩
  rw[h10,Z17];exact⟨rfl,ZkG fun j hj=>Zus hj⟩
 ·refine⟨11+j,by simp[idO];omega,?_⟩
  rw[hr j hj,Z17];exact⟨rfl,Z72.cl (Z5W _)⟩
theorem Zx0(d:Det)(i:Nat)(rw_:List Bool):gOf (fG d i 0 rw_) 0=some (.arr 3 [Z0v d]):=by
 have:¬(0=11+i):=by omega
 simp[fG,Z1H,this]
theorem Zw2(d:Det)(i:Nat)(rw_:List Bool):gOf (fG d i 0 rw_) 10=some (.arr 1 (Z6M d.next.length (i+1))):=by
 have:¬(10=11+i):=by omega
 simp[fG,Z1H,this]
theorem Zx1(d:Det)(i:Nat)(rw_:List Bool):gOf (fG d i 0 rw_) (11+i)=some (.arr 1 (rw_.map Z1n)):=by simp[fG,Z1H]
theorem Zx2(d:Det){i j:Nat}(rw_:List Bool)(h:j < i):gOf (fG d i 0 rw_) (11+j)=some (.arr 1 ((ZcB (neM d) d.next.length j).map Z1n)):=by
 unfold fG;rw[Z1H,if_neg (by omega),Z1H,if_neg (by omega),Z1H,if_neg (by omega)];exact Zhk h
theorem Zla{P:Program}{d:Det}(R:Z1Q d):AWb P 0 Z5p (Z75 [2] (FzK (Zbc (apM (Z3q d) d.next.length)))) (Z53 [Z0v d]) S0:=by
 have hn2:=R.n2;have hfn:=R.fin;have C:=Z6y R;have ed:(Z0v d).cells=[Z06 d.signs,Z0l d.next,Z2E d.fin]:=rfl;have q1:24*(d.next.length:Int)≤281474976710656:=by omega
 have q2:(d.next.length:Int)≤9223372036854775807:=by omega
 have q3:(d.next.length:Int)≤281474976710656:=by omega
 simp[Z5p,Zhd,q1,q2,q3,ZqX];refine Z2D d.next.length (oI d) (oA d.next.length) 4000 (oG d) () trivial ?_ ?_
 ·refine Abs.of [(0,0),(10,7)] [] (by omega) ⟨by simp,by simp⟩ ?_ ?_
  ·simp only[oG,apG,Zje,List.range_zero,List.map_nil,ZlP]
   simp[Z0e]
  ·simp only[oA,apA]
   simp
 ·rintro i _ hi _
  by_cases hlt:i < d.next.length
  ·have g0:=ZgN d d.next.length i (neM d)
   have g10:=Zb4 d d.next.length i (neM d)
   have gr:=fun j (hj:j < i)=>Zfz d (n:=d.next.length) (m:=i) (neM d) hj
   generalize hG:gOf (apG d d.next.length i (neM d))=g at g0 g10 gr;have hpl:=Zbp d.next.length i
   simp[oA,oG,apA,hG,g0,g10,gr,hlt,Zhd,q3,q2,hpl,Zqn,ZqU];refine Z2D d.next.length (fI d i) (fA d.next.length i) 4000 (fG d i) (List.replicate d.next.length false) ⟨by simp,by simp⟩ ?_ ?_
   ·refine ZtW (new:=4006) (by omega) (by omega) rfl (by simp[Z0A,g0]) (by simp[Z0A,g10]) (by simp[Z0A,Z1n]) (fun j hj=>?_) ?_
    ·have z1:¬(11+j=4006):=by omega
     have z2:¬(11+j=10):=by omega
     simp[Z0A,z1,z2,gr j hj]
    ·simp only[fA,oA,apA]
     simp;exact⟨by simp[idO],by simp[idO]⟩
   ·rintro k rw_ hk ⟨h1,h2⟩
    have f0:gOf (fG d i k rw_) 0=_:=Zx0 d i rw_;have f10:gOf (fG d i k rw_) 10=_:=Zw2 d i rw_;have fn:gOf (fG d i k rw_) (11+i)=_:=Zx1 d i rw_;have fr:∀j,j < i→gOf (fG d i k rw_) (11+j)=_:=fun j (hj:j < i)=>Zx2 d rw_ hj
    generalize hGF:gOf (fG d i k rw_)=gf at f0 f10 fn fr;have hpl1:=Zbp d.next.length (i+1)
    have hpi:∀h:i < (Z6M d.next.length (i+1)).length,(Z6M d.next.length (i+1))[i]=.own (11+i) 0 d.next.length:=fun h=>by
     simp[Z6M]
    by_cases hkn:k < d.next.length
    ·have hfi:i < d.fin.length:=by omega
     have hfk:k < d.fin.length:=by omega
     have e1:d.fin[i]=Z6n d i:=by rw[Z6n,List.getD_eq_getElem?_getD,List.getElem?_eq_getElem hfi];rfl
     have e2:d.fin[k]=Z6n d k:=by rw[Z6n,List.getD_eq_getElem?_getD,List.getElem?_eq_getElem hfk];rfl
     simp[fA,oA,apA,hGF,f0,f10,fn,fr,hkn,hlt,hpl1,hpi,h1,ed,hfi,hfk,e1,e2];rw[Z0m _ (by omega)]
     have hv:(Z6n d i != Z6n d k)=neM d i k:=by
      unfold neM;cases Z6n d i<;>cases Z6n d k<;>rfl
     rw[hv];have hkl:k < (ZcB (neM d) d.next.length i).length:=by rw[Z7m];exact hkn
     have z1:¬(0=11+i):=by omega
     have z2:¬(10=11+i):=by omega
     refine⟨hkn,rw_.set k (neM d i k),⟨by simpa using h1,?_⟩,ZrJ (by omega) rfl (by simp[Z0A,f0,z1]) (by simp[Z0A,f10,z2]) (by simp[Z0A,List.map_set,Z1n]) (fun j hj=>?_) ?_⟩
     ·rw[Zp0 _ _ _ (by omega),h2,List.take_succ_eq_append_getElem hkl,Z8l]
     ·have z3:¬(j=i):=by omega
      simp[Z0A,z3,fr j hj]
     ·simp only[fA,oA,apA]
      simp;exact⟨by simp[idO],by simp[idO]⟩
    ·simp[fA,oA,apA,hGF,f0,f10,fn,fr,hkn,hlt,hpl1,hpi,h1]
     rw[Z0m _ (by omega)]
     have hrw:rw_=ZcB (neM d) d.next.length i:=by
      have hke:k=d.next.length:=by omega
      rw[hke,List.take_of_length_le (by omega),List.take_of_length_le (by rw[Z7m];exact Nat.le_refl _)] at h2;exact h2
     refine⟨hlt,(),trivial,Z7T (n:=d.next.length) (m:=i+1) (M:=neM d) (by omega) f0 f10 (fun j hj=>?_) ?_⟩
     ·by_cases hji:j=i
      ·subst hji;rw[←hrw];exact fn
      ·exact fr j (by omega)
     ·simp only[oA,apA]
      simp;exact⟨by simp[idO],by simp[idO]⟩
  ·have hie:i=d.next.length:=by omega
   subst hie;simp[oA,oG,apA,ZgT];refine Ztf R (ZuA d) ?_ ?_
   ·refine Z7T (n:=d.next.length) (m:=d.next.length) (M:=neM d) (by omega) (ZgN d d.next.length d.next.length (neM d)) (Zb4 d d.next.length d.next.length (neM d)) (fun j hj=>Zfz d (neM d) hj) ?_
    simp only[wA,apA];simp;exact⟨by simp[idO],by simp[idO]⟩
   ·intro M a S hM hcl ha hS
    obtain⟨N,g⟩:=S;simp only at hS;subst hS;simp[ha];refine .own 10 0 d.next.length 1 (Z6M d.next.length d.next.length) _ (Zb4 d _ _ M) (by simp[Z6M]) (by simp[apM]) fun i h1 h2=>?_
    simp only[List.drop_zero] at h1 ⊢;have hi:i < d.next.length:=by simpa[apM] using h2
    simp only[List.getElem_take,ZdZ,List.getElem_map]
    have hrow:(apM (Z3q d) d.next.length)[i]'(by rw[ZmB];exact hi)=ZcB M d.next.length i:=by
     simp only[apM,List.getElem_map,List.getElem_range];apply List.ext_getElem
     ·rw[ZgP,Z7m]
     ·intro k h3 h4
      have hk:k < d.next.length:=by rw[Z7m] at h4;exact h4
      rw[Z8l,Zsa R hM hcl C hi hk];simp[ZgO,Z5I]
    rw[hrow];refine .own (11+i) 0 d.next.length 1 _ _ (Zfz d M hi) (by simp[ZcB]) (by simp[ZcB]) fun j h3 h4=>?_
    simp only[List.drop_zero,List.getElem_take];exact .closed _ (Z5W _ _ (List.getElem_mem _))
end Go.Rf
namespace Go.Rf
open Go.RowKit
theorem ZhO{d:Det}(R:Z1Q d):Z7A d:=by
 have h1:=R.n2;have h2:=R.fin;have h3:=R.s1;have h4:=R.s2;refine⟨by unfold Len;omega,by unfold Len;omega,fun r hr=>?_,by omega⟩;obtain⟨i,hi,rfl⟩:=List.getElem_of_mem hr;have:=R.row i hi;unfold Len;omega
end Go.Rf
namespace Go.Rf
attribute [local simp] Z4c Z48 Z2M Z2a Z2P Z2R Z2Q Z4a Z4b Z1e Z16 Z0c Z0B Z0q Z08 Z0o Z0h Z09 Z0p Z0i Z0Y Z0j Z0z Z0K Z0k Z0J Z1W Z3U Z0X Z25 Z22 Z24 Z23 Z26 Z1j Z0D Z11 Z12 Z1T Z1U Z1V Z0H Z0I Z1i Z0r Z0W Z20 Z1X Z1Z Z1Y Z21 Z1k Z13 Z1g Z0U Z0V Z0C Z1h Z0P Z1a Z1f Z14 Z1l ex Z00 Z0R Z6K Z6P Z0f Z0g Z0A Z2k Z1d Z10 Z0y Z0F Z0G Z0E Z0s Z0Z Z5y Z0O Z37 Z1c Z1O Z1R Z3s Z0b Z1q Z19 Z0Q Z1F Z3S Z1P Z6A Z3C Z6z Z3w Z2Y Z3t Z6w Z3D Z51 AV.solid S0 Z06 Z1n
def Z2m:AC :=
 (.seq (.reg none [
 ro 1 (.box 3 (.t 0)),
 ro 2 (.mv (.c (.v (.bool false))))])
 (.seq (.reg none [
 ro 6 (.fieldA 1 (.t 1)),
 ro 7 (.load none (.t 6)),
 ro 8 (.len (.t 7)),
 rm 3 8])
 (.seq (.seq (.reg none [
 ro 9 (.fieldA 0 (.t 1)),
 ro 10 (.load none (.t 9)),
 ro 11 (.bin .lss (.t 10) (ci 1)),
 rm 12 11,
 rg 13 12 false (.fieldA 0 (.t 1)),
 rg 14 12 false (.load none (.t 13)),
 rg 15 12 false (.bin .gtr (.t 14) (ci 400)),
 ro 16 (.pick (.t 12) (.c (.v (.bool true))) (.t 15)),
 rm 17 16,
 rg 18 17 false (.mv (.t 3)),
 rg 19 17 false (.bin .lss (.t 18) (ci 1)),
 ro 20 (.pick (.t 17) (.c (.v (.bool true))) (.t 19)),
 rm 21 20,
 rg 22 21 false (.mv (.t 3)),
 rg 23 21 false (.bin .gtr (.t 22) (ci 3000)),
 ro 24 (.pick (.t 21) (.c (.v (.bool true))) (.t 23)),
 rm 25 24,
 rg 26 25 false (.fieldA 2 (.t 1)),
 rg 27 25 false (.load none (.t 26)),
 rg 28 25 false (.len (.t 27)),
 rg 29 25 false (.mv (.t 3)),
 rg 30 25 false (.bin .neq (.t 28) (.t 29)),
 ro 31 (.pick (.t 25) (.c (.v (.bool true))) (.t 30))])
 (.cond (.t 31) (.seq (.reg none [
  ro 2 (.mv (.c (.v (.bool false))))])
 .ret) .skip))
 (.seq (.seq (.reg none [
 ro 4 (.mv (ci 0))])
 (.block 0 (.loop (.seq (.seq (.reg none [
  rm 32 4,
  rm 33 3,
  ro 34 (.bin .lss (.t 32) (.t 33))])
  (.cond (.t 34) .skip (.exit 0)))
  (.seq (.block 1 (.seq (.seq (.reg (some []) [
   ro 37 (.fieldA 1 (.t 1)),
   ro 38 (.load none (.t 37)),
   rm 39 4,
   ro 40 (.idxA 1 (.t 38) (.t 39)),
   ro 41 (.load none (.t 40)),
   ro 42 (.len (.t 41)),
   ro 43 (.fieldA 0 (.t 1)),
   ro 44 (.load none (.t 43)),
   ro 45 (.bin .neq (.t 42) (.t 44))])
  (.cond (.t 45) (.seq (.reg none [
   ro 2 (.mv (.c (.v (.bool false))))])
   .ret) .skip))
  (.seq (.reg none [
   ro 5 (.mv (ci 0))])
  (.block 2 (.loop (.seq (.seq (.reg none [
    rm 46 5,
    ro 47 (.fieldA 0 (.t 1)),
    ro 48 (.load none (.t 47)),
    ro 49 (.bin .lss (.t 46) (.t 48))])
   (.cond (.t 49) .skip (.exit 2)))
   (.seq (.block 3 (.seq (.reg none [
    ro 52 (.fieldA 1 (.t 1)),
    ro 53 (.load none (.t 52)),
    rm 54 4,
    ro 55 (.idxA 1 (.t 53) (.t 54)),
    ro 56 (.load none (.t 55)),
    rm 57 5,
    ro 58 (.idxA 1 (.t 56) (.t 57)),
    ro 59 (.load none (.t 58)),
    ro 60 (.bin .lss (.t 59) (ci 0)),
    rm 61 60,
    rg 62 61 false (.fieldA 1 (.t 1)),
    rg 63 61 false (.load none (.t 62)),
    rg 64 61 false (.mv (.t 4)),
    rg 65 61 false (.idxA 1 (.t 63) (.t 64)),
    rg 66 61 false (.load none (.t 65)),
    rg 67 61 false (.mv (.t 5)),
    rg 68 61 false (.idxA 1 (.t 66) (.t 67)),
    rg 69 61 false (.load none (.t 68)),
    rg 70 61 false (.mv (.t 3)),
    rg 71 61 false (.bin .geq (.t 69) (.t 70)),
    ro 72 (.pick (.t 61) (.c (.v (.bool true))) (.t 71))])
    (.cond (.t 72) (.seq (.reg none [
     ro 2 (.mv (.c (.v (.bool false))))])
    .ret) .skip)))
   (.reg none [
    rm 50 5,
    ro 51 (.bin .add (.t 50) (ci 1)),
    rm 5 51]))))))))
  (.reg none [
  rm 35 4,
  ro 36 (.bin .add (.t 35) (ci 1)),
  rm 4 36]))))))
 (.seq (.reg none [
 ro 2 (.mv (.c (.v (.bool true))))])
 .ret)))))
def Zv2(d:Det)(m:Nat)(f:AF)(S:St):Prop :=
 ∃i:Nat,i≤d.next.length∧m=d.next.length - i∧f 4=Z06 i∧f 3=Z06 d.next.length∧f 1=.ptr 0 0 0∧S.g 0=some (.arr 3 [Z0v d])∧(d.next.take i).all (ZcC d)=true
def Zv3(d:Det)(i:Nat)(r:List Int)(m:Nat)(f:AF)(S:St):Prop :=
 ∃j:Nat,j≤r.length∧m=r.length - j∧f 5=Z06 j∧f 4=Z06 i∧f 3=Z06 d.next.length∧f 1=.ptr 0 0 0∧S.g 0=some (.arr 3 [Z0v d])∧(r.take j).all (fun t=>decide (0≤t) && decide (t < d.next.length))=true
theorem Z8Q(P:Program)(d:Det)(ok:Z7A d):AW P Z2m (Z75 [2] (FzK (Z1n (Z2r d)))) (Z53 [Z0v d]) S0:=by
 have k1:=ok.next
 have k2:=ok.fin;have k3:=ok.signs;unfold Len at k1 k2;by_cases h1:d.signs < 1
 ·have hr:Z2r d=false:=by simp[Z2r];omega
  simp[Z2m,Z0v,Z0l,Z2E,h1,hr];exact Z2p false _
 by_cases h2:400 < d.signs
 ·have hr:Z2r d=false:=by simp[Z2r];omega
  simp[Z2m,Z0v,Z0l,Z2E,h1,h2,hr];exact Z2p false _
 by_cases h3:(d.next.length:Int) < 1
 ·have hr:Z2r d=false:=by simp[Z2r];omega
  simp[Z2m,Z0v,Z0l,Z2E,h1,h2,h3,hr];exact Z2p false _
 by_cases h4:(3000:Int) < d.next.length
 ·have hr:Z2r d=false:=by simp[Z2r];omega
  simp[Z2m,Z0v,Z0l,Z2E,h1,h2,h3,h4,hr];exact Z2p false _
 by_cases h5:d.fin.length=d.next.length
 ·have hc:((d.fin.length:Int) != d.next.length)=false:=by simp[h5]
  simp[Z2m,Z0v,Z0l,Z2E,h1,h2,h3,h4,hc];refine ZbI (Zv2 d) d.next.length ?_ ?_
  ·refine⟨0,by omega,by omega,?_,?_,?_,?_,?_⟩<;>simp[Z00,Z0f,Z0g,Z06,Z0v,Z0l,Z2E,Z0A]
  ·rintro m f S ⟨i,hi,rfl,e4,e3,e1,eg,hp⟩
   by_cases hlt:i < d.next.length
   ·have kr:=ok.rows _ (List.getElem_mem hlt)
    unfold Len at kr
    have hri:ZcC d d.next[i]=false→Z2r d=false:=by
     intro h;simp only[Z2r]
     have:d.next.all (ZcC d)=false:=by
      rw[List.all_eq_false];exact⟨_,List.getElem_mem hlt,by simp[h]⟩
     simp[this]
    by_cases hrl:((d.next[i]).length:Int)=d.signs
    ·have hc1:(((d.next[i]).length:Int) != d.signs)=false:=by simp[hrl]
     simp[e4,e3,e1,eg,Z0v,Z0l,Z2E,Z03,hlt,hc1];refine ZbI (Zv3 d i d.next[i]) (d.next[i]).length ?_ ?_
     ·refine⟨0,by omega,by omega,?_,?_,?_,?_,?_,?_⟩<;>simp[Z00,e4,e3,e1,eg,Z06,Z0v,Z0l,Z2E,Z03]
     ·rintro m f S ⟨j,hj,rfl,e5,e4,e3,e1,eg,hq⟩
      by_cases hjl:j < (d.next[i]).length
      ·have hjs:(j:Int) < d.signs:=by omega
       have hrow:¬(0≤(d.next[i])[j]∧(d.next[i])[j] < d.next.length)→ZcC d d.next[i]=false:=by
        intro h
        have:(d.next[i]).all (fun t=>decide (0≤t) && decide (t < d.next.length))=false:=by
         rw[List.all_eq_false];refine⟨_,List.getElem_mem hjl,?_⟩;simp only[Bool.and_eq_true,decide_eq_true_eq];exact h
        simp[ZcC,this]
       by_cases hn:(d.next[i])[j] < 0
       ·have hr:=hri (hrow (by omega))
        simp[e5,e4,e3,e1,eg,Z0v,Z0l,Z2E,Z03,hlt,hjl,hjs,hn,hr];exact Z2p false _
       by_cases hg:(d.next.length:Int)≤(d.next[i])[j]
       ·have hr:=hri (hrow (by omega))
        simp[e5,e4,e3,e1,eg,Z0v,Z0l,Z2E,Z03,hlt,hjl,hjs,hn,hg,hr];exact Z2p false _
       simp[e5,e4,e3,e1,eg,Z0v,Z0l,Z2E,Z03,hlt,hjl,hjs,hn,hg];rw[Z0m _ (by omega)];refine⟨(d.next[i]).length - (j+1),by omega,j+1,by omega,rfl,?_,?_,?_,?_,?_,by rw[Zb3 _ _ _ hjl,hq];simp;omega⟩<;>simp[Z00,e5,e4,e3,e1,eg,Z06,Z0v,Z0l,Z2E,Z03]
      ·have hjs:¬(j:Int) < d.signs:=by omega
       simp[e5,e4,e3,e1,eg,Z0v,Z0l,Z2E,Z03,hjs];rw[Z0m _ (by omega)];rw[List.take_of_length_le (by omega)] at hq;refine⟨d.next.length - (i+1),by omega,i+1,by omega,rfl,?_,?_,?_,?_,by rw[Zb3 _ _ _ hlt,hp,ZcC,hq];simp[hrl]⟩<;>simp[Z00,e5,e4,e3,e1,eg,Z06,Z0v,Z0l,Z2E,Z03]
    ·have hr:=hri (by simp[ZcC,hrl])
     have hc1:(((d.next[i]).length:Int) != d.signs)=true:=by simp[hrl]
     simp[e4,e3,e1,eg,Z0v,Z0l,Z2E,Z03,hlt,hc1,hr];exact Z2p false _
   ·have hr:Z2r d=true:=by
     rw[List.take_of_length_le (by omega)] at hp;simp[Z2r,hp];omega
    simp[e4,e3,e1,eg,Z0v,Z0l,Z2E,Z03,hlt,hr];exact Z2p true _
 ·have hr:Z2r d=false:=by simp[Z2r];omega
  have hc:((d.fin.length:Int) != d.next.length)=true:=by simp;omega
  simp[Z2m,Z0v,Z0l,Z2E,h1,h2,h3,h4,hc,hr];exact Z2p false _
end Go.Rf
