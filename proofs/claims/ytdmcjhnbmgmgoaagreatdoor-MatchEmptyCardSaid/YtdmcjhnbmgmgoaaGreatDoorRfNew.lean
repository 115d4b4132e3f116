import Derived.Test.YtdmcjhnbmgmgoaaGreatDoorRfEq0
import Derived.MapKept
import Derived.Lib.SliceRun
import Derived.Lib.AppendZeros
import Derived.Laws.Cover3
import Derived.Laws.Pointers
set_option linter.unusedVariables false
set_option linter.unusedSimpArgs false
set_option linter.unusedSectionVars false
namespace Go.Rf
open Go.RowKit
inductive KK where
 | int (k:IntKind)
 | str
 | ints (n:Nat)
def Cw:AV→Bool
 | .v (.int .i64 _)=>true
 | _=>false
def isK:KK→AV→Bool
 | .int k,.v (.int k' _)=>decide (k=k')
 | .str,.v (.string _)=>true
 | .ints n,.agg xs=>decide (xs.length=n) && xs.all Cw
 | _,_=>false
def Bh:List AV→List AV→Bool
 | [],[]=>true
 | .v (.int _ a)::xs,.v (.int _ b)::ys=>a == b && Bh xs ys
 | _,_=>false
def tu:AV→AV→Bool
 | .v (.int _ a),.v (.int _ b)=>a == b
 | .v (.string a),.v (.string b)=>a == b
 | .agg xs,.agg ys=>Bh xs ys
 | _,_=>false
def tq(k:AV):List (AV×AV)→Option AV
 | []=>none
 | e::es=>if tu k e.1=true then some e.2 else tq k es
def oV(k x:AV):List (AV×AV)→List (AV×AV)
 | []=>[(k,x)]
 | e::es=>if tu k e.1=true then (k,x)::es else e::oV k x es
def F9(P:Program)(t:TypeId):KK→Prop
 | .int k=>P.underlying t=some (.int k)
 | .str=>P.underlying t=some .string
 | .ints n=>BR P t=some (List.range n)
def Yv(P:Program)(t:TypeId):Option KK:=
 match P.underlying t with
 | some (.int k)=>some (.int k)
 | some .string=>some .str
 | _=>match BR P t with
  | some jC=>if (jC == List.range jC.length)=true then some (.ints jC.length) else none
  | none=>none
theorem Zoz{P:Program}{t:TypeId}{d:KK}(h:Yv P t=some d):F9 P t d:=by
 unfold Yv at h;split at h
 ·rename_i k hu;cases h;exact hu
 ·rename_i hu;cases h;exact hu
 ·split at h
  ·rename_i jC ho
   split at h
   ·rename_i he
    cases h;have:=eq_of_beq he;show BR P t=some (List.range jC.length)
    rw[←this];exact ho
   ·cases h
  ·cases h
def Jp(P:Program)(t:TypeId):Option (KK×AV):=
 match P.underlying t with
 | some (.map kt et)=>match Yv P kt with
  | some d=>(xA P et).map fun p=>(d,p.1)
  | none=>none
 | _=>none
theorem ZfF{P:Program}{t:TypeId}{d:KK}{z:AV}(h:Jp P t=some (d,z)):∃kt et m,P.underlying t=some (.map kt et)∧F9 P kt d∧xA P et=some (z,m):=by
 unfold Jp at h;split at h
 ·rename_i kt et hu
  split at h
  ·rename_i d' hd
   simp only[Option.map_eq_some_iff,Prod.mk.injEq] at h;obtain⟨p,hp,rfl,rfl⟩:=h;exact⟨kt,et,p.2,hu,Zoz hd,hp⟩
  ·cases h
 ·cases h
def AU(d:KK)(z:AV)(ok:Bool)(m k:AV):Eff:=
 match m with
 | .mp id=>.rd id fun
  | .map ents=>if isK d k=true∧∀e∈ents,isK d e.1=true then
    some (match tq k ents with
     | some x=>if ok=true then .aM [x,.v (.bool true)] else x
     | none=>if ok=true then .aM [z,.v (.bool false)] else z)
    else none
  | _=>none
 | _=>.val none
def Ch(d:KK)(m k x:AV):Eff:=
 match m with
 | .mp id=>.wr id fun
  | .map ents=>if isK d k=true∧∀e∈ents,isK d e.1=true then some (.map (oV k x ents)) else none
  | _=>none
 | _=>.val none
def FV:Eff:=.new (some (.map [],fun i=>.mp i))
def Je(m:AV):Eff:=
 match m with
 | .mp id=>.rd id fun
  | .map ents=>some (.v (.int .i64 ents.length))
  | _=>none
 | _=>.val none
theorem LA{x:AV}(h:Cw x=true):∃m,x=.v (.int .i64 m):=by
 unfold Cw at h;split at h
 ·exact⟨_,rfl⟩
 ·cases h
theorem Xg{xs:List AV}(h:xs.all Cw=true){j:Nat}(hj:j < xs.length):∃m,xs[j]? = some (.v (.int .i64 m)):=by
 obtain⟨m,hm⟩:=LA (List.all_eq_true.mp h _ (List.getElem_mem hj));exact⟨m,by rw[List.getElem?_eq_getElem hj,hm]⟩
theorem Zld:∀{xs ys:List AV},xs.all Cw=true→ys.all Cw=true→Bh xs ys=true→xs=ys
 | [],[],_,_,_=>rfl
 | [],y::ys,_,_,h=>by simp[Bh] at h
 | x::xs,[],_,_,h=>by
  simp only[Bh] at h;cases h
 | x::xs,y::ys,h1,h2,h=>by
  simp only[List.all_cons,Bool.and_eq_true] at h1 h2;obtain⟨a,rfl⟩:=LA h1.1;obtain⟨b,rfl⟩:=LA h2.1;simp only[Bh,Bool.and_eq_true,beq_iff_eq] at h;rw[h.1,Zld h1.2 h2.2 h.2]
theorem Zdz:∀{xs ys:List AV},xs.all Cw=true→ys.all Cw=true→xs.length=ys.length→∀(zs ws:List AV),zs.length=ws.length→dn (List.range' zs.length xs.length) (zs++xs) (ws++ys)=some (Bh xs ys)
 | [],[],_,_,_,zs,ws,_=>by simp[dn,Bh]
 | [],y::ys,_,_,h,_,_,_=>by simp at h
 | x::xs,[],_,_,h,_,_,_=>by simp at h
 | x::xs,y::ys,h1,h2,h,zs,ws,hz=>by
  simp only[List.all_cons,Bool.and_eq_true] at h1 h2;obtain⟨a,ha⟩:=LA h1.1;obtain⟨b,hb⟩:=LA h2.1;have ih:=Zdz h1.2 h2.2 (by simpa using h) (zs++[x]) (ws++[y]) (by simp[hz]);simp only[List.length_append,List.length_cons,List.length_nil,Nat.zero_add,List.append_assoc,List.singleton_append] at ih;have g1:(zs++x::xs)[zs.length]? = some x:=by simp
  have g2:(ws++y::ys)[zs.length]? = some y:=by rw[hz];simp
  simp only[List.length_cons,List.range'_succ,dn,g1,g2];subst ha;subst hb;simp only[if_true,Bh];by_cases hab:(a == b)=true
  ·rw[if_pos hab,hab,ih];simp
  ·rw[if_neg hab];simp[hab]
theorem IQ{E:Env}{n:Nat}{k:AV}{v:Value}(h:isK (.ints n) k=true)(r:aL E k v):∃xs vs,k=.agg xs∧v=.agg vs∧xs.length=n∧xs.all Cw=true∧vs.size=n:=by
 unfold isK at h;split at h
 ·cases ‹KK.ints n=KK.int _›
 ·cases ‹KK.ints n=KK.str›
 ·rename_i m xs he
  cases he;simp only[Bool.and_eq_true,decide_eq_true_eq] at h;cases r with
  | agg _ vs hn _ _=>exact⟨xs,vs,rfl,rfl,h.1,h.2,by omega⟩
 ·cases h
theorem Dz{E:Env}{d:KK}{k:AV}{v:Value}(hd:∀n,d≠.ints n)(h:isK d k=true)(r:aL E k v):k=.v v∧∃t,(match d with | .int k=>t=TypeDesc.int k | _=>t=.string)∧MapKept.IsKey t v:=by
 unfold isK at h;split at h
 ·have e:=r.jl;subst e;simp only[decide_eq_true_eq] at h;subst h;exact⟨rfl,_,rfl,by simp[MapKept.IsKey]⟩
 ·have e:=r.jl;subst e;exact⟨rfl,_,rfl,by simp[MapKept.IsKey]⟩
 ·exact absurd rfl (hd _)
 ·cases h
theorem Zim{E:Env}{d:KK}{j k:AV}{u v:Value}(h1:isK d j=true)(h2:isK d k=true)(r1:aL E j u)(r2:aL E k v)(h:tu j k=true):u=v:=by
 cases d with
 | int i=>
  obtain⟨rfl,_,rfl,q1⟩:=Dz (by simp) h1 r1;obtain⟨rfl,_,rfl,q2⟩:=Dz (by simp) h2 r2;cases u<;>simp[isK] at h1;cases v<;>simp[isK] at h2;subst h1;subst h2;simp only[tu,beq_iff_eq] at h;rw[h]
 | str=>
  obtain⟨rfl,_,rfl,q1⟩:=Dz (by simp) h1 r1;obtain⟨rfl,_,rfl,q2⟩:=Dz (by simp) h2 r2;cases u<;>simp[isK] at h1;cases v<;>simp[isK] at h2;simp only[tu] at h;rw[(MapKept.bytes_beq _ _).mp h]
 | ints n=>
  obtain⟨xs,vs,rfl,rfl,l1,a1,s1⟩:=IQ h1 r1;obtain⟨ys,us,rfl,rfl,l2,a2,s2⟩:=IQ h2 r2;have e:=Zld a1 a2 h;subst e;congr 1;apply Array.ext (by omega);intro i hi1 hi2;obtain⟨m,hm⟩:=Xg a1 (j:=i) (by omega);have p1:=Cc r1 hm;have p2:=Cc r2 hm;rw[Array.getElem?_eq_getElem hi1] at p1;rw[Array.getElem?_eq_getElem hi2] at p2;rw[Option.some.inj p1,Option.some.inj p2]
section
variable{P:Program}{w:World}{kt:TypeId}
theorem ZlO{E:Env}{d:KK}(hd:∀n,d≠.ints n){k:AV}{v:Value}(hK:F9 P kt d)(h:isK d k=true)(r:aL E k v):∃t,P.underlying kt=some t∧MapKept.IsKey t v∧∀(k2:AV) (v2:Value),isK d k2=true→aL E k2 v2→Instr.sameNow t v v2=some (tu k k2):=by
 obtain⟨e,t,ht,q⟩:=Dz hd h r;cases d with
 | int i=>
  subst ht;refine⟨_,hK,q,fun k2 v2 h2 r2=>?_⟩;obtain⟨e2,_,rfl,q2⟩:=Dz hd h2 r2;subst e;subst e2;cases v<;>simp[isK] at h;cases v2<;>simp[isK] at h2;subst h;subst h2;simp[Instr.sameNow,tu]
 | str=>
  subst ht;refine⟨_,hK,q,fun k2 v2 h2 r2=>?_⟩;obtain⟨e2,_,rfl,q2⟩:=Dz hd h2 r2;subst e;subst e2;cases v<;>simp[isK] at h;cases v2<;>simp[isK] at h2;simp[Instr.sameNow,tu]
 | ints n=>exact absurd rfl (hd n)
theorem ZlN{E:Env}{n:Nat}{j k:AV}{u v:Value}(hK:F9 P kt (.ints n))(h1:isK (.ints n) j=true)(h2:isK (.ints n) k=true)(r1:aL E j u)(r2:aL E k v):(Op.equal kt u v).run P w=.ok (tu j k) w:=by
 obtain⟨xs,vs,rfl,rfl,l1,a1,s1⟩:=IQ h1 r1;obtain⟨ys,us,rfl,rfl,l2,a2,s2⟩:=IQ h2 r2;have:=Zdz a1 a2 (by omega) [] [] rfl;simp only[List.length_nil,List.nil_append,l1] at this;exact ZmI r1 r2 w hK (by rw[List.range_eq_range'];exact this)
theorem Zfx{E:Env}{d:KK}{k:AV}{v:Value}(hK:F9 P kt d)(h:isK d k=true)(r:aL E k v)(em:Bool)(w:World):(Instr.checkKey em 10000 kt v).run P w=.ok () w:=by
 by_cases hd:∀n,d≠.ints n
 ·obtain⟨t,q1,q2,_⟩:=ZlO hd hK h r
  exact MapKept.run_checkKey (w:=w) q1 q2 em 9999
 ·obtain⟨n,hn⟩:=Classical.not_forall.mp hd
  have hn:=Classical.not_not.mp hn;subst hn;obtain⟨xs,vs,rfl,rfl,l1,a1,s1⟩:=IQ h r
  exact ZeD r w em hK fun o ho=>by
   obtain⟨m,hm⟩:=Xg a1 (j:=o) (by rw[l1];exact List.mem_range.mp ho);exact⟨_,_,hm⟩
theorem Zoy{E:Env}{d:KK}{k:AV}{v:Value}(h:isK d k=true)(r:aL E k v)(w:World):(Instr.keyThatStays v v).run P w=.ok v w:=by
 have key:Instr.sameBits 10000 v v=true:=by
  by_cases hd:∀n,d≠.ints n
  ·obtain⟨_,t,ht,q⟩:=Dz hd h r
   cases d with
   | int i=>subst ht;cases v<;>simp[MapKept.IsKey] at q<;>simp[Instr.sameBits]
   | str=>subst ht;cases v<;>simp[MapKept.IsKey] at q<;>simp[Instr.sameBits,MapKept.bytes_beq]
   | ints n=>exact absurd rfl (hd n)
  ·obtain⟨n,hn⟩:=Classical.not_forall.mp hd
   have hn:=Classical.not_not.mp hn;subst hn;obtain⟨xs,vs,rfl,rfl,l1,a1,s1⟩:=IQ h r;show Instr.sameBits (9999+1) (.agg vs) (.agg vs)=true
   simp only[Instr.sameBits,beq_self_eq_true,Bool.true_and,List.all_eq_true];intro p hp;obtain⟨i,hi,e⟩:=List.getElem_of_mem hp;rw[List.getElem_zip] at e;rw[←e];have hi':i < vs.size:=by simpa using hi
   obtain⟨m,hm⟩:=Xg a1 (j:=i) (by omega);have p1:=Cc r hm;rw[Array.getElem?_eq_getElem hi'] at p1;simp only[Array.getElem_toList,Option.some.inj p1];simp[Instr.sameBits]
 unfold Instr.keyThatStays;rw[if_pos key];rfl
theorem Zi8{E:Env}{d:KK}{t:TypeDesc}{k:AV}{kv:Value}(hs':∀(k2:AV) (v2:Value),isK d k2=true→aL E k2 v2→Instr.sameNow t kv v2=some (tu k k2))(hk:isK d k=true)(rk:aL E k kv)(y:AV):∀(ents:List (AV×AV)) (l:List MapEntry) (i:Nat),l.length=ents.length→
  (∀j (h:j < ents.length),∃e,l[j]? = some e∧aL E (ents[j].1) e.key∧aL E (ents[j].2) e.val)→(∀e∈ents,isK d e.1=true)→
  (tq k ents=none∧Instr.findNow t kv l i=some none∧oV k y ents=ents++[(k,y)])∨
  ∃x j e,tq k ents=some x∧Instr.findNow t kv l i=some (some (i+j,e.val))∧l[j]? = some e∧aL E x e.val∧oV k y ents=ents.set j (k,y)∧e.key=kv∧j < ents.length
 | [],l,i,hl,_,_=>by
  have:l=[]:=by simpa using hl
  subst this;exact .inl ⟨rfl,rfl,rfl⟩
 | p::ents,l,i,hl,hr,ha=>by
  cases l with
  | nil=>simp at hl
  | cons e l=>
   obtain⟨e',h1,h2,h3⟩:=hr 0 (by simp);simp only[List.getElem?_cons_zero,Option.some.injEq] at h1;subst h1;simp only[List.getElem_cons_zero] at h2 h3;have hp:=ha p (by simp);have hs:Instr.sameNow t kv e.key=some (tu k p.1):=hs' _ _ hp h2;cases hb:tu k p.1 with
   | true=>exact .inr ⟨p.2,0,e,by simp[tq,hb],by simp[Instr.findNow,hs,hb],rfl,h3,by simp[oV,hb],(Zim hk hp rk h2 hb).symm,by simp⟩
   | false=>
    rcases Zi8 hs' hk rk y ents l (i+1) (by simpa using hl) (fun j hj=>by
     obtain⟨e2,a,b,c⟩:=hr (j+1) (by simpa using hj);exact⟨e2,by simpa using a,by simpa using b,by simpa using c⟩) (fun q hq=>ha q (by simp[hq])) with⟨g1,g2,g3⟩ | ⟨x,j,e2,g1,g2,g3,g4,g5,g6,g7⟩
    ·exact .inl ⟨by simp[tq,hb,g1],by simp[Instr.findNow,hs,hb,g2],by simp[oV,hb,g3]⟩
    ·exact .inr ⟨x,j+1,e2,by simp[tq,hb,g1],by simp[Instr.findNow,hs,hb,g2];omega,by simpa using g3,g4,by simp[oV,hb,g5],g6,by simpa using g7⟩
theorem Zi7{E:Env}{n:Nat}(hK:F9 P kt (.ints n)){k:AV}{kv:Value}(hk:isK (.ints n) k=true)(rk:aL E k kv)(y:AV):∀(ents:List (AV×AV)) (l:List MapEntry) (i:Nat),l.length=ents.length→
  (∀j (h:j < ents.length),∃e,l[j]? = some e∧aL E (ents[j].1) e.key∧aL E (ents[j].2) e.val)→(∀e∈ents,isK (.ints n) e.1=true)→
  (tq k ents=none∧(Instr.findAsking kt kv l i).run P w=.ok none w∧oV k y ents=ents++[(k,y)])∨
  ∃x j e,tq k ents=some x∧(Instr.findAsking kt kv l i).run P w=.ok (some (i+j,e.val)) w∧l[j]? = some e∧aL E x e.val∧oV k y ents=ents.set j (k,y)∧e.key=kv∧j < ents.length
 | [],l,i,hl,_,_=>by
  have:l=[]:=by simpa using hl
  subst this;exact .inl ⟨rfl,by simp[Instr.findAsking],rfl⟩
 | p::ents,l,i,hl,hr,ha=>by
  cases l with
  | nil=>simp at hl
  | cons e l=>
   obtain⟨e',h1,h2,h3⟩:=hr 0 (by simp);simp only[List.getElem?_cons_zero,Option.some.injEq] at h1;subst h1;simp only[List.getElem_cons_zero] at h2 h3;have hp:=ha p (by simp);have hs:(Op.equal kt kv e.key).run P w=.ok (tu k p.1) w:=ZlN hK hk hp rk h2;cases hb:tu k p.1 with
   | true=>exact .inr ⟨p.2,0,e,by simp[tq,hb],by simp[Instr.findAsking,hs,hb],rfl,h3,by simp[oV,hb],(Zim hk hp rk h2 hb).symm,by simp⟩
   | false=>
    rcases Zi7 hK hk rk y ents l (i+1) (by simpa using hl) (fun j hj=>by
     obtain⟨e2,a,b,c⟩:=hr (j+1) (by simpa using hj);exact⟨e2,by simpa using a,by simpa using b,by simpa using c⟩) (fun q hq=>ha q (by simp[hq])) with⟨g1,g2,g3⟩ | ⟨x,j,e2,g1,g2,g3,g4,g5,g6,g7⟩
    ·exact .inl ⟨by simp[tq,hb,g1],by simp[Instr.findAsking,hs,hb,g2],by simp[oV,hb,g3]⟩
    ·exact .inr ⟨x,j+1,e2,by simp[tq,hb,g1],by simp[Instr.findAsking,hs,hb,g2];omega,by simpa using g3,g4,by simp[oV,hb,g5],g6,by simpa using g7⟩
theorem Zlo{E:Env}{d:KK}(hK:F9 P kt d){k:AV}{kv:Value}(hk:isK d k=true)(rk:aL E k kv)(y:AV)(ents:List (AV×AV))(l:List MapEntry)(hl:l.length=ents.length)
  (hr:∀j (h:j < ents.length),∃e,l[j]? = some e∧aL E (ents[j].1) e.key∧aL E (ents[j].2) e.val) (ha:∀e∈ents,isK d e.1=true) :
  (tq k ents=none∧(Instr.findKey kt kv l).run P w=.ok none w∧oV k y ents=ents++[(k,y)])∨
  ∃x j e,tq k ents=some x∧(Instr.findKey kt kv l).run P w=.ok (some (j,e.val)) w∧l[j]? = some e∧aL E x e.val∧oV k y ents=ents.set j (k,y)∧e.key=kv∧j < ents.length:=by
 by_cases hd:∀n,d≠.ints n
 ·obtain⟨t,q1,q2,q3⟩:=ZlO hd hK hk rk
  rcases Zi8 q3 hk rk y ents l 0 hl hr ha with⟨f1,f2,f3⟩ | ⟨x,j,e,f1,f2,f3⟩
  ·exact .inl ⟨f1,MapKept.run_findKey (w:=w) q1 f2,f3⟩
  ·exact .inr ⟨x,j,e,f1,by rw[MapKept.run_findKey (w:=w) q1 f2,Nat.zero_add],f3⟩
 ·obtain⟨n,hn⟩:=Classical.not_forall.mp hd
  have hn:=Classical.not_not.mp hn;subst hn;rw[run_findKey_eq w (Zfw hK)];rcases Zi7 (w:=w) hK hk rk y ents l 0 hl hr ha with h | ⟨x,j,e,f1,f2,f3⟩
  ·exact .inl h
  ·exact .inr ⟨x,j,e,f1,by rw[f2,Nat.zero_add],f3⟩
end
section
variable{P:Program}{n:Nat}{o:Oper}{a:AF}{S:St}{aC:Nat}{v:AV}
theorem ZtD{t:TypeId}{S':St}(hd:∀d,o.dst=some d→d < n)(hop:o.op=.makeMap t none)(h:FV.run S aC=some (v,S')):iO P n o a S aC v S':=by
 simp only[FV,Eff.K5,Option.map_some,Option.some.injEq,Prod.mk.injEq] at h;obtain⟨rfl,rfl⟩:=h;refine .of_run hd fun E w act hS hF hn hlt=>?_
 have hb:mJ E (w.alloc (.map #[] 0)) ⟨w.heap.size,0,0,0⟩ (.map []):=⟨#[],0,Li w _,rfl,by simp⟩;refine⟨_,_,E.loc aC ⟨w.heap.size,0,0,0⟩,by simp[execOp,hop,Instr.makeMap,newObj];rfl,hS.alloc hn hlt _ _ rfl _ hb,.alloc hn _ _ rfl _,.mp aC ⟨w.heap.size,0,0,0⟩ (by simp[Env.loc]),fun oh=>by simp[tV,hop] at oh,fun i hi e=>?_⟩;simp[Env.loc,bF,hi,e]
theorem ZiO{t:TypeId}{i:TypeInfo}{z:Value}(h:P.info? t=some i)(hz:i.zero=some z)(w:World):(zeroValue t).run P w=.ok z w:=by
 simp[zeroValue,typeInfo,h,hz]
theorem Zry{t:TypeId}{x k:Operand}{X K:aJ}{d:KK}{z:AV}{ok:Bool}{S':St}(hd:∀d,o.dst=some d→d < n)(hop:o.op=.lookup t x k ok)(hx:aV x=some X)(hk:aV k=some K)
  (hm:Jp P t=some (d,z)) (h:(AU d z ok (X.ev a) (K.ev a)).run S aC=some (v,S')):iO P n o a S aC v S':=by
 generalize hxe:X.ev a=xv at h;generalize hke:K.ev a=kv at h;unfold AU at h;split at h
 ·rename_i id
  simp only[Eff.Ar,Option.map_eq_some_iff,Prod.mk.injEq] at h;obtain⟨r,h1,rfl,rfl⟩:=h;cases hg:S.g id with
  | none=>rw[hg] at h1;simp at h1
  | some b=>
   rw[hg] at h1;cases b with
   | arr es xs=>simp at h1
   | map ents=>
    simp only[Option.bind_some] at h1;split at h1
    ·rename_i hc
     obtain⟨c1,c2⟩:=hc;obtain⟨kt,et,m,u1,u2,u3⟩:=ZfF hm;refine .pure hd fun E w act hS hF=>?_
     have rx:=bT hF hx;have rk:=bT hF hk;rw[hxe] at rx;rw[hke] at rk;obtain⟨i,zv,g1,g2,g3,g4,g5⟩:=Az (E:=E) u3;generalize hev:act.eval x=av at rx;cases rx with
     | mp _ l hl=>
      obtain⟨l',e,hN,es,clock,b1,b2,b3⟩:=hS.live id _ hg;rw[hl] at e;cases e;have hck:=Zfx u2 c1 rk es.isEmpty w
      have hfin:∀(a:Option (Nat×Value)),(Instr.findKey kt (act.eval k) es.toList).run P w=.ok a w→(execOp act.eval o).run P w=.ok (.value (if ok=true then .tuple #[(a.map (·.2)).getD zv,.bool a.isSome] else (a.map (·.2)).getD zv)) w:=by
       intro a hf;simp only[execOp,hop,hev,Instr.lookup,Sem.run_bind,run_underlying u1,Result.andThen_ok,MapKept.run_getObj_map b1];simp only[Sem.run_pure,Result.andThen_ok];rw[hck];simp only[Result.andThen_ok];rw[hf];cases a with
       | none=>simp[ZiO g1 g2]
       | some p=>simp
      rcases Zlo (w:=w) u2 c1 rk .junk ents es.toList (by simpa using b2) (fun j hj=>by
       obtain⟨e,q1,q2⟩:=b3 j hj;exact⟨e,by simpa using q1,q2⟩) c2 with⟨f1,f2,f3⟩ | ⟨y,j,e,f1,f2,f3,f4,f5,f6,f7⟩
      ·refine⟨_,hfin _ f2,?_⟩
       rw[f1] at h1;simp only[Option.some.injEq] at h1;subst h1;cases ok with
       | true=>
        refine .aM _ _ rfl fun j hj=>?_
        rcases j with _ | _ | j
        ·exact g5
        ·exact .v _ rfl
        ·simp at hj;omega
       | false=>exact g5
      ·refine⟨_,hfin _ f2,?_⟩
       rw[f1] at h1;simp only[Option.some.injEq] at h1;subst h1;cases ok with
       | true=>
        refine .aM _ _ rfl fun j hj=>?_
        rcases j with _ | _ | j
        ·exact f4
        ·exact .v _ rfl
        ·simp at hj;omega
       | false=>exact f4
    ·cases h1
 ·simp at h
theorem Zrv{t:TypeId}{x:Operand}{X:aJ}{kt et:TypeId}{S':St}(hd:∀d,o.dst=some d→d < n)(hop:o.op=.call { callee:=.builtin .len,args:=#[x],argTypes:=#[t] })(hx:aV x=some X)
  (hu:P.underlying t=some (.map kt et)) (h:(Je (X.ev a)).run S aC=some (v,S')):iO P n o a S aC v S':=by
 generalize hxe:X.ev a=xv at h;unfold Je at h;split at h
 ·rename_i id
  simp only[Eff.Ar,Option.map_eq_some_iff,Prod.mk.injEq] at h;obtain⟨r,h1,rfl,rfl⟩:=h;cases hg:S.g id with
  | none=>rw[hg] at h1;simp at h1
  | some b=>
   rw[hg] at h1;cases b with
   | arr es xs=>simp at h1
   | map ents=>
    simp only[Option.bind_some,Option.some.injEq] at h1;subst h1;refine .pure hd fun E w act hS hF=>?_
    have rx:=bT hF hx;rw[hxe] at rx;generalize hev:act.eval x=av at rx;cases rx with
    | mp _ l hl=>
     obtain⟨l',e,hN,es,clock,b1,b2,b3⟩:=hS.live id _ hg;rw[hl] at e;cases e;refine⟨.int .i64 ents.length,?_,.v _ rfl⟩;simp[execOp,hop,resolve,invoke,builtin,Builtin.len_,hev,run_underlying hu,goInt,MapKept.run_getObj_map b1,b2]
 ·simp at h
theorem Zml{t:TypeId}{m k x:Operand}{M K X:aJ}{d:KK}{z:AV}{S':St}(hd:∀d,o.dst=some d→d < n)(hop:o.op=.mapUpdate t m k x∨o.op=.insert t m k x)(hmm:aV m=some M)(hk:aV k=some K)(hx:aV x=some X)
  (hm:Jp P t=some (d,z)) (h:(Ch d (M.ev a) (K.ev a) (X.ev a)).run S aC=some (v,S')):v=.junk∧iO P n o a S aC .junk S':=by
 generalize hme:M.ev a=mv at h;generalize hke:K.ev a=kv at h;generalize hxe:X.ev a=xv at h;unfold Ch at h;split at h
 ·rename_i id
  simp only[Eff.HZ,Option.map_eq_some_iff,Prod.mk.injEq] at h;obtain⟨r,h1,rfl,rfl⟩:=h;refine⟨rfl,?_⟩;cases hg:S.g id with
  | none=>rw[hg] at h1;simp at h1
  | some b=>
   rw[hg] at h1;cases b with
   | arr es xs=>simp at h1
   | map ents=>
    simp only[Option.bind_some] at h1;split at h1
    ·rename_i hc
     obtain⟨c1,c2⟩:=hc;simp only[Option.some.injEq] at h1;subst h1;obtain⟨kt,et,_,u1,u2,u3⟩:=ZfF hm;refine .P5g hd fun E w act hS hF _ _=>?_
     have rm:=bT hF hmm;have rk:=bT hF hk;have rx:=bT hF hx;rw[hme] at rm;rw[hke] at rk;rw[hxe] at rx;generalize hev:act.eval m=av at rm;cases rm with
     | mp _ l hl=>
      obtain⟨l',e,hN,es,clock,b1,b2,b3⟩:=hS.live id _ hg;rw[hl] at e;cases e;have hck:=Zfx u2 c1 rk false w
      have fin:∀(ob:Obj),(execOp act.eval o).run P w=.ok .skip { w with heap:=w.heap.setIfInBounds l.b ob }→mJ E { w with heap:=w.heap.setIfInBounds l.b ob } l (.map (oV kv xv ents))→
        ∃w' E',(execOp act.eval o).run P w=.ok .skip w'∧bf E' (S.set id (some (.map (oV kv xv ents)))) w'∧kH E S w E' (S.set id (some (.map (oV kv xv ents)))) w'∧(tV o.op=true→E'=E∧w'=w)∧∀i,i≠aC→E.ρ i=none→E'.ρ i=none:=by
       intro ob h1 h2;have hne:∀b,b≠l.b→({ w with heap:=w.heap.setIfInBounds l.b ob }:World).heap[b]? = w.heap[b]?:=fun b hb=>by simp[Ne.symm hb]
       exact⟨_,E,h1,hS.write hg hl hne h2,.write hg hl rfl rfl rfl (by simp) hne,fun oh=>by rcases hop with hop | hop<;>simp[tV,hop] at oh,fun _ _ e=>e⟩
      have hlt:l.b < w.heap.size:=(Array.getElem?_eq_some_iff.mp b1).1
      rcases Zlo (w:=w) u2 c1 rk xv ents es.toList (by simpa using b2) (fun j hj=>by
       obtain⟨e,q1,q2⟩:=b3 j hj;exact⟨e,by simpa using q1,q2⟩) c2 with⟨f1,f2,f3⟩ | ⟨y,j,e,f1,f2,f3,f4,f5,f6,f7⟩
      ·refine fin (.map (es.push { key:=act.eval k,val:=act.eval x,born:=clock }) (clock+1)) ?_ ?_
       ·have hf:=f2
        rcases hop with hop | hop <;>
        ·simp only[execOp,hop,hev,Instr.mapUpdate,Sem.run_bind,run_underlying u1,Result.andThen_ok,MapKept.run_getObj_map b1,hck,hf,MapKept.run_setObj_map _ b1]
         rfl
       ·refine⟨_,_,by simp[hlt];exact⟨rfl,rfl⟩,by simp[f3,b2],fun j hj=>?_⟩
        simp only[f3] at hj ⊢;by_cases hjl:j < ents.length
        ·obtain⟨e,q1,q2,q3⟩:=b3 j hjl
         refine⟨e,by rw[Array.getElem?_push,if_neg (by omega)];exact q1,?_,?_⟩
         ·rw[List.getElem_append_left hjl];exact q2
         ·rw[List.getElem_append_left hjl];exact q3
        ·have:j=ents.length:=by simp at hj;omega
         subst this;refine⟨⟨act.eval k,act.eval x,clock⟩,by rw[Array.getElem?_push,if_pos (by omega)],?_,?_⟩
         ·simp;exact rk
         ·simp;exact rx
      ·refine fin (.map (es.modify j fun e=>{ e with key:=act.eval k,val:=act.eval x }) clock) ?_ ?_
       ·have hf:=f2
        have he:es[j]? = some e:=by simpa using f3
        have hks:(Instr.keyThatStays (((es[j]?).map (·.key)).getD (act.eval k)) (act.eval k)).run P w=.ok (act.eval k) w:=by
         rw[he];simp only[Option.map_some,Option.getD_some,f6];exact Zoy c1 rk w
        rcases hop with hop | hop <;>
        ·simp only[execOp,hop,hev,Instr.mapUpdate,Sem.run_bind,run_underlying u1,Result.andThen_ok,MapKept.run_getObj_map b1,hck,hf,hks,MapKept.run_setObj_map _ b1]
         rfl
       ·refine⟨_,_,by simp[hlt];exact⟨rfl,rfl⟩,by simp[f5,b2],fun i hi=>?_⟩
        simp only[f5,List.length_set] at hi ⊢;obtain⟨e2,q1,q2,q3⟩:=b3 i hi;by_cases hij:j=i
        ·subst hij
         refine⟨{ e2 with key:=act.eval k,val:=act.eval x },by rw[Array.getElem?_modify,if_pos rfl,q1];rfl,?_,?_⟩
         ·simp;exact rk
         ·simp;exact rx
        ·refine⟨e2,by rw[Array.getElem?_modify,if_neg hij];exact q1,?_,?_⟩
         ·simp[hij];exact q2
         ·simp[hij];exact q3
    ·cases h1
 ·simp at h
end
def dW(neq:Bool)(jC:List Nat)(x y:AV):Option AV:=
 match x,y with
 | .agg xs,.agg ys=>(dn jC xs ys).map fun b=>.v (.bool (if neq=true then !b else b))
 | _,_=>none
section
variable{P:Program}{n:Nat}{o:Oper}{a:AF}{S:St}{aC:Nat}{v:AV}
theorem QV{op:BinOp}{t t2:TypeId}{x y:Operand}{X Y:aJ}{q:Bool}{jC:List Nat}(hd:∀d,o.dst=some d→d < n)(hop:o.op=.binOp op t x y t2)(hx:aV x=some X)(hy:aV y=some Y)
  (ho:IY P t=some jC) (hq:(op=.eql∧q=false)∨(op=.neq∧q=true)) (h:dW q jC (X.ev a) (Y.ev a)=some v):iO P n o a S aC v S:=by
 refine .pure hd fun E w act hS hF=>?_
 have rx:=bT hF hx;have ry:=bT hF hy;generalize X.ev a=p at rx h;generalize Y.ev a=r at ry h;unfold dW at h;split at h
 ·rename_i xs ys
  simp only[Option.map_eq_some_iff] at h;obtain⟨b,hb,rfl⟩:=h;generalize hv1:act.eval x=v1 at rx;generalize hv2:act.eval y=v2 at ry;obtain⟨vs,rfl⟩:∃vs,v1=.agg vs:=by cases rx with | agg _ vs _ _ _=>exact⟨vs,rfl⟩
  obtain⟨us,rfl⟩:∃us,v2=.agg us:=by cases ry with | agg _ vs _ _ _=>exact⟨vs,rfl⟩
  unfold IY at ho;split at ho
  ·rename_i fs hfs
   split at ho
   ·rename_i hst
    split at ho
    ·rename_i hgd
     have hfo:P.fieldsOf t=fs:=by simp[Program.fieldsOf,hfs]
     have he:(Op.equalIn 10000 t (.agg vs) (.agg us)).run P w=.ok b w:=by
      rw[run_equalIn_struct w 9999 t vs us (by rw[hfo];exact hfs) hst,hfo];exact Vq rx ry 9998 w _ _ _ ho hb
     rcases hq with⟨rfl,rfl⟩ | ⟨rfl,rfl⟩
     ·exact⟨.bool b,by simp only[execOp,hop,hv1,hv2,Sem.run_bind,run_eqGuard_agg w .eql t x y vs us hgd,Result.andThen_ok,run_eql_struct,he];rfl,.v _ rfl⟩
     ·exact⟨.bool (!b),by simp only[execOp,hop,hv1,hv2,Sem.run_bind,run_eqGuard_agg w .neq t x y vs us hgd,Result.andThen_ok,run_neq_struct,he];rfl,.v _ rfl⟩
    ·cases ho
   ·cases ho
  ·rename_i m e hu
   split at ho
   ·rename_i hgd
    unfold LU at ho;split at ho
    ·rename_i k i hue hie
     split at ho
     ·rename_i hc1
      cases ho
      have he:(Op.equalIn 10000 t (.agg vs) (.agg us)).run P w=.ok b w:=by
       rw[run_equalIn_array w 9999 vs us hu hie,hc1];exact Vr rx ry 9998 w hue _ _ hb
      rcases hq with⟨rfl,rfl⟩ | ⟨rfl,rfl⟩
      ·exact⟨.bool b,by simp only[execOp,hop,hv1,hv2,Sem.run_bind,run_eqGuard_agg w .eql t x y vs us hgd,Result.andThen_ok,run_eql_struct,he];rfl,.v _ rfl⟩
      ·exact⟨.bool (!b),by simp only[execOp,hop,hv1,hv2,Sem.run_bind,run_eqGuard_agg w .neq t x y vs us hgd,Result.andThen_ok,run_neq_struct,he];rfl,.v _ rfl⟩
     ·cases ho
    ·cases ho
   ·cases ho
  ·cases ho
 ·cases h
end
def jW(x:AV):Option AV:=
 match x with
 | .ptr id ix c=>some (.ptr id ix c)
 | .bJ y c=>some (.bJ y c)
 | .aP f a b=>some (.aP f a b)
 | _=>none
def Mx(x:AV):Option AV:=
 match x with
 | .sl true xs=>some (.v (.int .i64 xs.length))
 | _=>none
def Rv(es:Nat)(z:AV)(x:AV):Eff:=
 match x with
 | .sl t xs=>.val (if xs.length=0 then some .junk else none)
 | .own id off len=>.wr id fun
  | .arr es' xs=>if es'=es∧off+len≤xs.length∧z.cells.length=es then some (.arr es (xs.take off++List.replicate len z++xs.drop (off+len))) else none
  | _=>none
 | _=>.val none
def X5(es:Nat)(x y:AV):Eff:=
 match x with
 | .sl _ xs=>.val (if xs.length=0 then none else none)
 | .own id off len=>⟨id::y.kF,fun
  | .arr es' xs::bs=>(mq es bs y).bind fun ys=>
    if es'=es∧off+len≤xs.length∧y.kF≠[id] then
     some ⟨fun _=>.junk,[some (.arr es (xs.take off++ys.take (min ys.length len)++xs.drop (off+min ys.length len)))],none⟩ else none
  | _=>none⟩
 | _=>.val none
def sV(sl neg:Bool)(x:AV):Option AV:=
 match sl,x with
 | true,.sl _ (_::_)=>some (.v (.bool neg))
 | true,.own _ _ (_+1)=>some (.v (.bool neg))
 | false,.v (.pointer none)=>some (.v (.bool (!neg)))
 | false,.ptr _ _ _=>some (.v (.bool neg))
 | false,.bJ _ _=>some (.v (.bool neg))
 | _,_=>none
def P6:AV→Prop
 | .sl _ []=>True
 | .own _ _ 0=>True
 | _=>False
def Mh(es aB:Nat)(z x n:AV):Eff:=
 match x,n with
 | .sl true [],.v (.int _ m)=>.new (if 0 < m∧m*aB≤140737488355328∧m≤140737488355328∧0 < es∧z.cells.length=es then some (.arr es (List.replicate m.toNat z),fun i=>.own i 0 m.toNat) else none)
 | _,_=>.val none
def Ee(P:Program)(op:BinOp)(t:TypeId)(y:Operand):Option (Bool×Bool):=
 match op,y with
 | .eql,.const (.slice none 0 0)=>match P.underlying t with | some (.slice _)=>some (true,false) | _=>none
 | .neq,.const (.slice none 0 0)=>match P.underlying t with | some (.slice _)=>some (true,true) | _=>none
 | .eql,.const (.pointer none)=>match P.underlying t with | some (.pointer _)=>some (false,false) | _=>none
 | .neq,.const (.pointer none)=>match P.underlying t with | some (.pointer _)=>some (false,true) | _=>none
 | _,_=>none
theorem Zd0{E:Env}{w:World}{l:Loc}{es:Nat}{xs ys:List AV}{news:List Value}(h:mJ E w l (.arr es xs))(off:Nat)(hoff:off+ys.length≤xs.length)
  (hy:∀x∈ys,x.cells.length=es) (hya:∀y∈flat ys,y.atom=true) (hn:news.length=ys.length*es)
  (hrn:∀k (hk:k < (flat ys).length),∃v,news[k]? = some v∧aL E ((flat ys)[k]) v) :
  ∃cs el,w.heap[l.b]? = some (.cells cs el (0,0))∧(l.o+off*es)+news.length≤cs.size∧
   mJ E (w.setRow l.b (cs.toList.take (l.o+off*es)++news++cs.toList.drop (l.o+off*es+news.length)).toArray) l (.arr es (xs.take off++ys++xs.drop (off+ys.length))):=by
 obtain⟨h1,h2,h3,h4,cs,el,h5,h6,h7⟩:=h;have hlx:=r9 h3;have hly:=r9 hy;have hm:(off+ys.length)*es≤xs.length*es:=Nat.mul_le_mul_right _ hoff;have hm2:xs.length*es≤l.tot*es:=Nat.mul_le_mul_right _ h2;rw[Nat.add_mul] at hm;have hf:l.o+off*es+news.length≤cs.size:=by omega
 have hes:l.es=es:=h1
 have hcells:∀x∈xs.take off++ys++xs.drop (off+ys.length),x.cells.length=es:=by
  intro x hx;rcases List.mem_append.mp hx with hx | hx
  ·rcases List.mem_append.mp hx with hx | hx
   ·exact h3 x (List.mem_of_mem_take hx)
   ·exact hy x hx
  ·exact h3 x (List.mem_of_mem_drop hx)
 have hfl:flat (xs.take off++ys++xs.drop (off+ys.length))=(flat xs).take (off*es)++flat ys++(flat xs).drop ((off+ys.length)*es):=by
  rw[vL,vL,zx h3,zw h3]
 have hl1:((flat xs).take (off*es)).length=off*es:=by rw[List.length_take];omega
 refine⟨cs,el,h5,hf,h1,?_,hcells,?_,_,el,setRow_heap w l.b cs _ el _ h5,?_,?_⟩
 ·simp;omega
 ·intro y hy'
  rw[hfl] at hy';rcases List.mem_append.mp hy' with hx | hx
  ·rcases List.mem_append.mp hx with hx | hx
   ·exact h4 y (List.mem_of_mem_take hx)
   ·exact hya y hx
  ·exact h4 y (List.mem_of_mem_drop hx)
 ·rw[Vv _ _ _ hf];exact h6
 ·intro k hk
  have hk2:k < ((flat xs).take (off*es)++flat ys++(flat xs).drop ((off+ys.length)*es)).length:=by rw[←hfl];exact hk
  have hge:(flat (xs.take off++ys++xs.drop (off+ys.length)))[k]=((flat xs).take (off*es)++flat ys++(flat xs).drop ((off+ys.length)*es))[k]'hk2:=by simp only[hfl]
  rw[hge];rw[VG _ _ _ hf]
  have hlen:k < (flat xs).length:=by
   simp only[List.length_append,List.length_take,List.length_drop] at hk2;have:(off+ys.length)*es=off*es+ys.length*es:=Nat.add_mul _ _ _;omega
  by_cases c1:k < off*es
  ·rw[if_neg (by omega)]
   obtain⟨v,a,b⟩:=h7 k hlen;refine⟨v,a,?_⟩;rw[List.getElem_append_left (by simp only[List.length_append,hl1];omega),List.getElem_append_left (by rw[hl1];exact c1),List.getElem_take];exact b
  ·by_cases c2:k < off*es+ys.length*es
   ·rw[if_pos (by omega)]
    obtain⟨v,a,b⟩:=hrn (k - off*es) (by omega);refine⟨v,?_,?_⟩
    ·rw[←a];congr 1;omega
    ·rw[List.getElem_append_left (by simp only[List.length_append,hl1];omega),List.getElem_append_right (by rw[hl1];omega)]
     simp only[hl1];exact b
   ·rw[if_neg (by omega)]
    obtain⟨v,a,b⟩:=h7 k hlen;refine⟨v,a,?_⟩;rw[List.getElem_append_right (by simp only[List.length_append,hl1];omega),List.getElem_drop]
    have e:(off+ys.length)*es+(k - ((flat xs).take (off*es)++flat ys).length)=k:=by
     simp only[List.length_append,hl1];have:(off+ys.length)*es=off*es+ys.length*es:=Nat.add_mul _ _ _;omega
    simp only[e];exact b
section
variable{P:Program}{n:Nat}{o:Oper}{a:AF}{S:St}{aC:Nat}{v:AV}
theorem Zrz{x:Operand}{X:aJ}(hd:∀d,o.dst=some d→d < n)(hop:o.op=.nilCheck x)(hx:aV x=some X)(h:jW (X.ev a)=some v):iO P n o a S aC v S:=by
 refine .pure hd fun E w act hS hF=>?_
 have rx:=bT hF hx;generalize X.ev a=p at rx h;generalize hev:act.eval x=av at rx;cases rx with
 | ptr id ix c l hl=>simp[jW] at h;subst h;exact⟨_,by simp[execOp,hop,hev],.ptr _ _ _ l hl⟩
 | bJ y c b p cs f hb hat hc hr=>simp[jW] at h;subst h;exact⟨_,by simp[execOp,hop,hev],.bJ y c b p cs f hb hat hc hr⟩
 | aP f first cap fv cv hn hm hf hc=>simp[jW] at h;subst h;exact⟨_,by simp[execOp,hop,hev],.aP f first cap fv cv hn hm hf hc⟩
 | _=>simp[jW] at h
theorem Ztu{t:TypeId}{x:Operand}{X:aJ}{e:TypeId}(hd:∀d,o.dst=some d→d < n)(hop:o.op=.call { callee:=.builtin .cap,args:=#[x],argTypes:=#[t] })(hx:aV x=some X)
  (hu:P.underlying t=some (.slice e)) (h:Mx (X.ev a)=some v):iO P n o a S aC v S:=by
 refine .pure hd fun E w act hS hF=>?_
 have rx:=bT hF hx;generalize X.ev a=p at rx h;generalize hev:act.eval x=av at rx
 have run:∀A m c,av=.slice A m c→(execOp act.eval o).run P w=.ok (.value (.int .i64 c)) w:=by
  intro A m c e;subst e;simp[execOp,hop,resolve,invoke,builtin,Builtin.cap_,hev,run_underlying hu,goInt]
 unfold Mx at h;split at h
 ·rename_i xs
  cases h;cases rx with
  | sl0 t' A cap ht=>have:=ht rfl;subst this;exact⟨_,run _ _ _ rfl,.v _ rfl⟩
  | sl t' xs b p cap cs es f hne hb hes hcap ht hat hc hr=>have:=ht rfl;subst this;exact⟨_,run _ _ _ rfl,.v _ rfl⟩
 ·cases h
theorem Ztv{t:TypeId}{x:Operand}{X:aJ}{z:AV}{es aB:Nat}{S':St}(hd:∀d,o.dst=some d→d < n)(hop:o.op=.call { callee:=.builtin .clear,args:=#[x],argTypes:=#[t] })(hx:aV x=some X)
  (ht:wY P t=some (z,es,aB)) (h:(Rv es z (X.ev a)).run S aC=some (v,S')):iO P n o a S aC v S':=by
 obtain⟨e,i,hu,hz,hi,hb⟩:=Ih ht;generalize hxe:X.ev a=p at h;unfold Rv at h;split at h
 ·rename_i t' xs
  simp only[Eff.rR,Option.map_eq_some_iff,Prod.mk.injEq] at h;obtain⟨v',h1,rfl,rfl⟩:=h;split at h1
  ·rename_i h0
   cases h1;have h0:xs=[]:=List.eq_nil_of_length_eq_zero h0;subst h0;refine .pure hd fun E w act hS hF=>?_
   have rx:=bT hF hx;rw[hxe] at rx;generalize hev:act.eval x=av at rx;refine⟨.tuple #[],?_,.junk _⟩;cases rx with
   | sl0 t' A cap ht=>cases A<;>simp[execOp,hop,resolve,invoke,builtin,Builtin.clear_,hev,run_underlying hu]
   | sl t' xs b p cap cs es f hne hb hes hcap ht hat hc hr=>simp at hne
  ·cases h1
 ·rename_i id off len
  simp only[Eff.HZ,Option.map_eq_some_iff,Prod.mk.injEq] at h;obtain⟨b',h1,h2,rfl⟩:=h;subst h2;cases hg:S.g id with
  | none=>rw[hg] at h1;simp at h1
  | some bk=>
   rw[hg] at h1;cases bk with
   | map e=>simp at h1
   | arr es' xs=>
    simp only[Option.bind_some] at h1;split at h1
    ·rename_i hc
     obtain⟨rfl,hc1,hc2⟩:=hc;cases h1;refine .of_run hd fun E w act hS hF hn hlt=>?_
     have rx:=bT hF hx;rw[hxe] at rx;obtain⟨i',zv,g1,g2,g3,g4,g5⟩:=Az (E:=E) hz;rw[hi] at g1;cases g1;generalize hev:act.eval x=av at rx;cases rx with
     | own _ _ _ A cap l hl hlen hA=>
      obtain⟨l',el,hN,ok⟩:=hS.live id _ hg;rw[hl] at el;cases el;have hes:l.es=es':=ok.1;have yg:∀x∈List.replicate len z,x.cells.length=es':=by intro x hx;rw[(List.mem_replicate.mp hx).2];exact hc2
      have hat:∀y∈flat (List.replicate len z),y.atom=true:=by
       intro y hy;obtain⟨x,hx,hyx⟩:=List.mem_flatMap.mp hy;rw[(List.mem_replicate.mp hx).2] at hyx;exact g4.2.1 y hyx
      by_cases h0:len=0
      ·subst h0
       refine⟨.tuple #[],w,E,?_,?_,?_,.junk _,fun oh=>by simp[tV,hop] at oh,fun _ _ e=>e⟩
       ·cases A<;>simp[execOp,hop,resolve,invoke,builtin,Builtin.clear_,hev,run_underlying hu]
       ·have:(S.set id (some (.arr es' (xs.take off++List.replicate 0 z++xs.drop (off+0)))))=S:=by
         cases S with
         | mk n g=>
          simp only[St.set,List.replicate_zero,List.append_nil,Nat.add_zero,List.take_append_drop];congr 1;funext j;simp only[bF];split
          ·rename_i e;rw[e];exact hg.symm
          ·rfl
        rw[this];exact hS
       ·have:(S.set id (some (.arr es' (xs.take off++List.replicate 0 z++xs.drop (off+0)))))=S:=by
         cases S with
         | mk n g=>
          simp only[St.set,List.replicate_zero,List.append_nil,Nat.add_zero,List.take_append_drop];congr 1;funext j;simp only[bF];split
          ·rename_i e;rw[e];exact hg.symm
          ·rfl
        rw[this];exact .refl _ _ _
      ·obtain⟨hA1,hA2⟩:=hA (by omega)
       let news:=(Builtin.zeroCells zv.cells len).toList
       have hnl:news.length=(List.replicate len z).length*es':=by
        simp[news,size_zeroCells,g4.1,hc2]
       have hrn:∀k (hk:k < (flat (List.replicate len z)).length),∃v,news[k]? = some v∧aL E ((flat (List.replicate len z))[k]) v:=by
        intro k hk;obtain⟨v,a1,a2⟩:=LB g4 hc2 len len (Nat.le_refl _) k hk;refine⟨v,?_,a2⟩;have hsz:zv.cells.size=es':=by rw[g4.1,hc2]
        rw[hsz] at a1;simp only[news];rw[Array.getElem?_toList,Builtin.zeroCells,hsz];exact a1
       obtain⟨cs,ce,k1,k2,k3⟩:=Zd0 ok off (by simpa using hc1) yg hat hnl hrn;simp only[List.length_replicate] at k3;have hone:=Z9y hat (es:=es') (by rw[r9 yg];omega) hrn;have hst:=run_storeCells_at P l.b (l.o+off*es') ce news 0 cs w k1 (by simpa using k2) hone;simp only[Nat.add_zero] at hst;refine⟨.tuple #[],_,E,?_,hS.write hg hl (fun b hb=>setRow_other w l.b b _ hb) k3,.write hg hl rfl rfl rfl (by simp[World.setRow]) (fun b hb=>setRow_other w l.b b _ hb),.junk _,fun oh=>by simp[tV,hop] at oh,fun _ _ e=>e⟩;rw[hA1,hes] at hev;obtain⟨m,rfl⟩:∃m,len=m+1:=⟨len - 1,by omega⟩;simp[execOp,hop,resolve,invoke,builtin,Builtin.clear_,hev,run_underlying hu,zeroValue,typeInfo,hi,g2,news,hst]
    ·cases h1
 ·simp at h
theorem LM{op:BinOp}{t t2:TypeId}{x y:Operand}{neg:Bool}(hop:o.op=.binOp op t x y t2)(hc:Ee P op t y=some (true,neg)){act:Act}{A:Option Addr}{m c:Nat}(e:act.eval x=.slice A m c)(w:World) :
  (execOp act.eval o).run P w=.ok (.value (.bool (A.isNone != neg))) w:=by
 unfold Ee at hc;split at hc<;>(try split at hc)<;>(try cases hc)
 all_goals rename_i hu
 ·simp only[execOp,hop,e,eqGuard_at_slice]
  simp[Act.eval,Lib.run_eql_slice_nil w t _ A m c 0 0 hu]
 ·simp only[execOp,hop,e,eqGuard_at_slice]
  simp[Act.eval,run_neq_slice_nil w t _ A m c hu]
theorem WH{op:BinOp}{t t2:TypeId}{x y:Operand}{neg:Bool}(hop:o.op=.binOp op t x y t2)(hc:Ee P op t y=some (false,neg)){act:Act}{p:Option Addr}(e:act.eval x=.pointer p)(w:World) :
  (execOp act.eval o).run P w=.ok (.value (.bool (p.isNone != neg))) w:=by
 unfold Ee at hc;split at hc<;>(try split at hc)<;>(try cases hc)
 all_goals rename_i hu
 ·have he2:P.underlying t=some (.pointer (P.pointee t)):=by rw[hu];simp[Program.pointee,hu]
  simp only[execOp,hop,e,eqGuard_at_pointer];simp[Act.eval,run_eql_pointer_nil w t p he2]
 ·have he2:P.underlying t=some (.pointer (P.pointee t)):=by rw[hu];simp[Program.pointee,hu]
  simp only[execOp,hop,e,eqGuard_at_pointer];simp[Act.eval,run_neq_pointer_nil w t p he2]
theorem ZrA{op:BinOp}{t t2:TypeId}{x y:Operand}{sl neg:Bool}{X:aJ}(hd:∀d,o.dst=some d→d < n)(hop:o.op=.binOp op t x y t2)(hc:Ee P op t y=some (sl,neg))(hx:aV x=some X)(h:sV sl neg (X.ev a)=some v):iO P n o a S aC v S:=by
 refine .pure hd fun E w act hS hF=>?_
 have rx:=bT hF hx;generalize X.ev a=p at rx h;generalize hev:act.eval x=av at rx;cases sl with
 | true=>
  cases rx with
  | sl t' xs b p cap cs es f hne hb hes hcap ht hat hcc hr=>
   cases xs with
   | nil=>simp at hne
   | cons y ys=>simp[sV] at h;subst h;exact⟨_,LM hop hc hev w,by simpa using .v _ rfl⟩
  | own id off len A cap l hl hlen hA=>
   cases len with
   | zero=>simp[sV] at h
   | succ m=>
    simp[sV] at h;subst h;obtain⟨hA1,_⟩:=hA (by omega);subst hA1;exact⟨_,LM hop hc hev w,by simpa using .v _ rfl⟩
  | sl0 t A cap ht=>simp[sV] at h
  | _=>simp[sV] at h
 | false=>
  cases rx with
  | ptr id ix c l hl=>simp[sV] at h;subst h;exact⟨_,WH hop hc hev w,by simpa using .v _ rfl⟩
  | bJ y c b p cs f hb hat hcc hr=>simp[sV] at h;subst h;exact⟨_,WH hop hc hev w,by simpa using .v _ rfl⟩
  | v _ hs=>
   cases av with
   | pointer p=>
    cases p with
    | none=>simp[sV] at h;subst h;exact⟨_,WH hop hc hev w,by simpa using .v _ rfl⟩
    | some q=>simp[zG] at hs
   | _=>simp[sV] at h
  | _=>simp[sV] at h
theorem Zp0{op:BinOp}{t t2:TypeId}{x y:Operand}{neg:Bool}{X:aJ}(hop:o.op=.binOp op t x y t2)(hc:Ee P op t y=some (true,neg))(hx:aV x=some X)(h:P6 (X.ev a)){E:Env}{act:Act}(hF:fu E n a act)(w:World) :
  ∃b,(execOp act.eval o).run P w=.ok (.value (.bool b)) w:=by
 have rx:=bT hF hx;generalize X.ev a=p at rx h;generalize hev:act.eval x=av at rx;cases rx with
 | sl0 t A cap ht=>exact⟨_,LM hop hc hev w⟩
 | own id off len A cap l hl hlen hA=>exact⟨_,LM hop hc hev w⟩
 | sl t' xs b p cap cs es f hne hb hes hcap ht hat hcc hr=>exact⟨_,LM hop hc hev w⟩
 | _=>exact h.elim
theorem Zro{t u:TypeId}{x y:Operand}{X Y:aJ}{z:AV}{es aB:Nat}{kn:IntKind}{S':St}(hd:∀d,o.dst=some d→d < n)(hop:o.op=.call { callee:=.builtin .append,args:=#[x,y],argTypes:=#[t,u] })
  (hx:aV x=some X) (hy:aV y=some Y) (ht:wY P t=some (z,es,aB)) (hu:P.underlying u=some (.int kn)) (h:(Mh es aB z (X.ev a) (Y.ev a)).run S aC=some (v,S')):iO P n o a S aC v S':=by
 obtain⟨e,i,hut,hz,hi,hb⟩:=Ih ht;generalize hxe:X.ev a=p at h;generalize hye:Y.ev a=q at h;unfold Mh at h;split at h
 ·rename_i k m
  simp only[Eff.K5,Option.map_eq_some_iff,Prod.mk.injEq] at h;obtain⟨p,h1,rfl,rfl⟩:=h;split at h1
  ·rename_i hcond
   obtain⟨c1,c2,c3,c4,c5⟩:=hcond;cases h1;have yg:∀x∈List.replicate m.toNat z,x.cells.length=es:=by intro x hx;rw[(List.mem_replicate.mp hx).2];exact c5
   refine iO.alloc (f:=fun i=>.own i 0 m.toNat) hd (by rw[hop];rfl) yg fun E w act hS hF=>?_
   have rx:=bT hF hx;have ry:=bT hF hy;rw[hxe] at rx;rw[hye] at ry;have ey:=ry.jl;obtain⟨i',zv,g1,g2,g3,g4,g5⟩:=Az (E:=E) hz;rw[hi] at g1;cases g1;generalize hev:act.eval x=av at rx;cases rx with
   | sl _ xs b p cap cs es f hne hb hes hcap ht hat hcc hr=>simp at hne
   | sl0 _ A cap ht0=>
    have:=ht0 rfl;subst this;obtain⟨k0,rfl⟩:∃k0:Nat,m=(k0:Int):=⟨m.toNat,by omega⟩;simp only[Int.toNat_natCast] at *;have hk0:0 < k0:=by omega
    have hw:IntKind.i64.wrap (k0:Int)=k0:=by rw[IntKind.wrap_i64];omega
    have hn0:k0≠0:=by omega
    have h63':¬(9223372036854775807 < (k0:Int)):=by omega
    have abu:k0*i.bytes≤140737488355328:=by
     rw[hb];have h9:((k0*aB:Nat):Int)≤140737488355328:=by rw[Int.natCast_mul];exact c2
     exact Int.ofNat_le.mp h9
    have h48':¬(281474976710656 < Builtin.nextslicecap k0 0*i.bytes):=by rw[nextslicecap_zero hk0];omega
    have h48i:¬(281474976710656 < (k0:Int)*(i.bytes:Int)):=by
     rw[←Int.natCast_mul];omega
    have hneg:¬((k0:Int) < 0):=by omega
    have hns:¬(k0*i.size=0):=Nat.mul_ne_zero hn0 (by omega);have hgc:k0≤grownCap w k0 0 e:=by simpa using grownCap_ge w k0 0 e
    have hrun:(Builtin.append_ #[t,u] o.type #[.slice A 0 0,.int k k0]).run P w =
      .ok (.slice (some ⟨w.heap.size,0,none⟩) k0 (grownCap w k0 0 e)) (w.drew.alloc (.cells (Builtin.zeroCells zv.cells k0++Builtin.zeroCells zv.cells (grownCap w k0 0 e - k0)) e)):=by
     have hf:∀w,(Builtin.firstCells i.size 0 (.slice A 0 0)).run P w=.ok #[] w:=by
      intro w;cases A<;>simp[Builtin.firstCells,loadCells,loadCellsFrom]
     simp[Builtin.append_,run_underlying hut,run_underlying hu,sizeOf,typeInfo,zeroValue,hi,g2,asInt,asIntOf,hw,hn0,hneg,hns,h63',h48',h48i,Question.forced,hf,newRow,grownCap]
    refine⟨.slice (some ⟨w.heap.size,0,none⟩) k0 (grownCap w k0 0 e),Builtin.zeroCells zv.cells k0++Builtin.zeroCells zv.cells (grownCap w k0 0 e - k0),e,grownCap w k0 0 e,w.drew,rfl,hS.drew,.drew _ _ _,by simp[execOp,hop,resolve,invoke,builtin,hev,ey,hrun],?_,by simpa using hgc,?_,?_,?_⟩
    ·intro y hy
     obtain⟨x,hx,hyx⟩:=List.mem_flatMap.mp hy;rw[(List.mem_replicate.mp hx).2] at hyx;exact g4.2.1 y hyx
    ·have hsz:zv.cells.size=es:=by rw[g4.1,c5]
     simp only[Array.size_append,size_zeroCells,hsz];rw[←Nat.add_mul];exact Nat.mul_le_mul_right _ (by omega)
    ·intro j hj
     have hsz:zv.cells.size=es:=by rw[g4.1,c5]
     obtain⟨u,a1,a2⟩:=LB g4 c5 k0 k0 (Nat.le_refl _) j hj;refine⟨u,?_,a2⟩
     have hjl:j < (Builtin.zeroCells zv.cells k0).size:=by
      rw[size_zeroCells,hsz];rw[r9 yg] at hj;simpa using hj
     rw[Array.getElem?_append_left hjl,Builtin.zeroCells];rw[hsz] at a1 ⊢;exact a1
    ·intro E' he
     exact .own aC 0 _ (some ⟨w.heap.size,0,none⟩) (grownCap w k0 0 e) _ he hgc (fun _=>⟨by simp,by simp⟩)
  ·cases h1
 ·simp at h
theorem uX.take{E:Env}{w:World}{es:Nat}{ys:List AV}{A:Option Addr}(h:uX E w es ys A)(n:Nat):uX E w es (ys.take n) A:=by
 refine⟨fun x hx=>h.hes x (List.mem_of_mem_take hx),fun y hy=>by rw[zx h.hes] at hy;exact h.hat y (List.mem_of_mem_take hy),fun hne=>?_⟩;obtain⟨b,p,cs,el,fz,h1,h2,h3⟩:=h.at_ (by rintro rfl;simp at hne)
 refine⟨b,p,cs,el,fz,h1,h2,fun k hk=>?_⟩;have hk2:k < ((flat ys).take (n*es)).length:=by rw[←zx h.hes];exact hk
 simp only[List.length_take] at hk2;obtain⟨u,a1,a2⟩:=h3 k (by omega);refine⟨u,a1,?_⟩;have:(flat (ys.take n))[k]=(flat ys)[k]'(by omega):=by simp only[zx h.hes,List.getElem_take]
 rw[this];exact a2
theorem Zp7{S:St}{id:Nat}{b:aF}(hg:S.g id=some b):S.set id (some b)=S:=by
 cases S with
 | mk n g=>
  simp only[St.set];congr 1;funext j;simp only[bF];split
  ·rename_i e;rw[e];exact hg.symm
  ·rfl
theorem Ztw{t u:TypeId}{x y:Operand}{X Y:aJ}{z:AV}{es aB:Nat}{S':St}(hd:∀d,o.dst=some d→d < n)(hop:o.op=.call { callee:=.builtin .copy,args:=#[x,y],argTypes:=#[t,u] })(hx:aV x=some X)
  (hy:aV y=some Y) (ht:wY P t=some (z,es,aB)) (h:(X5 es (X.ev a) (Y.ev a)).run S aC=some (v,S')):iO P n o a S aC v S':=by
 obtain⟨e,i,hu,hz,hi,hb⟩:=Ih ht;generalize hxe:X.ev a=p at h;generalize hye:Y.ev a=q at h;unfold X5 at h;split at h
 ·rename_i t' xs
  simp only[Eff.rR,Option.map_eq_some_iff,Prod.mk.injEq] at h;obtain⟨v',h1,rfl,rfl⟩:=h;split at h1<;>cases h1
 ·rename_i id off len
  simp only[Eff.run] at h;split at h
  ·cases h
  ·rename_i bs0 Nk
   simp only[List.mapM_cons,Option.bind_eq_bind,Option.bind_eq_some_iff,Option.pure_def,Option.some.injEq] at Nk;obtain⟨b0,hg,bs,hbs,rfl⟩:=Nk;cases b0 with
   | map e=>simp at h
   | arr es' xs=>
    simp only at h;cases hle:mq es bs q with
    | none=>rw[hle] at h;simp at h
    | some ys=>
     rw[hle] at h;simp only[Option.bind_some] at h;split at h
     ·cases h
     ·rename_i out hout
      split at hout
      ·rename_i hc
       obtain⟨rfl,hc1,hc2⟩:=hc;cases hout;have hS0:∀b,(S.fD (id::q.kF) [some b])=S.set id (some b):=by intro b;cases q.kF<;>rfl
       simp only[hS0,St.iU,Option.some.injEq,Prod.mk.injEq] at h;obtain⟨rfl,rfl⟩:=h;refine .of_run hd fun E w act hS hF hn hlt=>?_
       have rx:=bT hF hx;have ry:=bT hF hy;rw[hxe] at rx;rw[hye] at ry;obtain⟨B,cb,eb,hrb⟩:=Pq hS ry hbs hle;obtain⟨i',zv,g1,g2,g3,g4,g5⟩:=Az (E:=E) hz;rw[hi] at g1;cases g1;obtain⟨news,n1,n2,n3,n4⟩:=(hrb.take (min ys.length len)).first (P:=P) cb
       have htl:(ys.take (min ys.length len)).length=min ys.length len:=by simp
       have hfc:(Builtin.firstCells es' (min ys.length len) (.slice B ys.length cb)).run P w=.ok news.toArray w:=by
        rw[htl] at n1;cases B<;>exact n1
       generalize hev:act.eval x=av at rx;cases rx with
       | own _ _ _ A cap l hl hlen hA=>
        obtain⟨l',el,hN,ok⟩:=hS.live id _ hg;rw[hl] at el;cases el;have hes:l.es=es':=ok.1;have hmin:Nat.min ys.length len=min ys.length len:=rfl;by_cases h0:len=0
        ·subst h0
         have hn0:news=[]:=List.eq_nil_of_length_eq_zero (by rw[n2];simp)
         have hsame:(S.set id (some (.arr es' (xs.take off++ys.take (min ys.length 0)++xs.drop (off+min ys.length 0)))))=S:=by
          refine Zp7 ?_;rw[hg];simp
         refine⟨.int .i64 0,w,E,?_,by rw[hsame];exact hS,by rw[hsame];exact .refl _ _ _,.junk _,fun oh=>by simp[tV,hop] at oh,fun _ _ e=>e⟩;subst hn0;simp only[Nat.min_zero] at hfc hmin;cases A<;>simp[execOp,hop,resolve,invoke,builtin,Builtin.copy_,hev,eb,run_underlying hu,Builtin.lenOf,uz hi,g3,hfc,storeCells,goInt]
        ·obtain⟨hA1,hA2⟩:=hA (by omega)
         obtain⟨cs,ce,k1,k2,k3⟩:=Zd0 ok off (ys:=ys.take (min ys.length len)) (by omega) (hrb.take _).hes (hrb.take _).hat n2 n4;rw[htl] at k3;have hst:=run_storeCells_at P l.b (l.o+off*es') ce news 0 cs w k1 (by simpa using k2) n3;simp only[Nat.add_zero] at hst;refine⟨.int .i64 (min ys.length len:Nat),_,E,?_,hS.write hg hl (fun b hb=>setRow_other w l.b b _ hb) k3,.write hg hl rfl rfl rfl (by simp[World.setRow]) (fun b hb=>setRow_other w l.b b _ hb),.junk _,fun oh=>by simp[tV,hop] at oh,fun _ _ e=>e⟩;rw[hA1,hes] at hev;simp[execOp,hop,resolve,invoke,builtin,Builtin.copy_,hev,eb,run_underlying hu,Builtin.lenOf,uz hi,hmin,g3,hfc,goInt,hst]
      ·cases hout
 ·simp at h
end
def wH:List AV→Option (List Value)
 | []=>some []
 | .v x::xs=>(wH xs).map (x::·)
 | _=>none
def Ji:AV→Option Value
 | .v x=>some x
 | .agg cs=>(wH cs).map fun l=>.agg l.toArray
 | _=>none
theorem Zdv{E:Env}:∀{cs:List AV} {l:List Value},wH cs=some l→l.length=cs.length∧∀(vs:Nat→Value),(∀j (h:j < cs.length),aL E (cs[j]) (vs j))→∀j (h:j < l.length),vs j=l[j]
 | [],l,h=>by simp[wH] at h;subst h;exact⟨rfl,fun _ _ j hj=>by simp at hj⟩
 | .v x::xs,l,h=>by
  simp only[wH,Option.map_eq_some_iff] at h;obtain⟨l',h1,rfl⟩:=h;obtain⟨i1,i2⟩:=Zdv (E:=E) h1;refine⟨by simp[i1],fun vs hv j hj=>?_⟩;cases j with
  | zero=>exact(hv 0 (by simp)).jl
  | succ j=>exact i2 (fun j=>vs (j+1)) (fun j hj=>hv (j+1) (by simpa using hj)) j (by simpa using hj)
 | .junk::_,l,h=>by simp[wH] at h
 | .sl ..::_,l,h=>by simp[wH] at h
 | .own ..::_,l,h=>by simp[wH] at h
 | .ptr ..::_,l,h=>by simp[wH] at h
 | .bJ ..::_,l,h=>by simp[wH] at h
 | .agg ..::_,l,h=>by simp[wH] at h
 | .aM ..::_,l,h=>by simp[wH] at h
 | .aP ..::_,l,h=>by simp[wH] at h
 | .mp ..::_,l,h=>by simp[wH] at h
theorem Zmu{E:Env}{x:AV}{u v:Value}(h:Ji x=some u)(r:aL E x v):v=u:=by
 cases r with
 | v y hs=>simp[Ji] at h;exact h
 | agg cs vs hn hat hr=>
  simp only[Ji,Option.map_eq_some_iff] at h;obtain⟨l,h1,rfl⟩:=h;obtain⟨k1,k2⟩:=Zdv (E:=E) h1;have:=k2 (fun j=>vs.getD j undef) hr;congr 1;apply Array.ext
  ·simp[hn,k1]
  ·intro i h1 h2
   have:=this i (by simpa using h2);simp only[Array.getD_eq_getD_getElem?,Array.getElem?_eq_getElem h1,Option.getD_some] at this;simpa using this
 | _=>simp[Ji] at h
def Ztl:TypeDesc→Bool
 | .interface _=>false
 | _=>true
def Jw(P:Program)(t:TypeId):Bool:=match P.underlying t with | some u=>Ztl u | none=>false
theorem Zfe{P:Program}{t:TypeId}(h:Jw P t=true):∃u,P.underlying t=some u∧∀m,u≠.interface m:=by
 unfold Jw at h;split at h
 ·rename_i u hu
  exact⟨u,hu,fun m e=>by subst e;simp[Ztl] at h⟩
 ·cases h
def Rw(t:TypeId)(x:AV):Option AV:=(Ji x).map fun u=>.v (.iface t u)
def MB(t:TypeId)(z:AV)(x:AV):Option AV:=
 match x with
 | .v (.iface u y)=>bif Nat.beq u t then (Cx y).map fun a=>.aM [a,.v (.bool true)] else some (.aM [z,.v (.bool false)])
 | .v .nilIface=>some (.aM [z,.v (.bool false)])
 | _=>none
def QE(neg:Bool)(x:AV):Option AV:=
 match x with
 | .v .nilIface=>some (.v (.bool (!neg)))
 | .v (.iface _ _)=>some (.v (.bool neg))
 | _=>none
def X0(P:Program)(op:BinOp)(t:TypeId)(y:Operand):Option Bool:=
 match op,y with
 | .eql,.const .nilIface=>match P.underlying t with | some (.interface _)=>some false | _=>none
 | .neq,.const .nilIface=>match P.underlying t with | some (.interface _)=>some true | _=>none
 | _,_=>none
section
variable{P:Program}{n:Nat}{o:Oper}{a:AF}{S:St}{aC:Nat}{v:AV}
theorem ZtA{t:TypeId}{x:Operand}{X:aJ}(hd:∀d,o.dst=some d→d < n)(hop:o.op=.makeInterface t x)(hx:aV x=some X)(hc:Jw P t=true)(h:Rw t (X.ev a)=some v):iO P n o a S aC v S:=by
 refine .pure hd fun E w act hS hF=>?_
 have rx:=bT hF hx;obtain⟨u,hu,hn⟩:=Zfe hc;simp only[Rw,Option.map_eq_some_iff] at h;obtain⟨y,h1,rfl⟩:=h;have:=Zmu h1 rx;refine⟨.iface t y,?_,.v _ rfl⟩;simp only[execOp,hop,Instr.makeInterface,this,Sem.run_bind,run_underlying hu,Result.andThen_ok];cases u<;>first | rfl | exact(hn _ rfl).elim
theorem ZtF{t xt:TypeId}{x:Operand}{X:aJ}{z:AV}{m:Nat}(hd:∀d,o.dst=some d→d < n)(hop:o.op=.typeAssert x xt t true)(hx:aV x=some X)(hc:Jw P t=true)(hz:xA P t=some (z,m))
  (h:MB t z (X.ev a)=some v):iO P n o a S aC v S:=by
 refine .pure hd fun E w act hS hF=>?_
 have rx:=bT hF hx;obtain⟨u,hu,hn⟩:=Zfe hc;obtain⟨i,zv,g1,g2,_,_,g5⟩:=Az (E:=E) hz;have hzr:∀w,(zeroValue t).run P w=.ok zv w:=fun w=>ZiO g1 g2 w
 have two:∀{p:AV} {q:Value} {b:Bool},aL E p q→aL E (.aM [p,.v (.bool b)]) (.tuple #[q,.bool b]):=by
  intro p q b r;refine .aM _ _ rfl (fun j hj=>?_)
  match j,hj with
  | 0,_=>exact r
  | 1,_=>exact .v _ rfl
 generalize hp:X.ev a=p at rx h;unfold MB at h;split at h
 ·rename_i t' y
  have e:=rx.jl;cases hb:Nat.beq t' t with
  | true=>
   rw[hb] at h;simp only[cond_true,Option.map_eq_some_iff] at h;obtain⟨q,h1,rfl⟩:=h;have ht:=Nat.eq_of_beq_eq_true hb;refine⟨.tuple #[y,.bool true],?_,two (WT h1).1⟩;simp only[execOp,hop,Instr.typeAssert,e,Sem.run_bind,run_underlying hu,Result.andThen_ok];cases u<;>first | exact(hn _ rfl).elim | (simp[ht])
  | false=>
   rw[hb] at h;simp only[cond_false,Option.some.injEq] at h;subst h;have ht:=Nat.ne_of_beq_eq_false hb;refine⟨.tuple #[zv,.bool false],?_,two g5⟩;simp only[execOp,hop,Instr.typeAssert,e,Sem.run_bind,run_underlying hu,Result.andThen_ok];cases u<;>first | exact(hn _ rfl).elim | (simp[ht,hzr])
 ·have e:=rx.jl
  simp only[Option.some.injEq] at h;subst h;refine⟨.tuple #[zv,.bool false],?_,two g5⟩;simp only[execOp,hop,Instr.typeAssert,e,Sem.run_bind,run_underlying hu,Result.andThen_ok];cases u<;>first | exact(hn _ rfl).elim | (simp[hzr])
 ·cases h
theorem ZeE{t:TypeId}{m:_}(hu:P.underlying t=some (.interface m))(w:World):(Op.equal t .nilIface .nilIface).run P w=.ok true w:=by
 show(Op.equalIn (9999+1) t .nilIface .nilIface).run P w=_
 rw[Op.equalIn];simp only[Sem.run_bind,run_underlying hu,Result.andThen_ok];rfl
theorem ZeF{t:TypeId}{m:_}(hu:P.underlying t=some (.interface m))(u:TypeId)(y:Value)(w:World):(Op.equal t (.iface u y) .nilIface).run P w=.ok false w:=by
 show(Op.equalIn (9999+1) t (.iface u y) .nilIface).run P w=_
 rw[Op.equalIn];simp only[Sem.run_bind,run_underlying hu,Result.andThen_ok];rfl
theorem Zvs(op:BinOp)(t:TypeId)(x:Operand):eqGuard op t x (.const .nilIface) .nilIface .nilIface=pure ():=by cases op<;>cases x<;>rfl
theorem Zvt(op:BinOp)(t:TypeId)(x:Operand)(u:TypeId)(y:Value):eqGuard op t x (.const .nilIface) (.iface u y) .nilIface=pure ():=by cases op<;>cases x<;>rfl
theorem Zru{op:BinOp}{t t2:TypeId}{x y:Operand}{X:aJ}{neg:Bool}(hd:∀d,o.dst=some d→d < n)(hop:o.op=.binOp op t x y t2)(hx:aV x=some X)(hc:X0 P op t y=some neg)
  (h:QE neg (X.ev a)=some v):iO P n o a S aC v S:=by
 refine .pure hd fun E w act hS hF=>?_
 have rx:=bT hF hx;unfold X0 at hc;generalize hp:X.ev a=p at rx h;unfold QE at h;split at hc<;>(try split at hc)<;>(try cases hc)
 all_goals
  rename_i hu;split at h
  ·have e:=rx.jl
   cases h;refine⟨_,?_,.v _ rfl⟩;simp only[execOp,hop,e,Zvs,show act.eval (.const .nilIface)=.nilIface from rfl];simp[binOp,ZeE hu]
  ·have e:=rx.jl
   cases h;refine⟨_,?_,.v _ rfl⟩;simp only[execOp,hop,e,Zvt,show act.eval (.const .nilIface)=.nilIface from rfl];simp[binOp,ZeF hu]
  ·cases h
end
inductive jA where
 | mv (x:aJ)
 | pick (c x y:aJ)
 | box (m:Nat) (x:aJ)
 | alloc (z:AV) (m:Nat)
 | load (k:Option Nat) (p:aJ)
 | store (m:Nat) (p x:aJ)
 | bin (op:BinOp) (x y:aJ)
 | beq (neq:Bool) (x y:aJ)
 | un (op:UnOp) (x:aJ)
 | conv (k:IntKind) (x:aJ)
 | cZ (off:Nat) (p:aJ)
 | aI (es:Nat) (x i:aJ)
 | wz (m es:Nat) (p i:aJ)
 | field (k:Option Nat) (off:Nat) (x:aJ)
 | Tk (m es:Nat) (k:Option Nat) (x i:aJ)
 | Tj (x i:aJ)
 | len (x:aJ)
 | Tm (x:aJ)
 | app (es b:Nat) (x y:aJ)
 | slc (es:Nat) (x:aJ) (lo hi:Option aJ)
 | Tz (x:aJ) (lo hi:Option aJ)
 | build (z:AV) (rs:List (Nat×Nat)) (qs:List (Nat×aJ))
 | cO (es m:Nat) (z:AV) (qs:List (Nat×aJ))
 | wB (es b:Nat) (z:AV) (l c:aJ)
 | ext (i:Nat) (x:aJ)
 | Ak (f:FuncId) (first cap:List aJ)
 | Er
 | look (d:KK) (z:AV) (ok:Bool) (m k:aJ)
 | Br (d:KK) (m k x:aJ)
 | GR (x:aJ)
 | mm (mx:Bool) (x y:aJ)
 | seq (neq:Bool) (jC:List Nat) (x y:aJ)
 | iP (x:aJ)
 | cap (x:aJ)
 | JO (es:Nat) (z:AV) (x:aJ)
 | M8 (es:Nat) (x y:aJ)
 | Es (sl neg:Bool) (x:aJ)
 | JL (es b:Nat) (z:AV) (x n:aJ)
 | NK (t:TypeId) (x:aJ)
 | NV (t:TypeId) (z:AV) (x:aJ)
 | NC (neg:Bool) (x:aJ)
structure aZ where
 dst:Option Nat
 op:jA
 guard:Option (Nat×Bool)
 call:Option (aJ×List aJ)
abbrev ro(d:Nat)(p:jA):aZ:=⟨some d,p,none,none⟩
abbrev rn(p:jA):aZ:=⟨none,p,none,none⟩
abbrev rg(d t:Nat)(b:Bool)(p:jA):aZ:=⟨some d,p,some (t,b),none⟩
abbrev rk(d:Nat)(f:FuncId)(xs:List aJ):aZ:=⟨some d,.mv (.c .junk),none,some (.c (.aP f [] []),xs)⟩
abbrev rl(d t:Nat)(b:Bool)(f:FuncId)(xs:List aJ):aZ:=⟨some d,.mv (.c .junk),some (t,b),some (.c (.aP f [] []),xs)⟩
abbrev rm(d s:Nat):aZ:=⟨some d,.mv (.t s),none,none⟩
abbrev rL(d s:Nat):aZ:=⟨some d,.load none (.t s),none,none⟩
abbrev rF(d o s:Nat):aZ:=⟨some d,.cZ o (.t s),none,none⟩
abbrev ci(n:Int):aJ:=.c (.v (.int .i64 n))
def eO(neq:Bool)(x y:AV):Option AV:=
 match x,y with
 | .v (.bool p),.v (.bool q)=>some (.v (.bool (if neq=true then p != q else p == q)))
 | _,_=>none
def ex(op:jA)(a:AF):Eff:=
 match op with
 | .mv x=>.val (some (x.ev a))
 | .pick c x y=>.val (eu (c.ev a) (x.ev a) (y.ev a))
 | .box m x=>dS m (x.ev a)
 | .alloc z m=>bA z m
 | .load k p=>bW k (p.ev a)
 | .store m p x=>dA m (p.ev a) (x.ev a)
 | .bin op x y=>.val (dQ op (x.ev a) (y.ev a))
 | .beq q x y=>.val (eO q (x.ev a) (y.ev a))
 | .un op x=>.val (eU op (x.ev a))
 | .conv k x=>.val (Jd k (x.ev a))
 | .cZ off p=>.val (dJ off (p.ev a))
 | .aI es x i=>dD es (x.ev a) (i.ev a)
 | .wz m es p i=>.val (gD m es (p.ev a) (i.ev a))
 | .field k off x=>.val (dZ k off (x.ev a))
 | .Tk m es k x i=>.val (d9 m es k (x.ev a) (i.ev a))
 | .Tj x i=>.val (XE (x.ev a) (i.ev a))
 | .len x=>.val (fq (x.ev a))
 | .Tm x=>.val (XF (x.ev a))
 | .app es b x y=>kP es b (x.ev a) (y.ev a)
 | .slc es x lo hi=>xD es (x.ev a) (lo.map (·.ev a)) (hi.map (·.ev a))
 | .Tz x lo hi=>.val (XG (x.ev a) (lo.map (·.ev a)) (hi.map (·.ev a)))
 | .build z rs qs=>.val (jc z (List.zipWith (fun r q=>(r.1,r.2,q.2.ev a)) rs qs))
 | .cO es m z qs=>.val (dw es m z (qs.map fun q=>(q.1,q.2.ev a)))
 | .wB es b z l c=>DW es b z (l.ev a) (c.ev a)
 | .ext i x=>.val (dU i (x.ev a))
 | .Ak f first cap=>.val (some (.aP f (first.map (·.ev a)) (cap.map (·.ev a))))
 | .Er=>FV
 | .look d z ok m k=>AU d z ok (m.ev a) (k.ev a)
 | .Br d m k x=>Ch d (m.ev a) (k.ev a) (x.ev a)
 | .GR x=>Je (x.ev a)
 | .mm mx x y=>.val (eT mx (x.ev a) (y.ev a))
 | .seq q jC x y=>.val (dW q jC (x.ev a) (y.ev a))
 | .iP x=>.val (jW (x.ev a))
 | .cap x=>.val (Mx (x.ev a))
 | .JO es z x=>Rv es z (x.ev a)
 | .M8 es x y=>X5 es (x.ev a) (y.ev a)
 | .Es sl neg x=>.val (sV sl neg (x.ev a))
 | .JL es b z x n=>Mh es b z (x.ev a) (n.ev a)
 | .NK t x=>.val (Rw t (x.ev a))
 | .NV t z x=>.val (MB t z (x.ev a))
 | .NC neg x=>.val (QE neg (x.ev a))
def Qy(ps:Array (Nat×Operand)):Option (List (Nat×aJ)):=ps.toList.mapM fun p=>(aV p.2).map fun x=>(p.1,x)
def Qx(xs:Array Operand):Option (List aJ):=xs.toList.mapM aV
def YG(P:Program)(op:BinOp)(t:TypeId)(x y:aJ):Option jA:=
 match P.underlying t with
 | some .bool=>match op with
  | .eql=>some (.beq false x y)
  | .neq=>some (.beq true x y)
  | _=>none
 | some (.int _)=>some (.bin op x y)
 | some .string=>some (.bin op x y)
 | some (.struct _)=>match op with
  | .eql=>(IY P t).map fun jC=>.seq false jC x y
  | .neq=>(IY P t).map fun jC=>.seq true jC x y
  | _=>none
 | some (.array _ _)=>match op with
  | .eql=>(IY P t).map fun jC=>.seq false jC x y
  | .neq=>(IY P t).map fun jC=>.seq true jC x y
  | _=>none
 | _=>none
def Yo(P:Program)(t:TypeId)(x:aJ):Option jA:=
 match P.underlying t with
 | some (.slice _)=>some (.len x)
 | some .string=>some (.Tm x)
 | some (.map _ _)=>some (.GR x)
 | _=>none
def Q5(P:Program)(c:Call):Option jA:=
 match c with
 | ⟨.builtin .len,⟨[x]⟩,⟨[t]⟩⟩=>(aV x).bind fun X=>Yo P t X
 | ⟨.builtin .append,⟨[x,y]⟩,⟨[t,u]⟩⟩=>if t=u then (aV x).bind fun X=>(aV y).bind fun Y=>(QX P t).map fun p=>.app p.1 p.2 X Y else
   match P.underlying u with
   | some (.int _)=>(aV x).bind fun X=>(aV y).bind fun Y=>(wY P t).map fun p=>.JL p.2.1 p.2.2 p.1 X Y
   | _=>none
 | ⟨.builtin .max,⟨[x,y]⟩,⟨[t,u]⟩⟩=>(aV x).bind fun X=>(aV y).map fun Y=>.mm true X Y
 | ⟨.builtin .min,⟨[x,y]⟩,⟨[t,u]⟩⟩=>(aV x).bind fun X=>(aV y).map fun Y=>.mm false X Y
 | ⟨.builtin .cap,⟨[x]⟩,⟨[t]⟩⟩=>(aV x).bind fun X=>(Dw P t).map fun _=>.cap X
 | ⟨.builtin .clear,⟨[x]⟩,⟨[t]⟩⟩=>(aV x).bind fun X=>(wY P t).map fun p=>.JO p.2.1 p.1 X
 | ⟨.builtin .copy,⟨[x,y]⟩,⟨[t,u]⟩⟩=>(aV x).bind fun X=>(aV y).bind fun Y=>(wY P t).map fun p=>.M8 p.2.1 X Y
 | _=>none
def YH(P:Program)(t:TypeId)(x i:aJ):Option jA:=
 match P.underlying t with
 | some (.slice _)=>(Dw P t).map fun es=>.aI es x i
 | some (.array _ _)=>(Yc P t).map fun p=>.wz p.1 p.2 x i
 | _=>none
def XZ(P:Program)(t:TypeId)(x i:aJ):Option jA:=
 match P.underlying t with
 | some .string=>some (.Tj x i)
 | some (.array _ _)=>(YF P t).map fun p=>.Tk p.1 p.2.1 p.2.2 x i
 | _=>none
def RZ(P:Program)(t:TypeId)(x:aJ)(lo hi:Option aJ):Option jA:=
 match P.underlying t with
 | some .string=>some (.Tz x lo hi)
 | some (.slice _)=>(Dw P t).map fun es=>.slc es x lo hi
 | _=>none
def Qw(P:Program)(t:TypeId)(qs:List (Nat×aJ)):Option jA:=
 if Po P t=true then (qs.mapM fun q=>DF P t q.1).bind fun rs=>(xA P t).map fun p=>.build p.1 rs qs else none
def Cq(P:Program)(t:TypeId)(m k x:Operand):Option jA:=
 (aV m).bind fun M=>(aV k).bind fun K=>(aV x).bind fun X=>(Jp P t).map fun p=>.Br p.1 M K X
def cop(P:Program)(o:Op):Option jA:=
 match o with
 | .move x=>(aV x).map .mv
 | .assign x=>(aV x).map .mv
 | .pick c x y=>(aV c).bind fun C=>(aV x).bind fun X=>(aV y).map fun Y=>.pick C X Y
 | .box t x=>(xq P t).bind fun k=>(aV x).map fun X=>.box (MH k) X
 | .alloc t=>(xA P t).map fun p=>.alloc p.1 p.2
 | .load t p=>(xq P t).bind fun k=>(aV p).map fun X=>.load k X
 | .store t p x=>(xq P t).bind fun k=>(aV p).bind fun Y=>(aV x).map fun X=>.store (MH k) Y X
 | .binOp op t x y _=>match Ee P op t y with
  | some (sl,neg)=>(aV x).map (.Es sl neg)
  | none=>match X0 P op t y with
   | some neg=>(aV x).map (.NC neg)
   | none=>(aV x).bind fun X=>(aV y).bind fun Y=>YG P op t X Y
 | .unOp op _ x=>(aV x).map fun X=>.un op X
 | .convert s t x=>(Yg? P s t).bind fun k=>(aV x).map fun X=>.conv k X
 | .fieldAddr s x f=>(WL P s f).bind fun off=>(aV x).map fun X=>.cZ off X
 | .indexAddr t x i=>(aV x).bind fun X=>(aV i).bind fun I=>YH P t X I
 | .field s x f=>(XH P s f).bind fun p=>(aV x).map fun X=>.field p.2 p.1 X
 | .index t x i=>(aV x).bind fun X=>(aV i).bind fun I=>XZ P t X I
 | .slice t x lo hi none=>(aV x).bind fun X=>(wN lo).bind fun LO=>(wN hi).bind fun HI=>RZ P t X LO HI
 | .build t ps=>(Qy ps).bind fun qs=>Qw P t qs
 | .buildSlice t m ps=>(Qy ps).bind fun qs=>(wY P t).map fun p=>.cO p.2.1 m p.1 qs
 | .makeSlice t l c=>(aV l).bind fun L=>(aV c).bind fun C=>(wY P t).map fun p=>.wB p.2.1 p.2.2 p.1 L C
 | .extract x i=>(aV x).map fun X=>.ext i X
 | .makeFunc (.func f) first cap=>(Qx first).bind fun F=>(Qx cap).map fun C=>.Ak f F C
 | .call c=>Q5 P c
 | .makeMap _ none=>some .Er
 | .lookup t m k ok=>(aV m).bind fun M=>(aV k).bind fun K=>(Jp P t).map fun p=>.look p.1 p.2 ok M K
 | .mapUpdate t m k x=>Cq P t m k x
 | .insert t m k x=>Cq P t m k x
 | .nilCheck x=>(aV x).map .iP
 | .makeInterface t x=>if Jw P t=true then (aV x).map (.NK t) else none
 | .typeAssert x _ t true=>if Jw P t=true then (aV x).bind fun X=>(xA P t).map fun p=>.NV t p.1 X else none
 | _=>none
section
variable{P:Program}{n:Nat}{o:Oper}{a:AF}{S:St}{aC:Nat}{v:AV}
theorem ZcS{t:TypeId}(hu:P.underlying t=some .bool)(p q:Bool)(w:World):(Op.equal t (.bool p) (.bool q)).run P w=.ok (p == q) w:=by
 show(Op.equalIn (9999+1) t (.bool p) (.bool q)).run P w=_
 rw[Op.equalIn];simp only[Sem.run_bind,run_underlying hu,Result.andThen_ok];rfl
theorem ZpT{op:BinOp}{t t2:TypeId}{x y:Operand}{X Y:aJ}{q:Bool}(hd:∀d,o.dst=some d→d < n)(hop:o.op=.binOp op t x y t2)(hx:aV x=some X)(hy:aV y=some Y)
  (hu:P.underlying t=some .bool) (hq:(op=.eql∧q=false)∨(op=.neq∧q=true)) (h:eO q (X.ev a) (Y.ev a)=some v):iO P n o a S aC v S:=by
 refine .pure hd fun E w act hS hF=>?_
 have rx:=bT hF hx;have ry:=bT hF hy;unfold eO at h;split at h
 ·rename_i p r hxe hye
  rw[hxe] at rx;rw[hye] at ry;have e1:=rx.jl;have e2:=ry.jl;cases h;have he:=ZcS (P:=P) hu p r w;rcases hq with⟨rfl,rfl⟩ | ⟨rfl,rfl⟩
  ·exact⟨.bool (p == r),by simp only[execOp,hop,e1,e2,eqGuard_at_bool,binOp];simp[he],.v _ rfl⟩
  ·exact⟨.bool (p != r),by simp only[execOp,hop,e1,e2,eqGuard_at_bool,binOp];simp[he,bne],.v _ rfl⟩
 ·cases h
theorem lJ{e:Option AV}{S':St}(h:(Eff.val e).run S aC=some (v,S')):e=some v∧S'=S:=by
 simp only[Eff.rR,Option.map_eq_some_iff,Prod.mk.injEq] at h;obtain⟨v',h1,rfl,rfl⟩:=h;exact⟨h1,rfl⟩
theorem I8(hd:∀d,o.dst=some d→d < n){ao:jA}(hc:cop P o.op=some ao){S':St}(h:(ex ao a).run S aC=some (v,S')):iO P n o a S aC v S':=by
 generalize hop:o.op=op at hc;cases op with
 | move x=>
  simp only[cop,Option.map_eq_some_iff] at hc;obtain⟨X,hx,rfl⟩:=hc;obtain⟨h1,rfl⟩:=lJ h;cases h1;exact Zmk hd (.inl hop) hx
 | assign x=>
  simp only[cop,Option.map_eq_some_iff] at hc;obtain⟨X,hx,rfl⟩:=hc;obtain⟨h1,rfl⟩:=lJ h;cases h1;exact Zmk hd (.inr hop) hx
 | pick c x y=>
  simp only[cop,Option.map_eq_some_iff,Option.bind_eq_some_iff] at hc;obtain⟨C,hC,X,hx,Y,hy,rfl⟩:=hc;obtain⟨h1,rfl⟩:=lJ h;exact ZrB hd hop hC hx hy h1
 | box t x=>
  simp only[cop,Option.map_eq_some_iff,Option.bind_eq_some_iff] at hc;obtain⟨k,hk,X,hx,rfl⟩:=hc;exact Ztt (t:=t) (k:=k) hd hop hx h
 | alloc t=>
  simp only[cop,Option.map_eq_some_iff] at hc;obtain⟨p,hp,rfl⟩:=hc;exact ZoO hd hop hp h
 | load t p=>
  simp only[cop,Option.map_eq_some_iff,Option.bind_eq_some_iff] at hc;obtain⟨k,hk,X,hx,rfl⟩:=hc;obtain⟨rfl,h1⟩:=Zrx hd hop hx hk h;exact h1
 | store t p x=>
  simp only[cop,Option.map_eq_some_iff,Option.bind_eq_some_iff] at hc;obtain⟨k,hk,Y,hy,X,hx,rfl⟩:=hc;obtain⟨rfl,h1⟩:=ZoR hd hop hy hx hk h;exact h1
 | binOp JN t x y t2=>
  simp only[cop] at hc;split at hc
  ·rename_i sl neg hcn
   simp only[Option.map_eq_some_iff] at hc;obtain⟨X,hx,rfl⟩:=hc;obtain⟨h1,rfl⟩:=lJ h;exact ZrA hd hop hcn hx h1
  ·split at hc
   ·rename_i neg hci
    simp only[Option.map_eq_some_iff] at hc;obtain⟨X,hx,rfl⟩:=hc;obtain⟨h1,rfl⟩:=lJ h;exact Zru hd hop hx hci h1
   simp only[Option.bind_eq_some_iff] at hc;obtain⟨X,hx,Y,hy,hb⟩:=hc;unfold YG at hb;split at hb
   ·rename_i hu
    split at hb
    ·cases hb;obtain⟨h1,rfl⟩:=lJ h;exact ZpT hd hop hx hy hu (.inl ⟨rfl,rfl⟩) h1
    ·cases hb;obtain⟨h1,rfl⟩:=lJ h;exact ZpT hd hop hx hy hu (.inr ⟨rfl,rfl⟩) h1
    ·cases hb
   ·cases hb;obtain⟨h1,rfl⟩:=lJ h;exact ZpU hd hop hx hy h1
   ·cases hb;obtain⟨h1,rfl⟩:=lJ h;exact ZpU hd hop hx hy h1
   ·split at hb
    ·simp only[Option.map_eq_some_iff] at hb
     obtain⟨jC,ho,rfl⟩:=hb;obtain⟨h1,rfl⟩:=lJ h;exact QV hd hop hx hy ho (.inl ⟨rfl,rfl⟩) h1
    ·simp only[Option.map_eq_some_iff] at hb
     obtain⟨jC,ho,rfl⟩:=hb;obtain⟨h1,rfl⟩:=lJ h;exact QV hd hop hx hy ho (.inr ⟨rfl,rfl⟩) h1
    ·cases hb
   ·split at hb
    ·simp only[Option.map_eq_some_iff] at hb
     obtain⟨jC,ho,rfl⟩:=hb;obtain⟨h1,rfl⟩:=lJ h;exact QV hd hop hx hy ho (.inl ⟨rfl,rfl⟩) h1
    ·simp only[Option.map_eq_some_iff] at hb
     obtain⟨jC,ho,rfl⟩:=hb;obtain⟨h1,rfl⟩:=lJ h;exact QV hd hop hx hy ho (.inr ⟨rfl,rfl⟩) h1
    ·cases hb
   ·cases hb
 | unOp uop t x=>
  simp only[cop,Option.map_eq_some_iff] at hc;obtain⟨X,hx,rfl⟩:=hc;obtain⟨h1,rfl⟩:=lJ h;exact ZuS hd hop hx h1
 | convert s t x=>
  simp only[cop,Option.map_eq_some_iff,Option.bind_eq_some_iff] at hc;obtain⟨k,hk,X,hx,rfl⟩:=hc;obtain⟨h1,rfl⟩:=lJ h;exact Zrp hd hop hx hk h1
 | fieldAddr s x f=>
  simp only[cop,Option.map_eq_some_iff,Option.bind_eq_some_iff] at hc;obtain⟨off,hk,X,hx,rfl⟩:=hc;obtain⟨h1,rfl⟩:=lJ h;exact Zmj hd hop hx hk h1
 | indexAddr t x i=>
  simp only[cop,Option.bind_eq_some_iff] at hc;obtain⟨X,hx,I,hi,hb⟩:=hc;unfold YH at hb;split at hb
  ·simp only[Option.map_eq_some_iff] at hb
   obtain⟨es,hes,rfl⟩:=hb;obtain⟨rfl,h1⟩:=Zrq hd hop hx hi hes h;exact h1
  ·simp only[Option.map_eq_some_iff] at hb
   obtain⟨p,hp,rfl⟩:=hb;obtain⟨h1,rfl⟩:=lJ h;exact Zrr hd hop hx hi hp h1
  ·cases hb
 | field s x f=>
  simp only[cop,Option.map_eq_some_iff,Option.bind_eq_some_iff] at hc;obtain⟨p,hk,X,hx,rfl⟩:=hc;obtain⟨h1,rfl⟩:=lJ h;exact ZoQ hd hop hx hk h1
 | index t x i=>
  simp only[cop,Option.bind_eq_some_iff] at hc;obtain⟨X,hx,I,hi,hb⟩:=hc;unfold XZ at hb;split at hb
  ·rename_i hu
   cases hb;obtain⟨h1,rfl⟩:=lJ h;exact Zrs hd hop hx hi hu h1
  ·simp only[Option.map_eq_some_iff] at hb
   obtain⟨p,hp,rfl⟩:=hb;obtain⟨h1,rfl⟩:=lJ h;exact Zrt hd hop hx hi hp h1
  ·cases hb
 | slice t x lo hi mx=>
  cases mx with
  | some m=>simp[cop] at hc
  | none=>
   simp only[cop,Option.bind_eq_some_iff] at hc;obtain⟨X,hx,LO,hlo,HI,hhi,hb⟩:=hc;unfold RZ at hb;split at hb
   ·rename_i hu
    cases hb;obtain⟨h1,rfl⟩:=lJ h;exact ZrC hd hop hx hlo hhi hu h1
   ·simp only[Option.map_eq_some_iff] at hb
    obtain⟨es,hes,rfl⟩:=hb;obtain⟨rfl,h1⟩:=ZtE hd hop hx hlo hhi hes h;exact h1
   ·cases hb
 | build t ps=>
  simp only[cop,Option.bind_eq_some_iff] at hc;obtain⟨qs,hq,hb⟩:=hc;unfold Qw at hb;split at hb
  ·rename_i hk
   simp only[Option.bind_eq_some_iff,Option.map_eq_some_iff] at hb;obtain⟨rs,hrs,p,hp,rfl⟩:=hb;obtain⟨h1,rfl⟩:=lJ h;exact ZoP hd hop hq hrs hp hk h1
  ·cases hb
 | buildSlice t m ps=>
  simp only[cop,Option.bind_eq_some_iff,Option.map_eq_some_iff] at hc;obtain⟨qs,hq,p,hp,rfl⟩:=hc;obtain⟨h1,rfl⟩:=lJ h;exact Zmi hd hop hq hp h1
 | makeSlice t l c=>
  simp only[cop,Option.bind_eq_some_iff,Option.map_eq_some_iff] at hc;obtain⟨L,hl,C,hC,p,hp,rfl⟩:=hc;exact ZtB hd hop hl hC hp h
 | extract x i=>
  simp only[cop,Option.map_eq_some_iff] at hc;obtain⟨X,hx,rfl⟩:=hc;obtain⟨h1,rfl⟩:=lJ h;exact Ztx hd hop hx h1
 | makeFunc fn first cap=>
  cases fn with
  | func f=>
   simp only[cop,Option.bind_eq_some_iff,Option.map_eq_some_iff] at hc;obtain⟨F,hf,C,hC,rfl⟩:=hc;obtain⟨h1,rfl⟩:=lJ h;cases h1;exact Ztz hd hop hf hC
  | _=>simp[cop] at hc
 | call c=>
  simp only[cop] at hc;unfold Q5 at hc;split at hc
  ·rename_i x t
   simp only[Option.bind_eq_some_iff] at hc;obtain⟨X,hx,hb⟩:=hc;unfold Yo at hb;split at hb
   ·rename_i hu
    cases hb;obtain⟨h1,rfl⟩:=lJ h;exact Zty hd hop hx hu h1
   ·rename_i hu
    cases hb;obtain⟨h1,rfl⟩:=lJ h;exact Zrw hd hop hx hu h1
   ·rename_i hu
    cases hb;exact Zrv hd hop hx hu h
   ·cases hb
  ·rename_i x y t u
   split at hc
   ·rename_i htu
    subst htu;simp only[Option.bind_eq_some_iff,Option.map_eq_some_iff] at hc;obtain⟨X,hx,Y,hy,p,hp,rfl⟩:=hc;exact Zts hd hop hx hy hp h
   ·split at hc
    ·rename_i kn hu
     simp only[Option.bind_eq_some_iff,Option.map_eq_some_iff] at hc;obtain⟨X,hx,Y,hy,p,hp,rfl⟩:=hc;exact Zro (z:=p.1) (es:=p.2.1) (aB:=p.2.2) hd hop hx hy hp hu h
    ·cases hc
  ·rename_i x y t u
   simp only[Option.bind_eq_some_iff,Option.map_eq_some_iff] at hc;obtain⟨X,hx,Y,hy,rfl⟩:=hc;obtain⟨h1,rfl⟩:=lJ h;exact ZtC (.inl ⟨rfl,rfl⟩) hd hop hx hy h1
  ·rename_i x y t u
   simp only[Option.bind_eq_some_iff,Option.map_eq_some_iff] at hc;obtain⟨X,hx,Y,hy,rfl⟩:=hc;obtain⟨h1,rfl⟩:=lJ h;exact ZtC (.inr ⟨rfl,rfl⟩) hd hop hx hy h1
  ·rename_i x t
   simp only[Option.bind_eq_some_iff,Option.map_eq_some_iff] at hc;obtain⟨X,hx,es,hs,rfl⟩:=hc;obtain⟨h1,rfl⟩:=lJ h;unfold Dw at hs;split at hs
   ·rename_i e hu
    exact Ztu hd hop hx hu h1
   ·cases hs
  ·rename_i x t
   simp only[Option.bind_eq_some_iff,Option.map_eq_some_iff] at hc;obtain⟨X,hx,p,hp,rfl⟩:=hc;exact Ztv (z:=p.1) (es:=p.2.1) (aB:=p.2.2) hd hop hx hp h
  ·rename_i x y t u
   simp only[Option.bind_eq_some_iff,Option.map_eq_some_iff] at hc;obtain⟨X,hx,Y,hy,p,hp,rfl⟩:=hc;exact Ztw (z:=p.1) (es:=p.2.1) (aB:=p.2.2) hd hop hx hy hp h
  ·cases hc
 | nilCheck x=>
  simp only[cop,Option.map_eq_some_iff] at hc;obtain⟨X,hx,rfl⟩:=hc;obtain⟨h1,rfl⟩:=lJ h;exact Zrz hd hop hx h1
 | makeInterface t x=>
  simp only[cop] at hc;split at hc
  ·rename_i hcc
   simp only[Option.map_eq_some_iff] at hc;obtain⟨X,hx,rfl⟩:=hc;obtain⟨h1,rfl⟩:=lJ h;exact ZtA hd hop hx hcc h1
  ·cases hc
 | typeAssert x xt t ok=>
  cases ok with
  | false=>simp[cop] at hc
  | true=>
   simp only[cop] at hc;split at hc
   ·rename_i hcc
    simp only[Option.bind_eq_some_iff,Option.map_eq_some_iff] at hc;obtain⟨X,hx,p,hz,rfl⟩:=hc;obtain⟨h1,rfl⟩:=lJ h;exact ZtF (m:=p.2) hd hop hx hcc hz h1
   ·cases hc
 | makeMap t r=>
  cases r with
  | some r=>simp[cop] at hc
  | none=>
   simp only[cop,Option.some.injEq] at hc;subst hc;exact ZtD hd hop h
 | lookup t m k ok=>
  simp only[cop,Option.bind_eq_some_iff,Option.map_eq_some_iff] at hc;obtain⟨M,hm,K,hk,p,hp,rfl⟩:=hc;exact Zry hd hop hm hk hp h
 | mapUpdate t m k x=>
  simp only[cop,Cq,Option.bind_eq_some_iff,Option.map_eq_some_iff] at hc;obtain⟨M,hm,K,hk,X,hx,p,hp,rfl⟩:=hc;obtain⟨rfl,h1⟩:=Zml hd (.inl hop) hm hk hx hp h;exact h1
 | insert t m k x=>
  simp only[cop,Cq,Option.bind_eq_some_iff,Option.map_eq_some_iff] at hc;obtain⟨M,hm,K,hk,X,hx,p,hp,rfl⟩:=hc;obtain⟨rfl,h1⟩:=Zml hd (.inr hop) hm hk hx hp h;exact h1
 | _=>simp[cop] at hc
theorem Eff.OV{e:Eff}{S':St}(h:e.run S aC=some (v,S')):S'.n=S.n:=by
 have hL:∀(F:List Nat) (ks:List (Option aF)) (T:St),(T.fD F ks).n=T.n:=by
  intro F;induction F with
  | nil=>intro ks T;cases ks<;>rfl
  | cons i F ih=>intro ks T;cases ks with
   | nil=>rfl
   | cons k ks=>simp only[St.fD];rw[ih];rfl
 unfold Eff.run at h;split at h
 ·cases h
 ·split at h
  ·cases h
  ·rename_i out _
   simp only[Option.some.injEq,Prod.mk.injEq] at h;obtain⟨_,rfl⟩:=h;cases out.nw<;>simp[St.iU,St.set,hL]
def sJ(op:jA)(a:AF)(k:AV→Prop):Prop:=
 match op with
 | .Es true _ x=>P6 (x.ev a)∧∀b,k (.v (.bool b))
 | _=>False
theorem PN{op:jA}{a:AF}{k k':AV→Prop}(hk:∀v,k v→k' v)(h:sJ op a k):sJ op a k':=by
 unfold sJ at h ⊢;split<;>rename_i h2
 ·simp only at h;exact⟨h.1,fun b=>hk _ (h.2 b)⟩
 ·split at h
  ·exact(h2 _ _ rfl).elim
  ·exact h
theorem Qq{ao:jA}(hc:cop P o.op=some ao){k:AV→Prop}(h:sJ ao a k){E:Env}{act:Act}(hF:fu E n a act)(w:World) :
  ∃b,k (.v (.bool b))∧(execOp act.eval o).run P w=.ok (.value (.bool b)) w:=by
 unfold sJ at h;split at h
 ·rename_i neg X
  obtain⟨h1,h2⟩:=h;generalize hop:o.op=op at hc
  have key:∃JN t x y t2,op=.binOp JN t x y t2∧Ee P JN t y=some (true,neg)∧aV x=some X:=by
   cases op with
   | binOp JN t x y t2=>
    simp only[cop] at hc;split at hc
    ·rename_i sl ng hcn
     simp only[Option.map_eq_some_iff,jA.Es.injEq] at hc;obtain⟨X',hx,rfl,rfl,rfl⟩:=hc;exact⟨JN,t,x,y,t2,rfl,hcn,hx⟩
    ·split at hc
     ·simp only[Option.map_eq_some_iff,reduceCtorEq,and_false,exists_false] at hc
     simp only[Option.bind_eq_some_iff] at hc;obtain⟨X,hx,Y,hy,hb⟩:=hc;unfold YG at hb;split at hb<;>(try split at hb)<;>simp at hb
   | makeInterface t x=>
    simp only[cop] at hc;split at hc
    ·simp only[Option.map_eq_some_iff,reduceCtorEq,and_false,exists_false] at hc
    ·cases hc
   | typeAssert x xt t ok=>
    cases ok with
    | false=>simp[cop] at hc
    | true=>
     simp only[cop] at hc;split at hc
     ·simp only[Option.bind_eq_some_iff,Option.map_eq_some_iff,reduceCtorEq,and_false,exists_false] at hc
     ·cases hc
   | call c=>
    simp only[cop] at hc;unfold Q5 at hc;split at hc
    ·simp only[Option.bind_eq_some_iff] at hc
     obtain⟨X,hx,hb⟩:=hc;unfold Yo at hb;split at hb<;>simp at hb
    ·split at hc
     ·simp only[Option.bind_eq_some_iff,Option.map_eq_some_iff,reduceCtorEq,and_false,exists_false] at hc
     ·split at hc<;>simp only[Option.bind_eq_some_iff,Option.map_eq_some_iff,reduceCtorEq,and_false,exists_false] at hc
    all_goals simp only[Option.bind_eq_some_iff,Option.map_eq_some_iff,reduceCtorEq,and_false,exists_false] at hc
   | indexAddr t x i=>
    simp only[cop,Option.bind_eq_some_iff] at hc;obtain⟨X,hx,I,hi,hb⟩:=hc;unfold YH at hb;split at hb<;>simp at hb
   | index t x i=>
    simp only[cop,Option.bind_eq_some_iff] at hc;obtain⟨X,hx,I,hi,hb⟩:=hc;unfold XZ at hb;split at hb<;>simp at hb
   | slice t x lo hi mx=>
    cases mx with
    | some m=>simp[cop] at hc
    | none=>
     simp only[cop,Option.bind_eq_some_iff] at hc;obtain⟨X,hx,LO,hlo,HI,hhi,hb⟩:=hc;unfold RZ at hb;split at hb<;>simp at hb
   | build t ps=>
    simp only[cop,Option.bind_eq_some_iff] at hc;obtain⟨qs,hq,hb⟩:=hc;unfold Qw at hb;split at hb<;>simp only[Option.bind_eq_some_iff,Option.map_eq_some_iff,reduceCtorEq,and_false,exists_false] at hb
   | makeFunc f a b=>cases f<;>simp only[cop,Option.bind_eq_some_iff,Option.map_eq_some_iff,reduceCtorEq,and_false,exists_false] at hc
   | makeMap t r=>cases r<;>first | (simp only[cop,Option.some.injEq,reduceCtorEq] at hc;done) | simp only[cop,Cq,Option.bind_eq_some_iff,Option.map_eq_some_iff,reduceCtorEq,and_false,exists_false] at hc
   | mapUpdate t m k x=>simp only[cop,Cq,Option.bind_eq_some_iff,Option.map_eq_some_iff,reduceCtorEq,and_false,exists_false] at hc
   | insert t m k x=>simp only[cop,Cq,Option.bind_eq_some_iff,Option.map_eq_some_iff,reduceCtorEq,and_false,exists_false] at hc
   | _=>simp only[cop,Option.bind_eq_some_iff,Option.map_eq_some_iff,reduceCtorEq,and_false,exists_false] at hc
  obtain⟨JN,t,x,y,t2,rfl,k1,k2⟩:=key;obtain⟨b,hb⟩:=Zp0 hop k1 k2 h1 hF w;exact⟨b,h2 b,hb⟩
 ·exact h.elim
end
structure Ev(E:Env)(S:St)(w:World)(E':Env)(S':St)(w':World):Prop where
 bX:kH E S w E' S' w'
 jP:S.n≤S'.n
 low:∀id,id < S.n→E.ρ id=none→E'.ρ id=none
theorem Ev.refl(E:Env)(S:St)(w:World):Ev E S w E S w:=⟨.refl _ _ _,Nat.le_refl _,fun _ _ e=>e⟩
theorem Ev.trans{E1 E2 E3:Env}{S1 S2 S3:St}{w1 w2 w3:World}(h:Ev E1 S1 w1 E2 S2 w2)(k:Ev E2 S2 w2 E3 S3 w3):Ev E1 S1 w1 E3 S3 w3:=
 ⟨h.bX.trans k.bX,Nat.le_trans h.jP k.jP,fun id hi e=>k.low id (Nat.lt_of_lt_of_le hi h.jP) (h.low id hi e)⟩
def nZ(E0:Env)(S0:St)(w0:World)(n:Nat)(Q:Exit→AF→St→Prop):Exit→Act→World→Prop:=
 fun e act w=>∃a S E,Q e a S∧bf E S w∧fu E n a act∧Ev E0 S0 w0 E S w
theorem nZ.trans{E0 E1:Env}{S0 S1:St}{w0 w1:World}{n:Nat}{Q:Exit→AF→St→Prop}{e:Exit}{act:Act}{w:World}(h:Ev E0 S0 w0 E1 S1 w1)(k:nZ E1 S1 w1 n Q e act w):nZ E0 S0 w0 n Q e act w:=
 let ⟨a,S,E,h1,h2,h3,h4⟩:=k;⟨a,S,E,h1,h2,h3,h.trans h4⟩
def X8:List (String×Array Value):=[("internal/strconv.uint64pow10",((List.range 20).map fun k=>Value.int .u64 ((10:Int) ^ k)).toArray)]
def jI(P:Program)(H:Nat→Option (Array Value)):Prop:=∀t∈X8,∀g,P.globalNamed t.1=some g→H g=some t.2
theorem jI.sub{P:Program}{H H':Nat→Option (Array Value)}(h:jI P H)(k:∀b cs,H b=some cs→H' b=some cs):jI P H':=fun t ht g hg=>k _ _ (h t ht g hg)
theorem jI.le{P:Program}{E E':Env}(h:jI P E.H)(k:E.le E'):jI P E'.H:=h.sub k.2
def Kg(P:Program)(n:Nat)(c:Code)(Q:Exit→AF→St→Prop)(a:AF)(S:St):Prop:=
 ∀E w act,jI P E.H→bf E S w→fu E n a act→c.wp P (nZ E S w n Q) act w
def tO(P:Program)(f:FuncId):Prop:=∃fn,P.funcs[f]? = some fn∧(fn.name == "runtime.NumGoroutine")=false∧fn.body.isNone=false
def kC(E:Env)(args:List AV)(vals:Array Value):Prop:=vals.size=args.length∧∀j (h:j < args.length),aL E (args[j]) (vals.getD j undef)
def aQ(P:Program)(f:FuncId)(args:List AV)(S:St)(K:AV→St→Prop):Prop:=
 tO P f∧∀E w vals,jI P E.H→bf E S w→kC E args vals→
  Calls P f vals w fun e w'=>∃v r S' E',e=.returned v∧K r S'∧bf E' S' w'∧aL E' r v∧Ev E S w E' S' w'
theorem aQ.mono{P:Program}{f:FuncId}{args:List AV}{S:St}{K K':AV→St→Prop}(h:aQ P f args S K)(hk:∀r S',K r S'→K' r S'):aQ P f args S K':=
 ⟨h.1,fun E w vals h0 h1 h2=>(h.2 E w vals h0 h1 h2).mono fun e w' ⟨v,r,S',E',a,b,c⟩=>⟨v,r,S',E',a,hk _ _ b,c⟩⟩
theorem ES{P:Program}{f:FuncId}(h:tO P f)(vals:Array Value)(w:World):(callFunc f vals).run P w=.ok (.enter f vals) w:=by
 obtain⟨fn,h1,h2,h3⟩:=h;simp only[callFunc,Sem.run_bind,run_program,Result.andThen_ok,h1];simp only[h2,h3];rfl
def gd(o:aZ)(a:AF):Option Bool:=
 match o.guard with
 | none=>some true
 | some (d,want)=>match a d with
  | .v (.bool b)=>some (b == want)
  | .aM []=>some false
  | _=>none
def RG(P:Program)(base:Nat):List aZ→Nat→(AF→St→Prop)→AF→St→Prop
 | [],_,K,a,S=>K a S
 | o::os,i,K,a,S=>
  match gd o a with
  | none=>False
  | some false=>RG P base os (i+1) K (a.put o.dst (.aM [])) S
  | some true=>match o.call with
   | some (G,xs)=>match G.ev a with
    | .aP f first cap=>aQ P f (first++xs.map (·.ev a)++cap) S fun r S'=>RG P base os (i+1) K (a.put o.dst r) S'
    | _=>False
   | none=>match (ex o.op a).run S (base+i) with
    | some (v,S')=>RG P base os (i+1) K (a.put o.dst v) S'
    | none=>sJ o.op a fun v=>RG P base os (i+1) K (a.put o.dst v) S
def Ce(ops:Array Oper)(o:Oper):Option (Option (Nat×Bool)):=
 match o.guard with
 | none=>some none
 | some (j,want)=>((ops[j]?).bind (·.dst)).map fun d=>some (d,want)
def Rt(n:Nat):Option Nat→Bool
 | none=>true
 | some d=>decide (d < n)
def CJ:Op→Option (aJ×List aJ)
 | .call ⟨.value g,xs,_⟩=>(aV g).bind fun G=>(Qx xs).map fun XS=>(G,XS)
 | _=>none
def nW(P:Program)(n:Nat)(ops:Array Oper)(o:Oper):Option aZ:=
 if Rt n o.dst=true then
  match CJ o.op with
  | some p=>(Ce ops o).map fun g=>⟨o.dst,.mv (.c .junk),g,some p⟩
  | none=>(cop P o.op).bind fun op=>(Ce ops o).map fun g=>⟨o.dst,op,g,none⟩
 else none
theorem Fb{P:Program}{n:Nat}{ops:Array Oper}{o:Oper}{ao:aZ}(h:nW P n ops o=some ao) :
  (∀d,o.dst=some d→d < n)∧ao.dst=o.dst∧Ce ops o=some ao.guard∧((∃p,ao.call=some p∧CJ o.op=some p)∨(ao.call=none∧cop P o.op=some ao.op)):=by
 unfold nW at h;split at h
 ·rename_i hd
  have hd':∀d,o.dst=some d→d < n:=fun d e=>by rw[e] at hd;simpa[Rt] using hd
  split at h
  ·rename_i p hp
   simp only[Option.map_eq_some_iff] at h;obtain⟨g,h2,rfl⟩:=h;exact⟨hd',rfl,h2,.inl ⟨p,rfl,hp⟩⟩
  ·simp only[Option.bind_eq_some_iff,Option.map_eq_some_iff] at h
   obtain⟨op,h1,g,h2,rfl⟩:=h;exact⟨hd',rfl,h2,.inr ⟨rfl,h1⟩⟩
 ·cases h
theorem Lv{E:Env}:aL E (.aM []) undef:=.aM [] #[] rfl (by simp)
theorem Zey{E:Env}{v:Value}(h:aL E (.aM []) v):v=undef:=by
 cases h with
 | aM _ vs hn _=>have:vs=#[]:=Array.eq_empty_of_size_eq_zero (by simpa using hn);subst this;rfl
theorem zy{E:Env}{n:Nat}{a:AF}{act:Act}(hF:fu E n a act){ops:Array Oper}{o:Oper}{ao:aZ}(hg:Ce ops o=some ao.guard){b:Bool}(h:gd ao a=some b) :
  Region.wanted o (yielded ops act.tmps)=b:=by
 unfold Ce at hg;unfold gd at h;split at hg
 ·rename_i hgo
  simp only[Option.some.injEq] at hg;rw[←hg] at h;simp only[Option.some.injEq] at h;subst h;simp[Region.wanted,hgo]
 ·rename_i j want hgo
  simp only[Option.map_eq_some_iff] at hg;obtain⟨d,hd,hg⟩:=hg;rw[←hg] at h;simp only at h;split at h
  ·rename_i c hc
   have r:=hF.at_ d
   rw[hc] at r;have e:=r.jl;simp only[Option.some.injEq] at h;subst h
   have ht:act.tmps[d]? = some (.bool c):=by
    simp only[Array.getD_eq_getD_getElem?] at e;cases hq:act.tmps[d]? with
    | none=>rw[hq] at e;simp[undef] at e
    | some u=>rw[hq] at e;simpa using e
   simp[Region.wanted,hgo,yielded,hd,ht]
  ·rename_i hc
   have r:=hF.at_ d
   rw[hc] at r;have e:=Zey r;simp only[Option.some.injEq] at h;subst h;cases hq:act.tmps[d]? with
   | none=>simp[Region.wanted,hgo,yielded,hd,hq]
   | some u=>
    have:u=undef:=by simpa[Array.getD_eq_getD_getElem?,hq] using e
    subst this;simp[Region.wanted,hgo,yielded,hd,hq,undef]
  ·cases h
theorem Ie{E:Env}{n:Nat}{a:AF}{act:Act}(hF:fu E n a act){xs:Array Operand}{XS:List aJ}(h:Qx xs=some XS):kC E (XS.map (·.ev a)) (xs.map act.eval):=by
 have key:∀(l:List Operand) (ys:List aJ),l.mapM aV=some ys→ys.length=l.length∧∀j (h:j < (ys.map (·.ev a)).length),aL E ((ys.map (·.ev a))[j]) ((l.map act.eval).getD j undef):=by
  intro l;induction l with
  | nil=>intro ys h;simp at h;subst h;simp
  | cons x l ih=>
   intro ys h;simp only[List.mapM_cons,Option.bind_eq_bind,Option.bind_eq_some_iff,Option.pure_def,Option.some.injEq] at h;obtain⟨y,hy,zs,hz,rfl⟩:=h;obtain⟨h1,h2⟩:=ih zs hz;refine⟨by simp[h1],fun j hj=>?_⟩;cases j with
   | zero=>simpa using bT hF hy
   | succ j=>
    have:=h2 j (by simpa using hj);rw[List.getElem_map] at this;simpa using this
 obtain⟨h1,h2⟩:=key _ _ h;refine⟨by simp[h1],fun j hj=>?_⟩;have:=h2 j hj;simpa[Array.getD_eq_getD_getElem?,List.getD_eq_getElem?_getD] using this
theorem kC.append{E:Env}{xs ys:List AV}{us vs:Array Value}(h:kC E xs us)(k:kC E ys vs):kC E (xs++ys) (us++vs):=by
 refine⟨by simp[h.1,k.1],fun j hj=>?_⟩;have h1:=h.1;by_cases hl:j < xs.length
 ·have:=h.2 j hl
  rw[List.getElem_append_left hl];simp only[Array.getD_eq_getD_getElem?] at this ⊢;rw[Array.getElem?_append_left (by omega)];exact this
 ·have:=k.2 (j - xs.length) (by simp at hj;omega)
  rw[List.getElem_append_right (by omega)];simp only[Array.getD_eq_getD_getElem?] at this ⊢;rw[Array.getElem?_append_right (by omega),h1];exact this
theorem Pz{P:Program}{n:Nat}{o:Oper}{a:AF}{S:St}(hd:∀d,o.dst=some d→d < n){f:FuncId}{args:List AV}{K:AV→St→Prop}(h:aQ P f args S K)
  {E:Env} {w:World} {act:Act} (hG:jI P E.H) (hS:bf E S w) (hF:fu E n a act) {vals:Array Value} (hv:kC E args vals) (hrun:(execOp act.eval o).run P w=.ok (.enter f vals) w)
  {KK:Act→World→Prop} {Q:Exit→Act→World→Prop} (hK:∀r S' act' w' E',K r S'→bf E' S' w'→fu E' n (a.put o.dst r) act'→Ev E S w E' S' w'→KK act' w'):o.wp P act w KK Q:=by
 unfold Oper.wp;rw[hrun,Oper.upon_enter];refine(h.2 E w vals hG hS hv).mono ?_;rintro e w' ⟨v,r,S',E',rfl,hk,hS',hr,hev⟩;exact hK r S' _ w' E' hk hS' ((hF.mono hev.bX.le).put hd hr) hev
theorem ER{P:Program}(ρ:Operand→Value)(f:Operand)(xs:Array Operand)(ts:Array TypeId)(t:TypeId){g:FuncId}{first cap:Array Value}(h:ρ f=.func (.func g) first cap)(w:World) :
  (resolve ρ ⟨.value f,xs,ts⟩ t).run P w=.ok { target:=.fn (.func g) cap,args:=first++xs.map ρ } w:=by
 simp only[resolve,h,Deferred.ofValue];rfl
theorem WE{P:Program}{n:Nat}{ops:Array Oper}{base:Nat}{Q:Exit→AF→St→Prop}{E0:Env}{S0:St}{w0:World}(hG0:jI P E0.H)(hb:S0.n≤base) :
  ∀(os:List aZ) (i:Nat) (a:AF) (S:St),(∀k (hk:k < os.length),∃o,ops[i+k]? = some o∧nW P n ops o=some (os[k]))→RG P base os i (fun a S=>Q .normal a S) a S→
   ∀E w act,bf E S w→fu E n a act→(∀k,i≤k→k < i+os.length→E.ρ (base+k)=none∧base+k < S.n)→Ev E0 S0 w0 E S w→
    wpOps P ops (nZ E0 S0 w0 n Q) (List.range' i os.length) act w
 | [],i,a,S,_,h,E,w,act,hS,hF,_,hE=>⟨a,S,E,h,hS,hF,hE⟩
 | ao::os,i,a,S,hc,h,E,w,act,hS,hF,hr,hE=>by
  obtain⟨o,ho,hco⟩:=hc 0 (by simp);simp only[Nat.add_zero,List.getElem_cons_zero] at ho hco;obtain⟨hd,hdst,hgd,hor⟩:=Fb hco
  have hc':∀k (hk:k < os.length),∃o,ops[i+1+k]? = some o∧nW P n ops o=some (os[k]):=by
   intro k hk;obtain⟨o',h1,h2⟩:=hc (k+1) (by simpa using hk);exact⟨o',by rw[←h1];congr 1;omega,by simpa using h2⟩
  have hr0:=hr i (Nat.le_refl _) (by simp);simp only[List.length_cons,List.range'_succ,wpOps,ho];simp only[RG] at h;split at h
  ·exact h.elim
  ·rename_i hg
   rw[zy hF hgd hg];simp only[Bool.false_eq_true,if_false];rw[hdst] at h;exact WE hG0 hb os (i+1) _ S hc' h E w _ hS (hF.put hd Lv) (fun k h1 h2=>hr k (by omega) (by simp;omega)) hE
  ·rename_i hg
   rw[zy hF hgd hg];simp only[if_true];left;rw[hdst] at h
   have next:∀{r:AV} {S':St} {act':Act} {w':World} {E':Env},RG P base os (i+1) (fun a S=>Q .normal a S) (a.put o.dst r) S'→bf E' S' w'→fu E' n (a.put o.dst r) act'→Ev E0 S0 w0 E' S' w'→
     (∀k,i < k→k < i+(os.length+1)→E'.ρ (base+k)=none∧base+k < S'.n)→wpOps P ops (nZ E0 S0 w0 n Q) (List.range' (i+1) os.length) act' w':=
    fun h1 h2 h3 h4 h5=>WE hG0 hb os (i+1) _ _ hc' h1 _ _ _ h2 h3 (fun k a1 a2=>h5 k (by omega) (by omega)) h4
   have hcall:∀{f:FuncId} {args:List AV} {vals:Array Value},aQ P f args S (fun r S'=>RG P base os (i+1) (fun a S=>Q .normal a S) (a.put o.dst r) S')→kC E args vals→
     (execOp act.eval o).run P w=.ok (.enter f vals) w→o.wp P act w (wpOps P ops (nZ E0 S0 w0 n Q) (List.range' (i+1) os.length)) (nZ E0 S0 w0 n Q):=by
    intro f args vals h1 h2 h3;refine Pz hd h1 (hG0.le hE.bX.le) hS hF h2 h3 fun r S' act' w' E' k1 k2 k3 k4=>next k1 k2 k3 (hE.trans k4) fun k a1 a2=>?_
    obtain⟨b1,b2⟩:=hr k (by omega) (by simp;omega);exact⟨k4.low _ b2 b1,Nat.lt_of_lt_of_le b2 k4.jP⟩
   rcases hor with⟨p,hp1,hp2⟩ | ⟨hp1,hop⟩
   ·
    rw[hp1] at h;obtain⟨G,xs⟩:=p;simp only at h;unfold CJ at hp2;split at hp2
    ·rename_i g ys ts wQ
     simp only[Option.bind_eq_some_iff,Option.map_eq_some_iff,Prod.mk.injEq] at hp2;obtain⟨G',hG,XS,Ae,rfl,rfl⟩:=hp2;have rg:=bT hF hG;split at h
     ·rename_i f first cap Af
      rw[Af] at rg;generalize hev:act.eval g=gv at rg;cases rg with
      | aP _ _ _ fv cv hn hm hf hcc=>
       have hx:=Ie hF Ae;have hargs:kC E (first++XS.map (·.ev a)++cap) (fv++ys.map act.eval++cv):=(kC.append ⟨hn,hf⟩ hx).append ⟨hm,hcc⟩;refine hcall h hargs ?_;simp only[execOp,wQ,Sem.run_bind,ER act.eval g ys ts o.type hev,Result.andThen_ok,invoke];exact ES h.1 _ _
     ·exact h.elim
    ·cases hp2
   ·rw[hp1] at h
    simp only at h;split at h
    ·rename_i v S' hex
     have hok:=I8 (P:=P) (n:=n) (o:=o) hd hop hex;have hn:=Eff.OV hex;refine hok E w act hS hF hr0.1 hr0.2 _ _ fun act' w' E' k1 k2 k3 k4=>next h k1 k2 ⟨hE.bX.trans k3,by have:=hE.jP;omega,fun id hid e=>k4.2 id (by omega) (hE.low id hid e)⟩ fun k a1 a2=>?_
     ·obtain⟨b1,b2⟩:=hr k (by omega) (by simp;omega)
      exact⟨k4.2 _ (by omega) b1,by omega⟩
    ·obtain⟨b,g1,g2⟩:=Qq hop h hF w
     unfold Oper.wp;rw[g2,Oper.upon_value];exact next g1 hS (hF.put hd (.v _ rfl)) hE fun k a1 a2=>hr k (by omega) (by simp;omega)
def bP(args:List AV):AF:=fun t=>args.getD t .junk
def uI(ts:List Nat)(a:AF):AV:=
 match ts with
 | [t]=>a t
 | ts=>.aM (ts.map a)
def Zvk(ts:List Nat)(tmps:Array Value):Value:=
 match ts with
 | [t]=>tmps.getD t undef
 | ts=>.tuple (ts.map fun t=>tmps.getD t undef).toArray
def gG(ts:List Nat)(K:AV→St→Prop):Exit→AF→St→Prop
 | .ret,a,S=>K (uI ts a) S
 | .normal,a,S=>K (uI ts a) S
 | _,_,_=>False
theorem Lj{P:Program}{fn:Func}{ts:List Nat}(hr:fn.results=(ts.map ResultVar.tmp).toArray)(tmps:Array Value)(w:World) :
  (results fn tmps).run P w=.ok (Zvk ts tmps) w:=by
 have hm:∀(l:List Nat),((l.map ResultVar.tmp).mapM (fun
   | .tmp t=>pure (tmps.getD t undef)
   | .cell a t=>do loadVar t (←asAddr (tmps.getD a undef)):ResultVar→Sem Value)).run P w=.ok (l.map fun t=>tmps.getD t undef) w:=by
  intro l;induction l with
  | nil=>rfl
  | cons t l ih=>
   simp only[List.map_cons,List.mapM_cons,Sem.run_bind];rw[show(Sem.run P (pure (tmps.getD t undef)) w:Result Value)=.ok (tmps.getD t undef) w from rfl];simp only[Result.andThen_ok];rw[ih];rfl
 unfold results;rw[hr];rw[Array.mapM_eq_mapM_toList,map_eq_pure_bind];simp only[Sem.run_bind];have h2:=hm ts;erw [h2];simp only[Result.andThen_ok]
 match ts with
 | []=>rfl
 | [t]=>rfl
 | t::u::ts=>
  show Result.ok (if h:_ then _ else _) w=_
  rw[dif_neg (by simp)];rfl
theorem IJ{E:Env}{n:Nat}{a:AF}{act:Act}(hF:fu E n a act)(ts:List Nat) :
  aL E (uI ts a) (Zvk ts act.tmps):=by
 match ts with
 | [t]=>exact hF.at_ t
 | []=>exact .aM _ _ (by simp) (by simp)
 | t::u::ts=>
  refine .aM _ _ (by simp) (fun j hj=>?_);have hj':j < (t::u::ts).length:=by simpa using hj
  have:=hF.at_ ((t::u::ts)[j])
  simp only[List.getElem_map];simp only[Array.getD_eq_getD_getElem?,List.getElem?_toArray,List.getElem?_map,List.getElem?_eq_getElem hj',Option.map_some,Option.getD_some] at this ⊢;exact this
theorem AA{E:Env}{args:List AV}{vals:Array Value}(h:kC E args vals){n:Nat}(hn:args.length≤n) :
  fu E n (bP args) { tmps:=vals++Array.replicate (n - vals.size) undef,defers:=[] }:=by
 have h1:=h.1;refine⟨by simp;omega,rfl,fun t=>?_⟩;simp only[bP];by_cases ht:t < args.length
 ·have:=h.2 t ht
  simp only[List.getD_eq_getElem?_getD,List.getElem?_eq_getElem ht,Option.getD_some];simp only[Array.getD_eq_getD_getElem?] at this ⊢;rw[Array.getElem?_append_left (by omega)];exact this
 ·simp only[List.getD_eq_getElem?_getD,List.getElem?_eq_none (Nat.le_of_not_lt ht),Option.getD_none]
  exact .junk _
theorem vK{P:Program}{f:FuncId}{fn:Func}{c:Code}(hf:P.funcs[f]? = some fn)(hnm:(fn.name == "runtime.NumGoroutine")=false)(hb:fn.body=some c):tO P f:=
 ⟨fn,hf,hnm,by rw[hb];rfl⟩
inductive Fz (g:Nat→Option aF):AV→AV→Prop
 | closed (x:AV) (h:aY x):Fz g x x
 | loose (t:Bool) (xs:List AV) (h:aY (.sl t xs)):Fz g (.sl t xs) (.sl false xs)
 | own (id off len es:Nat) (xs zs:List AV) (hg:g id=some (.arr es xs)) (hl:off+len≤xs.length) (hz:zs.length=len)
   (h:∀i (h1:i < ((xs.drop off).take len).length) (h2:i < zs.length),Fz g (((xs.drop off).take len)[i]) (zs[i])):Fz g (.own id off len) (.sl false zs)
 | agg (cs ds:List AV) (hl:ds.length=cs.length) (h:∀i (h1:i < cs.length) (h2:i < ds.length),Fz g (cs[i]) (ds[i])):Fz g (.agg cs) (.agg ds)
 | aM (cs ds:List AV) (hl:ds.length=cs.length) (h:∀i (h1:i < cs.length) (h2:i < ds.length),Fz g (cs[i]) (ds[i])):Fz g (.aM cs) (.aM ds)
 | ptr (id ix c es:Nat) (xs:List AV) (z:AV) (hg:g id=some (.arr es xs)) (hl:ix < xs.length) (h:Fz g (xs[ix]) z):Fz g (.ptr id ix c) (.bJ z c)
 | pre (id es:Nat) (cs ds:List AV) (hg:g id=some (.arr es [.agg (cs++ds)])) (hc:∀y∈cs,aY y):Fz g (.ptr id 0 0) (.bJ (.agg cs) 0)
 | aP (f:FuncId) (vw bs as' bs':List AV) (hl:as'.length=vw.length) (hm:bs'.length=bs.length) (h:∀i (h1:i < vw.length) (h2:i < as'.length),Fz g (vw[i]) (as'[i]))
   (k:∀i (h1:i < bs.length) (h2:i < bs'.length),Fz g (bs[i]) (bs'[i])):Fz g (.aP f vw bs) (.aP f as' bs')
theorem Fz.cells{g:Nat→Option aF}{x r:AV}(h:Fz g x r):r.cells.length=x.cells.length∧(x.atom=true→r.atom=true)∧∀i (h1:i < x.cells.length) (h2:i < r.cells.length),Fz g (x.cells[i]) (r.cells[i]):=by
 cases h with
 | closed _ h=>exact⟨rfl,id,fun i h1 h2=>.closed _ (h.cells _ (List.getElem_mem h1))⟩
 | loose t xs h=>exact⟨rfl,fun _=>rfl,fun i h1 h2=>by simp[AV.cells] at h1;subst h1;exact .loose t xs h⟩
 | own id off len es xs zs hg hl hz h=>exact⟨rfl,fun _=>rfl,fun i h1 h2=>by simp[AV.cells] at h1;subst h1;exact .own id off len es xs zs hg hl hz h⟩
 | agg cs ds hl h=>exact⟨hl,fun e=>by simp[AV.atom] at e,h⟩
 | aM cs ds hl h=>exact⟨rfl,fun e=>by simp[AV.atom] at e,fun i h1 h2=>by simp[AV.cells] at h1;subst h1;exact .aM cs ds hl h⟩
 | ptr id ix c es xs z hg hl h=>exact⟨rfl,fun _=>rfl,fun i h1 h2=>by simp[AV.cells] at h1;subst h1;exact .ptr id ix c es xs z hg hl h⟩
 | pre id es cs ds hg hc=>exact⟨rfl,fun _=>rfl,fun i h1 h2=>by simp[AV.cells] at h1;subst h1;exact .pre id es cs ds hg hc⟩
 | aP f vw bs as' bs' hl hm h k=>exact⟨rfl,fun _=>rfl,fun i h1 h2=>by simp[AV.cells] at h1;subst h1;exact .aP f vw bs as' bs' hl hm h k⟩
theorem Zls{g:Nat→Option aF}:∀{xs zs:List AV},zs.length=xs.length→(∀i (h1:i < xs.length) (h2:i < zs.length),Fz g (xs[i]) (zs[i]))→
  (flat zs).length=(flat xs).length∧∀k (h1:k < (flat xs).length) (h2:k < (flat zs).length),Fz g ((flat xs)[k]) ((flat zs)[k])
 | [],[],_,_=>⟨rfl,fun k h1=>by simp[flat] at h1⟩
 | [],_::_,h,_=>by simp at h
 | _::_,[],h,_=>by simp at h
 | x::xs,z::zs,hl,h=>by
  obtain⟨i1,i2⟩:=Zls (xs:=xs) (zs:=zs) (by simpa using hl) (fun i h1 h2=>h (i+1) (by simpa using h1) (by simpa using h2));obtain⟨c1,_,c3⟩:=(h 0 (by simp) (by simp)).cells;simp only[List.getElem_cons_zero] at c1 c3;have e1:flat (x::xs)=x.cells++flat xs:=by simp[flat]
  have e2:flat (z::zs)=z.cells++flat zs:=by simp[flat]
  refine⟨by rw[e1,e2];simp[c1,i1],fun k h1 h2=>?_⟩;simp only[e1,e2] at h1 h2 ⊢;by_cases hk:k < x.cells.length
  ·rw[List.getElem_append_left hk,List.getElem_append_left (by omega)]
   exact c3 k hk (by omega)
  ·rw[List.getElem_append_right (by omega),List.getElem_append_right (by omega)]
   simp only[c1];exact i2 _ _ _
theorem AV.P4O{z:AV}(h:z.atom=true):z.solid=true:=by cases z<;>first | rfl | (simp[AV.atom] at h)
theorem ZgW(x:AV):flat [x]=x.cells:=by simp[flat]
theorem XL{E:Env}{S:St}{w:World}(hS:bf E S w){g:Nat→Option aF}(hg:∀i k,g i=some k→S.g i=some k){E2:Env}
  (hL:∀id es xs l,g id=some (.arr es xs)→E.ρ id=some l→∀cs el fz,w.heap[l.b]? = some (.cells cs el fz)→E2.H l.b=some cs) {id off len es:Nat} {xs zs:List AV} (hgi:g id=some (.arr es xs)) (hl:off+len≤xs.length) (hz:zs.length=len)
  (h:∀i (h1:i < ((xs.drop off).take len).length) (h2:i < zs.length),Fz g (((xs.drop off).take len)[i]) (zs[i]))
  (ih:∀i (h1:i < ((xs.drop off).take len).length) (h2:i < zs.length) {v:Value},aL E (((xs.drop off).take len)[i]) v→aL E2 (zs[i]) v) {v:Value} (hr:aL E (.own id off len) v):aL E2 (.sl false zs) v:=by
 obtain⟨A,cap,rfl,hle,hrd⟩:=ZfS hS hr (hg _ _ hgi) hl;have hlen:((xs.drop off).take len).length=len:=by simp;omega
 by_cases h0:len=0
 ·have:zs=[]:=List.eq_nil_of_length_eq_zero (by omega)
  subst this;subst h0;exact .sl0 false A cap (by simp)
 ·have hne:(xs.drop off).take len≠[]:=by intro e;rw[e] at hlen;simp at hlen;omega
  cases hr with
  | own _ _ _ _ _ l hl2 _ hA=>
   obtain⟨b,o,cs,el,fz,YW,hw,hcells⟩:=hrd.at_ hne
   obtain⟨hA1,hA2⟩:=hA (by omega);rw[hA1] at YW;simp only[Option.some.injEq,Addr.mk.injEq] at YW;obtain⟨hb,ho,_⟩:=YW;obtain⟨f1,f2⟩:=Zls (xs:=(xs.drop off).take len) (zs:=zs) (by omega) h;rw[hA1,hb,ho];have hcount:zs.length=len:=hz;rw[←hcount];refine .sl false zs b o cap cs es (fun k=>cs.getD (o+k) undef) (by omega) (by rw[←hb];exact hL id es xs l hgi hl2 cs el fz (by rw[hb];exact hw)) ?_ (by omega) (by simp) ?_ ?_ ?_
   ·intro z hz2
    obtain⟨i,hi,e⟩:=List.mem_iff_getElem.mp hz2;have:=(h i (by omega) hi).cells.1;rw[←e,this];exact hrd.hes _ (List.getElem_mem _)
   ·intro y hy
    obtain⟨k,hk,e⟩:=List.mem_iff_getElem.mp hy;have:=(f2 k (by omega) hk).cells.2.1 (hrd.hat _ (List.getElem_mem _));rw[←e];exact this
   ·intro k hk
    obtain⟨u,a1,a2⟩:=hcells k (by omega);simp[Array.getD_eq_getD_getElem?,a1]
   ·intro k hk
    obtain⟨u,a1,a2⟩:=hcells k (by omega)
    obtain⟨hi,hj,e1⟩:=LH hrd.hes k (by omega)
    have abo:∀z∈zs,z.cells.length=es:=by
     intro z hz2;obtain⟨i,hi,e⟩:=List.mem_iff_getElem.mp hz2;have:=(h i (by omega) hi).cells.1;rw[←e,this];exact hrd.hes _ (List.getElem_mem _)
    obtain⟨hi2,hj2,e2⟩:=LH abo k hk;obtain⟨b',o',cs',el',fz',YX,hw',hce⟩:=hrd.elem (k / es) hi;rw[hA1] at YX;simp only[Option.some.injEq,Addr.mk.injEq] at YX;obtain⟨hb',ho',_⟩:=YX;have hbb:b'=b:=by omega
    have wQ:o'=o:=by omega
    subst hbb;subst wQ;rw[hw] at hw';cases hw';have hfz:=h (k / es) hi (by omega);have hat:∀y∈(((xs.drop off).take len)[k / es]).cells,y.atom=true:=fun y hy=>Zde hrd.hat _ (List.getElem_mem hi) y hy
    obtain⟨val,hv1,hv2,hv3⟩:∃val,aL E (((xs.drop off).take len)[k / es]) val∧(∀j,j < (((xs.drop off).take len)[k / es]).cells.length→val.cells.getD j undef=cs.getD (o'+(k / es*es+j)) undef)∧(zs[k / es]).solid=true:=by
     generalize hyy:((xs.drop off).take len)[k / es]=y at hat hce hfz;cases y with
     | agg ds=>
      refine⟨.agg ((List.range ds.length).map fun j=>cs.getD (o'+(k / es*es+j)) undef).toArray,.agg ds _ (by simp) hat (fun j hj=>?_),fun j hj=>?_,?_⟩
      ·obtain⟨u,a1,a2⟩:=hce j hj
       simp[hj,Array.getD_eq_getD_getElem?,a1];exact a2
      ·have hj':j < ds.length:=hj
       simp[Value.cells,hj',Array.getD_eq_getD_getElem?]
      ·generalize zs[k / es]=z at hfz
       cases hfz<;>rfl
     | junk=>have:=hat .junk (by simp[AV.cells]);simp[AV.atom] at this
     | aM ds=>have:=hat (.aM ds) (by simp[AV.cells]);simp[AV.atom] at this
     | _=>
      obtain⟨u,a1,a2⟩:=hce 0 (by simp[AV.cells]);simp only[AV.cells,List.getElem_cons_zero,Nat.add_zero] at a1 a2;refine⟨u,a2,fun j hj=>?_,?_⟩
      ·simp[AV.cells] at hj;subst hj
       rw[(a2.UJ rfl).1];simp[Array.getD_eq_getD_getElem?,a1]
      ·exact AV.P4O (hfz.cells.2.1 rfl)
    have r2:=ih (k / es) hi (by omega) hv1;obtain⟨s1,s2⟩:=r2.cells hv3;have hkj:k % es < (zs[k / es]).cells.length:=hj2;have r3:=s2 (k % es) hkj;rw[hv2 (k % es) hj] at r3;have Y5:k / es*es+k % es=k:=by rw[Nat.mul_comm];exact Nat.div_add_mod k es
    rw[Y5] at r3;rw[e2];exact r3
theorem Fz.rep{E:Env}{S:St}{w:World}(hS:bf E S w){g:Nat→Option aF}(hg:∀i k,g i=some k→S.g i=some k){E2:Env}(hH:∀b cs,E.H b=some cs→E2.H b=some cs)
  (hL:∀id es xs l,g id=some (.arr es xs)→E.ρ id=some l→∀cs el fz,w.heap[l.b]? = some (.cells cs el fz)→E2.H l.b=some cs) :
  ∀{x r:AV},Fz g x r→∀{v:Value},aL E x v→aL E2 r v:=by
 intro x r h;induction h with
 | closed x hx=>intro v hr;exact hr.closed hH hx
 | loose t xs hx=>intro v hr;exact(hr.closed hH hx).loose
 | own id off len es xs zs hgi hl hz h ih=>
  intro v hr;exact XL hS hg hL hgi hl hz h (fun i h1 h2 v hv=>ih i h1 h2 hv) hr
 | ptr id ix c es xs z hgi hl h ih=>
  intro v hr;cases hr with
  | ptr _ _ _ l hl2=>
   obtain⟨l',e,hN,ok⟩:=hS.live id _ (hg _ _ hgi);rw[hl2] at e;cases e;have hone:(xs.drop ix).take 1=[xs[ix]]:=by rw[List.drop_eq_getElem_cons hl];rfl
   have r1:aL E (.own id ix 1) (.slice (some ⟨l.b,l.o+ix*l.es,none⟩) 1 1):=.own id ix 1 _ 1 l hl2 (Nat.le_refl _) (fun _=>⟨rfl,by have:=ok.2.1;omega⟩)
   have r2:=XL (zs:=[z]) (off:=ix) (len:=1) hS hg hL hgi (by omega) rfl (by
    rw[hone];intro i h1 h2;have:i=0:=by simpa using h1
    subst this;exact h) (by
    rw[hone];intro i h1 h2 v hv;have:i=0:=by simpa using h1
    subst this;exact ih hv) r1
   cases r2 with
   | sl _ _ b o cap cs es' f hne hb hes hcap ht hat hc hr=>
    simp only[ZgW] at hat hc hr;exact .bJ z c _ _ cs f hb hat hc hr
 | pre id es cs ds hgi hc=>
  intro v hr;cases hr with
  | ptr _ _ _ l hl=>
   obtain⟨l',a1,a2,a3⟩:=hS.live id _ (hg _ _ hgi);rw[hl] at a1;cases a1;obtain⟨h1,h2,h3,h4,cv,el,h5,h6,h7⟩:=a3;have hfl:flat [AV.agg (cs++ds)]=cs++ds:=by simp[flat,AV.cells]
   rw[hfl] at h4;have e1:(⟨l.b,l.o+0*l.es+0,none⟩:Addr)=⟨l.b,l.o+0,none⟩:=by simp
   rw[e1];refine .bJ (.agg cs) 0 l.b l.o cv (fun k=>cv.getD (l.o+k) undef) (hL id es _ l hgi hl cv el (0,0) h5) (fun y hy=>h4 y (List.mem_append_left _ hy)) (fun k hk=>?_) (fun k hk=>?_)
   ·simp only[AV.cells] at hk
    obtain⟨u,q1,q2⟩:=h7 k (by rw[hfl,List.length_append];omega);simp[Array.getD_eq_getD_getElem?,q1]
   ·simp only[AV.cells] at hk
    obtain⟨u,q1,q2⟩:=h7 k (by rw[hfl,List.length_append];omega);have hu:cv.getD (l.o+k) undef=u:=by simp[Array.getD_eq_getD_getElem?,q1]
    simp only[hu,AV.cells]
    have e2:(flat [AV.agg (cs++ds)])[k]'(by rw[hfl,List.length_append];omega)=cs[k]:=by
     simp only[hfl];exact List.getElem_append_left hk
    rw[e2] at q2;exact aL.closed hH q2 (hc _ (List.getElem_mem hk))
 | aP f vw bs as' bs' hl hm h k ih1 ih2=>
  intro v hr;cases hr with
  | aP _ _ _ fv cv hn hm' hf hc=>exact .aP f as' bs' fv cv (by omega) (by omega) (fun j hj=>ih1 j (by omega) hj (hf j (by omega))) (fun j hj=>ih2 j (by omega) hj (hc j (by omega)))
 | agg cs ds hl h ih=>
  intro v hr;cases hr with
  | agg _ vs hn hat hr=>
   refine .agg ds vs (by omega) (fun y hy=>?_) (fun j hj=>ih j (by omega) hj (hr j (by omega)));obtain⟨k,hk,e⟩:=List.mem_iff_getElem.mp hy;rw[←e];exact(h k (by omega) hk).cells.2.1 (hat _ (List.getElem_mem _))
 | aM cs ds hl h ih=>
  intro v hr;cases hr with
  | aM _ vs hn hr=>exact .aM ds vs (by omega) (fun j hj=>ih j (by omega) hj (hr j (by omega)))
def uM:Nat→Option Loc:=fun _=>none
def S0:St:=⟨0,fun _=>none⟩
def kT(H:Nat→Option (Array Value))(w:World):Prop:=∀b cs,H b=some cs→∃el fz,w.heap[b]? = some (.cells cs el fz)
def aN(P:Program)(f:FuncId)(args:List AV)(r:AV):Prop:=
 tO P f∧∀H w vals,jI P H→kT H w→kC ⟨uM,H⟩ args vals→
  Calls P f vals w fun e w'=>∃v H',e=.returned v∧(∀b cs,H b=some cs→H' b=some cs)∧(∀b cs,H' b=some cs→H b=some cs∨w.heap.size≤b)∧kT H' w'∧aL ⟨uM,H'⟩ r v∧Below w.heap.size w w'
theorem Yy{H:Nat→Option (Array Value)}{w:World}(h:kT H w):bf ⟨uM,H⟩ S0 w:=
 ⟨h,fun i k e=>by simp[S0] at e,fun i j ki kj li lj e=>by simp[S0] at e,fun _ _=>rfl⟩
theorem aN.uQ{P:Program}{f:FuncId}{args:List AV}{r:AV}(h:aQ P f args S0 fun r' S'=>Fz S'.g r' r):aN P f args r:=by
 refine⟨h.1,fun H w vals hG hH hv=>(h.2 _ w vals hG (Yy hH) hv).mono ?_⟩;rintro e w' ⟨v,r',S',E',rfl,hz,hS,hr,hev⟩
 have hsub:∀b cs,E'.H b=some cs→H b=some cs∨w.heap.size≤b:=by
  intro b cs e;rcases hev.bX.hsub b cs e with h1 | h1 | ⟨jg,l0,k0,a1,_⟩
  ·exact .inl h1
  ·exact .inr h1
  ·simp[S0] at a1
 let H':Nat→Option (Array Value):=fun b=>if b < w.heap.size then H b else match w'.heap[b]? with | some (.cells cs _ _)=>some cs | _=>none
 have hH1:∀b cs,H b=some cs→H' b=some cs:=by
  intro b cs e;have:b < w.heap.size:=by obtain⟨el,fz,h1⟩:=hH b cs e;exact(Array.getElem?_eq_some_iff.mp h1).1
  simp only[H',this,if_true];exact e
 have hH2:∀b cs,H' b=some cs→H b=some cs∨w.heap.size≤b:=by
  intro b cs e;simp only[H'] at e;split at e
  ·exact .inl e
  ·right;omega
 have hbelow:Below w.heap.size w w':=⟨hev.bX.os,hev.bX.tape,hev.bX.output,hev.bX.size,fun k hk=>hev.bX.keep k hk (fun id l kk hk=>by simp[S0] at hk)⟩
 have hH3:kT H' w':=by
  intro b cs e;simp only[H'] at e;split at e
  ·rename_i hb
   rw[hbelow.block b hb];exact hH b cs e
  ·split at e
   ·rename_i cs' el fz hw
    cases e;exact⟨el,fz,hw⟩
   ·cases e
 refine⟨v,H',rfl,hH1,hH2,hH3,?_,hbelow⟩;refine Fz.rep (S:=S') hS (g:=S'.g) (fun _ _ e=>e) (E2:=⟨uM,H'⟩) ?_ ?_ hz hr
 ·intro b cs e
  rcases hsub b cs e with h1 | h1
  ·exact hH1 b cs h1
  ·obtain⟨el,fz,hw⟩:=hS.hH b cs e
   simp only[H'];rw[if_neg (by omega),hw]
 ·intro id es xs l hg hl cs el fz hw
  rcases hev.bX.grow id l _ hg hl with h1 | ⟨jg,l0,k0,a1,_⟩
  ·simp only[H']
   rw[if_neg (by omega),hw]
  ·simp[S0] at a1
open Classical in
noncomputable def sW(E:Env)(g:Nat→Option aF)(w:World):Nat→Option (Array Value):=fun b=>
 match E.H b with
 | some cs=>some cs
 | none=>match w.heap[b]? with
  | some (.cells cs _ _)=>if ∃i k l,g i=some k∧E.ρ i=some l∧l.b=b then some cs else none
  | _=>none
theorem BK{E:Env}{g:Nat→Option aF}{w:World}{b:Nat}{cs:Array Value}(h:E.H b=some cs):sW E g w b=some cs:=by unfold sW;rw[h]
theorem Qd{E:Env}{g:Nat→Option aF}{w:World}{i:Nat}{k:aF}{l:Loc}(hg:g i=some k)(hl:E.ρ i=some l)(hN:E.H l.b=none){cs:Array Value}{el:TypeId}{fz:Nat×Nat}
  (hw:w.heap[l.b]? = some (.cells cs el fz)):sW E g w l.b=some cs:=by
 unfold sW;rw[hN,hw];simp only;rw[if_pos ⟨i,k,l,hg,hl,rfl⟩]
theorem Ay{E:Env}{g:Nat→Option aF}{w:World}{b:Nat}{cs:Array Value}(h:sW E g w b=some cs) :
  E.H b=some cs∨(E.H b=none∧(∃el fz,w.heap[b]? = some (.cells cs el fz))∧∃i k l,g i=some k∧E.ρ i=some l∧l.b=b):=by
 unfold sW at h;split at h
 ·rename_i cs' e;left;rw[e,h]
 ·rename_i e
  split at h
  ·rename_i cs' el fz hw
   split at h
   ·rename_i hex;cases h;exact .inr ⟨e,⟨el,fz,hw⟩,hex⟩
   ·cases h
  ·cases h
theorem aQ.KV{P:Program}{f:FuncId}{args args':List AV}{r:AV}(h:aN P f args' r){S:St}{K:AV→St→Prop}(g:Nat→Option aF)(hg:∀i k,g i=some k→S.g i=some k)
  (S':St) (hn:S'.n=S.n) (hS':∀i k,S'.g i=some k→S.g i=some k) (hl:args'.length=args.length) (hz:∀j (h1:j < args.length) (h2:j < args'.length),Fz g (args[j]) (args'[j]))
  (hr:(∀E1 E2 v,aL E1 r v→aL E2 r v)∨(aY r∧∀i k,g i=some k→S'.g i=none)) (hk:K r S'):aQ P f args S K:=by
 refine⟨h.1,fun E w vals hG hS hv=>?_⟩
 have hH1:kT (sW E g w) w:=by
  intro b cs e;rcases Ay e with h1 | ⟨_,h1,_⟩
  ·exact hS.hH b cs h1
  ·exact h1
 have hargs:kC ⟨uM,sW E g w⟩ args' vals:=by
  refine⟨by rw[hv.1,hl],fun j hj=>?_⟩;refine Fz.rep hS hg (E2:=⟨uM,sW E g w⟩) (fun b cs e=>BK e) (fun id es xs l hgi Ah cs el fz hw=>?_) (hz j (by omega) hj) (hv.2 j (by omega));obtain⟨l',a1,a2,_⟩:=hS.live id _ (hg _ _ hgi);rw[Ah] at a1;cases a1;exact Qd hgi Ah a2 hw
 refine(h.2 _ w vals (hG.sub fun b cs e=>BK e) hH1 hargs).mono ?_;rintro e w' ⟨v,H',rfl,g1,g2,g3,g4,g5⟩;have hlive:∀i k,S.g i=some k→∃l,E.ρ i=some l∧E.H l.b=none∧mJ E w l k:=hS.live
 have key:∀(H2:Nat→Option (Array Value)),(∀b cs,E.H b=some cs→H2 b=some cs)→(∀b cs,H2 b=some cs→H' b=some cs)→
   (∀i k l,S'.g i=some k→E.ρ i=some l→H2 l.b=none)→(∀b cs,H2 b=some cs→E.H b=some cs∨w.heap.size≤b∨∃jg l0 k0,S.g jg=some k0∧E.ρ jg=some l0∧l0.b=b)→
   bf ⟨E.ρ,H2⟩ S' w'∧Ev E S w ⟨E.ρ,H2⟩ S' w':=by
  intro H2 k1 k2 k3 k4;have hle:E.le ⟨E.ρ,H2⟩:=⟨fun _ _ e=>e,k1⟩
  refine⟨⟨fun b cs e=>g3 b cs (k2 b cs e),fun i k e=>?_,fun i j ki kj li lj a b=>hS.nL i j ki kj li lj (hS' _ _ a) (hS' _ _ b),fun i hi=>hS.fresh i (by rw[←hn];exact hi)⟩,
   ⟨⟨g5.os,g5.tape,g5.output,g5.size,fun b hb _=>g5.block b hb,fun id l k hk hl=>.inr ⟨id,l,k,hS' _ _ hk,hl,rfl⟩,hle,k4⟩,by omega,fun _ _ e=>e⟩⟩
  obtain⟨l,a1,a2,a3⟩:=hS.live i k (hS' _ _ e);exact⟨l,a1,k3 i k l e a1,a3.mono hle (g5.block _ a3.lt)⟩
 rcases hr with hr | ⟨hcl,hr⟩
 ·obtain⟨q1,q2⟩:=key (fun b=>if b < w.heap.size then E.H b else H' b)
   (fun b cs e=>by rw[if_pos (hS.H6 e)];exact e)
   (fun b cs e=>by
    split at e
    ·exact g1 b cs (BK e)
    ·exact e)
   (fun i k l hk hl=>by
    obtain⟨l',a1,a2,a3⟩:=hS.live i k (hS' _ _ hk);rw[hl] at a1;cases a1;rw[if_pos a3.lt];exact a2)
   (fun b cs e=>by
    split at e
    ·exact .inl e
    ·right;left;omega)
  exact⟨v,r,S',_,rfl,hk,q1,hr _ _ _ g4,q2⟩
 ·obtain⟨q1,q2⟩:=key H' (fun b cs e=>g1 b cs (BK e)) (fun _ _ e=>e)
   (fun i k l hk hl=>by
    obtain⟨l',a1,a2,a3⟩:=hS.live i k (hS' _ _ hk);rw[hl] at a1;cases a1;cases e:H' l.b with
    | none=>rfl
    | some cs=>
     rcases g2 _ _ e with h1 | h1
     ·rcases Ay h1 with h2 | ⟨_,_,i2,k2,l2,b1,b2,b3⟩
      ·rw[a2] at h2;cases h2
      ·by_cases hii:i2=i
       ·subst hii;rw[hr _ _ b1] at hk;cases hk
       ·exact(hS.nL i2 i k2 k l2 l (hg _ _ b1) (hS' _ _ hk) hii b2 hl b3).elim
     ·have:=a3.lt;omega)
   (fun b cs e=>by
    rcases g2 _ _ e with h1 | h1
    ·rcases Ay h1 with h2 | ⟨_,_,i2,k2,l2,b1,b2,b3⟩
     ·exact .inl h2
     ·exact .inr (.inr ⟨i2,l2,k2,hg _ _ b1,b2,b3⟩)
    ·exact .inr (.inl h1))
  exact⟨v,r,S',_,rfl,hk,q1,aL.closed (E:=⟨uM,H'⟩) (E':=⟨E.ρ,H'⟩) (fun _ _ e=>e) g4 hcl,q2⟩
theorem aQ.pure{P:Program}{f:FuncId}{args:List AV}{r:AV}(h:aN P f args r)(hc:∀x∈args,aY x)(hr:aY r){S:St}{K:AV→St→Prop}(hk:K r S):aQ P f args S K:=
 .KV h (fun _=>none) (fun _ _ e=>by cases e) S rfl (fun _ _ e=>e) rfl (fun j h1 _=>.closed _ (hc _ (List.getElem_mem h1))) (.inr ⟨hr,fun _ _ e=>by cases e⟩) hk
inductive xB:AV→Prop
 | v (x:Value):xB (.v x)
 | agg (cs:List AV) (h:∀y∈cs,xB y):xB (.agg cs)
 | aM (cs:List AV) (h:∀y∈cs,xB y):xB (.aM cs)
theorem xB.rep{r:AV}(h:xB r):∀E1 E2 v,aL E1 r v→aL E2 r v:=by
 induction h with
 | v x=>intro E1 E2 v hr;cases hr with | v _ h=>exact .v x h
 | agg cs h ih=>intro E1 E2 v hr;cases hr with | agg _ vs hn hat hr=>exact .agg cs vs hn hat (fun j hj=>ih _ (List.getElem_mem hj) E1 E2 _ (hr j hj))
 | aM cs h ih=>intro E1 E2 v hr;cases hr with | aM _ vs hn hr=>exact .aM cs vs hn (fun j hj=>ih _ (List.getElem_mem hj) E1 E2 _ (hr j hj))
theorem aQ.look{P:Program}{f:FuncId}{args args':List AV}{r:AV}(h:aN P f args' r){S:St}(hl:args'.length=args.length)(hz:∀j (h1:j < args.length) (h2:j < args'.length),Fz S.g (args[j]) (args'[j]))
  (hr:xB r) {K:AV→St→Prop} (hk:K r S):aQ P f args S K:=
 .KV h S.g (fun _ _ e=>e) S rfl (fun _ _ e=>e) hl hz (.inl hr.rep) hk
inductive kI (g:Nat→Option aF):AV→AV→Prop
 | v (x:Value):kI g (.v x) (.v x)
 | nil (t u:Bool) (h:u=true→t=true):kI g (.sl t []) (.sl u [])
 | own (id off len es:Nat) (xs zs:List AV) (hg:g id=some (.arr es xs)) (hl:off+len≤xs.length) (hz:zs.length=len)
   (h:∀i (h1:i < ((xs.drop off).take len).length) (h2:i < zs.length),kI g (((xs.drop off).take len)[i]) (zs[i])):kI g (.own id off len) (.sl false zs)
 | agg (cs ds:List AV) (hl:ds.length=cs.length) (h:∀i (h1:i < cs.length) (h2:i < ds.length),kI g (cs[i]) (ds[i])):kI g (.agg cs) (.agg ds)
 | aM (cs ds:List AV) (hl:ds.length=cs.length) (h:∀i (h1:i < cs.length) (h2:i < ds.length),kI g (cs[i]) (ds[i])):kI g (.aM cs) (.aM ds)
theorem kI.fz{g:Nat→Option aF}{x y:AV}(h:kI g x y):Fz g x y:=by
 induction h with
 | v x=>exact .closed _ (.v x)
 | nil t u h=>
  cases u with
  | true=>rw[h rfl];exact .closed _ (.sl _ _ (by simp))
  | false=>exact .loose t [] (.sl _ _ (by simp))
 | own id off len es xs zs hg hl hz h ih=>exact .own id off len es xs zs hg hl hz ih
 | agg cs ds hl h ih=>exact .agg cs ds hl ih
 | aM cs ds hl h ih=>exact .aM cs ds hl ih
theorem kI.closed{g:Nat→Option aF}{x y:AV}(h:kI g x y):aY y:=by
 have key:∀{xs zs:List AV},zs.length=xs.length→(∀i (h1:i < xs.length) (h2:i < zs.length),aY (zs[i]))→∀y∈zs,aY y:=by
  intro xs zs hl h y hy;obtain⟨i,hi,rfl⟩:=List.mem_iff_getElem.mp hy;exact h i (by omega) hi
 induction h with
 | v x=>exact .v x
 | nil t u h=>exact .sl _ _ (by simp)
 | own id off len es xs zs hg hl hz h ih=>exact .sl _ _ (key (xs:=(xs.drop off).take len) (by rw[hz];simp;omega) ih)
 | agg cs ds hl h ih=>exact .agg _ (key hl ih)
 | aM cs ds hl h ih=>exact .aM _ (key hl ih)
theorem kI.rep{E:Env}{S:St}{w:World}(hS:bf E S w){g:Nat→Option aF}(hg:∀i k,g i=some k→S.g i=some k){E2:Env}
  (hL:∀id es xs l,g id=some (.arr es xs)→E.ρ id=some l→∀cs el fz,w.heap[l.b]? = some (.cells cs el fz)→E2.H l.b=some cs) :
  ∀{x r:AV},kI g x r→∀{v:Value},aL E x v→aL E2 r v:=by
 intro x r h;induction h with
 | v x=>intro v hr;cases hr with | v _ hs=>exact .v _ hs
 | nil t u h=>
  intro v hr;cases hr with
  | sl0 _ A cap ht=>exact .sl0 u A cap (fun e=>ht (h e))
  | sl _ _ b o cap cs es f hne=>simp at hne
 | own id off len es xs zs hgi hl hz h ih=>
  intro v hr;exact XL hS hg hL hgi hl hz (fun i h1 h2=>(h i h1 h2).fz) (fun i h1 h2 v hv=>ih i h1 h2 hv) hr
 | agg cs ds hl h ih=>
  intro v hr;cases hr with
  | agg _ vs hn hat hr=>
   refine .agg ds vs (by omega) (fun y hy=>?_) (fun j hj=>ih j (by omega) hj (hr j (by omega)));obtain⟨k,hk,e⟩:=List.mem_iff_getElem.mp hy;rw[←e];exact(h k (by omega) hk).fz.cells.2.1 (hat _ (List.getElem_mem _))
 | aM cs ds hl h ih=>
  intro v hr;cases hr with
  | aM _ vs hn hr=>exact .aM ds vs (by omega) (fun j hj=>ih j (by omega) hj (hr j (by omega)))
def rW(P:Program)(f:FuncId)(args:List AV)(r:AV):Prop:=
 tO P f∧∀H w vals,jI P H→kT H w→kC ⟨uM,H⟩ args vals→
  Calls P f vals w fun e w'=>∃v H',e=.returned v∧(∀b cs,H' b=some cs→w.heap.size≤b)∧kT H' w'∧aL ⟨uM,H'⟩ r v∧Below w.heap.size w w'
theorem rW.uQ{P:Program}{f:FuncId}{args:List AV}{r:AV}(h:aQ P f args S0 fun r' S'=>kI S'.g r' r):rW P f args r:=by
 refine⟨h.1,fun H w vals hG hH hv=>(h.2 _ w vals hG (Yy hH) hv).mono ?_⟩;rintro e w' ⟨v,r',S',E',rfl,hz,hS,hr,hev⟩
 let H':Nat→Option (Array Value):=fun b=>if b < w.heap.size then none else match w'.heap[b]? with | some (.cells cs _ _)=>some cs | _=>none
 have hH2:∀b cs,H' b=some cs→w.heap.size≤b:=by
  intro b cs e;simp only[H'] at e;split at e
  ·cases e
  ·omega
 have hbelow:Below w.heap.size w w':=⟨hev.bX.os,hev.bX.tape,hev.bX.output,hev.bX.size,fun k hk=>hev.bX.keep k hk (fun id l kk hk=>by simp[S0] at hk)⟩
 have hH3:kT H' w':=by
  intro b cs e;simp only[H'] at e;split at e
  ·cases e
  ·split at e
   ·rename_i cs' el fz hw
    cases e;exact⟨el,fz,hw⟩
   ·cases e
 refine⟨v,H',rfl,hH2,hH3,?_,hbelow⟩;refine kI.rep (S:=S') hS (g:=S'.g) (fun _ _ e=>e) (E2:=⟨uM,H'⟩) ?_ hz hr;intro id es xs l hg hl cs el fz hw;rcases hev.bX.grow id l _ hg hl with h1 | ⟨jg,l0,k0,a1,_⟩
 ·simp only[H']
  rw[if_neg (by omega),hw]
 ·simp[S0] at a1
theorem aQ.UU{P:Program}{f:FuncId}{args args':List AV}{r:AV}(h:rW P f args' r){S:St}{K:AV→St→Prop}(g:Nat→Option aF)(hg:∀i k,g i=some k→S.g i=some k)
  (hl:args'.length=args.length) (hz:∀j (h1:j < args.length) (h2:j < args'.length),Fz g (args[j]) (args'[j])) (hr:aY r) (hk:K r S):aQ P f args S K:=by
 refine⟨h.1,fun E w vals hG hS hv=>?_⟩
 have hH1:kT (sW E g w) w:=by
  intro b cs e;rcases Ay e with h1 | ⟨_,h1,_⟩
  ·exact hS.hH b cs h1
  ·exact h1
 have hargs:kC ⟨uM,sW E g w⟩ args' vals:=by
  refine⟨by rw[hv.1,hl],fun j hj=>?_⟩;refine Fz.rep hS hg (E2:=⟨uM,sW E g w⟩) (fun b cs e=>BK e) (fun id es xs l hgi Ah cs el fz hw=>?_) (hz j (by omega) hj) (hv.2 j (by omega));obtain⟨l',a1,a2,_⟩:=hS.live id _ (hg _ _ hgi);rw[Ah] at a1;cases a1;exact Qd hgi Ah a2 hw
 refine(h.2 _ w vals (hG.sub fun b cs e=>BK e) hH1 hargs).mono ?_;rintro e w' ⟨v,H',rfl,g2,g3,g4,g5⟩
 let H2:Nat→Option (Array Value):=fun b=>if b < w.heap.size then E.H b else H' b
 have k1:∀b cs,E.H b=some cs→H2 b=some cs:=fun b cs e=>by simp only[H2];rw[if_pos (hS.H6 e)];exact e
 have k2:∀b cs,H' b=some cs→H2 b=some cs:=fun b cs e=>by have:=g2 b cs e;simp only[H2];rw[if_neg (by omega)];exact e
 have hle:E.le ⟨E.ρ,H2⟩:=⟨fun _ _ e=>e,k1⟩
 refine⟨v,r,S,⟨E.ρ,H2⟩,rfl,hk,⟨fun b cs e=>?_,fun i k e=>?_,hS.nL,hS.fresh⟩,aL.closed (E:=⟨uM,H'⟩) (E':=⟨E.ρ,H2⟩) k2 g4 hr,
  ⟨⟨g5.os,g5.tape,g5.output,g5.size,fun b hb _=>g5.block b hb,fun id l k hk hl=>.inr ⟨id,l,k,hk,hl,rfl⟩,hle,fun b cs e=>?_⟩,Nat.le_refl _,fun _ _ e=>e⟩⟩
 ·simp only[H2] at e
  split at e
  ·rename_i hb;rw[g5.block b hb];exact hS.hH b cs e
  ·exact g3 b cs e
 ·obtain⟨l,a1,a2,a3⟩:=hS.live i k e
  exact⟨l,a1,by simp only[H2];rw[if_pos a3.lt];exact a2,a3.mono hle (g5.block _ a3.lt)⟩
 ·simp only[H2] at e
  split at e
  ·exact .inl e
  ·right;left;omega
end Go.Rf
