import Derived.Test.YtdmcjhnbmgmgoaaGreatDoorRfNew
import Derived.Scope
import Derived.Laws.Wrap64
import Derived.Lib.FrozenHead
import Derived.Lib.ItoaNum
set_option linter.unusedVariables false
set_option linter.unusedSimpArgs false
set_option linter.unusedSectionVars false
namespace Go.Rf
open Go.RowKit
def aI.jq:aI→List Nat
 | .t i=>[i]
 | .c _=>[]
def YB:Option aI→List Nat
 | none=>[]
 | some x=>x.jq
def jJ.jq:jJ→List Nat
 | .mv x | .box _ x | .load _ x | .un _ x | .conv _ x | .cu _ x | .field _ _ x | .len x | .TF x | .Hw x | .ext _ x | .fO x | .cap x | .J9 _ _ x | .EL _ _ x | .Oa _ x | .Oq _ _ x | .N7 _ x=>x.jq
 | .pick c x y=>c.jq++x.jq++y.jq
 | .alloc _ _ | .EK=>[]
 | .store _ p x | .bin _ p x | .beq _ p x | .aM _ p x | .Tz _ _ p x | .TD _ _ _ p x | .TA p x | .app _ _ p x | .zL _ _ _ p x | .look _ _ _ p x | .mm _ p x | .seq _ _ p x | .GX _ p x | .J5 _ _ _ p x=>p.jq++x.jq
 | .BX _ m k x=>m.jq++k.jq++x.jq
 | .slc _ x lo hi | .TL x lo hi=>x.jq++YB lo++YB hi
 | .build _ _ qs | .dH _ _ _ qs=>qs.flatMap fun q=>q.2.jq
 | .A8 _ f c=>(f++c).flatMap aI.jq
theorem dS{a b:AF}{x:aI}(h:∀t∈x.jq,a t=b t):x.ev a=x.ev b:=by
 cases x with
 | t i=>exact h i (by simp[aI.jq])
 | c x=>rfl
theorem Q8{a b:AF}{x:Option aI}(h:∀t∈YB x,a t=b t):x.map (·.ev a)=x.map (·.ev b):=by
 cases x with
 | none=>rfl
 | some x=>simp only[Option.map_some];rw[dS h]
theorem MJ{a b:AF}:∀{xs:List aI},(∀t∈xs.flatMap aI.jq,a t=b t)→xs.map (·.ev a)=xs.map (·.ev b)
 | [],_=>rfl
 | x::xs,h=>by
  simp only[List.map_cons];rw[dS (fun t ht=>h t (by simp[ht])),MJ (xs:=xs) (fun t ht=>h t (by simp only[List.flatMap_cons,List.mem_append];exact .inr ht))]
theorem ZpB{a b:AF}:∀{qs:List (Nat×aI)},(∀t∈qs.flatMap (fun q=>q.2.jq),a t=b t)→qs.map (fun q=>(q.1,q.2.ev a))=qs.map fun q=>(q.1,q.2.ev b)
 | [],_=>rfl
 | q::qs,h=>by
  simp only[List.map_cons];rw[dS (fun t ht=>h t (by simp[ht])),ZpB (qs:=qs) (fun t ht=>h t (by simp only[List.flatMap_cons,List.mem_append];exact .inr ht))]
theorem ZpC{a b:AF}:∀{rs:List (Nat×Nat)} {qs:List (Nat×aI)},(∀t∈qs.flatMap (fun q=>q.2.jq),a t=b t)→
  List.zipWith (fun r q=>(r.1,r.2,q.2.ev a)) rs qs=List.zipWith (fun r q=>(r.1,r.2,q.2.ev b)) rs qs
 | [],_,_=>by simp
 | _::_,[],_=>by simp
 | r::rs,q::qs,h=>by
  simp only[List.zipWith_cons_cons];rw[dS (fun t ht=>h t (by simp[ht])),ZpC (rs:=rs) (qs:=qs) (fun t ht=>h t (by simp only[List.flatMap_cons,List.mem_append];exact .inr ht))]
theorem RZ{a b:AF}{op:jJ}(h:∀t∈op.jq,a t=b t):ex op a=ex op b:=by
 cases op<;>simp only[jJ.jq] at h<;>simp only[ex]
 case mv x=>rw[dS h]
 case pick c x y=>rw[dS (x:=c) (fun t ht=>h t (by simp[ht])),dS (x:=x) (fun t ht=>h t (by simp[ht])),dS (x:=y) (fun t ht=>h t (by simp[ht]))]
 case box m x=>rw[dS h]
 case load k p=>rw[dS h]
 case store m p x=>rw[dS (x:=p) (fun t ht=>h t (by simp[ht])),dS (x:=x) (fun t ht=>h t (by simp[ht]))]
 case bin o p x=>rw[dS (x:=p) (fun t ht=>h t (by simp[ht])),dS (x:=x) (fun t ht=>h t (by simp[ht]))]
 case beq q p x=>rw[dS (x:=p) (fun t ht=>h t (by simp[ht])),dS (x:=x) (fun t ht=>h t (by simp[ht]))]
 case un o x=>rw[dS h]
 case conv k x=>rw[dS h]
 case cu off x=>rw[dS h]
 case aM es p x=>rw[dS (x:=p) (fun t ht=>h t (by simp[ht])),dS (x:=x) (fun t ht=>h t (by simp[ht]))]
 case Tz m es p x=>rw[dS (x:=p) (fun t ht=>h t (by simp[ht])),dS (x:=x) (fun t ht=>h t (by simp[ht]))]
 case field k off x=>rw[dS h]
 case TD m es k p x=>rw[dS (x:=p) (fun t ht=>h t (by simp[ht])),dS (x:=x) (fun t ht=>h t (by simp[ht]))]
 case TA p x=>rw[dS (x:=p) (fun t ht=>h t (by simp[ht])),dS (x:=x) (fun t ht=>h t (by simp[ht]))]
 case len x=>rw[dS h]
 case TF x=>rw[dS h]
 case app es c p x=>rw[dS (x:=p) (fun t ht=>h t (by simp[ht])),dS (x:=x) (fun t ht=>h t (by simp[ht]))]
 case slc es x lo hi=>rw[dS (x:=x) (fun t ht=>h t (by simp[ht])),Q8 (x:=lo) (fun t ht=>h t (by simp[ht])),Q8 (x:=hi) (fun t ht=>h t (by simp[ht]))]
 case TL x lo hi=>rw[dS (x:=x) (fun t ht=>h t (by simp[ht])),Q8 (x:=lo) (fun t ht=>h t (by simp[ht])),Q8 (x:=hi) (fun t ht=>h t (by simp[ht]))]
 case build z rs qs=>rw[ZpC h]
 case dH es m z qs=>rw[ZpB h]
 case zL es c z p x=>rw[dS (x:=p) (fun t ht=>h t (by simp[ht])),dS (x:=x) (fun t ht=>h t (by simp[ht]))]
 case ext i x=>rw[dS h]
 case Hw x=>rw[dS h]
 case seq q l p x=>rw[dS (x:=p) (fun t ht=>h t (by simp[ht])),dS (x:=x) (fun t ht=>h t (by simp[ht]))]
 case fO x=>rw[dS h]
 case cap x=>rw[dS h]
 case EL sl neg x=>rw[dS h]
 case Oa t x=>rw[dS h]
 case Oq t z x=>rw[dS h]
 case N7 neg x=>rw[dS h]
 case J5 es b z p x=>rw[dS (x:=p) (fun t ht=>h t (by simp[ht])),dS (x:=x) (fun t ht=>h t (by simp[ht]))]
 case J9 es z x=>rw[dS h]
 case GX es p x=>rw[dS (x:=p) (fun t ht=>h t (by simp[ht])),dS (x:=x) (fun t ht=>h t (by simp[ht]))]
 case mm mx p x=>rw[dS (x:=p) (fun t ht=>h t (by simp[ht])),dS (x:=x) (fun t ht=>h t (by simp[ht]))]
 case look d z ok p x=>rw[dS (x:=p) (fun t ht=>h t (by simp[ht])),dS (x:=x) (fun t ht=>h t (by simp[ht]))]
 case BX d c x y=>rw[dS (x:=c) (fun t ht=>h t (by simp[ht])),dS (x:=x) (fun t ht=>h t (by simp[ht])),dS (x:=y) (fun t ht=>h t (by simp[ht]))]
 case A8 f xs ys=>
  have h1:xs.map (·.ev a)=xs.map (·.ev b):=MJ (fun t ht=>h t (by simp only[List.flatMap_append,List.mem_append];exact .inl ht));have h2:ys.map (·.ev a)=ys.map (·.ev b):=MJ (fun t ht=>h t (by simp only[List.flatMap_append,List.mem_append];exact .inr ht));rw[h1,h2]
def aZ.jq(o:aZ):List Nat:=
 (match o.guard with | none=>[] | some (d,_)=>[d])++(match o.call with | some (G,xs)=>G.jq++xs.flatMap aI.jq | none=>o.op.jq)
theorem JH{a b:AF}{o:aZ}(h:∀t∈o.jq,a t=b t):gd o a=gd o b:=by
 unfold gd;cases hg:o.guard with
 | none=>rfl
 | some p=>
  obtain⟨d,w⟩:=p;have:a d=b d:=h d (by simp[aZ.jq,hg]);simp only[this]
structure DS where
 i:Nat
 o:aZ
 F:List Nat
 W:List Nat
 U:Nat→Option aB
 v:AV
def St.over(S:St)(W:List Nat)(U:Nat→Option aB):St:=⟨S.n,fun j=>if j∈W then U j else S.g j⟩
def only(F:List Nat)(g:Nat→Option aB):Nat→Option aB:=fun j=>if j∈F then g j else none
def mZ(P:Program)(f:FuncId)(args:List AV)(S:St)(F:List Nat)(r:AV):Prop:=
 ∃args',aJ P f args' r∧args'.length=args.length∧(∀j (h1:j < args.length) (h2:j < args'.length),Fz (only F S.g) (args[j]) (args'[j]))∧(xO r∨(F=[]∧aY r)∨(aY r∧Ak P f args' r))
inductive uT (P:Program) (base:Nat) (s:DS) (a:AF) (S:St):AF→St→Prop
 | skip (h:gd s.o a=some false) (hF:s.F=[]) (hW:s.W=[]) (hv:s.v=.aO []):uT P base s a S (a.put s.o.dst (.aO [])) S
 | call (h:gd s.o a=some true) (G:aI) (xs:List aI) (hc:s.o.call=some (G,xs)) (f:FuncId) (first cap:List AV) (hG:G.ev a=.aP f first cap) (hW:s.W=[])
   (hr:mZ P f (first++xs.map (·.ev a)++cap) S s.F s.v):uT P base s a S (a.put s.o.dst s.v) S
 | op (h:gd s.o a=some true) (hc:s.o.call=none) (bs:List aB) (hb:(ex s.o.op a).F.mapM S.g=some bs) (out:Out) (ho:(ex s.o.op a).k bs=some out) (hF:s.F=(ex s.o.op a).F)
   (hv:s.v=out.v (base+s.i)) (hW:(out.up≠[]→∀j∈s.F,j∈s.W)∧(out.nw.isSome=true→base+s.i∈s.W))
   (hW2:∀j∈s.W,(out.up≠[]∧j∈s.F)∨(out.nw.isSome=true∧j=base+s.i))
   (hU:∀j∈s.W,s.U j=((S.dX (ex s.o.op a).F out.up).fP (base+s.i) out.nw).g j):uT P base s a S (a.put s.o.dst s.v) ((S.dX (ex s.o.op a).F out.up).fP (base+s.i) out.nw)
theorem XW:∀(F:List Nat) (ks:List (Option aB)) (S:St),(S.dX F ks).n=S.n
 | [],ks,S=>by cases ks<;>rfl
 | i::F,[],S=>rfl
 | i::F,k::ks,S=>by simp only[St.dX];rw[XW F ks];rfl
theorem ZiM:∀(F:List Nat) (ks:List (Option aB)) (S:St) (j:Nat),j∉F→(S.dX F ks).g j=S.g j
 | [],ks,S,j,_=>by cases ks<;>rfl
 | i::F,[],S,j,_=>rfl
 | i::F,k::ks,S,j,h=>by
  simp only[St.dX];rw[ZiM F ks _ j (by simp at h;exact h.2)];simp only[List.mem_cons,not_or] at h;simp[St.set,bG,h.1]
theorem Zds:∀(F:List Nat) (ks:List (Option aB)) (S T:St) (j:Nat),S.g j=T.g j→(S.dX F ks).g j=(T.dX F ks).g j
 | [],ks,S,T,j,h=>by cases ks<;>exact h
 | i::F,[],S,T,j,h=>h
 | i::F,k::ks,S,T,j,h=>by
  simp only[St.dX];refine Zds F ks _ _ j ?_;simp only[St.set,bG];split<;>first | rfl | exact h
theorem ZpV(S:St)(i:Nat)(k:Option aB):(S.fP i k).n=S.n:=by cases k<;>rfl
theorem ZjW(S T:St)(i:Nat)(k:Option aB)(j:Nat)(h:S.g j=T.g j):(S.fP i k).g j=(T.fP i k).g j:=by
 cases k with
 | none=>exact h
 | some b=>simp only[St.fP,St.set,bG];split<;>first | rfl | exact h
theorem St.ext'{S T:St}(h1:S.n=T.n)(h2:∀j,S.g j=T.g j):S=T:=by
 cases S;cases T;simp only[St.mk.injEq] at *;exact⟨h1,funext h2⟩
theorem uT.shape{P:Program}{base:Nat}{s:DS}{a:AF}{S:St}{a':AF}{S':St}(h:uT P base s a S a' S'):a'=a.put s.o.dst s.v∧S'=S.over s.W s.U:=by
 cases h with
 | skip h hF hW hv=>exact⟨by rw[hv],by rw[hW];exact St.ext' rfl (fun j=>by simp[St.over])⟩
 | call h G xs hc f first cap hG hW hr=>exact⟨rfl,by rw[hW];exact St.ext' rfl (fun j=>by simp[St.over])⟩
 | op h hc bs hb out ho hF hv hW hW2 hU=>
  refine⟨rfl,St.ext' (by rw[ZpV,XW];rfl) (fun j=>?_)⟩;by_cases hj:j∈s.W
  ·simp only[St.over,hj,if_true];exact(hU j hj).symm
  ·simp only[St.over,hj,if_false]
   have h1:((S.dX (ex s.o.op a).F out.up).fP (base+s.i) out.nw).g j=(S.dX (ex s.o.op a).F out.up).g j:=by
    cases hn:out.nw with
    | none=>rfl
    | some b=>
     simp only[St.fP,St.set,bG];rw[if_neg];intro e;subst e;exact hj (hW.2 (by rw[hn];rfl))
   rw[h1];by_cases hup:out.up=[]
   ·rw[hup];cases(ex s.o.op a).F<;>rfl
   ·exact ZiM _ _ _ _ (fun hjF=>hj (hW.1 hup j (by rw[hF];exact hjF)))
theorem FM{F:List Nat}{g:Nat→Option aB}:∀i k,only F g i=some k→g i=some k:=by
 intro i k h;simp only[only] at h;split at h
 ·exact h
 ·cases h
theorem ZrI{F:List Nat}{g g':Nat→Option aB}(h:∀j∈F,g j=g' j):only F g=only F g':=by
 funext j;simp only[only];split
 ·exact h j ‹_›
 ·rfl
theorem Zdf{F:List Nat}{g g':Nat→Option aB}(h:∀j∈F,g j=g' j):F.mapM g=F.mapM g':=by
 induction F with
 | nil=>rfl
 | cons i F ih=>simp only[List.mapM_cons];rw[h i (by simp),ih (fun j hj=>h j (by simp[hj]))]
theorem uT.move{P:Program}{base:Nat}{s:DS}{a:AF}{S:St}{a':AF}{S':St}(h:uT P base s a S a' S'){b:AF}{T:St}(ha:∀t∈s.o.jq,a t=b t)(hS:∀j∈s.F,S.g j=T.g j) :
  uT P base s b T (b.put s.o.dst s.v) (T.over s.W s.U):=by
 cases h with
 | skip h hF hW hv=>
  have:T.over s.W s.U=T:=by rw[hW];exact St.ext' rfl (fun j=>by simp[St.over])
  rw[this,hv];exact .skip (by rw[←JH ha];exact h) hF hW hv
 | call h G xs hc f first cap hG hW hr=>
  have:T.over s.W s.U=T:=by rw[hW];exact St.ext' rfl (fun j=>by simp[St.over])
  rw[this];have hrd:∀t∈G.jq++xs.flatMap aI.jq,a t=b t:=fun t ht=>ha t (by simp only[aZ.jq,hc,List.mem_append];exact .inr (by simpa using ht))
  have e1:G.ev b=G.ev a:=(dS (fun t ht=>hrd t (by simp[ht]))).symm;have e2:xs.map (·.ev b)=xs.map (·.ev a):=(MJ (fun t ht=>hrd t (List.mem_append.mpr (.inr ht)))).symm;refine .call (by rw[←JH ha];exact h) G xs hc f first cap (by rw[e1];exact hG) hW ?_
  rw[e2];obtain⟨args',q1,q2,q3,q4⟩:=hr;exact⟨args',q1,q2,by rw[←ZrI hS];exact q3,q4⟩
 | op h hc bs hb out ho hF hv hW hW2 hU=>
  have hrd:∀t∈s.o.op.jq,a t=b t:=fun t ht=>ha t (by simp only[aZ.jq,hc,List.mem_append];exact .inr ht)
  have he:ex s.o.op b=ex s.o.op a:=(RZ hrd).symm
  have key:∀j∈s.W,s.U j=((T.dX (ex s.o.op b).F out.up).fP (base+s.i) out.nw).g j:=by
   intro j hj;rw[hU j hj,he];rcases hW2 j hj with⟨_,h2⟩ | ⟨h2,rfl⟩
   ·exact ZjW _ _ _ _ _ (Zds _ _ _ _ _ (hS j h2))
   ·cases hn:out.nw with
    | none=>rw[hn] at h2;simp at h2
    | some bk=>simp[St.fP,St.set,bG]
  have hd:uT P base s b T (b.put s.o.dst s.v) ((T.dX (ex s.o.op b).F out.up).fP (base+s.i) out.nw):=
   .op (by rw[←JH ha];exact h) hc bs (by rw[he,←Zdf (by rw[←hF];exact hS)];exact hb) out (by rw[he];exact ho) (by rw[he];exact hF) hv hW hW2 key
  have:=hd.shape.2;rw[this] at hd;exact hd
structure Ow(s t:DS):Prop where
 r1:∀d,s.o.dst=some d→d∉t.o.jq
 r2:∀d,t.o.dst=some d→d∉s.o.jq
 dd:∀d,s.o.dst=some d→t.o.dst≠some d
 wf:∀j∈s.W,j∉t.F
 fw:∀j∈t.W,j∉s.F
 ww:∀j∈s.W,j∉t.W
theorem AF.put_eq{a:AF}{d:Option Nat}{x:AV}{t:Nat}(h:∀e,d=some e→t≠e):a.put d x t=a t:=by
 cases d with
 | none=>rfl
 | some e=>simp[AF.put,bG,h e rfl]
theorem AF.put_comm{a:AF}{d e:Option Nat}{x y:AV}(h:∀k,d=some k→e≠some k):(a.put d x).put e y=(a.put e y).put d x:=by
 cases d with
 | none=>rfl
 | some d=>
  cases e with
  | none=>rfl
  | some e=>
   funext t;have:d≠e:=fun q=>h d rfl (by rw[q])
   simp only[AF.put,bG];by_cases h1:t=e
   ·subst h1;simp;intro q;exact(this q.symm).elim
   ·simp[h1]
theorem uT.swap{P:Program}{base:Nat}{s t:DS}{a a1 a2:AF}{S S1 S2:St}(hi:Ow s t)(h1:uT P base s a S a1 S1)(h2:uT P base t a1 S1 a2 S2) :
  ∃b T,uT P base t a S b T∧uT P base s b T a2 S2:=by
 obtain⟨rfl,rfl⟩:=h1.shape;obtain⟨e2,e3⟩:=h2.shape
 have m1:=h2.move (b:=a) (T:=S) (fun q hq=>AF.put_eq (fun e he=>by intro h3;subst h3;exact hi.r1 _ he hq)) (fun j hj=>by
  simp only[St.over];rw[if_neg (fun hw=>hi.wf j hw hj)])
 have m2:=h1.move (b:=a.put t.o.dst t.v) (T:=S.over t.W t.U) (fun q hq=>(AF.put_eq (fun e he=>by intro h3;subst h3;exact hi.r2 _ he hq)).symm) (fun j hj=>by
  simp only[St.over];rw[if_neg (fun hw=>hi.fw j hw hj)])
 refine⟨_,_,m1,?_⟩;rw[e2,e3,AF.put_comm (d:=s.o.dst) (e:=t.o.dst) hi.dd]
 have:(S.over t.W t.U).over s.W s.U=(S.over s.W s.U).over t.W t.U:=by
  refine St.ext' rfl (fun j=>?_);simp only[St.over];by_cases hs:j∈s.W
  ·rw[if_pos hs,if_neg (hi.ww j hs),if_pos hs]
  ·rw[if_neg hs]
   by_cases ht:j∈t.W
   ·rw[if_pos ht,if_pos ht]
   ·rw[if_neg ht,if_neg ht,if_neg hs]
 rw[←this];exact m2
inductive Am (P:Program) (base:Nat):List DS→AF→St→AF→St→Prop
 | nil (a:AF) (S:St):Am P base [] a S a S
 | cons {s:DS} {l:List DS} {a a1 a2:AF} {S S1 S2:St} (h:uT P base s a S a1 S1) (k:Am P base l a1 S1 a2 S2):Am P base (s::l) a S a2 S2
theorem Am.front{P:Program}{base:Nat}{x:DS}{l2:List DS}:∀{l1:List DS} {a a2:AF} {S S2:St},(∀s∈l1,Ow s x)→Am P base (l1++x::l2) a S a2 S2→Am P base (x::(l1++l2)) a S a2 S2
 | [],_,_,_,_,_,h=>h
 | s::l1,a,a2,S,S2,hi,h=>by
  cases h with
  | cons h1 h2=>
   have:=Am.front (l1:=l1) (fun q hq=>hi q (by simp[hq])) h2;cases this with
   | cons k1 k2=>
    obtain⟨b,T,m1,m2⟩:=uT.swap (hi s (by simp)) h1 k1;exact .cons m1 (.cons m2 k2)
theorem mZ.xD{P:Program}{f:FuncId}{args:List AV}{S:St}{F:List Nat}{r:AV}(h:mZ P f args S F r):aN P f args S fun r' S'=>r'=r∧S'=S:=by
 obtain⟨args',q1,q2,q3,q4⟩:=h;rcases q4 with q4 | ⟨rfl,q4⟩ | ⟨q4,q5⟩
 ·exact .Lj q1 (only F S.g) FM S rfl (fun _ _ e=>e) q2 q3 (.inl q4.rep) ⟨rfl,rfl⟩
 ·exact .Lj q1 (only [] S.g) FM S rfl (fun _ _ e=>e) q2 q3 (.inr ⟨q4,fun i k e=>by simp[only] at e⟩) ⟨rfl,rfl⟩
 ·exact .U5 q5 (only F S.g) FM q2 q3 q4 ⟨rfl,rfl⟩
theorem ZgP{P:Program}{n:Nat}{ops:Array Oper}{base:Nat}{s:DS}{a:AF}{S:St}{a':AF}{S':St}(h:uT P base s a S a' S'){o:Oper}(ho:ops[s.i]? = some o)(hc:nC P n ops o=some s.o)
  {E:Env} {w:World} {act:Act} (zJ:jO P E.H) (hS:bf E S w) (hF:eu E n a act) (hρ:E.ρ (base+s.i)=none) (hlt:base+s.i < S.n) {K:Act→World→Prop} {Q:Exit→Act→World→Prop}
  (hK:∀act' w' E',bf E' S' w'→eu E' n a' act'→kN E S w E' S' w'→S.n≤S'.n→(∀i,i < S.n→i≠base+s.i→E.ρ i=none→E'.ρ i=none)→K act' w'):wpOp P ops Q s.i K act w:=by
 obtain⟨hd,hdst,hgd,hor⟩:=FC hc;unfold wpOp;rw[ho];simp only;cases h with
 | skip h hF' hW hv=>
  rw[z8 hF hgd h];simp only[Bool.false_eq_true,if_false];rw[←hdst];exact hK _ _ E hS (hF.put (by rw[hdst];exact hd) L8) (.refl _ _ _) (Nat.le_refl _) (fun _ _ _ e=>e)
 | call h G xs hcl f first cap hG hW hr=>
  rw[z8 hF hgd h];simp only[if_true];left;rcases hor with⟨p,hp1,hp2⟩ | ⟨hp1,hop⟩
  ·rw[hcl] at hp1
   cases hp1;unfold Df at hp2;split at hp2
   ·rename_i g ys ts xg
    simp only[Option.bind_eq_some_iff,Option.map_eq_some_iff,Prod.mk.injEq] at hp2;obtain⟨G',hG',XS,AU,rfl,rfl⟩:=hp2;have rg:=bQ hF hG';rw[hG] at rg;generalize hev:act.eval g=gv at rg;cases rg with
    | aP _ _ _ fv cv hn hm hf hcc=>
     have hx:=IJ hF AU;have hargs:kJ E (first++XS.map (·.ev a)++cap) (fv++ys.map act.eval++cv):=(kJ.append ⟨hn,hf⟩ hx).append ⟨hm,hcc⟩;have hcr:=hr.xD;refine Qa hd hcr zJ hS hF hargs ?_ (fun r S2 act' w' E' k1 k2 k3 k4=>?_)
     ·simp only[execOp,xg,Sem.run_bind,Fv act.eval g ys ts o.type hev,Result.andThen_ok,invoke]
      exact Fx hcr.1 _ _
     ·obtain⟨rfl,rfl⟩:=k1
      exact hK act' w' E' k2 (by rw[hdst];exact k3) k4.bU k4.jW (fun i hi _ e=>k4.low i hi e)
   ·cases hp2
  ·rw[hp1] at hcl;cases hcl
 | op h hcl bs hb out ho' hF' hv hW hW2 hU=>
  rw[z8 hF hgd h];simp only[if_true];left;rcases hor with⟨p,hp1,hp2⟩ | ⟨hp1,hop⟩
  ·rw[hcl] at hp1;cases hp1
  ·have hrun:(ex s.o.op a).run S (base+s.i)=some (s.v,(S.dX (ex s.o.op a).F out.up).fP (base+s.i) out.nw):=by
    simp only[Eff.run,hb,ho',hv]
   have hok:=Jq (P:=P) (n:=n) (o:=o) hd hop hrun;refine hok E w act hS hF hρ hlt _ _ fun act' w' E' k1 k2 k3 k4=>hK act' w' E' k1 (by rw[hdst];exact k2) k3 (by rw[ZpV,XW];exact Nat.le_refl _) (fun i _ hi e=>k4.2 i hi e)
inductive Ord (ops:Array Oper):Nat→Nat→Prop
 | here {i:Nat} {o:Oper} {e:Edge} (h:ops[i]? = some o) (he:e∈o.after) (hb:Region.binds .any e=true):Ord ops i e.on
 | more {i j:Nat} {o:Oper} {e:Edge} (h:ops[i]? = some o) (he:e∈o.after) (hb:Region.binds .any e=true) (k:Ord ops e.on j):Ord ops i j
def X4(ops:Array Oper)(listed:Array Bool):Prop:=∀k o,listed.getD k false=true→ops[k]? = some o→∀e∈o.after,Region.binds .any e=true→listed.getD e.on false=true
theorem Ord.listed{ops:Array Oper}{listed:Array Bool}(hd:X4 ops listed){i j:Nat}(h:Ord ops i j):∀o,ops[i]? = some o→(∀e∈o.after,Region.binds .any e=true→listed.getD e.on false=true)→listed.getD j false=true:=by
 induction h with
 | here h he hb=>intro o' h' ha;rw[h] at h';cases h';exact ha _ he hb
 | more h he hb k ih=>
  intro o' h' ha;rw[h] at h';cases h';have hl:=ha _ he hb;cases k with
  | here h2 he2 hb2=>exact ih _ h2 (fun e he hb=>hd _ _ hl h2 e he hb)
  | more h2 he2 hb2 k2=>exact ih _ h2 (fun e he hb=>hd _ _ hl h2 e he hb)
def Jm(ms:List Nat):List Edge→Nat
 | []=>0
 | e::es=>if Region.binds .any e=true then ((1 <<< e.on) ||| ms.getD e.on 0) ||| Jm ms es else Jm ms es
def za(ms:List Nat)(o:Oper):Nat:=Jm ms o.after.toList
def FT(ops:Array Oper)(ms:List Nat):Prop:=∀i j,(ms.getD i 0).testBit j=true→Ord ops i j
theorem Wd{ops:Array Oper}{ms:List Nat}(hm:FT ops ms){i:Nat}{o:Oper}(ho:ops[i]? = some o):∀(es:List Edge),(∀e∈es,e∈o.after)→∀j,(Jm ms es).testBit j=true→Ord ops i j
 | [],_,j,h=>by simp[Jm] at h
 | e::es,hs,j,h=>by
  simp only[Jm] at h;split at h
  ·rename_i hb
   simp only[Nat.testBit_or,Bool.or_eq_true] at h;rcases h with(h | h) | h
   ·have:e.on=j:=by
     rw[Nat.one_shiftLeft,Nat.testBit_two_pow] at h;simpa using h
    subst this;exact .here ho (hs e (by simp)) hb
   ·exact .more ho (hs e (by simp)) hb (hm _ _ h)
   ·exact Wd hm ho es (fun e he=>hs e (by simp[he])) j h
  ·exact Wd hm ho es (fun e he=>hs e (by simp[he])) j h
theorem Wv{ops:Array Oper}{ms:List Nat}(hm:FT ops ms){i:Nat}{o:Oper}(ho:ops[i]? = some o)(j:Nat)(h:(za ms o).testBit j=true):Ord ops i j:=
 Wd hm ho _ (fun e he=>by simpa using he) j h
theorem FT.push{ops:Array Oper}{ms:List Nat}(hm:FT ops ms){o:Oper}(ho:ops[ms.length]? = some o):FT ops (ms++[za ms o]):=by
 intro i j h;by_cases hi:i < ms.length
 ·refine hm i j ?_
  simpa[List.getD_eq_getElem?_getD,List.getElem?_append_left hi] using h
 ·by_cases h2:i=ms.length
  ·subst h2
   refine Wv hm ho j ?_;simpa[List.getD_eq_getElem?_getD] using h
  ·rw[List.getD_eq_getElem?_getD,List.getElem?_eq_none (by simp;omega)] at h
   simp at h
theorem IY{ops:Array Oper}{listed:Array Bool}{i:Nat}:i∈Region.ready .any ops listed↔i < ops.size∧listed.getD i true=false∧∃o,ops[i]? = some o∧∀e∈o.after,Region.binds .any e=true→listed.getD e.on false=true:=by
 simp only[Region.ready,List.mem_filter,List.mem_range,Bool.and_eq_true,Bool.not_eq_true'];constructor
 ·rintro⟨h1,h2,h3⟩
  refine⟨h1,h2,?_⟩;cases ho:ops[i]? with
  | none=>rw[ho] at h3;simp at h3
  | some o=>
   rw[ho] at h3;simp only[Option.map_some,Option.getD_some] at h3;refine⟨o,rfl,fun e he hb=>?_⟩;have:=(Array.all_eq_true'.mp h3) e he;simpa[hb] using this
 ·rintro⟨h1,h2,o,ho,h3⟩
  refine⟨h1,h2,?_⟩;rw[ho];simp only[Option.map_some,Option.getD_some];refine Array.all_eq_true'.mpr (fun e he=>?_);cases hb:Region.binds .any e with
  | false=>simp
  | true=>simp[h3 e he hb]
theorem Zmj{l:List DS}{x:DS}(h:x∈l):∃l1 l2,l=l1++x::l2:=List.append_of_mem h
theorem ZhZ{P:Program}{n:Nat}{ops:Array Oper}{base:Nat}{Q:Exit→AF→St→Prop}{E0:Env}{S0:St}{w0:World}(hG0:jO P E0.H)(hb:S0.n≤base)
  (hon:∀(i:Nat) o,ops[i]? = some o→∀e∈o.after,Region.binds .any e=true→e.on < i) :
  ∀(fuel:Nat) (R:List DS) (listed:Array Bool) (a:AF) (S:St) (a2:AF) (S2:St),R.length=fuel→Am P base R a S a2 S2→Q .normal a2 S2→R.Pairwise (fun s t=>s.i < t.i)→
   (∀i,i < ops.size→(listed.getD i true=false↔∃s∈R,s.i=i))→(∀s∈R,s.i < ops.size)→listed.size=ops.size→X4 ops listed→
   (∀s∈R,∃o,ops[s.i]? = some o∧nC P n ops o=some s.o)→(∀s∈R,∀t∈R,s.i < t.i→Ord ops t.i s.i∨Ow s t)→
   ∀E w act,bf E S w→eu E n a act→(∀s∈R,E.ρ (base+s.i)=none∧base+s.i < S.n)→Ev E0 S0 w0 E S w→wpAny P .any ops (nG E0 S0 w0 n Q) fuel listed act w
 | 0,R,listed,a,S,a2,S2,hlen,hch,hq,_,hmem,_,_,_,_,_,E,w,act,hS,hF,_,hE=>by
  have:R=[]:=List.eq_nil_of_length_eq_zero hlen;subst this;cases hch;refine⟨?_,a,S,E,hq,hS,hF,hE⟩;refine List.eq_nil_iff_forall_not_mem.mpr (fun i hi=>?_);obtain⟨h1,h2,_⟩:=IY.mp hi;obtain⟨s,hs,_⟩:=(hmem i h1).mp h2;simp at hs
 | fuel+1,R,listed,a,S,a2,S2,hlen,hch,hq,hsort,hmem,hlt,hsz,NS,hops,NV,E,w,act,hS,hF,hr,hE=>by
  refine⟨fun hnil=>?_,fun i hi=>?_⟩
  ·
   cases R with
   | nil=>simp at hlen
   | cons s R=>
    exfalso
    have NY:s.i∈Region.ready .any ops listed:=by
     obtain⟨o,ho,_⟩:=hops s (by simp);have hsi:=hlt s (by simp);refine IY.mpr ⟨hsi,(hmem s.i hsi).mpr ⟨s,by simp,rfl⟩,o,ho,fun e he hbn=>?_⟩;have hlt2:=hon _ o ho e he hbn;cases hl:listed.getD e.on false with
     | true=>rfl
     | false=>
      have hl2:listed.getD e.on true=false:=by
       simp only[Array.getD_eq_getD_getElem?] at hl ⊢;rw[Array.getElem?_eq_getElem (by omega)] at hl ⊢;exact hl
      obtain⟨s',hs',e'⟩:=(hmem e.on (by omega)).mp hl2;rcases List.mem_cons.mp hs' with rfl | h3
      ·omega
      ·have:=List.rel_of_pairwise_cons hsort h3
       omega
    rw[hnil] at NY;simp at NY
  ·obtain⟨h1,h2,o,ho,hpre⟩:=IY.mp hi
   obtain⟨s,hs,rfl⟩:=(hmem i h1).mp h2;obtain⟨l1,l2,rfl⟩:=Zmj hs
   have Y7:∀q∈l1,Ow q s:=by
    intro q hq'
    have hqi:q.i < s.i:=by
     have:=List.pairwise_append.mp hsort;exact this.2.2 q hq' s (by simp)
    rcases NV q (by simp[hq']) s (by simp) hqi with h3 | h3
    ·exfalso
     have h4:=h3.listed NS o ho hpre;have h5:=(hmem q.i (hlt q (by simp[hq']))).mpr ⟨q,by simp[hq'],rfl⟩;simp only[Array.getD_eq_getD_getElem?] at h4 h5;rw[Array.getElem?_eq_getElem (by have:=hlt q (by simp[hq']);omega)] at h4 h5;simp at h4 h5;rw[h4] at h5;cases h5
    ·exact h3
   have hfr:=Am.front Y7 hch;cases hfr with
   | cons d1 d2=>
    obtain⟨o',ho',hco⟩:=hops s (by simp);obtain⟨r1,r2⟩:=hr s (by simp)
    have Zh:(l1++l2).Pairwise (fun s t=>s.i < t.i):=by
     have h6:=List.pairwise_append.mp hsort;refine List.pairwise_append.mpr ⟨h6.1,(List.pairwise_cons.mp h6.2.1).2,fun x hx y hy=>h6.2.2 x hx y (by simp[hy])⟩
    have hne:∀q∈l1++l2,q.i≠s.i:=by
     intro q hq';have h6:=List.pairwise_append.mp hsort;rcases List.mem_append.mp hq' with h7 | h7
     ·have:=h6.2.2 q h7 s (by simp);omega
     ·have:=(List.pairwise_cons.mp h6.2.1).1 q h7;omega
    have hsub:∀q∈l1++l2,q∈l1++s::l2:=by
     intro q hq';rcases List.mem_append.mp hq' with h7 | h7<;>simp[h7]
    refine ZgP d1 ho' hco (hG0.le hE.bU.le) hS hF r1 r2 fun act' w' E' k1 k2 k3 k4 k5=>?_
    refine ZhZ hG0 hb hon fuel (l1++l2) (listed.setIfInBounds s.i true) _ _ a2 S2 (by simp at hlen ⊢;omega) d2 hq Zh ?_ (fun q hq'=>hlt q (hsub q hq')) (by simpa using hsz) ?_ (fun q hq'=>hops q (hsub q hq'))
     (fun q hq' t ht=>NV q (hsub q hq') t (hsub t ht)) E' w' act' k1 k2 (fun q hq'=>?_) ⟨hE.bU.trans k3,by have:=hE.jW;omega,fun id hid e=>k5 id (by have:=hE.jW;omega) (by omega) (hE.low id hid e)⟩
    ·intro j hj
     simp only[Array.getD_eq_getD_getElem?,Array.getElem?_setIfInBounds];by_cases hjs:s.i=j
     ·subst hjs
      rw[if_pos rfl,if_pos (by omega)];simp only[Option.getD_some,Bool.true_eq_false,false_iff,not_exists,not_and];exact fun q hq'=>hne q hq'
     ·rw[if_neg hjs]
      have:=hmem j hj;simp only[Array.getD_eq_getD_getElem?] at this;rw[this];constructor
      ·rintro⟨q,hq',e⟩
       refine⟨q,?_,e⟩;rcases List.mem_append.mp hq' with h7 | h7
       ·simp[h7]
       ·rcases List.mem_cons.mp h7 with rfl | h8
        ·exact(hjs e).elim
        ·simp[h8]
      ·rintro⟨q,hq',e⟩;exact⟨q,hsub q hq',e⟩
    ·intro k o2 hk ho2 e he hbn
     simp only[Array.getD_eq_getD_getElem?,Array.getElem?_setIfInBounds] at hk ⊢;by_cases hks:s.i=k
     ·subst hks
      rw[ho] at ho2;cases ho2;have h8:=hpre e he hbn;simp only[Array.getD_eq_getD_getElem?] at h8;split
      ·rw[if_pos (by omega)];rfl
      ·exact h8
     ·rw[if_neg hks] at hk
      have h8:=NS k o2 (by simpa[Array.getD_eq_getD_getElem?] using hk) ho2 e he hbn;simp only[Array.getD_eq_getD_getElem?] at h8;split
      ·rename_i h9
       split
       ·rfl
       ·rw[←h9,Array.getElem?_eq_none (by omega)] at h8;simp at h8
      ·exact h8
    ·obtain⟨q1,q2⟩:=hr q (hsub q hq')
     exact⟨k5 _ q2 (by have:=hne q hq';omega) q1,by omega⟩
def Nw:jJ→Bool
 | .box _ _ | .alloc _ _ | .store _ _ _ | .app _ _ _ _ | .zL _ _ _ _ _ | .EK | .BX _ _ _ _ | .J9 _ _ _ | .GX _ _ _ | .J5 _ _ _ _ _=>true
 | _=>false
theorem Cn{x:Option AV}{bs:List aB}{out:Out}(h:(Eff.val x).k bs=some out):out.up=[]∧out.nw=none:=by
 simp only[Eff.val,Option.map_eq_some_iff] at h;obtain⟨_,_,rfl⟩:=h;exact⟨rfl,rfl⟩
theorem Mh{id:Nat}{k:aB→Option AV}{bs:List aB}{out:Out}(h:(Eff.rd id k).k bs=some out):out.up=[]∧out.nw=none:=by
 simp only[Eff.rd] at h;split at h
 ·simp only[Option.map_eq_some_iff] at h;obtain⟨_,_,rfl⟩:=h;exact⟨rfl,rfl⟩
 ·cases h
theorem Zix{op:jJ}(hq:Nw op=false){a:AF}{bs:List aB}{out:Out}(h:(ex op a).k bs=some out):out.up=[]∧out.nw=none:=by
 cases op<;>simp only[Nw,Bool.true_eq_false] at hq<;>simp only[ex] at h
 case load k p=>
  unfold bX at h;split at h
  ·exact Cn h
  ·exact Mh h
  ·exact Cn h
 case aM es x i=>
  unfold dz at h;split at h
  ·exact Cn h
  ·exact Mh h
  ·exact Cn h
 case slc es x lo hi=>
  unfold Ao at h;split at h
  ·exact Cn h
  ·exact Mh h
  ·exact Cn h
 case look d z ok m k=>
  unfold Bu at h;split at h
  ·exact Mh h
  ·exact Cn h
 case Hw x=>
  unfold Jr at h;split at h
  ·exact Mh h
  ·exact Cn h
 all_goals exact Cn h
def F9(s t:aZ):Bool:=
 (match s.dst with | some d=>!t.jq.contains d && t.dst != some d | none=>true) && (match t.dst with | some d=>!s.jq.contains d | none=>true)
theorem Zg3{s t:aZ}(h:F9 s t=true):(∀d,s.dst=some d→d∉t.jq)∧(∀d,t.dst=some d→d∉s.jq)∧(∀d,s.dst=some d→t.dst≠some d):=by
 simp only[F9,Bool.and_eq_true] at h;obtain⟨h1,h2⟩:=h;refine⟨fun d e=>?_,fun d e=>?_,fun d e=>?_⟩
 ·rw[e] at h1;simp at h1;exact h1.1
 ·rw[e] at h2;simp at h2;exact h2
 ·rw[e] at h1;simp at h1;exact h1.2
def xK(o:aZ):Bool:=o.call.isSome || !Nw o.op
def Eff.runT(e:Eff)(S:St)(aA:Nat):Option (AV×St×List Nat×List Nat):=
 match e.F.mapM S.g with
 | none=>none
 | some bs=>match e.k bs with
  | none=>none
  | some o=>some (o.v aA,(S.dX e.F o.up).fP aA o.nw,e.F,(match o.up with | []=>[] | _=>e.F)++(match o.nw with | some _=>[aA] | none=>[]))
def Dp(p:List Nat×List Nat)(F W:List Nat):Prop:=(∀j∈p.2,j∉F)∧(∀j∈W,j∉p.1)∧∀j∈p.2,j∉W
def lI:List Bool→List (List Nat×List Nat)→List Nat→List Nat→Prop
 | true::bs,p::T,F,W=>Dp p F W∧lI bs T F W
 | false::bs,_::T,F,W=>lI bs T F W
 | _,_,_,_=>True
theorem lI.at_{F W:List Nat}:∀{bs:List Bool} {T:List (List Nat×List Nat)},lI bs T F W→∀(j:Nat) (p:List Nat×List Nat),bs[j]? = some true→T[j]? = some p→Dp p F W
 | [],_,_,j,p,h,_=>by simp at h
 | _::_,[],_,j,p,_,h=>by simp at h
 | true::bs,q::T,h,0,p,_,hp=>by simp at hp;subst hp;exact h.1
 | false::bs,q::T,h,0,p,hb,_=>by simp at hb
 | true::bs,q::T,h,j+1,p,hb,hp=>lI.at_ (bs:=bs) (T:=T) h.2 j p (by simpa using hb) (by simpa using hp)
 | false::bs,q::T,h,j+1,p,hb,hp=>lI.at_ (bs:=bs) (T:=T) h j p (by simpa using hb) (by simpa using hp)
def sJ(fr:List (List Bool))(T:List (List Nat×List Nat))(F W:List Nat):List (List Nat×List Nat):=
 match fr with
 | []=>T
 | _=>(F,W)::T
def QL(m:Nat)(t:aZ):List Bool→List (Nat×aZ)→Bool
 | _,[]=>true
 | fr,(j,s)::prev=>(m.testBit j || (F9 s t && ((xK s && xK t) || fr.headD false))) && QL m t fr.tail prev
def MI:List Oper→List aZ→List (List Bool)→List (Nat×aZ)→List Nat→Nat→Bool
 | o::ops,s::os,fr,prev,ms,i=>
  o.after.toList.all (fun e=>!Region.binds .any e || decide (e.on < i)) && QL (za ms o) s (fr.headD []) prev && MI ops os fr.tail ((i,s)::prev) (ms++[za ms o]) (i+1)
 | [],[],_,_,_,_=>true
 | _,_,_,_,_,_=>false
def Q5(ops:Array Oper)(os:List aZ)(fr:List (List Bool)):Bool:=MI ops.toList os fr [] [] 0
def RD(P:Program)(base:Nat):List aZ→List (List Bool)→Nat→List (List Nat×List Nat)→(AF→St→Prop)→AF→St→Prop
 | [],_,_,_,K,a,S=>K a S
 | o::os,fr,i,T,K,a,S=>
  match gd o a with
  | none=>False
  | some false=>RD P base os fr.tail (i+1) (sJ fr T [] []) K (a.put o.dst (.aO [])) S
  | some true=>match o.call with
   | some (G,xs)=>match G.ev a with
    | .aP f first cap=>∃r F,mZ P f (first++xs.map (·.ev a)++cap) S F r∧lI (fr.headD []) T F []∧RD P base os fr.tail (i+1) (sJ fr T F []) K (a.put o.dst r) S
    | _=>False
   | none=>match (ex o.op a).runT S (base+i) with
    | some (v,S',F,W)=>lI (fr.headD []) T F W∧RD P base os fr.tail (i+1) (sJ fr T F W) K (a.put o.dst v) S'
    | none=>False
theorem ZoU{e:Eff}{S:St}{aA:Nat}{v:AV}{S':St}{F W:List Nat}(h:e.runT S aA=some (v,S',F,W)) :
  ∃bs out,e.F.mapM S.g=some bs∧e.k bs=some out∧v=out.v aA∧S'=(S.dX e.F out.up).fP aA out.nw∧F=e.F∧W=(if out.up=[] then [] else e.F)++(if out.nw.isSome=true then [aA] else []):=by
 unfold Eff.runT at h;split at h
 ·cases h
 ·rename_i bs hbs
  split at h
  ·cases h
  ·rename_i out hout
   simp only[Option.some.injEq,Prod.mk.injEq] at h;obtain⟨rfl,rfl,rfl,rfl⟩:=h;refine⟨bs,out,hbs,hout,rfl,rfl,rfl,?_⟩;cases out.up<;>cases out.nw<;>simp
theorem Ziz{P:Program}{base:Nat}{K:AF→St→Prop}:∀(os:List aZ) (fr:List (List Bool)) (i:Nat) (T:List (List Nat×List Nat)) (a:AF) (S:St),RD P base os fr i T K a S→
  ∃l a2 S2,Am P base l a S a2 S2∧K a2 S2∧l.map (·.o)=os∧l.map (·.i)=List.range' i os.length∧(∀s∈l,xK s.o=true→s.W=[])∧
   ∀(k:Nat) (hk:k < l.length) (j:Nat) (p:List Nat×List Nat),(fr.getD k [])[j]? = some true→((l.take k).reverse.map (fun s=>(s.F,s.W))++T)[j]? = some p→Dp p (l[k]).F (l[k]).W
 | [],fr,i,T,a,S,h=>⟨[],a,S,.nil a S,h,rfl,rfl,by simp,by simp⟩
 | o::os,fr,i,T,a,S,h=>by
  simp only[RD] at h
  have fin:∀(s:DS) (a1:AF) (S1:St),s.o=o→s.i=i→(xK s.o=true→s.W=[])→uT P base s a S a1 S1→lI (fr.headD []) T s.F s.W→RD P base os fr.tail (i+1) (sJ fr T s.F s.W) K a1 S1→
    ∃l a2 S2,Am P base l a S a2 S2∧K a2 S2∧l.map (·.o)=o::os∧l.map (·.i)=List.range' i (os.length+1)∧(∀s∈l,xK s.o=true→s.W=[])∧
     ∀(k:Nat) (hk:k < l.length) (j:Nat) (p:List Nat×List Nat),(fr.getD k [])[j]? = some true→((l.take k).reverse.map (fun s=>(s.F,s.W))++T)[j]? = some p→Dp p (l[k]).F (l[k]).W:=by
   intro s a1 S1 h1 h2 h3 h4 hA h5;obtain⟨l,a2,S2,k1,k2,k3,k4,k5,k6⟩:=Ziz os fr.tail (i+1) _ a1 S1 h5;refine⟨s::l,a2,S2,.cons h4 k1,k2,by simp[h1,k3],by simp[h2,k4,List.range'_succ],?_,?_⟩
   ·intro q hq
    rcases List.mem_cons.mp hq with rfl | hq
    ·exact h3
    ·exact k5 q hq
   ·intro k hk j p hj hp
    cases k with
    | zero=>
     have hj':(fr.headD [])[j]? = some true:=by cases fr with | nil=>simp at hj | cons a l=>simpa using hj
     exact hA.at_ j p hj' (by simpa using hp)
    | succ k=>
     cases fr with
     | nil=>simp at hj
     | cons b fr=>
      refine k6 k (by simpa using hk) j p (by simpa using hj) ?_;simpa[sJ,List.append_assoc] using hp
  split at h
  ·exact h.elim
  ·rename_i hg
   exact fin ⟨i,o,[],[],fun _=>none,.aO []⟩ _ _ rfl rfl (fun _=>rfl) (.skip hg rfl rfl rfl) (by
    generalize fr.headD []=bs;clear fin h;induction bs generalizing T with
    | nil=>simp[lI]
    | cons b bs ih=>cases T<;>cases b<;>simp[lI,Dp,ih]) h
  ·rename_i hg
   split at h
   ·rename_i G xs hc
    split at h
    ·rename_i f first cap hG
     obtain⟨r,F,hr,hA,h2⟩:=h;exact fin ⟨i,o,F,[],fun _=>none,r⟩ _ _ rfl rfl (fun _=>rfl) (.call hg G xs hc f first cap hG rfl hr) hA h2
    ·exact h.elim
   ·rename_i hc
    split at h
    ·rename_i v S' F W hrun
     obtain⟨bs,out,hbs,hout,rfl,rfl,rfl,rfl⟩:=ZoU hrun;refine fin ⟨i,o,(ex o.op a).F,_,((S.dX (ex o.op a).F out.up).fP (base+i) out.nw).g,out.v (base+i)⟩ _ _ rfl rfl ?_ (.op hg hc bs hbs out hout rfl rfl ?_ ?_ (fun _ _=>rfl)) h.1 h.2
     ·intro hq
      simp only[xK,hc,Option.isSome_none,Bool.false_or,Bool.not_eq_true'] at hq;obtain⟨q1,q2⟩:=Zix hq hout;simp[q1,q2]
     ·refine⟨fun h1 j hj=>?_,fun h1=>?_⟩
      ·simp only[List.mem_append];left;rw[if_neg h1];exact hj
      ·simp only[List.mem_append];right;rw[if_pos h1];simp
     ·intro j hj
      simp only[List.mem_append] at hj;rcases hj with hj | hj
      ·split at hj
       ·simp at hj
       ·rename_i h1;exact .inl ⟨h1,hj⟩
      ·split at hj
       ·rename_i h1;simp at hj;exact .inr ⟨h1,hj⟩
       ·simp at hj
    ·exact h.elim
theorem Zdj{m:Nat}{t:aZ}:∀{fr:List Bool} {prev:List (Nat×aZ)},QL m t fr prev=true→∀(k j:Nat) (s:aZ),prev[k]? = some (j,s)→
  m.testBit j=true∨(F9 s t=true∧((xK s=true∧xK t=true)∨fr[k]? = some true))
 | fr,[],_,k,j,s,h=>by simp at h
 | fr,(j',s')::prev,h,k,j,s,hk=>by
  simp only[QL,Bool.and_eq_true] at h;cases k with
  | zero=>
   simp only[List.getElem?_cons_zero,Option.some.injEq,Prod.mk.injEq] at hk;obtain⟨rfl,rfl⟩:=hk;have h1:=h.1;simp only[Bool.or_eq_true,Bool.and_eq_true] at h1;rcases h1 with h1 | ⟨h1,h2 | h2⟩
   ·exact .inl h1
   ·exact .inr ⟨h1,.inl h2⟩
   ·exact .inr ⟨h1,.inr (by cases fr<;>simp_all)⟩
  | succ k=>
   rcases Zdj h.2 k j s (by simpa using hk) with h1 | ⟨h1,h2 | h2⟩
   ·exact .inl h1
   ·exact .inr ⟨h1,.inl h2⟩
   ·exact .inr ⟨h1,.inr (by cases fr<;>simp_all)⟩
theorem Zd3{ops:Array Oper}{os:List aZ}{fr:List (List Bool)}:∀(n i:Nat) (prev:List (Nat×aZ)) (ms:List Nat),n=ops.size - i→i≤ops.size→i≤os.length→ms.length=i→FT ops ms→prev.length=i→
  (∀k,k < i→prev[i - 1 - k]? = (os[k]?).map fun s=>(k,s))→MI (ops.toList.drop i) (os.drop i) (fr.drop i) prev ms i=true→
  (∀(t:Nat) o,i≤t→ops[t]? = some o→∀e∈o.after,Region.binds .any e=true→e.on < t)∧
  ∀t j,i≤t→t < ops.size→j < t→Ord ops t j∨∀s u,os[j]? = some s→os[t]? = some u→F9 s u=true∧((xK s=true∧xK u=true)∨(fr.getD t [])[t - 1 - j]? = some true)
 | 0,i,prev,ms,hn,hi,_,_,_,_,_,_=>by
  refine⟨fun t o h1 h2=>?_,fun t j h1 h2=>by omega⟩;have:=(Array.getElem?_eq_some_iff.mp h2).1;omega
 | n+1,i,prev,ms,hn,hi,hil,hms,hmo,hpl,aae,h=>by
  have hlt:i < ops.size:=by omega
  have ho:ops[i]? = some ops[i]:=Array.getElem?_eq_getElem hlt
  have hdo:ops.toList.drop i=ops[i]::ops.toList.drop (i+1):=by
   rw[List.drop_eq_getElem_cons (by simpa using hlt)];simp
  rw[hdo] at h;cases hd:os.drop i with
  | nil=>rw[hd] at h;simp[MI] at h
  | cons s os'=>
   have Y6:i < os.length:=by
    have:=congrArg List.length hd;simp at this;omega
   have hos:os[i]? = some s:=by
    rw[List.drop_eq_getElem_cons Y6] at hd;simp only[List.cons.injEq] at hd;rw[List.getElem?_eq_getElem Y6,hd.1]
   have aaY:os.drop (i+1)=os':=by
    rw[List.drop_eq_getElem_cons Y6] at hd;simp only[List.cons.injEq] at hd;exact hd.2
   rw[hd] at h;simp only[MI,Bool.and_eq_true] at h;obtain⟨⟨h1,h2⟩,h3⟩:=h
   have ih:=Zd3 (fr:=fr) (os:=os) n (i+1) ((i,s)::prev) (ms++[za ms ops[i]]) (by omega) (by omega) (by omega) (by simp[hms]) (hmo.push (by rw[hms];exact ho)) (by simp[hpl]) (by
    intro k hk;by_cases hki:k=i
    ·subst hki;simp[hos]
    ·have:i+1 - 1 - k=(i - 1 - k)+1:=by omega
     rw[this,List.getElem?_cons_succ];exact aae k (by omega)) (by rw[aaY];simpa[List.tail_drop] using h3)
   refine⟨fun t o ht hto e he hb=>?_,fun t j ht htl hj=>?_⟩
   ·by_cases hti:t=i
    ·subst hti
     rw[ho] at hto;cases hto;have:=(List.all_eq_true.mp h1) e (by simpa using he);simpa[hb] using this
    ·exact ih.1 t o (by omega) hto e he hb
   ·by_cases hti:t=i
    ·subst hti
     have hjl:j < os.length:=by omega
     have hp:=aae j hj;rw[List.getElem?_eq_getElem hjl] at hp;rcases Zdj h2 _ _ _ hp with h4 | h4
     ·exact .inl (Wv hmo ho j h4)
     ·refine .inr (fun s' u hs' hu=>?_)
      rw[List.getElem?_eq_getElem hjl] at hs';cases hs';rw[hos] at hu;cases hu;have hfr:(fr.drop t).headD []=fr.getD t []:=by simp[List.getD_eq_getElem?_getD,List.headD_eq_head?_getD,List.head?_drop]
      rw[hfr] at h4;exact h4
    ·exact ih.2 t j (by omega) htl hj
theorem Zjs{ops:Array Oper}{os:List aZ}{fr:List (List Bool)}(h:Q5 ops os fr=true) :
  (∀(i:Nat) o,ops[i]? = some o→∀e∈o.after,Region.binds .any e=true→e.on < i)∧
  ∀i j,i < ops.size→j < i→Ord ops i j∨∀s t,os[j]? = some s→os[i]? = some t→F9 s t=true∧((xK s=true∧xK t=true)∨(fr.getD i [])[i - 1 - j]? = some true):=by
 obtain⟨h1,h2⟩:=Zd3 (ops:=ops) (os:=os) (fr:=fr) ops.size 0 [] [] (by omega) (by omega) (by omega) rfl (fun i j h=>by simp at h) rfl (by intro k hk;omega) (by rw[Q5] at h;simpa using h);exact⟨fun i o=>h1 i o (Nat.zero_le _),fun i j=>h2 i j (Nat.zero_le _)⟩
theorem Zjt{P:Program}{n:Nat}{ops:Array Oper}{os:List aZ}{fr:List (List Bool)}{id:Nat}{Q:Exit→AF→St→Prop}(hm:P.follows .mixedOrders=true)(hc:ops.toList.mapM (nC P n ops)=some os)(hok:Q5 ops os fr=true)
  (hget:os.length=ops.size∧∀k (hk:k < os.length),∃o,ops[k]? = some o∧nC P n ops o=some (os[k])) {a:AF} {S:St}
  (h:RD P S.n os fr 0 [] (fun a S=>Q .normal a S) a ⟨S.n+os.length,S.g⟩) {E:Env} {w:World} {act:Act} (hG:jO P E.H) (hS:bf E S w) (hF:eu E n a act):(Code.region id ops true).wp P (nG E S w n Q) act w:=by
 obtain⟨hlen,hg⟩:=hget;obtain⟨h1,h2⟩:=Zjs hok;obtain⟨l,a2,S2,k1,k2,k3,k4,k5,k6⟩:=Ziz os fr 0 [] a _ h;have hll:l.length=os.length:=by rw[←k3];simp
 have hi:∀k (hk:k < l.length),(l[k]).i=k:=by
  intro k hk;have h5:(l.map (·.i))[k]'(by simpa using hk)=(List.range' 0 os.length)[k]'(by simp;omega):=by simp only[k4]
  simpa using h5
 have ho:∀k (hk:k < l.length),(l[k]).o=os[k]'(by omega):=by
  intro k hk;have h5:(l.map (·.o))[k]'(by simpa using hk)=os[k]'(by omega):=by simp only[k3]
  simpa using h5
 have hmem:∀s∈l,∃k,∃hk:k < l.length,l[k]=s∧s.i=k:=by
  intro s hs;obtain⟨k,hk,e⟩:=List.mem_iff_getElem.mp hs;exact⟨k,hk,e,by rw[←e];exact hi k hk⟩
 refine wp_region_any hm ?_;refine ZhZ (S0:=S) (base:=S.n) hG (Nat.le_refl _) h1 ops.size l (Array.replicate ops.size false) a _ a2 S2 (by omega) k1 k2 ?_ ?_ ?_ (by simp) ?_ ?_ ?_ E _ act ((hS.drop S.g (fun _ _ e=>e) _ (by show S.n≤S.n+_;omega)).drew) hF ?_ ?_
 ·have h6:(l.map (·.i)).Pairwise (· < ·):=by rw[k4];exact List.pairwise_lt_range'
  exact List.pairwise_map.mp h6
 ·intro i hi'
  have:(Array.replicate ops.size false).getD i true=false:=by simp[Array.getD_eq_getD_getElem?,hi']
  simp only[this,true_iff];exact⟨l[i]'(by omega),List.getElem_mem _,hi i (by omega)⟩
 ·intro s hs
  obtain⟨k,hk,_,e⟩:=hmem s hs;omega
 ·intro k o hk
  simp only[Array.getD_eq_getD_getElem?] at hk;by_cases hks:k < ops.size
  ·simp[hks] at hk
  ·simp[hks] at hk
 ·intro s hs
  obtain⟨k,hk,e1,e2⟩:=hmem s hs;obtain⟨o,q1,q2⟩:=hg k (by omega);refine⟨o,by rw[e2];exact q1,?_⟩;rw[←e1,ho k hk];exact q2
 ·intro s hs t ht hlt
  obtain⟨k,hk,e1,e2⟩:=hmem s hs;obtain⟨m,hm',e3,e4⟩:=hmem t ht;rcases h2 t.i s.i (by omega) hlt with h7 | h7
  ·exact .inl h7
  ·right
   obtain⟨q1,q2⟩:=h7 s.o t.o (by rw[←e1,ho k hk,hi k hk];exact List.getElem?_eq_getElem _) (by rw[←e3,ho m hm',hi m hm'];exact List.getElem?_eq_getElem _);obtain⟨s1,s2,s3⟩:=Zg3 q1;rcases q2 with⟨q2,q3⟩ | q2
   ·have w1:=k5 s hs q2
    have w2:=k5 t ht q3;exact⟨s1,s2,s3,by simp[w1],by simp[w2],by simp[w1]⟩
   ·have hkm:k < m:=by omega
    obtain⟨d1,d2,d3⟩:=k6 m hm' (m - 1 - k) (s.F,s.W) (by rw[←e4,←e2];exact q2) (by
     rw[List.append_nil,List.getElem?_map,List.getElem?_reverse (by simp;omega)];have:(List.take m l).length - 1 - (m - 1 - k)=k:=by simp;omega
     rw[this,List.getElem?_take,if_pos hkm,List.getElem?_eq_getElem hk,e1];rfl)
    rw[e3] at d1 d2 d3;exact⟨s1,s2,s3,d1,d2,d3⟩
 ·intro s hs
  obtain⟨k,hk,e1,e2⟩:=hmem s hs;exact⟨hS.fresh _ (by omega),by show S.n+s.i < S.n+os.length;omega⟩
 ·exact⟨⟨rfl,rfl,rfl,Nat.le_refl _,fun _ _ _=>rfl,fun id l k hk hl=>.inr ⟨id,l,k,hk,hl,rfl⟩,Env.le_refl _,fun _ _ e=>.inl e⟩,by show S.n≤S.n+_;omega,fun _ _ e=>e⟩
def RP:jJ→Bool
 | .EL _ _ _=>false
 | _=>true
def vZ(o:aZ):Bool:=o.call.isNone && !Nw o.op && RP o.op
def BD(o:aZ):Bool:=o.guard.isNone && o.call.isNone && (match o.op with | .mv _ | .A8 _ _ _=>true | _=>false)
def H9(o:aZ)(a:AF):AV:=match o.op with
 | .mv x=>x.ev a
 | .A8 f first cap=>.aP f (first.map (·.ev a)) (cap.map (·.ev a))
 | _=>.junk
def Fq(o:aZ)(a:AF):List Nat:=if vZ o=true then (match gd o a with | some true=>(ex o.op a).F | _=>[]) else []
def xQ(w:List Nat)(g g':Nat→Option aB):List (Nat×List Nat)→Prop
 | []=>True
 | (i,F)::T=>(if w.contains i=true then ∀j∈F,g' j=g j else True)∧xQ w g g' T
theorem Jg{w:List Nat}{g g':Nat→Option aB}:∀{T:List (Nat×List Nat)},xQ w g g' T↔∀p∈T,p.1∈w→∀j∈p.2,g' j=g j
 | []=>by simp[xQ]
 | (i,F)::T=>by
  unfold xQ;rw[Jg (T:=T)];by_cases h:i∈w
  ·simp[h]
  ·simp[h]
def lC(P:Program)(base i:Nat)(o:aZ)(w:List Nat)(T:List (Nat×List Nat))(R:AV→St→Prop)(a:AF)(S:St):Prop:=
 match gd o a with
 | none=>False
 | some false=>R (.aO []) S
 | some true=>match o.call with
  | some (G,xs)=>match G.ev a with
   | .aP f first cap=>aN P f (first++xs.map (·.ev a)++cap) S fun r S'=>xQ w S.g S'.g T∧R r S'
   | _=>False
  | none=>match (ex o.op a).run S (base+i) with
   | some (v,S')=>R v S'
   | none=>sD o.op a fun v=>R v S
abbrev l6:=Nat×aZ×List Nat
def jL(P:Program)(base:Nat):List l6→List (Nat×List Nat)→(AF→St→Prop)→AF→St→Prop
 | [],_,K,a,S=>K a S
 | (i,o,w)::l,T,K,a,S=>lC P base i o w T (fun v S'=>jL P base l ((i,Fq o a)::T) K (a.put o.dst v) S') a S
section
variable{P:Program}{base i:Nat}{o:aZ}{w:List Nat}{T T':List (Nat×List Nat)}{R R':AV→St→Prop}{a b:AF}{S:St}
theorem lC.mono(hk:∀v S,R v S→R' v S)(h:lC P base i o w T R a S):lC P base i o w T R' a S:=by
 unfold lC at h ⊢;split at h
 ·exact h.elim
 ·exact hk _ _ h
 ·split at h
  ·split at h
   ·exact h.mono fun r S' k=>⟨k.1,hk _ _ k.2⟩
   ·exact h.elim
  ·split at h
   ·exact hk _ _ h
   ·exact Qf (fun v hv=>hk _ _ hv) h
theorem lC.watch(hT:∀p∈T',p.2=[]∨p∈T)(h:lC P base i o w T R a S):lC P base i o w T' R a S:=by
 unfold lC at h ⊢;split at h
 ·exact h
 ·exact h
 ·split at h
  ·split at h
   ·refine h.mono fun r S' k=>⟨Jg.mpr fun p hp hw j hj=>?_,k.2⟩
    rcases hT p hp with h1 | h1
    ·rw[h1] at hj;simp at hj
    ·exact Jg.mp k.1 p h1 hw j hj
   ·exact h.elim
  ·exact h
theorem lC.P62(ha:∀t∈o.jq,a t=b t)(h:lC P base i o w T R a S):lC P base i o w T R b S:=by
 have hg:=JH (o:=o) ha;unfold lC at h ⊢;rw[←hg];split at h
 ·exact h
 ·exact h
 ·split at h
  ·rename_i G xs hc
   have hrd:∀t∈G.jq++xs.flatMap aI.jq,a t=b t:=fun t ht=>ha t (by simp only[aZ.jq,hc,List.mem_append];exact .inr (by simpa using ht))
   have e1:G.ev b=G.ev a:=(dS (fun t ht=>hrd t (by simp[ht]))).symm;have e2:xs.map (·.ev b)=xs.map (·.ev a):=(MJ (fun t ht=>hrd t (List.mem_append.mpr (.inr ht)))).symm;rw[e1,e2];exact h
  ·rename_i hc
   have hrd:∀t∈o.op.jq,a t=b t:=fun t ht=>ha t (by simp only[aZ.jq,hc,List.mem_append];exact .inr ht)
   have he:ex o.op b=ex o.op a:=(RZ hrd).symm;rw[he];split at h
   ·exact h
   ·unfold sD at h ⊢
    split
    ·rename_i neg x hop
     rw[hop] at h hrd;simp only at h;have:x.ev b=x.ev a:=(dS (fun t ht=>hrd t (by simpa[jJ.jq] using ht))).symm;rw[this];exact h
    ·rename_i hop
     split at h
     ·rename_i neg x hop2;exact(hop _ _ hop2).elim
     ·exact h
theorem Zsp(ha:∀t∈o.jq,a t=b t):Fq o a=Fq o b:=by
 unfold Fq;by_cases hq:vZ o=true
 ·rw[if_pos hq,if_pos hq,JH ha]
  simp only[vZ,Bool.and_eq_true] at hq;have hc:o.call=none:=by simpa using hq.1.1
  have he:ex o.op a=ex o.op b:=RZ (fun t ht=>ha t (by simp only[aZ.jq,hc,List.mem_append];exact .inr ht));rw[he]
 ·rw[if_neg hq,if_neg hq]
def qv(base i:Nat)(o:aZ)(a:AF)(S:St):Option AV:=match gd o a with
 | none=>none
 | some false=>some (.aO [])
 | some true=>((ex o.op a).run S (base+i)).map Prod.fst
theorem ZoG{op:jJ}(h:RP op=true){k:AV→Prop}(hn:sD op a k):False:=by
 unfold sD at hn;split at hn
 ·simp[RP] at h
 ·exact hn
theorem Zp0(F:List Nat)(S:St):S.dX F []=S:=by cases F<;>rfl
theorem IK(hq:vZ o=true):lC P base i o w T R a S↔∃v,qv base i o a S=some v∧R v S:=by
 have hq':=hq;simp only[vZ,Bool.and_eq_true,Bool.not_eq_true'] at hq';obtain⟨⟨hc,hm⟩,hn⟩:=hq';have hc:o.call=none:=by simpa using hc
 unfold lC qv;cases hg:gd o a with
 | none=>simp
 | some b=>
  cases b with
  | false=>simp
  | true=>
   simp only[hc];cases hr:(ex o.op a).run S (base+i) with
   | none=>
    simp only[Option.map_none];constructor
    ·intro h;exact(ZoG hn h).elim
    ·rintro⟨v,h,_⟩;cases h
   | some p=>
    obtain⟨v,S'⟩:=p
    have hS:S'=S:=by
     unfold Eff.run at hr;split at hr
     ·cases hr
     ·split at hr
      ·cases hr
      ·rename_i out hout
       obtain⟨q1,q2⟩:=Zix hm hout;simp only[Option.some.injEq,Prod.mk.injEq] at hr;obtain⟨_,rfl⟩:=hr;rw[q1,q2,Zp0];rfl
    subst hS;simp
theorem ZtQ{S':St}(hq:vZ o=true)(ha:∀t∈o.jq,a t=b t)(hS:∀j∈Fq o a,S'.g j=S.g j):qv base i o b S'=qv base i o a S:=by
 have hq':=hq;simp only[vZ,Bool.and_eq_true,Bool.not_eq_true'] at hq';obtain⟨⟨hc,hm⟩,hn⟩:=hq';have hc:o.call=none:=by simpa using hc
 have he:ex o.op b=ex o.op a:=(RZ (fun t ht=>ha t (by simp only[aZ.jq,hc,List.mem_append];exact .inr ht))).symm;unfold qv;rw[←JH ha,he];cases hg:gd o a with
 | none=>rfl
 | some c=>
  cases c with
  | false=>rfl
  | true=>
   simp only;have hF:Fq o a=(ex o.op a).F:=by unfold Fq;rw[if_pos hq,hg]
   rw[hF] at hS;unfold Eff.run;rw[Zdf hS];cases(ex o.op a).F.mapM S.g with
   | none=>rfl
   | some bs=>
    simp only;cases(ex o.op a).k bs<;>rfl
theorem LQ(h:BD o=true):vZ o=true:=by
 simp only[BD,Bool.and_eq_true] at h;obtain⟨⟨h1,h2⟩,h3⟩:=h;simp only[vZ,Bool.and_eq_true,h2,true_and,Bool.not_eq_true'];cases ho:o.op<;>rw[ho] at h3<;>first | exact Bool.noConfusion h3 | exact⟨rfl,rfl⟩
theorem Zn4(h:BD o=true):Fq o a=[]:=by
 unfold Fq;rw[if_pos (LQ h)];simp only[BD,Bool.and_eq_true] at h;obtain⟨⟨h1,h2⟩,h3⟩:=h
 have hg:gd o a=some true:=by
  unfold gd;have:o.guard=none:=by simpa using h1
  rw[this]
 rw[hg];cases ho:o.op<;>rw[ho] at h3<;>first | exact Bool.noConfusion h3 | rfl
theorem Qx(h:BD o=true):qv base i o a S=some (H9 o a):=by
 unfold qv H9;simp only[BD,Bool.and_eq_true] at h;obtain⟨⟨h1,h2⟩,h3⟩:=h
 have hg:gd o a=some true:=by
  unfold gd;have:o.guard=none:=by simpa using h1
  rw[this]
 rw[hg];cases ho:o.op<;>rw[ho] at h3<;>first | exact Bool.noConfusion h3 | (simp only[ex,Eff.qY,Option.map_some])
theorem Zu0(h:BD o=true)(ha:∀t∈o.jq,a t=b t):H9 o b=H9 o a:=by
 have h1:=Qx (base:=0) (i:=0) (S:=⟨0,fun _=>none⟩) (a:=a) h;have h2:=Qx (base:=0) (i:=0) (S:=⟨0,fun _=>none⟩) (a:=b) h;have h3:=ZtQ (base:=0) (i:=0) (S:=⟨0,fun _=>none⟩) (S':=⟨0,fun _=>none⟩) (LQ h) ha (fun _ _=>rfl);rw[h1,h2] at h3;exact Option.some.inj h3
end
section
variable{P:Program}{base:Nat}
theorem ZeK:∀(l:List l6) {T T':List (Nat×List Nat)} {K:AF→St→Prop} {a:AF} {S:St},(∀p∈T',p.2=[]∨p∈T)→jL P base l T K a S→jL P base l T' K a S
 | [],_,_,_,_,_,_,h=>h
 | (i,o,w)::l,T,T',K,a,S,hT,h=>by
  unfold jL at h ⊢;refine lC.mono (fun v S' h'=>?_) (h.watch hT);refine ZeK l (fun p hp=>?_) h';rcases List.mem_cons.mp hp with rfl | hp
  ·exact .inr (by simp)
  ·rcases hT p hp with h1 | h1
   ·exact .inl h1
   ·exact .inr (by simp[h1])
theorem Zhw:∀(l:List l6) {T:List (Nat×List Nat)} {K K':AF→St→Prop} {a:AF} {S:St},(∀a S,K a S→K' a S)→jL P base l T K a S→jL P base l T K' a S
 | [],_,_,_,_,_,hk,h=>hk _ _ h
 | (i,o,w)::l,T,K,K',a,S,hk,h=>by
  unfold jL at h ⊢;exact lC.mono (fun v S' h'=>Zhw l hk h') h
def CY(s t:l6):Bool:=F9 s.2.1 t.2.1 && (BD s.2.1 || BD t.2.1 || (vZ s.2.1 && vZ t.2.1) || (vZ s.2.1 && t.2.1.call.isSome && t.2.2.contains s.1))
theorem I4{a:AF}{d:Option Nat}{v:AV}{L:List Nat}(h:∀e,d=some e→e∉L):∀t∈L,a t=a.put d v t:=fun t ht=>(AF.put_eq (fun e he=>by intro h3;subst h3;exact h _ he ht)).symm
theorem ZnE{s t:l6}{l:List l6}{T:List (Nat×List Nat)}{K:AF→St→Prop}{a:AF}{S:St}(hb:CY s t=true)(h:jL P base (s::t::l) T K a S):jL P base (t::s::l) T K a S:=by
 obtain⟨i,o,w⟩:=s;obtain⟨j,u,x⟩:=t;simp only[CY,Bool.and_eq_true,Bool.or_eq_true] at hb;obtain⟨hsl,hor⟩:=hb;obtain⟨r1,r2,dd⟩:=Zg3 hsl;unfold jL at h ⊢;unfold jL at h ⊢;have hFu:∀v,Fq u (a.put o.dst v)=Fq u a:=fun v=>(Zsp (I4 r1)).symm
 have hFo:∀v,Fq o (a.put u.dst v)=Fq o a:=fun v=>(Zsp (I4 r2)).symm
 have perm:∀{b:AF} {S2:St},jL P base l ((j,Fq u a)::(i,Fq o a)::T) K b S2→jL P base l ((i,Fq o a)::(j,Fq u a)::T) K b S2:=
  fun h=>ZeK l (fun p hp=>.inr (by simp only[List.mem_cons] at hp ⊢;rcases hp with h1 | h1 | h1<;>simp[h1])) h
 have key:vZ o=true→(∀b,lC P base j u x ((i,Fq o a)::T) (fun r S'=>jL P base l ((j,Fq u a)::(i,Fq o a)::T) K ((a.put o.dst b).put u.dst r) S') a S→
   lC P base j u x ((i,Fq o a)::T) (fun r S'=>(∀k∈Fq o a,S'.g k=S.g k)∧jL P base l ((j,Fq u a)::(i,Fq o a)::T) K ((a.put o.dst b).put u.dst r) S') a S)→
   lC P base j u x T (fun v S'=>lC P base i o w ((j,Fq u a)::T) (fun v_1 S'=>jL P base l ((i,Fq o (a.put u.dst v))::(j,Fq u a)::T) K ((a.put u.dst v).put o.dst v_1) S') (a.put u.dst v) S') a S:=by
  intro hq hkeep;obtain⟨v,hv,h2⟩:=(IK hq).mp h;rw[hFu] at h2;have h3:=hkeep v (lC.P62 (fun t ht=>(I4 r1 t ht).symm) h2);refine lC.mono (fun r S' hh=>?_) (h3.watch (T':=T) (fun p hp=>.inr (by simp[hp])));obtain⟨h4,h5⟩:=hh;refine(IK hq).mpr ⟨v,?_,?_⟩
  ·rw[←hv]
   exact ZtQ hq (I4 r2) h4
  ·rw[hFo]
   rw[AF.put_comm (d:=u.dst) (e:=o.dst) (fun k hk=>fun e=>dd k e hk)];exact perm h5
 rcases hor with((h1 | h1) | ⟨h1,h2⟩) | ⟨⟨h1,h2⟩,h3⟩
 ·refine key (LQ h1) (fun b hh=>lC.mono (fun r S' k=>⟨fun q hq=>?_,k⟩) hh)
  rw[Zn4 h1] at hq;simp at hq
 ·
  have hFz:Fq u a=[]:=Zn4 h1;refine(IK (LQ h1)).mpr ⟨H9 u a,Qx h1,?_⟩
  have h2:lC P base i o w T (fun v S'=>jL P base l ((i,Fq o a)::(j,Fq u a)::T) K ((a.put u.dst (H9 u a)).put o.dst v) S') a S:=by
   refine lC.mono (fun v S' hh=>?_) h;obtain⟨v2,hv2,h3⟩:=(IK (LQ h1)).mp hh;rw[Qx h1] at hv2;cases hv2;rw[Zu0 h1 (I4 r1),hFu] at h3;rw[AF.put_comm (d:=u.dst) (e:=o.dst) (fun k hk=>fun e=>dd k e hk)];exact perm h3
  have h3:=h2.P62 (b:=a.put u.dst (H9 u a)) (I4 r2);rw[hFo];refine h3.watch (fun p hp=>?_);rcases List.mem_cons.mp hp with rfl | hp
  ·exact .inl hFz
  ·exact .inr hp
 ·refine key h1 (fun b hh=>?_)
  obtain⟨v,k1,k2⟩:=(IK h2).mp hh;exact(IK h2).mpr ⟨v,k1,fun _ _=>rfl,k2⟩
 ·refine key h1 (fun b hh=>?_)
  have hx:i∈x:=by simpa using h3
  unfold lC at hh ⊢;split at hh
  ·exact hh
  ·exact⟨fun _ _=>rfl,hh⟩
  ·split at hh
   ·split at hh
    ·refine hh.mono fun r S' k=>⟨k.1,?_,k.2⟩
     exact Jg.mp k.1 (i,Fq o a) (by simp) hx
    ·exact hh.elim
   ·rename_i hc
    rw[hc] at h2;simp at h2
theorem ZeJ{x:l6}{l2:List l6}:∀{l1:List l6} {T:List (Nat×List Nat)} {K:AF→St→Prop} {a:AF} {S:St},(∀s∈l1,CY s x=true)→jL P base (l1++x::l2) T K a S→jL P base (x::(l1++l2)) T K a S
 | [],_,_,_,_,_,h=>h
 | (i,o,w)::l1,T,K,a,S,hi,h=>by
  have h2:jL P base ((i,o,w)::x::(l1++l2)) T K a S:=by
   rw[List.cons_append] at h;unfold jL at h ⊢;exact lC.mono (fun v S' hh=>ZeJ (l1:=l1) (fun q hq=>hi q (by simp[hq])) hh) h
  exact ZnE (hi _ (by simp)) h2
end
theorem Zn9{P:Program}{n:Nat}{ops:Array Oper}{base i:Nat}{ao:aZ}{w0:List Nat}{T:List (Nat×List Nat)}{R:AV→St→Prop}{a:AF}{S:St}(h:lC P base i ao w0 T R a S){o:Oper}(ho:ops[i]? = some o)(hco:nC P n ops o=some ao)
  {E:Env} {w:World} {act:Act} (zJ:jO P E.H) (hS:bf E S w) (hF:eu E n a act) (hρ:E.ρ (base+i)=none) (hlt:base+i < S.n) {K:Act→World→Prop} {Q:Exit→Act→World→Prop}
  (hK:∀v S' act' w' E',R v S'→bf E' S' w'→eu E' n (a.put ao.dst v) act'→kN E S w E' S' w'→S.n≤S'.n→(∀k,k < S.n→k≠base+i→E.ρ k=none→E'.ρ k=none)→K act' w'):wpOp P ops Q i K act w:=by
 obtain⟨hd,hdst,hgd,hor⟩:=FC hco;unfold wpOp;rw[ho];simp only;unfold lC at h;split at h
 ·exact h.elim
 ·rename_i hg
  rw[z8 hF hgd hg];simp only[Bool.false_eq_true,if_false];rw[←hdst];exact hK _ _ _ _ E h hS (hF.put (by rw[hdst];exact hd) L8) (.refl _ _ _) (Nat.le_refl _) (fun _ _ _ e=>e)
 ·rename_i hg
  rw[z8 hF hgd hg];simp only[if_true];left;rcases hor with⟨p,hp1,hp2⟩ | ⟨hp1,hop⟩
  ·rw[hp1] at h
   obtain⟨G,xs⟩:=p;simp only at h;unfold Df at hp2;split at hp2
   ·rename_i g ys ts xg
    simp only[Option.bind_eq_some_iff,Option.map_eq_some_iff,Prod.mk.injEq] at hp2;obtain⟨G',hG,XS,AU,rfl,rfl⟩:=hp2;have rg:=bQ hF hG;split at h
    ·rename_i f first cap AX
     rw[AX] at rg;generalize hev:act.eval g=gv at rg;cases rg with
     | aP _ _ _ fv cv hn hm hf hcc=>
      have hx:=IJ hF AU;have hargs:kJ E (first++XS.map (·.ev a)++cap) (fv++ys.map act.eval++cv):=(kJ.append ⟨hn,hf⟩ hx).append ⟨hm,hcc⟩;refine Qa hd h zJ hS hF hargs ?_ (fun r S2 act' w' E' k1 k2 k3 k4=>?_)
      ·simp only[execOp,xg,Sem.run_bind,Fv act.eval g ys ts o.type hev,Result.andThen_ok,invoke]
       exact Fx h.1 _ _
      ·exact hK r S2 act' w' E' k1.2 k2 (by rw[hdst];exact k3) k4.bU k4.jW (fun i hi _ e=>k4.low i hi e)
    ·exact h.elim
   ·cases hp2
  ·rw[hp1] at h
   simp only at h;split at h
   ·rename_i v S' hex
    have hok:=Jq (P:=P) (n:=n) (o:=o) hd hop hex;have hn:=Eff.Pk hex;refine hok E w act hS hF hρ hlt _ _ fun act' w' E' k1 k2 k3 k4=>hK v S' act' w' E' h k1 (by rw[hdst];exact k2) k3 (by omega) (fun k _ hk e=>k4.2 k hk e)
   ·obtain⟨b,g1,g2⟩:=QK hop h hF w
    unfold Oper.wp;rw[g2,Oper.upon_value];rw[←hdst];exact hK _ _ _ _ E g1 hS (hF.put (by rw[hdst];exact hd) (.v _ rfl)) (.refl _ _ _) (Nat.le_refl _) (fun _ _ _ e=>e)
theorem Zi0{P:Program}{n:Nat}{ops:Array Oper}{base:Nat}{Q:Exit→AF→St→Prop}{E0:Env}{S0:St}{w0:World}(hG0:jO P E0.H)(hb:S0.n≤base)
  (hon:∀(i:Nat) o,ops[i]? = some o→∀e∈o.after,Region.binds .any e=true→e.on < i) :
  ∀(fuel:Nat) (R:List l6) (T:List (Nat×List Nat)) (listed:Array Bool) (a:AF) (S:St),R.length=fuel→jL P base R T (fun a S=>Q .normal a S) a S→R.Pairwise (fun s t=>s.1 < t.1)→
   (∀i,i < ops.size→(listed.getD i true=false↔∃s∈R,s.1=i))→(∀s∈R,s.1 < ops.size)→listed.size=ops.size→X4 ops listed→
   (∀s∈R,∃o,ops[s.1]? = some o∧nC P n ops o=some s.2.1)→(∀s∈R,∀t∈R,s.1 < t.1→Ord ops t.1 s.1∨CY s t=true)→
   ∀E w act,bf E S w→eu E n a act→(∀s∈R,E.ρ (base+s.1)=none∧base+s.1 < S.n)→Ev E0 S0 w0 E S w→wpAny P .any ops (nG E0 S0 w0 n Q) fuel listed act w
 | 0,R,T,listed,a,S,hlen,hch,_,hmem,_,_,_,_,_,E,w,act,hS,hF,_,hE=>by
  have:R=[]:=List.eq_nil_of_length_eq_zero hlen;subst this;refine⟨?_,a,S,E,hch,hS,hF,hE⟩;refine List.eq_nil_iff_forall_not_mem.mpr (fun i hi=>?_);obtain⟨h1,h2,_⟩:=IY.mp hi;obtain⟨s,hs,_⟩:=(hmem i h1).mp h2;simp at hs
 | fuel+1,R,T,listed,a,S,hlen,hch,hsort,hmem,hlt,hsz,NS,hops,NV,E,w,act,hS,hF,hr,hE=>by
  refine⟨fun hnil=>?_,fun i hi=>?_⟩
  ·cases R with
   | nil=>simp at hlen
   | cons s R=>
    exfalso
    have NY:s.1∈Region.ready .any ops listed:=by
     obtain⟨o,ho,_⟩:=hops s (by simp);have hsi:=hlt s (by simp);refine IY.mpr ⟨hsi,(hmem s.1 hsi).mpr ⟨s,by simp,rfl⟩,o,ho,fun e he hbn=>?_⟩;have hlt2:=hon _ o ho e he hbn;cases hl:listed.getD e.on false with
     | true=>rfl
     | false=>
      have hl2:listed.getD e.on true=false:=by
       simp only[Array.getD_eq_getD_getElem?] at hl ⊢;rw[Array.getElem?_eq_getElem (by omega)] at hl ⊢;exact hl
      obtain⟨s',hs',e'⟩:=(hmem e.on (by omega)).mp hl2;rcases List.mem_cons.mp hs' with rfl | h3
      ·omega
      ·have:=List.rel_of_pairwise_cons hsort h3
       omega
    rw[hnil] at NY;simp at NY
  ·obtain⟨h1,h2,o,ho,hpre⟩:=IY.mp hi
   obtain⟨s,hs,rfl⟩:=(hmem i h1).mp h2;obtain⟨l1,l2,rfl⟩:=List.append_of_mem hs
   have Y7:∀q∈l1,CY q s=true:=by
    intro q hq'
    have hqi:q.1 < s.1:=by
     have:=List.pairwise_append.mp hsort;exact this.2.2 q hq' s (by simp)
    rcases NV q (by simp[hq']) s (by simp) hqi with h3 | h3
    ·exfalso
     have h4:=h3.listed NS o ho hpre;have h5:=(hmem q.1 (hlt q (by simp[hq']))).mpr ⟨q,by simp[hq'],rfl⟩;simp only[Array.getD_eq_getD_getElem?] at h4 h5;rw[Array.getElem?_eq_getElem (by have:=hlt q (by simp[hq']);omega)] at h4 h5;simp at h4 h5;rw[h4] at h5;cases h5
    ·exact h3
   have hfr:=ZeJ Y7 hch;obtain⟨si,so,sw⟩:=s;simp only at *;unfold jL at hfr;obtain⟨o',ho',hco⟩:=hops (si,so,sw) (by simp);obtain⟨r1,r2⟩:=hr (si,so,sw) (by simp)
   have Zh:(l1++l2).Pairwise (fun s t=>s.1 < t.1):=by
    have h6:=List.pairwise_append.mp hsort;refine List.pairwise_append.mpr ⟨h6.1,(List.pairwise_cons.mp h6.2.1).2,fun x hx y hy=>h6.2.2 x hx y (by simp[hy])⟩
   have hne:∀q∈l1++l2,q.1≠si:=by
    intro q hq';have h6:=List.pairwise_append.mp hsort;rcases List.mem_append.mp hq' with h7 | h7
    ·have:=h6.2.2 q h7 (si,so,sw) (by simp);simp only at this;omega
    ·have:=(List.pairwise_cons.mp h6.2.1).1 q h7;simp only at this;omega
   have hsub:∀q∈l1++l2,q∈l1++(si,so,sw)::l2:=by
    intro q hq';rcases List.mem_append.mp hq' with h7 | h7<;>simp[h7]
   refine Zn9 hfr ho' hco (hG0.le hE.bU.le) hS hF r1 r2 fun v S1 act' w' E' k0 k1 k2 k3 k4 k5=>?_
   refine Zi0 hG0 hb hon fuel (l1++l2) _ (listed.setIfInBounds si true) _ _ (by simp at hlen ⊢;omega) k0 Zh ?_ (fun q hq'=>hlt q (hsub q hq')) (by simpa using hsz) ?_ (fun q hq'=>hops q (hsub q hq'))
    (fun q hq' t ht=>NV q (hsub q hq') t (hsub t ht)) E' w' act' k1 k2 (fun q hq'=>?_) ⟨hE.bU.trans k3,by have:=hE.jW;omega,fun id hid e=>k5 id (by have:=hE.jW;omega) (by omega) (hE.low id hid e)⟩
   ·intro j hj
    simp only[Array.getD_eq_getD_getElem?,Array.getElem?_setIfInBounds];by_cases hjs:si=j
    ·subst hjs
     rw[if_pos rfl,if_pos (by omega)];simp only[Option.getD_some,Bool.true_eq_false,false_iff,not_exists,not_and];exact fun q hq'=>hne q hq'
    ·rw[if_neg hjs]
     have:=hmem j hj;simp only[Array.getD_eq_getD_getElem?] at this;rw[this];constructor
     ·rintro⟨q,hq',e⟩
      refine⟨q,?_,e⟩;rcases List.mem_append.mp hq' with h7 | h7
      ·simp[h7]
      ·rcases List.mem_cons.mp h7 with rfl | h8
       ·exact(hjs e).elim
       ·simp[h8]
     ·rintro⟨q,hq',e⟩;exact⟨q,hsub q hq',e⟩
   ·intro k o2 hk ho2 e he hbn
    simp only[Array.getD_eq_getD_getElem?,Array.getElem?_setIfInBounds] at hk ⊢;by_cases hks:si=k
    ·subst hks
     rw[ho] at ho2;cases ho2;have h8:=hpre e he hbn;simp only[Array.getD_eq_getD_getElem?] at h8;split
     ·rw[if_pos (by omega)];rfl
     ·exact h8
    ·rw[if_neg hks] at hk
     have h8:=NS k o2 (by simpa[Array.getD_eq_getD_getElem?] using hk) ho2 e he hbn;simp only[Array.getD_eq_getD_getElem?] at h8;split
     ·rename_i h9
      split
      ·rfl
      ·rw[←h9,Array.getElem?_eq_none (by omega)] at h8;simp at h8
     ·exact h8
   ·obtain⟨q1,q2⟩:=hr q (hsub q hq')
    exact⟨k5 _ q2 (by have:=hne q hq';omega) q1,by omega⟩
def Rq(m:Nat)(t:l6):List l6→Bool
 | []=>true
 | s::prev=>(m.testBit s.1 || CY s t) && Rq m t prev
def JK:List Oper→List l6→List l6→List Nat→Nat→Bool
 | o::ops,s::os,prev,ms,i=>o.after.toList.all (fun e=>!Region.binds .any e || decide (e.on < i)) && Rq (za ms o) s prev && Nat.beq s.1 i && JK ops os (s::prev) (ms++[za ms o]) (i+1)
 | [],[],_,_,_=>true
 | _,_,_,_,_=>false
def Gg:List Oper→List aZ→List l6→List Nat→Nat→List l6
 | o::ops,s::os,prev,ms,i=>(i,s,if s.call.isSome=true then (prev.filter fun p=>!(za ms o).testBit p.1 && vZ p.2.1 && !BD p.2.1).map (·.1) else []) ::
   Gg ops os ((i,s,[])::prev) (ms++[za ms o]) (i+1)
 | _,_,_,_,_=>[]
theorem Zdk{m:Nat}{t:l6}:∀{prev:List l6},Rq m t prev=true→∀s∈prev,m.testBit s.1=true∨CY s t=true
 | [],_,s,h=>by simp at h
 | x::prev,h,s,hs=>by
  simp only[Rq,Bool.and_eq_true,Bool.or_eq_true] at h;rcases List.mem_cons.mp hs with rfl | hs
  ·exact h.1
  ·exact Zdk h.2 s hs
theorem ZfK{ops:Array Oper}:∀(l:List Oper) (os prev:List l6) (ms:List Nat) (i:Nat),ops.toList.drop i=l→ms.length=i→FT ops ms→JK l os prev ms i=true→
  os.map (·.1)=List.range' i l.length∧(∀(t:Nat) o,i≤t→ops[t]? = some o→∀e∈o.after,Region.binds .any e=true→e.on < t)∧
   (∀t∈os,∀s∈prev,Ord ops t.1 s.1∨CY s t=true)∧os.Pairwise (fun s t=>Ord ops t.1 s.1∨CY s t=true)
 | [],os,prev,ms,i,hl,_,_,h=>by
  cases os with
  | cons s os=>simp[JK] at h
  | nil=>
   refine⟨rfl,fun t o h1 h2=>?_,by simp,.nil⟩;have h3:=(Array.getElem?_eq_some_iff.mp h2).1;have h4:=List.drop_eq_nil_iff.mp hl;simp at h4;omega
 | o::l,os,prev,ms,i,hl,hms,hmo,h=>by
  cases os with
  | nil=>simp[JK] at h
  | cons s os=>
   simp only[JK,Bool.and_eq_true] at h;obtain⟨⟨⟨h1,h2⟩,h3⟩,h4⟩:=h;have hsi:s.1=i:=Nat.eq_of_beq_eq_true h3
   have hlt:i < ops.size:=by
    have:=congrArg List.length hl;simp at this;omega
   have ho:ops[i]? = some o:=by
    rw[List.drop_eq_getElem_cons (by simpa using hlt)] at hl;simp only[List.cons.injEq] at hl;rw[Array.getElem?_eq_getElem hlt,←hl.1];simp
   have hl2:ops.toList.drop (i+1)=l:=by
    rw[List.drop_eq_getElem_cons (by simpa using hlt)] at hl;simp only[List.cons.injEq] at hl;exact hl.2
   obtain⟨k1,k2,k3,k4⟩:=ZfK l os (s::prev) (ms++[za ms o]) (i+1) hl2 (by simp[hms]) (hmo.push (by rw[hms];exact ho)) h4;refine⟨by simp[k1,hsi,List.range'_succ],fun t o' ht hto e he hb=>?_,fun t ht q hq=>?_,List.pairwise_cons.mpr ⟨fun t ht=>k3 t ht s (by simp),k4⟩⟩
   ·by_cases hti:t=i
    ·subst hti
     rw[ho] at hto;cases hto;have:=(List.all_eq_true.mp h1) e (by simpa using he);simpa[hb] using this
    ·exact k2 t o' (by omega) hto e he hb
   ·rcases List.mem_cons.mp ht with rfl | ht
    ·rcases Zdk h2 q hq with h5 | h5
     ·left;rw[hsi];exact Wv hmo ho _ h5
     ·exact .inr h5
    ·exact k3 t ht q (by simp[hq])
def ZtY(ops:Array Oper)(l:List l6):Bool:=JK ops.toList l [] [] 0
theorem ZmY{P:Program}{n:Nat}{ops:Array Oper}{l:List l6}{id:Nat}{Q:Exit→AF→St→Prop}(hm:P.follows .mixedOrders=true)(hok:ZtY ops l=true)
  (hget:∀s∈l,∃o,ops[s.1]? = some o∧nC P n ops o=some s.2.1) {a:AF} {S:St}
  (h:jL P S.n l [] (fun a S=>Q .normal a S) a ⟨S.n+l.length,S.g⟩) {E:Env} {w:World} {act:Act} (hG:jO P E.H) (hS:bf E S w) (hF:eu E n a act):(Code.region id ops true).wp P (nG E S w n Q) act w:=by
 obtain⟨k1,k2,k3,k4⟩:=ZfK (ops:=ops) ops.toList l [] [] 0 (by simp) rfl (fun i j h=>by simp at h) hok;have hlen:l.length=ops.size:=by have:=congrArg List.length k1;simpa using this
 have hi:∀k (hk:k < l.length),(l[k]).1=k:=by
  intro k hk;have h5:(l.map (·.1))[k]'(by simpa using hk)=(List.range' 0 ops.toList.length)[k]'(by simp;omega):=by simp only[k1]
  simpa using h5
 have hmem:∀s∈l,s.1 < ops.size:=by
  intro s hs;obtain⟨k,hk,e⟩:=List.mem_iff_getElem.mp hs;have:=hi k hk;rw[e] at this;omega
 refine wp_region_any hm ?_;refine Zi0 (S0:=S) (base:=S.n) hG (Nat.le_refl _) (fun i o=>k2 i o (Nat.zero_le _)) ops.size l [] (Array.replicate ops.size false) a _ (by omega) h ?_ ?_ hmem (by simp) ?_ hget ?_ E _ act ((hS.drop S.g (fun _ _ e=>e) _ (by show S.n≤S.n+_;omega)).drew) hF ?_ ?_
 ·have h6:(l.map (·.1)).Pairwise (· < ·):=by rw[k1];exact List.pairwise_lt_range'
  exact List.pairwise_map.mp h6
 ·intro i hi'
  have:(Array.replicate ops.size false).getD i true=false:=by simp[Array.getD_eq_getD_getElem?,hi']
  simp only[this,true_iff];exact⟨l[i]'(by omega),List.getElem_mem _,hi i (by omega)⟩
 ·intro k o hk
  simp only[Array.getD_eq_getD_getElem?] at hk;by_cases hks:k < ops.size
  ·simp[hks] at hk
  ·simp[hks] at hk
 ·intro s hs t ht hlt
  obtain⟨k,hk,e1⟩:=List.mem_iff_getElem.mp hs;obtain⟨m,hm',e2⟩:=List.mem_iff_getElem.mp ht;have q1:=hi k hk;have q2:=hi m hm';rw[e1] at q1;rw[e2] at q2;have:=List.pairwise_iff_getElem.mp k4 k m hk hm' (by omega);rw[e1,e2] at this;exact this
 ·intro s hs
  have:=hmem s hs;exact⟨hS.fresh _ (by omega),by show S.n+s.1 < S.n+l.length;omega⟩
 ·exact⟨⟨rfl,rfl,rfl,Nat.le_refl _,fun _ _ _=>rfl,fun id l k hk hl=>.inr ⟨id,l,k,hk,hl,rfl⟩,Env.le_refl _,fun _ _ e=>.inl e⟩,by show S.n≤S.n+_;omega,fun _ _ e=>e⟩
def nT(P:Program)(f:FuncId)(args:List AV)(S:St)(K:AV→St→Prop)(X:Value→St→Prop):Prop:=
 tQ P f∧∀E w vals,jO P E.H→bf E S w→kJ E args vals→
  Calls P f vals w fun e w'=>∃S' E',bf E' S' w'∧Ev E S w E' S' w'∧((∃v r,e=.returned v∧K r S'∧aK E' r v)∨∃v,e=.panicked [{ v,recovered:=false }]∧X v S')
theorem nT.mono{P:Program}{f:FuncId}{args:List AV}{S:St}{K K':AV→St→Prop}{X X':Value→St→Prop}(h:nT P f args S K X)(hk:∀r S',K r S'→K' r S')(hx:∀v S',X v S'→X' v S'):nT P f args S K' X':=
 ⟨h.1,fun E w vals h0 h1 h2=>(h.2 E w vals h0 h1 h2).mono fun e w' ⟨S',E',a,b,c⟩=>⟨S',E',a,b,c.imp (fun⟨v,r,x,y,z⟩=>⟨v,r,x,hk _ _ y,z⟩) fun⟨v,x,y⟩=>⟨v,x,hx _ _ y⟩⟩⟩
theorem nT.H6{P:Program}{f:FuncId}{args:List AV}{S:St}{K:AV→St→Prop}{X:Value→St→Prop}(h:aN P f args S K):nT P f args S K X:=
 ⟨h.1,fun E w vals h0 h1 h2=>(h.2 E w vals h0 h1 h2).mono fun e w' ⟨v,r,S',E',a,b,c,d,f⟩=>⟨S',E',c,f,.inl ⟨v,r,a,b,d⟩⟩⟩
def pn(v:Value):Exit:=.panic [{ v,recovered:=false }]
def jP(P:Program)(base:Nat)(p:Option aI):List aZ→Nat→(Exit→AF→St→Prop)→AF→St→Prop
 | [],_,Q,a,S=>match p with
  | none=>Q .normal a S
  | some x=>match x.ev a with
   | .v (.iface t y)=>Q (pn (.iface t y)) a S
   | _=>False
 | o::os,i,Q,a,S=>
  match gd o a with
  | none=>False
  | some false=>jP P base p os (i+1) Q (a.put o.dst (.aO [])) S
  | some true=>match o.call with
   | some (G,xs)=>match G.ev a with
    | .aP f first cap=>nT P f (first++xs.map (·.ev a)++cap) S (fun r S'=>jP P base p os (i+1) Q (a.put o.dst r) S') fun v S'=>Q (pn v) a S'
    | _=>False
   | none=>match (ex o.op a).run S (base+i) with
    | some (v,S')=>jP P base p os (i+1) Q (a.put o.dst v) S'
    | none=>sD o.op a fun v=>jP P base p os (i+1) Q (a.put o.dst v) S
theorem Md{P:Program}{base:Nat}{p:Option aI}:∀(os:List aZ) (i:Nat) {Q Q':Exit→AF→St→Prop} {a:AF} {S:St},(∀e a S,Q e a S→Q' e a S)→jP P base p os i Q a S→jP P base p os i Q' a S
 | [],i,Q,Q',a,S,hk,h=>by
  cases p with
  | none=>exact hk _ _ _ h
  | some x=>
   simp only[jP] at h ⊢;split at h
   ·exact hk _ _ _ h
   ·exact h.elim
 | o::os,i,Q,Q',a,S,hk,h=>by
  simp only[jP] at h ⊢;split at h
  ·exact h.elim
  ·exact Md os (i+1) hk h
  ·split at h
   ·split at h
    ·exact h.mono (fun r S' h'=>Md os (i+1) hk h') fun v S' h'=>hk _ _ _ h'
    ·exact h.elim
   ·split at h
    ·exact Md os (i+1) hk h
    ·exact Qf (fun v hv=>Md os (i+1) hk hv) h
theorem I8{P:Program}{base:Nat}{Q:Exit→AF→St→Prop}:∀(os:List aZ) (i:Nat) {a:AF} {S:St},RG P base os i (fun a S=>Q .normal a S) a S→jP P base none os i Q a S
 | [],i,a,S,h=>h
 | o::os,i,a,S,h=>by
  simp only[RG] at h;simp only[jP];cases hg:gd o a with
  | none=>rw[hg] at h;exact h
  | some b=>
   rw[hg] at h;cases b with
   | false=>exact I8 os (i+1) h
   | true=>
    simp only at h ⊢;cases hc:o.call with
    | some p=>
     rw[hc] at h;obtain⟨G,xs⟩:=p;simp only at h ⊢;cases hG:G.ev a with
     | aP f first cap=>rw[hG] at h;exact .H6 (h.mono fun r S' h'=>I8 os (i+1) h')
     | _=>rw[hG] at h;exact h
    | none=>
     rw[hc] at h;simp only at h ⊢;cases hr:(ex o.op a).run S (base+i) with
     | some p=>rw[hr] at h;exact I8 os (i+1) h
     | none=>rw[hr] at h;exact Qf (fun v hv=>I8 os (i+1) hv) h
theorem Zji{P:Program}{n:Nat}{o:Oper}{a:AF}{S:St}(hd:∀d,o.dst=some d→d < n){f:FuncId}{args:List AV}{K:AV→St→Prop}{X:Value→St→Prop}(h:nT P f args S K X)
  {E:Env} {w:World} {act:Act} (hG:jO P E.H) (hS:bf E S w) (hF:eu E n a act) {vals:Array Value} (hv:kJ E args vals) (hrun:(execOp act.eval o).run P w=.ok (.enter f vals) w)
  {KK:Act→World→Prop} {Q:Exit→Act→World→Prop} (hK:∀r S' act' w' E',K r S'→bf E' S' w'→eu E' n (a.put o.dst r) act'→Ev E S w E' S' w'→KK act' w')
  (hX:∀v S' w' E',X v S'→bf E' S' w'→eu E' n a act→Ev E S w E' S' w'→Q (pn v) act w'):o.wp P act w KK Q:=by
 unfold Oper.wp;rw[hrun,Oper.upon_enter];refine(h.2 E w vals hG hS hv).mono ?_;rintro e w' ⟨S',E',hS',hev,⟨v,r,rfl,hk,hr⟩ | ⟨v,rfl,hx⟩⟩
 ·exact hK r S' _ w' E' hk hS' ((hF.mono hev.bU.le).put hd hr) hev
 ·exact hX v S' w' E' hx hS' (hF.mono hev.bU.le) hev
theorem Wx{P:Program}{n:Nat}{ops:Array Oper}{base:Nat}{p:Option aI}{Q:Exit→AF→St→Prop}{E0:Env}{S0:St}{w0:World}(hG0:jO P E0.H)(hb:S0.n≤base) :
  ∀(os:List aZ) (i:Nat) (a:AF) (S:St),(∀k (hk:k < os.length),∃o,ops[i+k]? = some o∧nC P n ops o=some (os[k]))→
   (∀X,p=some X→∃o x,ops[i+os.length]? = some o∧o.op=.panic x∧aV x=some X∧o.guard=none)→jP P base p os i Q a S→
   ∀E w act,bf E S w→eu E n a act→(∀k,i≤k→k < i+os.length→E.ρ (base+k)=none∧base+k < S.n)→Ev E0 S0 w0 E S w→
    wpOps P ops (nG E0 S0 w0 n Q) (List.range' i (os.length+p.toList.length)) act w
 | [],i,a,S,_,ht,h,E,w,act,hS,hF,_,hE=>by
  cases p with
  | none=>exact⟨a,S,E,h,hS,hF,hE⟩
  | some X=>
   obtain⟨o,x,ho,hop,hx,hg⟩:=ht X rfl;simp only[jP] at h;simp only[List.length_nil,Nat.zero_add,Option.toList_some,List.length_cons,List.range'_succ,List.range'_zero,wpOps];simp only[List.length_nil,Nat.add_zero] at ho;rw[ho];simp only[Region.wanted,hg];split at h
   ·rename_i t y hxe
    have rx:=bQ hF hx;rw[hxe] at rx;have e:=rx.jC;rw[if_pos trivial];left;unfold Oper.wp
    have hrun:(execOp act.eval o).run P w=.halt (.panic (.iface t y)) w:=by
     simp only[execOp,hop,e,Instr.panic];rfl
    rw[hrun,Oper.upon_panic];exact⟨a,S,E,h,hS,hF,hE⟩
   ·exact h.elim
 | ao::os,i,a,S,hc,ht,h,E,w,act,hS,hF,hr,hE=>by
  obtain⟨o,ho,hco⟩:=hc 0 (by simp);simp only[Nat.add_zero,List.getElem_cons_zero] at ho hco;obtain⟨hd,hdst,hgd,hor⟩:=FC hco
  have hc':∀k (hk:k < os.length),∃o,ops[i+1+k]? = some o∧nC P n ops o=some (os[k]):=by
   intro k hk;obtain⟨o',h1,h2⟩:=hc (k+1) (by simpa using hk);exact⟨o',by rw[←h1];congr 1;omega,by simpa using h2⟩
  have ht':∀X,p=some X→∃o x,ops[i+1+os.length]? = some o∧o.op=.panic x∧aV x=some X∧o.guard=none:=by
   intro X hX;obtain⟨o',x,h1,h2⟩:=ht X hX;refine⟨o',x,?_,h2⟩;rw[←h1];congr 1;simp only[List.length_cons];omega
  have hr0:=hr i (Nat.le_refl _) (by simp);have hlen:(ao::os).length+p.toList.length=(os.length+p.toList.length)+1:=by simp only[List.length_cons];omega
  rw[hlen];simp only[List.range'_succ,wpOps,ho];simp only[jP] at h;split at h
  ·exact h.elim
  ·rename_i hg
   rw[z8 hF hgd hg];simp only[Bool.false_eq_true,if_false];rw[hdst] at h;exact Wx hG0 hb os (i+1) _ S hc' ht' h E w _ hS (hF.put hd L8) (fun k h1 h2=>hr k (by omega) (by simp;omega)) hE
  ·rename_i hg
   rw[z8 hF hgd hg];simp only[if_true];left;rw[hdst] at h
   have next:∀{r:AV} {S':St} {act':Act} {w':World} {E':Env},jP P base p os (i+1) Q (a.put o.dst r) S'→bf E' S' w'→eu E' n (a.put o.dst r) act'→Ev E0 S0 w0 E' S' w'→
     (∀k,i < k→k < i+(os.length+1)→E'.ρ (base+k)=none∧base+k < S'.n)→wpOps P ops (nG E0 S0 w0 n Q) (List.range' (i+1) (os.length+p.toList.length)) act' w':=
    fun h1 h2 h3 h4 h5=>Wx hG0 hb os (i+1) _ _ hc' ht' h1 _ _ _ h2 h3 (fun k a1 a2=>h5 k (by omega) (by omega)) h4
   have hcall:∀{f:FuncId} {args:List AV} {vals:Array Value},nT P f args S (fun r S'=>jP P base p os (i+1) Q (a.put o.dst r) S') (fun v S'=>Q (pn v) a S')→kJ E args vals→
     (execOp act.eval o).run P w=.ok (.enter f vals) w→o.wp P act w (wpOps P ops (nG E0 S0 w0 n Q) (List.range' (i+1) (os.length+p.toList.length))) (nG E0 S0 w0 n Q):=by
    intro f args vals h1 h2 h3;refine Zji hd h1 (hG0.le hE.bU.le) hS hF h2 h3 (fun r S' act' w' E' k1 k2 k3 k4=>next k1 k2 k3 (hE.trans k4) fun k a1 a2=>?_) (fun v S' w' E' k1 k2 k3 k4=>⟨a,S',E',k1,k2,k3,hE.trans k4⟩);obtain⟨b1,b2⟩:=hr k (by omega) (by simp;omega);exact⟨k4.low _ b2 b1,Nat.lt_of_lt_of_le b2 k4.jW⟩
   rcases hor with⟨q,hp1,hp2⟩ | ⟨hp1,hop⟩
   ·
    rw[hp1] at h;obtain⟨G,xs⟩:=q;simp only at h;unfold Df at hp2;split at hp2
    ·rename_i g ys ts xg
     simp only[Option.bind_eq_some_iff,Option.map_eq_some_iff,Prod.mk.injEq] at hp2;obtain⟨G',hG,XS,AU,rfl,rfl⟩:=hp2;have rg:=bQ hF hG;split at h
     ·rename_i f first cap AX
      rw[AX] at rg;generalize hev:act.eval g=gv at rg;cases rg with
      | aP _ _ _ fv cv hn hm hf hcc=>
       have hx:=IJ hF AU;have hargs:kJ E (first++XS.map (·.ev a)++cap) (fv++ys.map act.eval++cv):=(kJ.append ⟨hn,hf⟩ hx).append ⟨hm,hcc⟩;refine hcall h hargs ?_;simp only[execOp,xg,Sem.run_bind,Fv act.eval g ys ts o.type hev,Result.andThen_ok,invoke];exact Fx h.1 _ _
     ·exact h.elim
    ·cases hp2
   ·rw[hp1] at h
    simp only at h;split at h
    ·rename_i v S' hex
     have hok:=Jq (P:=P) (n:=n) (o:=o) hd hop hex;have hn:=Eff.Pk hex;refine hok E w act hS hF hr0.1 hr0.2 _ _ fun act' w' E' k1 k2 k3 k4=>next h k1 k2 ⟨hE.bU.trans k3,by have:=hE.jW;omega,fun id hid e=>k4.2 id (by omega) (hE.low id hid e)⟩ fun k a1 a2=>?_
     ·obtain⟨b1,b2⟩:=hr k (by omega) (by simp;omega)
      exact⟨k4.2 _ (by omega) b1,by omega⟩
    ·obtain⟨b,g1,g2⟩:=QK hop h hF w
     unfold Oper.wp;rw[g2,Oper.upon_value];exact next g1 hS (hF.put hd (.v _ rfl)) hE fun k a1 a2=>hr k (by omega) (by simp;omega)
inductive AC where
 | skip
 | reg (draw:Option (List (List Bool))) (os:List aZ)
 | xk (l:List l6)
 | seq (x y:AC)
 | cond (c:aI) (x y:AC)
 | block (id:Nat) (x:AC)
 | loop (x:AC)
 | exit (id:Nat)
 | ret
 | scp (x:AC)
 | lU (os:List aZ) (p:Option aI)
 | bad
abbrev sq(os:List aZ)(x:AC):AC:=.seq (.reg none os) x
def Zu4:List Bool→List Bool
 | []=>[]
 | b::bs=>match b,Zu4 bs with
  | false,[]=>[]
  | b,bs=>b::bs
def Zu5:List (List Bool)→List (List Bool)
 | []=>[]
 | b::bs=>match b,Zu5 bs with
  | [],[]=>[]
  | b,bs=>b::bs
def Zvv:List Oper→List aZ→List (Nat×aZ)→List Nat→Nat→List (List Bool)
 | o::ops,s::os,prev,ms,i=>Zu4 (prev.map fun p=>!(xK p.2 && xK s) && !(za ms o).testBit p.1)::Zvv ops os ((i,s)::prev) (ms++[za ms o]) (i+1)
 | _,_,_,_,_=>[]
def ZvD(ops:Array Oper)(os:List aZ):List (List Bool):=Zu5 (Zvv ops.toList os [] [] 0)
def Et(draw:Bool)(ops:Array Oper)(os:List aZ):Option (Option (List (List Bool))×List aZ):=
 if draw=true then (if Q5 ops os (ZvD ops os)=true then some (some (ZvD ops os),os) else none) else some (none,os)
def Da:Option (Option (List (List Bool))×List aZ)→AC
 | some p=>.reg p.1 p.2
 | none=>.bad
def dQ(R:Program→Nat→Bool→Array Oper→AC)(P:Program)(n:Nat):Code→Option AC
 | .skip=>some .skip
 | .region _ ops draw=>some (R P n draw ops)
 | .seq x y=>(dQ R P n x).bind fun X=>(dQ R P n y).map fun Y=>.seq X Y
 | .cond c x y=>(aV c).bind fun C=>(dQ R P n x).bind fun X=>(dQ R P n y).map fun Y=>.cond C X Y
 | .block id x=>(dQ R P n x).map (.block id)
 | .loop x=>(dQ R P n x).map .loop
 | .exit id=>some (.exit id)
 | .ret=>some .ret
 | .label _=>some .skip
 | .scope x=>(dQ R P n x).map .scp
 | _=>some .bad
def wB(P:Program)(n:Nat)(draw:Bool)(ops:Array Oper):AC:=Da ((ops.toList.mapM (nC P n ops)).bind (Et draw ops))
def comp(P:Program)(n:Nat)(c:Code):Option AC:=dQ wB P n c
def J3(P:Program)(n:Nat)(draw:Bool)(ops:Array Oper):AC:= if draw=true then (match ops.toList.mapM (nC P n ops) with | some os=>if ZtY ops (Gg ops.toList os [] [] 0)=true then .xk (Gg ops.toList os [] [] 0) else wB P n draw ops | none=>wB P n draw ops) else wB P n draw ops
def RH(P:Program)(n:Nat)(c:Code):Option AC:=dQ J3 P n c
def BA(P:Program)(n:Nat)(ops:Array Oper):List Oper→AC
 | []=>.bad
 | o::rest=>match o.op,o.guard with
  | .panic x,none=>match aV x,rest.reverse.mapM (nC P n ops) with
   | some X,some os=>.lU os (some X)
   | _,_=>.bad
  | _,_=>.bad
def lU(P:Program)(n:Nat)(draw:Bool)(ops:Array Oper):AC:= if draw=true then J3 P n draw ops else match ops.toList.mapM (nC P n ops) with | some os=>if os.any (fun o=>o.call.isSome)=true then .lU os none else .reg none os | none=>BA P n ops ops.toList.reverse
def yC(P:Program)(n:Nat)(c:Code):Option AC:=dQ lU P n c
def nR(K:AF→St→Prop)(Q:Exit→AF→St→Prop):Exit→AF→St→Prop
 | .normal,a,S=>K a S
 | e,a,S=>Q e a S
def uo(id:Nat)(Q:Exit→AF→St→Prop):Exit→AF→St→Prop
 | .exit id',a,S=>if id'=id then Q .normal a S else Q (.exit id') a S
 | e,a,S=>Q e a S
def yt(Q:Exit→AF→St→Prop):Exit→AF→St→Prop
 | .goto _,_,_=>False
 | e,a,S=>Q e a S
def AW(P:Program):AC→(Exit→AF→St→Prop)→AF→St→Prop
 | .skip,Q,a,S=>Q .normal a S
 | .reg none os,Q,a,S=>RG P S.n os 0 (fun a S=>Q .normal a S) a ⟨S.n+os.length,S.g⟩
 | .reg (some fr) os,Q,a,S=>RD P S.n os fr 0 [] (fun a S=>Q .normal a S) a ⟨S.n+os.length,S.g⟩
 | .xk l,Q,a,S=>jL P S.n l [] (fun a S=>Q .normal a S) a ⟨S.n+l.length,S.g⟩
 | .lU os p,Q,a,S=>jP P S.n p os 0 Q a ⟨S.n+os.length,S.g⟩
 | .seq x y,Q,a,S=>AW P x (nR (AW P y Q) Q) a S
 | .cond c x y,Q,a,S=>match c.ev a with
  | .v (.bool b)=>if b=true then AW P x Q a S else AW P y Q a S
  | _=>False
 | .block id x,Q,a,S=>AW P x (uo id Q) a S
 | .loop x,Q,a,S=>∃I:Nat→AF→St→Prop,(∃m,I m a S)∧∀m a S,I m a S→AW P x (nR (fun a' S'=>∃m',m' < m∧I m' a' S') Q) a S
 | .exit id,Q,a,S=>Q (.exit id) a S
 | .ret,Q,a,S=>Q .ret a S
 | .scp x,Q,a,S=>AW P x (yt Q) a S
 | .bad,_,_,_=>False
theorem Bp{α β:Type}{f:α→Option β}:∀{l:List α} {ys:List β},l.mapM f=some ys→ys.length=l.length∧∀k (hk:k < ys.length),∃x,l[k]? = some x∧f x=some (ys[k])
 | [],ys,h=>by simp at h;subst h;simp
 | x::l,ys,h=>by
  simp only[List.mapM_cons,Option.bind_eq_bind,Option.bind_eq_some_iff,Option.pure_def,Option.some.injEq] at h;obtain⟨y,hy,zs,hz,rfl⟩:=h;obtain⟨h1,h2⟩:=Bp hz;refine⟨by simp[h1],fun k hk=>?_⟩;cases k with
  | zero=>exact⟨x,rfl,hy⟩
  | succ k=>simpa using h2 k (by simpa using hk)
theorem bf.reserve{E:Env}{S:St}{w:World}(h:bf E S w)(m:Nat):bf E ⟨S.n+m,S.g⟩ w:=h.drop S.g (fun _ _ e=>e) _ (by omega)
theorem nG.mono{E0:Env}{S0:St}{w0:World}{n:Nat}{Q Q':Exit→AF→St→Prop}(hq:∀e a S,Q e a S→Q' e a S){e:Exit}{act:Act}{w:World}(k:nG E0 S0 w0 n Q e act w):nG E0 S0 w0 n Q' e act w:=
 let ⟨a,S,E,h1,h2⟩:=k;⟨a,S,E,hq _ _ _ h1,h2⟩
def Gf(P:Program)(n:Nat)(R:Program→Nat→Bool→Array Oper→AC):Prop:=
 ∀(id:Nat) (ops:Array Oper) (draw:Bool) (Q:Exit→AF→St→Prop) (a:AF) (S:St),AW P (R P n draw ops) Q a S→KH P n (.region id ops draw) Q a S
theorem Cx{P:Program}(hm:P.follows .mixedOrders=true){n:Nat}:Gf P n wB:=by
 intro id ops dr Q a S h E w act hG hS hF;unfold wB at h;cases hq:(ops.toList.mapM (nC P n ops)).bind (Et dr ops) with
 | none=>rw[hq] at h;simp only[Da,AW] at h
 | some p=>
  rw[hq] at h;simp only[Da] at h;simp only[Option.bind_eq_some_iff] at hq;obtain⟨ys,hy,hc⟩:=hq;obtain⟨h1,h2⟩:=Bp hy;have hlen:ys.length=ops.size:=by rw[h1];simp
  obtain⟨draw,os⟩:=p;unfold Et at hc;split at hc
  ·rename_i hdr
   subst hdr;split at hc
   ·rename_i hok
    simp only[Option.some.injEq,Prod.mk.injEq] at hc;obtain⟨rfl,rfl⟩:=hc;simp only[AW] at h;exact Zjt hm hy hok ⟨hlen,fun k hk=>by obtain⟨o,a1,a2⟩:=h2 k hk;exact⟨o,by simpa using a1,a2⟩⟩ h hG hS hF
   ·cases hc
  ·rename_i hdr
   simp only[Bool.not_eq_true] at hdr;subst hdr;simp only[Option.some.injEq,Prod.mk.injEq] at hc;obtain⟨rfl,rfl⟩:=hc;simp only[AW] at h;refine wp_region ?_
   have:=WY (P:=P) (n:=n) (ops:=ops) (base:=S.n) (E0:=E) (S0:=S) (w0:=w) hG (Nat.le_refl _) ys 0 a ⟨S.n+ys.length,S.g⟩ (fun k hk=>by
    obtain⟨o,a1,a2⟩:=h2 k hk;exact⟨o,by rw[Nat.zero_add];simpa using a1,a2⟩) h E w act (hS.drop S.g (fun _ _ e=>e) _ (by show S.n≤S.n+_;omega)) hF (fun k _ hk=>⟨hS.fresh _ (by omega),by show S.n+k < S.n+ys.length;omega⟩)
    ⟨⟨rfl,rfl,rfl,Nat.le_refl _,fun _ _ _=>rfl,fun id l k hk hl=>.inr ⟨id,l,k,hk,hl,rfl⟩,Env.le_refl _,fun _ _ e=>.inl e⟩,by show S.n≤S.n+_;omega,fun _ _ e=>e⟩
   rw[List.range_eq_range',←hlen];exact this
theorem ZeO{ops:Array Oper}{os0:List aZ}{f:Oper→Option aZ}(hos:∀k (hk:k < os0.length),∃o,ops[k]? = some o∧f o=some os0[k]):∀(l:List Oper) (os:List aZ) (prev:List l6) (ms:List Nat) (i:Nat),os0.drop i=os→∀s∈Gg l os prev ms i,∃o,ops[s.1]? = some o∧f o=some s.2.1
 | [],os,prev,ms,i,_,s,hs=>by simp[Gg] at hs
 | o::l,[],prev,ms,i,_,s,hs=>by simp[Gg] at hs
 | o::l,x::os,prev,ms,i,hd,s,hs=>by
  have hi:i < os0.length:=by
   have:=congrArg List.length hd;simp at this;omega
  rw[List.drop_eq_getElem_cons hi] at hd;simp only[List.cons.injEq] at hd;simp only[Gg,List.mem_cons] at hs;rcases hs with rfl | hs
  ·obtain⟨o',h1,h2⟩:=hos i hi
   exact⟨o',h1,by rw[h2,hd.1]⟩
  ·exact ZeO hos l os _ _ (i+1) hd.2 s hs
theorem Xp{P:Program}(hm:P.follows .mixedOrders=true){n:Nat}:Gf P n J3:=by
 intro id ops dr Q a S h E w act hG hS hF;unfold J3 at h;split at h
 ·rename_i hdr
  split at h
  ·rename_i os hos
   split at h
   ·rename_i hok
    subst hdr;obtain⟨h1,h2⟩:=Bp hos;simp only[AW] at h;exact ZmY hm hok (ZeO (fun k hk=>by obtain⟨o,a1,a2⟩:=h2 k hk;exact⟨o,by simpa using a1,a2⟩) _ _ _ _ 0 (by simp)) h hG hS hF
   ·exact Cx hm id ops dr Q a S h E w act hG hS hF
  ·exact Cx hm id ops dr Q a S h E w act hG hS hF
 ·exact Cx hm id ops dr Q a S h E w act hG hS hF
theorem Mi{P:Program}{n id:Nat}{ops:Array Oper}{Q:Exit→AF→St→Prop}{a:AF}{S:St}{os:List aZ}{p:Option aI}(hc:∀k (hk:k < os.length),∃o,ops[k]? = some o∧nC P n ops o=some (os[k]))
  (ht:∀X,p=some X→∃o x,ops[os.length]? = some o∧o.op=.panic x∧aV x=some X∧o.guard=none) (hs:ops.size=os.length+p.toList.length)
  (h:jP P S.n p os 0 Q a ⟨S.n+os.length,S.g⟩) {E:Env} {w:World} {act:Act} (hG:jO P E.H) (hS:bf E S w) (hF:eu E n a act):wpOps P ops (nG E S w n Q) (List.range ops.size) act w:=by
 rw[List.range_eq_range',hs]
 exact Wx (P:=P) (n:=n) (ops:=ops) (base:=S.n) (E0:=E) (S0:=S) (w0:=w) hG (Nat.le_refl _) os 0 a ⟨S.n+os.length,S.g⟩ (fun k hk=>by rw[Nat.zero_add];exact hc k hk) (fun X hX=>by rw[Nat.zero_add];exact ht X hX) h E w act
  (hS.drop S.g (fun _ _ e=>e) _ (by show S.n≤S.n+_;omega)) hF (fun k _ hk=>⟨hS.fresh _ (by omega),by show S.n+k < S.n+os.length;omega⟩)
  ⟨⟨rfl,rfl,rfl,Nat.le_refl _,fun _ _ _=>rfl,fun id l k hk hl=>.inr ⟨id,l,k,hk,hl,rfl⟩,Env.le_refl _,fun _ _ e=>.inl e⟩,by show S.n≤S.n+_;omega,fun _ _ e=>e⟩
structure XIs(P:Program)(n:Nat)(ops:Array Oper)(os:List aZ)(p:Option aI):Prop where
 hc:∀k (hk:k < os.length),∃o,ops[k]? = some o∧nC P n ops o=some (os[k])
 ht:∀X,p=some X→∃o x,ops[os.length]? = some o∧o.op=.panic x∧aV x=some X∧o.guard=none
 hs:ops.size=os.length+p.toList.length
theorem ZfQ{P:Program}{n:Nat}{ops:Array Oper}{os:List aZ}{p:Option aI}(h:BA P n ops ops.toList.reverse=.lU os p):XIs P n ops os p:=by
 cases hr:ops.toList.reverse with
 | nil=>rw[hr] at h;simp[BA] at h
 | cons o rest=>
  rw[hr] at h;simp only[BA] at h;split at h
  ·rename_i x hop hg
   split at h
   ·rename_i X os' hX hos
    simp only[AC.lU.injEq] at h;obtain⟨rfl,rfl⟩:=h
    have hl:ops.toList=rest.reverse++[o]:=by
     have:=congrArg List.reverse hr;simpa using this
    obtain⟨h1,h2⟩:=Bp hos;have hget:∀k,ops[k]? = (rest.reverse++[o])[k]?:=fun k=>by rw[←hl,Array.getElem?_toList]
    refine⟨fun k hk=>?_,fun X' hX'=>?_,?_⟩
    ·obtain⟨o',a1,a2⟩:=h2 k hk
     refine⟨o',?_,a2⟩;rw[hget,List.getElem?_append_left (by omega)];exact a1
    ·cases hX'
     refine⟨o,x,?_,hop,hX,hg⟩;rw[hget,List.getElem?_append_right (by omega),h1];simp
    ·have:=congrArg List.length hl
     simp at this ⊢;rw[h1];simpa using this
   ·cases h
  ·cases h
theorem ZrM{P:Program}(hm:P.follows .mixedOrders=true){n:Nat}:Gf P n lU:=by
 intro id ops dr Q a S h E w act hG hS hF;unfold lU at h;split at h
 ·rename_i hdr
  subst hdr;exact Xp hm id ops true Q a S h E w act hG hS hF
 ·rename_i hdr
  simp only[Bool.not_eq_true] at hdr;subst hdr;split at h
  ·rename_i os hos
   obtain⟨h1,h2⟩:=Bp hos;split at h
   ·simp only[AW] at h
    exact wp_region (Mi (id:=id) (p:=none) (fun k hk=>by obtain⟨o,a1,a2⟩:=h2 k hk;exact⟨o,by simpa using a1,a2⟩) (fun _ e=>by cases e) (by rw[h1];simp) h hG hS hF)
   ·refine Cx hm id ops false Q a S ?_ E w act hG hS hF
    simp only[wB,hos,Option.bind_some,Et,Bool.false_eq_true,if_false,Da];exact h
  ·cases hl:BA P n ops ops.toList.reverse with
   | lU os p=>
    rw[hl] at h;have x:=ZfQ hl;simp only[AW] at h;exact wp_region (Mi (id:=id) x.hc x.ht x.hs h hG hS hF)
   | bad=>rw[hl] at h;simp only[AW] at h
   | _=>
    exfalso;cases hr:ops.toList.reverse with
    | nil=>rw[hr] at hl;simp[BA] at hl
    | cons o rest=>
     rw[hr] at hl;simp only[BA] at hl;split at hl<;>(try split at hl)<;>cases hl
theorem IE{R:Program→Nat→Bool→Array Oper→AC}{P:Program}{n id:Nat}{ops:Array Oper}{draw:Bool}{ac:AC}(h:dQ R P n (.region id ops draw)=some ac):ac=R P n draw ops:=by
 simp only[dQ,Option.some.injEq] at h;exact h.symm
theorem V7{P:Program}(hm:P.follows .mixedOrders=true){n:Nat}{R:Program→Nat→Bool→Array Oper→AC}(hR:Gf P n R):∀(c:Code) (ac:AC),dQ R P n c=some ac→∀(Q:Exit→AF→St→Prop) (a:AF) (S:St),AW P ac Q a S→KH P n c Q a S:=by
 intro c;induction c with
 | skip=>
  intro ac hc Q a S h E w act hG hS hF;simp only[dQ,Option.some.injEq] at hc;subst hc;exact wp_skip ⟨a,S,E,h,hS,hF,.refl _ _ _⟩
 | label l=>
  intro ac hc Q a S h E w act hG hS hF;simp only[dQ,Option.some.injEq] at hc;subst hc;exact wp_label ⟨a,S,E,h,hS,hF,.refl _ _ _⟩
 | region id ops dr=>
  intro ac hc Q a S h;rw[IE hc] at h;exact hR id ops dr Q a S h
 | seq c1 c2 eD ihy=>
  intro ac hc Q a S h E w act hG hS hF;simp only[dQ,Option.map_eq_some_iff,Option.bind_eq_some_iff] at hc;obtain⟨X,hX,Y,hY,rfl⟩:=hc;simp only[AW] at h;refine wp_seq (wp_mono (eD X hX _ a S h E w act hG hS hF) fun e act' w' hp=>?_);obtain⟨a',S',E',q,s,r,ev⟩:=hp;cases e with
  | normal=>exact wp_mono (ihy Y hY Q a' S' q E' w' act' (hG.le ev.bU.le) s r) fun e jF w2 hp2=>hp2.trans ev
  | _=>exact⟨a',S',E',q,s,r,ev⟩
 | cond c0 c1 c2 eD ihy=>
  intro ac hc Q a S h E w act hG hS hF;simp only[dQ,Option.map_eq_some_iff,Option.bind_eq_some_iff] at hc;obtain⟨C',hC,X,hX,Y,hY,rfl⟩:=hc;simp only[AW] at h;split at h
  ·rename_i b hb
   have r:=bQ hF hC;rw[hb] at r;refine wp_cond (t:=b) r.jC ?_;cases b with
   | true=>exact eD X hX Q a S (by simpa using h) E w act hG hS hF
   | false=>exact ihy Y hY Q a S (by simpa using h) E w act hG hS hF
  ·exact h.elim
 | block id' c1 eD=>
  intro ac hc Q a S h E w act hG hS hF;simp only[dQ,Option.map_eq_some_iff] at hc;obtain⟨X,hX,rfl⟩:=hc;simp only[AW] at h;refine wp_block (wp_mono (eD X hX _ a S h E w act hG hS hF) fun e act' w' hp=>?_);obtain⟨a',S',E',q,s,r,ev⟩:=hp;cases e with
  | exit j=>
   simp only[uo] at q;simp only[Exit.inBlock];split at q
   ·rename_i hj;rw[if_pos hj];exact⟨a',S',E',q,s,r,ev⟩
   ·rename_i hj;rw[if_neg hj];exact⟨a',S',E',q,s,r,ev⟩
  | _=>exact⟨a',S',E',q,s,r,ev⟩
 | loop c1 eD=>
  intro ac hc Q a S h E w act hG hS hF;simp only[dQ,Option.map_eq_some_iff] at hc;obtain⟨X,hX,rfl⟩:=hc;simp only[AW] at h;obtain⟨I,⟨m0,hI0⟩,NZ⟩:=h;intro b k cs
  have key:∀m,∀a S E' w' act',jO P E'.H→I m a S→bf E' S w'→eu E' n a act'→Ev E (⟨S.n,S.g⟩:St) w' E' S w'∨True→
    ∃e a' w2,nG E' S w' n Q e a' w2∧Arrives P (lone (b.at act' (.code c1::.inLoop c1::k)) cs w') b k cs e a' w2:=by
   intro m;induction m using Nat.strongRecOn with
   | _ m ih=>
    intro a S E' w' act' hG' hI hS' hF' _;obtain⟨e,qP,w1,hp,harr⟩:=eD X hX _ a S (NZ m a S hI) E' w' act' hG' hS' hF' b (.inLoop c1::k) cs;obtain⟨a1,S1,E1,q,s,r,ev⟩:=hp;cases e with
    | normal=>
     obtain⟨m',hlt,hI'⟩:=q;obtain⟨e2,jF,w2,hp2,NQ⟩:=ih m' hlt a1 S1 E1 w1 qP (hG'.le ev.bU.le) hI' s r (.inr trivial);exact⟨e2,jF,w2,hp2.trans ev,.of_steps (Steps.trans harr (.one step_inLoop)) NQ⟩
    | exit id=>exact⟨_,qP,w1,⟨a1,S1,E1,q,s,r,ev⟩,.pass (x:=.inLoop c1) rfl (fun _ _=>.inl (by simp)) harr⟩
    | goto l=>exact⟨_,qP,w1,⟨a1,S1,E1,q,s,r,ev⟩,.pass (x:=.inLoop c1) rfl (fun _ _=>.inl (by simp)) harr⟩
    | ret=>exact⟨_,qP,w1,⟨a1,S1,E1,q,s,r,ev⟩,.pass (x:=.inLoop c1) rfl (fun _ _=>.inl (by simp)) harr⟩
    | panic ch=>exact⟨_,qP,w1,⟨a1,S1,E1,q,s,r,ev⟩,.pass (x:=.inLoop c1) rfl (fun _ _=>.inl (by simp)) harr⟩
    | outgrown=>exact⟨_,qP,w1,⟨a1,S1,E1,q,s,r,ev⟩,.pass (x:=.inLoop c1) rfl (fun _ _=>.inl (by simp)) harr⟩
  obtain⟨e,a',w',hp,harr⟩:=key m0 a S E w act hG hI0 hS hF (.inr trivial);exact⟨e,a',w',hp,.of_steps (.one step_loop) harr⟩
 | exit id=>
  intro ac hc Q a S h E w act hG hS hF;simp only[dQ,Option.some.injEq] at hc;subst hc;exact wp_exit ⟨a,S,E,h,hS,hF,.refl _ _ _⟩
 | ret=>
  intro ac hc Q a S h E w act hG hS hF;simp only[dQ,Option.some.injEq] at hc;subst hc;exact wp_ret ⟨a,S,E,h,hS,hF,.refl _ _ _⟩
 | scope c1 eD=>
  intro ac hc Q a S h E w act hG hS hF;simp only[dQ,Option.map_eq_some_iff] at hc;obtain⟨X,hX,rfl⟩:=hc;simp only[AW] at h;refine wp_scope_straight (wp_mono (eD X hX _ a S h E w act hG hS hF) fun e act' w' hp=>?_);obtain⟨a',S',E',q,s,r,ev⟩:=hp;cases e with
  | goto l=>exact q
  | _=>exact⟨a',S',E',q,s,r,ev⟩
 | _=>
  intro ac hc Q a S h;simp only[dQ,Option.some.injEq] at hc;subst hc;simp only[AW] at h
theorem WE{P:Program}(hm:P.follows .mixedOrders=true){n:Nat}(ac:AC)(c:Code)(h:comp P n c=some ac):∀(Q:Exit→AF→St→Prop) (a:AF) (S:St),AW P ac Q a S→KH P n c Q a S:=V7 hm (Cx hm) c ac h
theorem V8{P:Program}(hm:P.follows .mixedOrders=true){n:Nat}(ac:AC)(c:Code)(h:yC P n c=some ac):∀(Q:Exit→AF→St→Prop) (a:AF) (S:St),AW P ac Q a S→KH P n c Q a S:=V7 hm (ZrM hm) c ac h
theorem Zkz{P:Program}(hm:P.follows .mixedOrders=true){n:Nat}(ac:AC)(c:Code)(h:RH P n c=some ac):∀(Q:Exit→AF→St→Prop) (a:AF) (S:St),AW P ac Q a S→KH P n c Q a S:=V7 hm (Xp hm) c ac h
theorem Mq{P:Program}{base:Nat}:∀(os:List aZ) (i:Nat) {K K':AF→St→Prop} {a:AF} {S:St},(∀a S,K a S→K' a S)→RG P base os i K a S→RG P base os i K' a S
 | [],i,K,K',a,S,hk,h=>hk _ _ h
 | o::os,i,K,K',a,S,hk,h=>by
  simp only[RG] at h ⊢;split at h
  ·exact h.elim
  ·rename_i hg;exact Mq os (i+1) hk h
  ·rename_i hg
   split at h
   ·rename_i G xs hc
    split at h
    ·rename_i f first cap hG
     exact h.mono fun r S' h'=>Mq os (i+1) hk h'
    ·exact h.elim
   ·rename_i hc
    split at h
    ·rename_i v S' hr;exact Mq os (i+1) hk h
    ·exact Qf (fun v hv=>Mq os (i+1) hk hv) h
theorem QA{P:Program}{base:Nat}:∀(os:List aZ) (fr:List (List Bool)) (i:Nat) (T:List (List Nat×List Nat)) {K K':AF→St→Prop} {a:AF} {S:St},(∀a S,K a S→K' a S)→RD P base os fr i T K a S→RD P base os fr i T K' a S
 | [],fr,i,T,K,K',a,S,hk,h=>hk _ _ h
 | o::os,fr,i,T,K,K',a,S,hk,h=>by
  simp only[RD] at h ⊢;split at h
  ·exact h.elim
  ·rename_i hg;exact QA os _ (i+1) _ hk h
  ·rename_i hg
   split at h
   ·rename_i G xs hc
    split at h
    ·rename_i f first cap hG
     obtain⟨r,F,h1,h2,h3⟩:=h;exact⟨r,F,h1,h2,QA os _ (i+1) _ hk h3⟩
    ·exact h.elim
   ·rename_i hc
    split at h
    ·rename_i v S' F W hr;exact⟨h.1,QA os _ (i+1) _ hk h.2⟩
    ·exact h.elim
theorem Cu{P:Program}:∀(ac:AC) {Q Q':Exit→AF→St→Prop} {a:AF} {S:St},(∀e a S,Q e a S→Q' e a S)→AW P ac Q a S→AW P ac Q' a S:=by
 intro ac;induction ac with
 | skip=>intro Q Q' a S hq h;exact hq _ _ _ h
 | reg d os=>
  intro Q Q' a S hq h;cases d with
  | none=>exact Mq os 0 (fun a S h=>hq _ _ _ h) h
  | some fr=>exact QA os fr 0 [] (fun a S h=>hq _ _ _ h) h
 | xk l=>
  intro Q Q' a S hq h;exact Zhw l (fun a S h=>hq _ _ _ h) h
 | lU os p=>
  intro Q Q' a S hq h;exact Md os 0 hq h
 | seq x y eD ihy=>
  intro Q Q' a S hq h;refine eD (Q:=nR (AW P y Q) Q) (fun e a S h=>?_) h;cases e with
  | normal=>exact ihy hq h
  | _=>exact hq _ _ _ h
 | cond c x y eD ihy=>
  intro Q Q' a S hq h;simp only[AW] at h ⊢;split at h
  ·rename_i b hb
   split at h
   ·rename_i hbt;rw[if_pos hbt];exact eD hq h
   ·rename_i hbt;rw[if_neg hbt];exact ihy hq h
  ·exact h.elim
 | block id x eD=>
  intro Q Q' a S hq h;refine eD (Q:=uo id Q) (fun e a S h=>?_) h;cases e with
  | exit j=>
   simp only[uo] at h ⊢;split at h
   ·rename_i hj;rw[if_pos hj];exact hq _ _ _ h
   ·rename_i hj;rw[if_neg hj];exact hq _ _ _ h
  | _=>exact hq _ _ _ h
 | loop x eD=>
  intro Q Q' a S hq h;obtain⟨I,h1,h2⟩:=h;refine⟨I,h1,fun m a S hi=>eD (fun e a S h=>?_) (h2 m a S hi)⟩;cases e with
  | normal=>exact h
  | _=>exact hq _ _ _ h
 | exit id=>intro Q Q' a S hq h;exact hq _ _ _ h
 | ret=>intro Q Q' a S hq h;exact hq _ _ _ h
 | scp x eD=>
  intro Q Q' a S hq h;refine eD (Q:=yt Q) (fun e a S h=>?_) h;cases e with
  | goto l=>exact h
  | _=>exact hq _ _ _ h
 | bad=>intro Q Q' a S hq h;exact h
theorem aN.Lr{P:Program}(hm:P.follows .mixedOrders=true){f:FuncId}{fn:Func}{c:Code}{ac:AC}{ts:List Nat}(hf:P.funcs[f]? = some fn)(hnm:(fn.name == "runtime.NumGoroutine")=false)(hb:fn.body=some c)
  (hc:comp P fn.ntmps c=some ac) (hr:fn.results=(ts.map ResultVar.tmp).toArray) {args:List AV} (hn:args.length≤fn.ntmps) {S:St} {K:AV→St→Prop} (h:AW P ac (dw ts K) (bF args) S):aN P f args S K:=by
 refine⟨vR hf hnm hb,fun E w vals hG hS hv=>?_⟩;refine calls_of_wp hf hb (wp_mono (WE hm ac c hc _ _ _ h E w _ hG hS (Bo hv hn)) fun e act w' hp=>?_);obtain⟨a,S',E',q,s,r,ev⟩:=hp;have hrr:=LP (P:=P) hr act.tmps w';cases e<;>simp only[dw] at q
 ·exact⟨r.defers,_,hrr,_,_,S',E',rfl,q,s,I5 r ts,ev⟩
 ·exact⟨r.defers,_,hrr,_,_,S',E',rfl,q,s,I5 r ts,ev⟩
theorem aJ.Lr{P:Program}(hm:P.follows .mixedOrders=true){f:FuncId}{fn:Func}{c:Code}{ac:AC}{ts:List Nat}(hf:P.funcs[f]? = some fn)(hnm:(fn.name == "runtime.NumGoroutine")=false)(hb:fn.body=some c)
  (hc:comp P fn.ntmps c=some ac) (hr:fn.results=(ts.map ResultVar.tmp).toArray) {args:List AV} (hn:args.length≤fn.ntmps) {r:AV} (h:AW P ac (dw ts fun r' S'=>Fz S'.g r' r) (bF args) S0):aJ P f args r:=
 .xC (.Lr hm hf hnm hb hc hr hn h)
def nK(Q:Exit→AF→St→Prop):AF→St→Prop:=fun a S=>Q .normal a S
def RI(P:Program)(base:Nat)(os:List aZ)(i:Nat)(K:AF→St→Prop)(a:AF)(d:Option Nat):AV→St→Prop:=fun r S'=>RG P base os (i+1) K (a.put d r) S'
def Ky(P:Program)(base:Nat)(os:List aZ)(i:Nat)(K:AF→St→Prop)(a:AF)(d:Option Nat)(op:jJ)(S:St)(r:Option (AV×St)):Prop:=
 match r with
 | some (v,S')=>RG P base os (i+1) K (a.put d v) S'
 | none=>sD op a fun v=>RG P base os (i+1) K (a.put d v) S
def RA(P:Program)(base:Nat)(os:List aZ)(i:Nat)(K:AF→St→Prop)(a:AF)(S:St)(d:Option Nat)(f:AV)(args:List AV):Prop:=
 match f with
 | .aP f first cap=>aN P f (first++args++cap) S (RI P base os i K a d)
 | _=>False
def zH(P:Program)(base:Nat)(o:aZ)(os:List aZ)(i:Nat)(K:AF→St→Prop)(a:AF)(S:St)(g:AV)(want:Bool):Prop:=
 match g with
 | .v (.bool b)=>if b=want then RG P base (⟨o.dst,o.op,none,o.call⟩::os) i K a S else RG P base os (i+1) K (a.put o.dst (.aO [])) S
 | .aO []=>RG P base os (i+1) K (a.put o.dst (.aO [])) S
 | _=>False
def Sz(P:Program)(base:Nat)(os:List aZ)(i:Nat)(T:List (List Nat×List Nat))(K:AF→St→Prop)(a:AF)(d:Option Nat)(r:Option (AV×St)):Prop:=
 match r with
 | some (v,S')=>RD P base os [] (i+1) T K (a.put d v) S'
 | none=>False
def SA(P:Program)(base:Nat)(os:List aZ)(b:List Bool)(fr:List (List Bool))(i:Nat)(T:List (List Nat×List Nat))(K:AF→St→Prop)(a:AF)(d:Option Nat)(r:Option (AV×St×List Nat×List Nat)):Prop:=
 match r with
 | some (v,S',F,W)=>lI b T F W∧RD P base os fr (i+1) ((F,W)::T) K (a.put d v) S'
 | none=>False
def QV(P:Program)(base:Nat)(os:List aZ)(fr:List (List Bool))(i:Nat)(T:List (List Nat×List Nat))(K:AF→St→Prop)(a:AF)(S:St)(d:Option Nat)(f:AV)(args:List AV):Prop:=
 match f with
 | .aP f first cap=>∃r F,mZ P f (first++args++cap) S F r∧lI (fr.headD []) T F []∧RD P base os fr.tail (i+1) (sJ fr T F []) K (a.put d r) S
 | _=>False
def zG(P:Program)(base:Nat)(o:aZ)(os:List aZ)(fr:List (List Bool))(i:Nat)(T:List (List Nat×List Nat))(K:AF→St→Prop)(a:AF)(S:St)(g:AV)(want:Bool):Prop:=
 match g with
 | .v (.bool b)=>if b=want then RD P base (⟨o.dst,o.op,none,o.call⟩::os) fr i T K a S else RD P base os fr.tail (i+1) (sJ fr T [] []) K (a.put o.dst (.aO [])) S
 | .aO []=>RD P base os fr.tail (i+1) (sJ fr T [] []) K (a.put o.dst (.aO [])) S
 | _=>False
def JO(P:Program)(x y:AC)(Q:Exit→AF→St→Prop)(a:AF)(S:St)(c:AV):Prop:=
 match c with
 | .v (.bool b)=>if b=true then AW P x Q a S else AW P y Q a S
 | _=>False
def Zux(I:Nat→AF→St→Prop)(m:Nat):AF→St→Prop:=fun a S=>∃m',m' < m∧I m' a S
def dM(r:AV):AV→St→Prop:=fun r' S'=>Fz S'.g r' r
section
variable{P:Program}{Q:Exit→AF→St→Prop}{a:AF}{S:St}{K:AF→St→Prop}{base i:Nat}{os:List aZ}{d:Option Nat}{op:jJ}
theorem mU:AW P .skip Q a S=Q .normal a S:=by simp only[AW]
theorem mh(x y:AC):AW P (.seq x y) Q a S=AW P x (nR (AW P y Q) Q) a S:=by simp only[AW]
private theorem Zq1:AW P (.reg none os) Q a S=RG P S.n os 0 (nK Q) a ⟨S.n+os.length,S.g⟩:=rfl
theorem lW:AW P (.reg none os) Q a S=RG P S.n os 0 (nK Q) a ⟨S.n+os.length,S.g⟩:=by rw[Zq1]
private theorem Znu (c:aI) (x y:AC):AW P (.cond c x y) Q a S=JO P x y Q a S (c.ev a):=rfl
theorem mQ(c:aI)(x y:AC):AW P (.cond c x y) Q a S=JO P x y Q a S (c.ev a):=by rw[Znu]
theorem mO(x y:AC):JO P x y Q a S (.v (.bool true))=AW P x Q a S:=by simp[JO]
theorem mJ(x y:AC):JO P x y Q a S (.v (.bool false))=AW P y Q a S:=by simp[JO]
theorem mP(id:Nat)(x:AC):AW P (.block id x) Q a S=AW P x (uo id Q) a S:=by simp only[AW]
theorem mR(id:Nat):AW P (.exit id) Q a S=Q (.exit id) a S:=by simp only[AW]
theorem l9:AW P .ret Q a S=Q .ret a S:=by simp only[AW]
theorem FP{x:AC}(I:Nat→AF→St→Prop)(m:Nat)(h0:I m a S)(h:∀m a S,I m a S→AW P x (nR (Zux I m) Q) a S):AW P (.loop x) Q a S:=⟨I,⟨m,h0⟩,h⟩
theorem mX(x:AC):AW P (.scp x) Q a S=AW P x (yt Q) a S:=by simp only[AW]
theorem iM:yt Q .normal a S=Q .normal a S:=by simp only[yt]
theorem iT:yt Q .ret a S=Q .ret a S:=by simp only[yt]
theorem iO(j:Nat):yt Q (.exit j) a S=Q (.exit j) a S:=by simp only[yt]
theorem eG:nR K Q .normal a S=K a S:=by simp only[nR]
theorem iB:nR K Q .ret a S=Q .ret a S:=by simp only[nR]
theorem iU(j:Nat):nR K Q (.exit j) a S=Q (.exit j) a S:=by simp only[nR]
theorem iy(id:Nat):uo id Q .normal a S=Q .normal a S:=by simp only[uo]
theorem iR(id:Nat):uo id Q .ret a S=Q .ret a S:=by simp only[uo]
theorem iN(id j:Nat):uo id Q (.exit j) a S=if j=id then Q .normal a S else Q (.exit j) a S:=by simp only[uo]
theorem gG(ts:List Nat)(R:AV→St→Prop):dw ts R .ret a S=R (uU ts a) S:=by simp only[dw]
theorem iP(ts:List Nat)(R:AV→St→Prop):dw ts R .normal a S=R (uU ts a) S:=by simp only[dw]
theorem fH(t:Nat):uU [t] a=a t:=by simp only[uU]
theorem iF(t u:Nat):uU [t,u] a=.aO [a t,a u]:=by simp[uU]
theorem iQ(t u x:Nat):uU [t,u,x] a=.aO [a t,a u,a x]:=by simp[uU]
theorem iE:uU [] a=.aO []:=by simp[uU]
theorem eT:RG P base [] i (nK Q) a S=Q .normal a S:=by simp only[RG,nK]
theorem eU:RG P base (⟨d,op,none,none⟩::os) i K a S=Ky P base os i K a d op S ((ex op a).run S (base+i)):=by
 simp only[RG,gd,Ky];cases(ex op a).run S (base+i)<;>rfl
theorem eO(v:AV)(S':St):Ky P base os i K a d op S (some (v,S'))=RG P base os (i+1) K (a.put d v) S':=by simp only[Ky]
private theorem ZnD (G:aI) (xs:List aI):RG P base (⟨d,op,none,some (G,xs)⟩::os) i K a S=RA P base os i K a S d (G.ev a) (xs.map (·.ev a)):=rfl
theorem fU(G:aI)(xs:List aI):RG P base (⟨d,op,none,some (G,xs)⟩::os) i K a S=RA P base os i K a S d (G.ev a) (xs.map (·.ev a)):=by rw[ZnD]
theorem fQ(f:FuncId)(first cap args:List AV):RA P base os i K a S d (.aP f first cap) args=aN P f (first++args++cap) S (RI P base os i K a d):=by simp only[RA]
theorem fE(r:AV):RI P base os i K a d r S=RG P base os (i+1) K (a.put d r) S:=by simp only[RI]
theorem gD(g:Nat)(want:Bool)(c:Option (aI×List aI)) :
  RG P base (⟨d,op,some (g,want),c⟩::os) i K a S=zH P base ⟨d,op,none,c⟩ os i K a S (a g) want:=by
 simp only[RG,gd,zH];cases h:a g with
 | v x=>
  cases x with
  | bool b=>
   simp only;cases hb:(b == want) with
   | true=>simp only[beq_iff_eq] at hb;rw[if_pos hb]
   | false=>simp only[beq_eq_false_iff_ne,ne_eq] at hb;rw[if_neg hb]
  | _=>rfl
 | aO vs=>cases vs<;>rfl
 | _=>rfl
theorem ig(c:Option (aI×List aI)):zH P base ⟨d,op,none,c⟩ os i K a S (.v (.bool true)) true=RG P base (⟨d,op,none,c⟩::os) i K a S:=by simp[zH]
theorem je(c:Option (aI×List aI)):zH P base ⟨d,op,none,c⟩ os i K a S (.v (.bool false)) false=RG P base (⟨d,op,none,c⟩::os) i K a S:=by simp[zH]
theorem jk(want:Bool)(c:Option (aI×List aI)):zH P base ⟨d,op,none,c⟩ os i K a S (.aO []) want=RG P base os (i+1) K (a.put d (.aO [])) S:=by simp[zH]
theorem jf(c:Option (aI×List aI)):zH P base ⟨d,op,none,c⟩ os i K a S (.v (.bool true)) false=RG P base os (i+1) K (a.put d (.aO [])) S:=by simp[zH]
theorem gZ(c:Option (aI×List aI)):zH P base ⟨d,op,none,c⟩ os i K a S (.v (.bool false)) true=RG P base os (i+1) K (a.put d (.aO [])) S:=by simp[zH]
theorem dO(o:Option AV)(S:St)(aA:Nat):(Eff.val o).runT S aA=o.map fun v=>(v,S,[],[]):=by
 cases o<;>simp[Eff.runT,Eff.val,St.dX,St.fP]
theorem eP(id:Nat)(k:aB→Option AV)(S:St)(aA:Nat):(Eff.rd id k).runT S aA=((S.g id).bind k).map fun v=>(v,S,[id],[]):=by
 cases h:S.g id with
 | none=>simp[Eff.runT,Eff.rd,h]
 | some b=>cases h2:k b<;>simp[Eff.runT,Eff.rd,h,h2,St.dX,St.fP]
theorem gI(id:Nat)(k:aB→Option aB)(S:St)(aA:Nat):(Eff.wr id k).runT S aA=((S.g id).bind k).map fun b=>(.junk,S.set id (some b),[id],[id]):=by
 cases h:S.g id with
 | none=>simp[Eff.runT,Eff.wr,h]
 | some b=>cases h2:k b<;>simp[Eff.runT,Eff.wr,h,h2,St.dX,St.fP]
theorem iL(o:Option (aB×(Nat→AV)))(S:St)(aA:Nat):(Eff.new o).runT S aA=o.map fun p=>(p.2 aA,S.set aA (some p.1),[],[aA]):=by
 cases o<;>simp[Eff.runT,Eff.new,St.dX,St.fP]
theorem ji(id:Nat)(k:aB→Option (aB×(Nat→AV)))(S:St)(aA:Nat) :
  (Eff.mv id k).runT S aA=((S.g id).bind k).map fun p=>(p.2 aA,(S.set id none).set aA (some p.1),[id],[id,aA]):=by
 cases h:S.g id with
 | none=>simp[Eff.runT,Eff.mv,h]
 | some b=>cases h2:k b<;>simp[Eff.runT,Eff.mv,h,h2,St.dX,St.fP]
private theorem Znv (fr:List (List Bool)):AW P (.reg (some fr) os) Q a S=RD P S.n os fr 0 [] (nK Q) a ⟨S.n+os.length,S.g⟩:=rfl
theorem l7(fr:List (List Bool)):AW P (.reg (some fr) os) Q a S=RD P S.n os fr 0 [] (nK Q) a ⟨S.n+os.length,S.g⟩:=by rw[Znv]
theorem gV(fr:List (List Bool))(T:List (List Nat×List Nat)):RD P base [] fr i T (nK Q) a S=Q .normal a S:=by simp only[RD,nK]
theorem gW(T:List (List Nat×List Nat)):RD P base (⟨d,op,none,none⟩::os) [] i T K a S=Sz P base os i T K a d ((ex op a).run S (base+i)):=by
 simp only[RD,gd,Sz,sJ,List.headD_nil,List.tail_nil];simp only[Eff.runT,Eff.run];cases(ex op a).F.mapM S.g with
 | none=>rfl
 | some bs=>
  simp only;cases(ex op a).k bs with
  | none=>rfl
  | some o=>simp[lI]
theorem gP(T:List (List Nat×List Nat))(v:AV)(S':St):Sz P base os i T K a d (some (v,S'))=RD P base os [] (i+1) T K (a.put d v) S':=by simp only[Sz]
theorem gX(b:List Bool)(fr:List (List Bool))(T:List (List Nat×List Nat)):RD P base (⟨d,op,none,none⟩::os) (b::fr) i T K a S=SA P base os b fr i T K a d ((ex op a).runT S (base+i)):=by
 simp only[RD,gd,SA,sJ,List.headD_cons,List.tail_cons]
 all_goals (cases(ex op a).runT S (base+i)<;>rfl)
theorem gQ(b:List Bool)(fr:List (List Bool))(T:List (List Nat×List Nat))(v:AV)(S':St)(F W:List Nat):SA P base os b fr i T K a d (some (v,S',F,W))=(lI b T F W∧RD P base os fr (i+1) ((F,W)::T) K (a.put d v) S'):=by simp only[SA]
private theorem ZnB (G:aI) (xs:List aI) (fr:List (List Bool)) (T:List (List Nat×List Nat)):RD P base (⟨d,op,none,some (G,xs)⟩::os) fr i T K a S=QV P base os fr i T K a S d (G.ev a) (xs.map (·.ev a)):=rfl
theorem jg(G:aI)(xs:List aI)(fr:List (List Bool))(T:List (List Nat×List Nat)):RD P base (⟨d,op,none,some (G,xs)⟩::os) fr i T K a S=QV P base os fr i T K a S d (G.ev a) (xs.map (·.ev a)):=by rw[ZnB]
theorem iV(f:FuncId)(first cap args:List AV)(fr:List (List Bool))(T:List (List Nat×List Nat)) :
  QV P base os fr i T K a S d (.aP f first cap) args=∃r F,mZ P f (first++args++cap) S F r∧lI (fr.headD []) T F []∧RD P base os fr.tail (i+1) (sJ fr T F []) K (a.put d r) S:=by simp only[QV]
theorem iH(g:Nat)(want:Bool)(c:Option (aI×List aI))(fr:List (List Bool))(T:List (List Nat×List Nat)) :
  RD P base (⟨d,op,some (g,want),c⟩::os) fr i T K a S=zG P base ⟨d,op,none,c⟩ os fr i T K a S (a g) want:=by
 simp only[RD,gd,zG];cases h:a g with
 | v x=>
  cases x with
  | bool b=>
   simp only;cases hb:(b == want) with
   | true=>simp only[beq_iff_eq] at hb;rw[if_pos hb]
   | false=>simp only[beq_eq_false_iff_ne,ne_eq] at hb;rw[if_neg hb]
  | _=>rfl
 | aO vs=>cases vs<;>rfl
 | _=>rfl
theorem jc(c:Option (aI×List aI))(fr:List (List Bool))(T:List (List Nat×List Nat)):zG P base ⟨d,op,none,c⟩ os fr i T K a S (.v (.bool true)) true=RD P base (⟨d,op,none,c⟩::os) fr i T K a S:=by simp[zG]
theorem iX(c:Option (aI×List aI))(fr:List (List Bool))(T:List (List Nat×List Nat)):zG P base ⟨d,op,none,c⟩ os fr i T K a S (.v (.bool false)) false=RD P base (⟨d,op,none,c⟩::os) fr i T K a S:=by simp[zG]
theorem jd(want:Bool)(c:Option (aI×List aI))(fr:List (List Bool))(T:List (List Nat×List Nat)):zG P base ⟨d,op,none,c⟩ os fr i T K a S (.aO []) want=RD P base os fr.tail (i+1) (sJ fr T [] []) K (a.put d (.aO [])) S:=by simp[zG]
theorem iZ(c:Option (aI×List aI))(fr:List (List Bool))(T:List (List Nat×List Nat)):zG P base ⟨d,op,none,c⟩ os fr i T K a S (.v (.bool true)) false=RD P base os fr.tail (i+1) (sJ fr T [] []) K (a.put d (.aO [])) S:=by simp[zG]
theorem iY(c:Option (aI×List aI))(fr:List (List Bool))(T:List (List Nat×List Nat)):zG P base ⟨d,op,none,c⟩ os fr i T K a S (.v (.bool false)) true=RD P base os fr.tail (i+1) (sJ fr T [] []) K (a.put d (.aO [])) S:=by simp[zG]
theorem jh(T:List (List Nat×List Nat))(F W:List Nat):sJ [] T F W=T:=by simp only[sJ]
theorem iK(b:List Bool)(fr:List (List Bool))(T:List (List Nat×List Nat))(F W:List Nat):sJ (b::fr) T F W=(F,W)::T:=by simp only[sJ]
theorem iq(T:List (List Nat×List Nat))(F W:List Nat):lI [] T F W=True:=by simp only[lI]
theorem gT(b:List Bool)(F W:List Nat):lI b [] F W=True:=by cases b<;>simp only[lI]
theorem gU(b:List Bool)(p:List Nat×List Nat)(T:List (List Nat×List Nat))(F W:List Nat):lI (true::b) (p::T) F W=(Dp p F W∧lI b T F W):=by simp only[lI]
theorem gM(b:List Bool)(p:List Nat×List Nat)(T:List (List Nat×List Nat))(F W:List Nat):lI (false::b) (p::T) F W=lI b T F W:=by simp only[lI]
theorem iw(G H F W:List Nat):Dp (G,H) F W=((∀j∈H,j∉F)∧(∀j∈W,j∉G)∧∀j∈H,j∉W):=by simp only[Dp]
theorem aH(j t:Nat)(x:AV):(AF.put a (some j) x) t=if t=j then x else a t:=by simp only[AF.put,bG]
theorem fF(x:AV):AF.put a none x=a:=by simp only[AF.put]
theorem dF(j:Nat):(aI.t j).ev a=a j:=by simp only[aI.ev]
theorem eY(x:AV):(aI.c x).ev a=x:=by simp only[aI.ev]
theorem cK(x:AV)(xs:List AV):bF (x::xs) 0=x:=by simp[bF]
theorem dn(x:AV)(xs:List AV)(n:Nat):bF (x::xs) (n+1)=bF xs n:=by simp[bF]
theorem bT(j:Nat)(k:Option aB):(S.set j k).n=S.n:=by simp only[St.set]
theorem aL(j l:Nat)(k:Option aB):(S.set j k).g l=if l=j then k else S.g l:=by simp only[St.set,bG]
end
def ah(n:Int):AV:=.v (.int .i64 n)
def aD(b:Bool):AV:=.v (.bool b)
theorem fJ(x:Value):(AV.v x).cells=[.v x]:=by simp only[AV.cells]
theorem gH(t:Bool)(xs:List AV):(AV.sl t xs).cells=[.sl t xs]:=by simp only[AV.cells]
theorem eZ(xs:List AV):(AV.agg xs).cells=xs:=by simp only[AV.cells]
theorem gN(i j k:Nat):(AV.own i j k).cells=[.own i j k]:=by simp only[AV.cells]
theorem iD(i j k:Nat):(AV.ptr i j k).cells=[.ptr i j k]:=by simp only[AV.cells]
theorem iC(f:FuncId)(a b:List AV):(AV.aP f a b).cells=[.aP f a b]:=by simp only[AV.cells]
theorem iW(x:AV)(c:Nat):(AV.bJ x c).cells=[.bJ x c]:=by simp only[AV.cells]
theorem iJ(i:Nat):(AV.mp i).cells=[.mp i]:=by simp only[AV.cells]
theorem bE(n:Int)(h:-9223372036854775808≤n∧n≤9223372036854775807):IntKind.i64.wrap n=n:=by
 rw[IntKind.wrap_i64];omega
def Is(P:Program)(f:FuncId)(ac:AC)(ts:List Nat)(n:Nat):Prop:=
 ∃fn c,P.funcs[f]? = some fn∧(fn.name == "runtime.NumGoroutine")=false∧fn.body=some c∧comp P fn.ntmps c=some ac∧fn.results=(ts.map ResultVar.tmp).toArray∧n≤fn.ntmps
theorem Is.xD{P:Program}(hm:P.follows .mixedOrders=true){f:FuncId}{ac:AC}{ts:List Nat}{n:Nat}(h:Is P f ac ts n){args:List AV}(hn:args.length=n){S:St}{K:AV→St→Prop}
  (hb:AW P ac (dw ts K) (bF args) S):aN P f args S K:=by
 obtain⟨fn,c,h1,h2,h3,h4,h5,h6⟩:=h;exact .Lr hm h1 h2 h3 h4 h5 (by omega) hb
theorem Is.pure{P:Program}(hm:P.follows .mixedOrders=true){f:FuncId}{ac:AC}{ts:List Nat}{n:Nat}(h:Is P f ac ts n){args:List AV}(hn:args.length=n){r:AV}
  (hb:AW P ac (dw ts (dM r)) (bF args) S0):aJ P f args r:=
 .xC (h.xD hm hn hb)
def Zvr(r:AV):AV→St→Prop:=fun r' S'=>kQ S'.g r' r
theorem Zkl{ts:List Nat}{K K':AV→St→Prop}(h:∀r S,K r S→K' r S){e:Exit}{a:AF}{S:St}(k:dw ts K e a S):dw ts K' e a S:=by
 cases e<;>simp only[dw] at k ⊢<;>first | exact h _ _ k | exact k
theorem Is.P6j{P:Program}(hm:P.follows .mixedOrders=true){f:FuncId}{ac:AC}{ts:List Nat}{n:Nat}(h:Is P f ac ts n){args:List AV}(hn:args.length=n){r:AV}
  (hb:AW P ac (dw ts (Zvr r)) (bF args) S0):Ak P f args r:=
 .xC (h.xD hm hn hb)
def dJ(g:Nat→Option aB)(a b:List AV):Prop:=b.length=a.length∧∀j (h1:j < a.length) (h2:j < b.length),Fz g (a[j]) (b[j])
theorem dJ.nil{g:Nat→Option aB}:dJ g [] []:=⟨rfl,fun j h=>by simp at h⟩
theorem dJ.cons{g:Nat→Option aB}{x y:AV}{a b:List AV}(h:Fz g x y)(k:dJ g a b):dJ g (x::a) (y::b):=by
 refine⟨by simp[k.1],fun j h1 h2=>?_⟩;cases j with
 | zero=>exact h
 | succ j=>exact k.2 j (by simpa using h1) (by simpa using h2)
theorem dJ.closed{g:Nat→Option aB}{a:List AV}(h:∀x∈a,aY x):dJ g a a:=⟨rfl,fun j h1 _=>.closed _ (h _ (List.getElem_mem h1))⟩
theorem aN.looks{P:Program}{f:FuncId}{args args':List AV}{r:AV}(h:aJ P f args' r){S:St}(hz:dJ S.g args args')(hr:xO r){K:AV→St→Prop}(hk:K r S):aN P f args S K:=
 .look h hz.1 hz.2 hr hk
def St.lose(S:St)(ids:List Nat):St:=⟨S.n,fun i=>if i∈ids then none else S.g i⟩
theorem aN.gives{P:Program}{f:FuncId}{args args':List AV}{r:AV}(ids:List Nat)(h:aJ P f args' r){S:St}(hz:dJ (only ids S.g) args args')(hr:aY r){K:AV→St→Prop}(hk:K r (S.lose ids)):aN P f args S K:=
 .Lj h (only ids S.g) FM (S.lose ids) rfl (fun i k e=>by simp only[St.lose] at e;split at e<;>first | cases e | exact e) hz.1 hz.2
  (.inr ⟨hr,fun i k e=>by simp only[only] at e;simp only[St.lose];split at e<;>simp_all⟩) hk
theorem Fz.box{g:Nat→Option aB}(id c es:Nat)(x z:AV)(hg:g id=some (.arr es [x]))(h:Fz g x z):Fz g (.ptr id 0 c) (.bJ z c):=.ptr id 0 c es [x] z hg (Nat.zero_lt_one) h
theorem Fz.Pn{g:Nat→Option aB}{f:FuncId}{bs bs':List AV}(h:dJ g bs bs'):Fz g (.aP f [] bs) (.aP f [] bs'):=.aP f [] bs [] bs' rfl h.1 (fun i h=>by simp at h) h.2
theorem CQ{S:St}(ids:List Nat)(i:Nat):(S.lose ids).g i=if i∈ids then none else S.g i:=by simp only[St.lose]
theorem ZpM{S:St}(ids:List Nat):(S.lose ids).n=S.n:=by simp only[St.lose]
theorem Ec(F:List Nat)(g:Nat→Option aB)(i:Nat):only F g i=if i∈F then g i else none:=by simp only[only]
theorem aJ.weak{P:Program}{f:FuncId}{args args':List AV}{r:AV}(h:aJ P f args' r)(hl:args'.length=args.length)(hr:∀j (h1:j < args.length) (h2:j < args'.length) (E:Env) (v:Value),aK E (args[j]) v→aK E (args'[j]) v):aJ P f args r:=
 ⟨h.1,fun H w vals hG hH hv=>h.2 H w vals hG hH ⟨by rw[hv.1,hl],fun j hj=>hr j (by omega) hj _ _ (hv.2 j (by omega))⟩⟩
def aj(l:List Int):AV:=.sl false (l.map ah)
def bA(l:List Bool):AV:=.sl false (l.map aD)
def aU(l:List (List Int)):AV:=.sl false (l.map aj)
theorem aW(n:Int):aY (ah n):=.v _
theorem dY(b:Bool):aY (aD b):=.v _
theorem IU{X:Type}{t:Bool}{enc:X→AV}(h:∀x,aY (enc x))(l:List X):aY (.sl t (l.map enc)):=.sl _ _ (by intro y hy;obtain⟨x,_,rfl⟩:=List.mem_map.mp hy;exact h x)
theorem aT(l:List Int):aY (aj l):=IU aW l
theorem jG(l:List Bool):aY (bA l):=IU dY l
theorem jR(l:List (List Int)):aY (aU l):=IU aT l
theorem QM(b:Bool):xO (aD b):=.v _
theorem bO(b:Bool)(S:St):dM (aD b) (.v (.bool b)) S:=.closed _ (.v _)
theorem zh(n:Int)(S:St):dM (ah n) (.v (.int .i64 n)) S:=.closed _ (.v _)
def Len{X:Type}(l:List X):Prop:=l.length≤140737488351232
theorem Z9K{X:Type}(l:List X)(p:X→Bool)(i:Nat)(h:i < l.length):(l.take (i+1)).all p=((l.take i).all p && p l[i]):=by
 rw[List.take_add_one,List.getElem?_eq_getElem h,List.all_append];simp
theorem aQ:∀y∈([]:List AV),aY y:=by simp
theorem aG{x:AV}{l:List AV}(h:aY x)(k:∀y∈l,aY y):∀y∈x::l,aY y:=by
 intro y hy;rcases List.mem_cons.mp hy with rfl | hy
 ·exact h
 ·exact k y hy
structure aC where
 signs:Int
 next:List (List Int)
 fin:List Bool
 deriving DecidableEq
def aR(d:aC):AV:=.agg [ah d.signs,aU d.next,bA d.fin]
theorem dZ(d:aC):aY (aR d):=.agg _ (by
 intro y hy;simp only[List.mem_cons,List.not_mem_nil,or_false] at hy;rcases hy with rfl | rfl | rfl
 ·exact aW _
 ·exact jR _
 ·exact jG _)
structure nU(d:aC):Prop where
 next:Len d.next
 fin:Len d.fin
 rows:∀r∈d.next,Len r
 signs:-9223372036854775808≤d.signs∧d.signs≤9223372036854775807
def zl(d:aC)(r:List Int):Bool:=decide ((r.length:Int)=d.signs) && r.all fun t=>decide (0≤t) && decide (t < d.next.length)
def fK(d:aC):Bool:=decide (1≤d.signs) && decide (d.signs≤400) && decide (1≤d.next.length) && decide (d.next.length≤3000) && decide (d.fin.length=d.next.length) && d.next.all (zl d)
structure dP(d:aC):Prop where
 s1:1≤d.signs
 s2:d.signs≤400
 n1:1≤d.next.length
 n2:d.next.length≤3000
 fin:d.fin.length=d.next.length
 row:∀i (h:i < d.next.length),((d.next[i]).length:Int)=d.signs
 at_:∀i (h:i < d.next.length) j (k:j < (d.next[i]).length),0≤(d.next[i])[j]∧(d.next[i])[j] < d.next.length
theorem uQ(d:aC):fK d=true↔dP d:=by
 simp only[fK,Bool.and_eq_true,decide_eq_true_eq,List.all_eq_true,zl];constructor
 ·rintro⟨⟨⟨⟨⟨h1,h2⟩,h3⟩,h4⟩,h5⟩,h6⟩
  exact⟨h1,h2,h3,h4,h5,fun i h=>(h6 _ (List.getElem_mem h)).1,fun i h j k=>(h6 _ (List.getElem_mem h)).2 _ (List.getElem_mem k)⟩
 ·intro h
  refine⟨⟨⟨⟨⟨h.s1,h.s2⟩,h.n1⟩,h.n2⟩,h.fin⟩,fun r hr=>?_⟩;obtain⟨i,hi,rfl⟩:=List.mem_iff_getElem.mp hr;refine⟨h.row i hi,fun t ht=>?_⟩;obtain⟨j,hj,rfl⟩:=List.mem_iff_getElem.mp ht;exact h.at_ i hi j hj
def bK(d:aC)(a:Nat)(s:Int):Nat:=((d.next.getD a []).getD s.toNat 0).toNat
def vW(d:aC):Nat→List Int→Option Nat
 | a,[]=>some a
 | a,s::l=>if 0≤s∧s < d.signs then vW d (bK d a s) l else none
def yG(d:aC)(l:List Int):Option Nat:=if fK d=true then vW d 0 l else none
def BM:Option Nat→Int
 | some a=>a
 | none => -1
def uE(d:aC)(l:List Int):Bool:=match yG d l with
 | some a=>d.fin.getD a false
 | none=>false
theorem FN{d:aC}(h:dP d){a:Nat}(ha:a < d.next.length){s:Int}(h0:0≤s)(hs:s < d.signs) :
  ∃hj:s.toNat < (d.next[a]).length,(d.next[a])[s.toNat]=bK d a s∧bK d a s < d.next.length:=by
 have hr:=h.row a ha;have hj:s.toNat < (d.next[a]).length:=by omega
 have:=h.at_ a ha s.toNat hj
 have e:bK d a s=((d.next[a])[s.toNat]).toNat:=by
  simp[bK,List.getD_eq_getElem?_getD,List.getElem?_eq_getElem ha,List.getElem?_eq_getElem hj]
 exact⟨hj,by omega,by omega⟩
theorem Zdp{d:aC}(h:dP d):∀(l:List Int) (a:Nat),a < d.next.length→∀b,vW d a l=some b→b < d.next.length
 | [],a,ha,b,e=>by simp[vW] at e;omega
 | s::l,a,ha,b,e=>by
  simp only[vW] at e;split at e
  ·rename_i hs
   exact Zdp h l _ (FN h ha hs.1 hs.2).2.2 b e
  ·cases e
def Ar:jJ→Bool
 | .mv _ | .pick .. | .load .. | .bin .. | .un .. | .cu .. | .aM .. | .field .. | .len _ | .ext .. | .fO _=>true
 | _=>false
theorem Zo7{P:Program}{o:Op}{ao:jJ}(h:cop P o=some ao)(hp:Ar ao=true):uw o=true:=by
 cases o with
 | call c=>
  simp only[cop] at h;unfold RB at h;split at h
  ·rename_i x t
   rfl
  ·split at h
   ·simp only[Option.bind_eq_some_iff,Option.map_eq_some_iff] at h
    obtain⟨_,_,_,_,_,_,rfl⟩:=h;cases hp
   ·split at h
    ·simp only[Option.bind_eq_some_iff,Option.map_eq_some_iff] at h
     obtain⟨_,_,_,_,_,_,rfl⟩:=h;cases hp
    ·cases h
  all_goals first
   | (cases h;done)
   | (simp only[Option.bind_eq_some_iff,Option.map_eq_some_iff] at h;obtain⟨_,_,_,_,_,_,rfl⟩:=h;cases hp;done)
   | (simp only[Option.bind_eq_some_iff,Option.map_eq_some_iff] at h;obtain⟨_,_,_,_,rfl⟩:=h;cases hp;done)
   | (simp only[Option.bind_eq_some_iff,Option.map_eq_some_iff] at h;obtain⟨_,_,_,_,_,rfl⟩:=h;cases hp;done)
 | alloc t=>simp only[cop,Option.map_eq_some_iff] at h;obtain⟨_,_,rfl⟩:=h;cases hp
 | box t x=>simp only[cop,Option.bind_eq_some_iff,Option.map_eq_some_iff] at h;obtain⟨_,_,_,_,rfl⟩:=h;cases hp
 | store t p x=>simp only[cop,Option.bind_eq_some_iff,Option.map_eq_some_iff] at h;obtain⟨_,_,_,_,_,_,rfl⟩:=h;cases hp
 | build t ps=>
  simp only[cop,Option.bind_eq_some_iff] at h;obtain⟨qs,hq,hb⟩:=h;unfold QW at hb;split at hb
  ·simp only[Option.bind_eq_some_iff,Option.map_eq_some_iff] at hb
   obtain⟨_,_,_,_,rfl⟩:=hb;cases hp
  ·cases hb
 | buildSlice t m ps=>simp only[cop,Option.bind_eq_some_iff,Option.map_eq_some_iff] at h;obtain⟨_,_,_,_,rfl⟩:=h;cases hp
 | makeSlice t l c=>simp only[cop,Option.bind_eq_some_iff,Option.map_eq_some_iff] at h;obtain⟨_,_,_,_,_,_,rfl⟩:=h;cases hp
 | slice t x lo hi mx=>
  cases mx with
  | some m=>simp[cop] at h
  | none=>
   simp only[cop,Option.bind_eq_some_iff] at h;obtain⟨X,hx,LO,hlo,HI,hhi,hb⟩:=h;unfold Sm at hb;split at hb
   ·cases hb;cases hp
   ·simp only[Option.map_eq_some_iff] at hb
    obtain⟨_,_,rfl⟩:=hb;cases hp
   ·cases hb
 | makeFunc f a b=>
  cases f with
  | func f=>simp only[cop,Option.bind_eq_some_iff,Option.map_eq_some_iff] at h;obtain⟨_,_,_,_,rfl⟩:=h;cases hp
  | _=>simp[cop] at h
 | makeMap t r=>
  cases r with
  | some r=>simp[cop] at h
  | none=>simp only[cop,Option.some.injEq] at h;subst h;cases hp
 | lookup t m k ok=>simp only[cop,Option.bind_eq_some_iff,Option.map_eq_some_iff] at h;obtain⟨_,_,_,_,_,_,rfl⟩:=h;cases hp
 | mapUpdate t m k x=>simp only[cop,CV,Option.bind_eq_some_iff,Option.map_eq_some_iff] at h;obtain⟨_,_,_,_,_,_,_,_,rfl⟩:=h;cases hp
 | insert t m k x=>simp only[cop,CV,Option.bind_eq_some_iff,Option.map_eq_some_iff] at h;obtain⟨_,_,_,_,_,_,_,_,rfl⟩:=h;cases hp
 | makeInterface t x=>
  simp only[cop] at h;split at h
  ·simp only[Option.map_eq_some_iff] at h;obtain⟨_,_,rfl⟩:=h;cases hp
  ·cases h
 | typeAssert x xt t ok=>
  cases ok with
  | false=>simp[cop] at h
  | true=>
   simp only[cop] at h;split at h
   ·simp only[Option.bind_eq_some_iff,Option.map_eq_some_iff] at h;obtain⟨_,_,_,_,rfl⟩:=h;cases hp
   ·cases h
 | _=>first | rfl | (simp[cop] at h;done)
def SE:St:=⟨2,fun _=>none⟩
structure A9(E:Env)(w:World):Prop where
 hH:kR E.H w
 fresh:∀id,1≤id→E.ρ id=none
theorem A9.sim{E:Env}{w:World}(h:A9 E w):bf E SE w:=
 ⟨h.hH,fun i k e=>by simp[SE] at e,fun i j ki kj li lj e=>by simp[SE] at e,fun i hi=>h.fresh i (by have:2≤i:=hi;omega)⟩
def uz(P:Program)(E:Env)(f:FuncId)(args:List AV)(w:World)(K:AV→World→Prop):Prop:=
 tQ P f∧∀vals,kJ E args vals→Calls P f vals w fun e w'=>∃v r,e=.returned v∧aK E r v∧kR E.H w'∧K r w'
def WG(P:Program)(E:Env):List aZ→(AF→World→Prop)→AF→World→Prop
 | [],K,a,w=>K a w
 | o::os,K,a,w=>o.guard=none∧match o.call with
  | some (G,xs)=>match G.ev a with
   | .aP f [] []=>uz P E f (xs.map (·.ev a)) w fun r w'=>WG P E os K (a.put o.dst r) w'
   | _=>False
  | none=>Ar o.op=true∧match (ex o.op a).run SE 1 with
   | some (v,_)=>WG P E os K (a.put o.dst v) w
   | none=>False
def zi(K:AF→World→Prop)(Q:Exit→AF→World→Prop):Exit→AF→World→Prop
 | .normal,a,w=>K a w
 | e,a,w=>Q e a w
def Eb(id:Nat)(Q:Exit→AF→World→Prop):Exit→AF→World→Prop
 | .exit id',a,w=>if id'=id then Q .normal a w else Q (.exit id') a w
 | e,a,w=>Q e a w
def lH(P:Program)(E:Env):AC→(Exit→AF→World→Prop)→AF→World→Prop
 | .skip,Q,a,w=>Q .normal a w
 | .reg none os,Q,a,w=>WG P E os (fun a w=>Q .normal a w) a w
 | .seq x y,Q,a,w=>lH P E x (zi (lH P E y Q) Q) a w
 | .cond c x y,Q,a,w=>match c.ev a with
  | .v (.bool b)=>if b=true then lH P E x Q a w else lH P E y Q a w
  | _=>False
 | .block id x,Q,a,w=>lH P E x (Eb id Q) a w
 | .loop x,Q,a,w=>∃I:Nat→AF→World→Prop,(∃m,I m a w)∧∀m a w,I m a w→lH P E x (zi (fun a' w'=>∃m',m' < m∧I m' a' w') Q) a w
 | .exit id,Q,a,w=>Q (.exit id) a w
 | .ret,Q,a,w=>Q .ret a w
 | _,_,_,_=>False
def Ry(E:Env)(n:Nat)(Q:Exit→AF→World→Prop):Exit→Act→World→Prop:=fun e act w=>∃a,Q e a w∧eu E n a act∧A9 E w
theorem Zj1{P:Program}{n:Nat}{ops:Array Oper}{E:Env}{Q:Exit→AF→World→Prop}:∀(os:List aZ) (i:Nat) (a:AF) (w:World),(∀k (hk:k < os.length),∃o,ops[i+k]? = some o∧nC P n ops o=some (os[k]))→
  WG P E os (fun a w=>Q .normal a w) a w→∀act,A9 E w→eu E n a act→wpOps P ops (Ry E n Q) (List.range' i os.length) act w
 | [],i,a,w,_,h,act,hE,hF=>⟨a,h,hF,hE⟩
 | ao::os,i,a,w,hc,h,act,hE,hF=>by
  obtain⟨o,ho,hco⟩:=hc 0 (by simp);simp only[Nat.add_zero,List.getElem_cons_zero] at ho hco;obtain⟨hd,hdst,hgd,hor⟩:=FC hco
  have hc':∀k (hk:k < os.length),∃o,ops[i+1+k]? = some o∧nC P n ops o=some (os[k]):=by
   intro k hk;obtain⟨o',h1,h2⟩:=hc (k+1) (by simpa using hk);exact⟨o',by rw[←h1];congr 1;omega,by simpa using h2⟩
  simp only[WG] at h;obtain⟨hgn,h⟩:=h
  have hgo:o.guard=none:=by
   rw[hgn] at hgd;unfold CG at hgd;split at hgd
   ·assumption
   ·simp only[Option.map_eq_some_iff] at hgd
    obtain⟨_,_,e⟩:=hgd;cases e
  simp only[List.length_cons,List.range'_succ,wpOps,ho];simp only[Region.wanted,hgo,if_true];left;rw[hdst] at h
  have next:∀{r:AV} {act':Act} {w':World},WG P E os (fun a w=>Q .normal a w) (a.put o.dst r) w'→A9 E w'→eu E n (a.put o.dst r) act'→wpOps P ops (Ry E n Q) (List.range' (i+1) os.length) act' w':=
   fun h1 h2 h3=>Zj1 os (i+1) _ _ hc' h1 _ h2 h3
  rcases hor with⟨q,hp1,hp2⟩ | ⟨hp1,hop⟩
  ·rw[hp1] at h
   obtain⟨G,xs⟩:=q;simp only at h;unfold Df at hp2;split at hp2
   ·rename_i g ys ts xg
    simp only[Option.bind_eq_some_iff,Option.map_eq_some_iff,Prod.mk.injEq] at hp2;obtain⟨G',hG,XS,AU,rfl,rfl⟩:=hp2;have rg:=bQ hF hG;split at h
    ·rename_i f AX
     rw[AX] at rg;generalize hev:act.eval g=gv at rg;cases rg with
     | aP _ _ _ fv cv hn hm hf hcc=>
      have hfv:fv=#[]:=Array.eq_empty_of_size_eq_zero (by simpa using hn);have hcv:cv=#[]:=Array.eq_empty_of_size_eq_zero (by simpa using hm);subst hfv;subst hcv;have hx:=IJ hF AU;unfold Oper.wp
      have hrun:(execOp act.eval o).run P w=.ok (.enter f (ys.map act.eval)) w:=by
       simp only[execOp,xg,Sem.run_bind,Fv act.eval g ys ts o.type hev,Result.andThen_ok,invoke];have:=Fx h.1 (ys.map act.eval) w;simpa using this
      rw[hrun,Oper.upon_enter];refine(h.2 _ hx).mono ?_;rintro e w' ⟨v,r,rfl,hr,hH,hk⟩;exact next hk ⟨hH,hE.fresh⟩ (hF.put hd hr)
    ·exact h.elim
   ·cases hp2
  ·rw[hp1] at h
   simp only at h;obtain⟨hpa,h⟩:=h;split at h
   ·rename_i v S' hex
    have hok:=Jq (P:=P) (n:=n) (o:=o) (aA:=1) hd hop hex;refine hok E w act hE.sim hF (hE.fresh 1 (Nat.le_refl _)) (by show 1 < 2;omega) _ _ fun act' w' E' k1 k2 k3 k4=>?_
    obtain⟨e1,e2⟩:=k4.1 (Zo7 hop hpa);subst e1;subst e2;exact next h hE k2
   ·exact h.elim
theorem V9{P:Program}{n:Nat}{E:Env}:∀(c:Code) (ac:AC),comp P n c=some ac→∀(Q:Exit→AF→World→Prop) (a:AF) (w:World),lH P E ac Q a w→∀act,A9 E w→eu E n a act→c.wp P (Ry E n Q) act w:=by
 intro c;induction c with
 | skip=>
  intro ac hc Q a w h act hE hF;simp only[comp,dQ,Option.some.injEq] at hc;subst hc;exact wp_skip ⟨a,h,hF,hE⟩
 | label l=>
  intro ac hc Q a w h act hE hF;simp only[comp,dQ,Option.some.injEq] at hc;subst hc;exact wp_label ⟨a,h,hF,hE⟩
 | region id ops dr=>
  intro ac hc Q a w h act hE hF;have e:=IE (R:=wB) hc;subst e;unfold wB at h;cases hq:(ops.toList.mapM (nC P n ops)).bind (Et dr ops) with
  | none=>rw[hq] at h;simp only[Da,lH] at h
  | some p=>
   rw[hq] at h;simp only[Da] at h;simp only[Option.bind_eq_some_iff] at hq;obtain⟨ys,hy,hcr⟩:=hq;obtain⟨h1,h2⟩:=Bp hy;obtain⟨draw,os⟩:=p;unfold Et at hcr;split at hcr
   ·split at hcr
    ·simp only[Option.some.injEq,Prod.mk.injEq] at hcr
     obtain⟨rfl,rfl⟩:=hcr;simp only[lH] at h
    ·cases hcr
   ·rename_i hdr
    simp only[Bool.not_eq_true] at hdr;subst hdr;simp only[Option.some.injEq,Prod.mk.injEq] at hcr;obtain⟨rfl,rfl⟩:=hcr;simp only[lH] at h;refine wp_region ?_
    have:=Zj1 (P:=P) (n:=n) (ops:=ops) (Q:=Q) ys 0 a w (fun k hk=>by
     obtain⟨o,a1,a2⟩:=h2 k hk;exact⟨o,by rw[Nat.zero_add];simpa using a1,a2⟩) h act hE hF
    have hlen:ys.length=ops.size:=by rw[h1];simp
    rw[List.range_eq_range',←hlen];exact this
 | seq c1 c2 eD ihy=>
  intro ac hc Q a w h act hE hF;simp only[comp,dQ,Option.map_eq_some_iff,Option.bind_eq_some_iff] at hc;obtain⟨X,hX,Y,hY,rfl⟩:=hc;simp only[lH] at h;refine wp_seq (wp_mono (eD X hX _ a w h act hE hF) fun e act' w' hp=>?_);obtain⟨a',q,r,s⟩:=hp;cases e with
  | normal=>exact ihy Y hY Q a' w' q act' s r
  | _=>exact⟨a',q,r,s⟩
 | cond c0 c1 c2 eD ihy=>
  intro ac hc Q a w h act hE hF;simp only[comp,dQ,Option.map_eq_some_iff,Option.bind_eq_some_iff] at hc;obtain⟨C',hC,X,hX,Y,hY,rfl⟩:=hc;simp only[lH] at h;split at h
  ·rename_i b hb
   have r:=bQ hF hC;rw[hb] at r;refine wp_cond (t:=b) r.jC ?_;cases b with
   | true=>exact eD X hX Q a w (by simpa using h) act hE hF
   | false=>exact ihy Y hY Q a w (by simpa using h) act hE hF
  ·exact h.elim
 | block id' c1 eD=>
  intro ac hc Q a w h act hE hF;simp only[comp,dQ,Option.map_eq_some_iff] at hc;obtain⟨X,hX,rfl⟩:=hc;simp only[lH] at h;refine wp_block (wp_mono (eD X hX _ a w h act hE hF) fun e act' w' hp=>?_);obtain⟨a',q,r,s⟩:=hp;cases e with
  | exit j=>
   simp only[Eb] at q;simp only[Exit.inBlock];split at q
   ·rename_i hj;rw[if_pos hj];exact⟨a',q,r,s⟩
   ·rename_i hj;rw[if_neg hj];exact⟨a',q,r,s⟩
  | _=>exact⟨a',q,r,s⟩
 | loop c1 eD=>
  intro ac hc Q a w h act hE hF;simp only[comp,dQ,Option.map_eq_some_iff] at hc;obtain⟨X,hX,rfl⟩:=hc;simp only[lH] at h;obtain⟨I,⟨m0,hI0⟩,NZ⟩:=h;intro b k cs
  have key:∀m,∀a w' act',I m a w'→A9 E w'→eu E n a act'→
    ∃e a' w2,Ry E n Q e a' w2∧Arrives P (lone (b.at act' (.code c1::.inLoop c1::k)) cs w') b k cs e a' w2:=by
   intro m;induction m using Nat.strongRecOn with
   | _ m ih=>
    intro a w' act' hI hE' hF';obtain⟨e,qP,w1,hp,harr⟩:=eD X hX _ a w' (NZ m a w' hI) act' hE' hF' b (.inLoop c1::k) cs;obtain⟨a1,q,r,s⟩:=hp;cases e with
    | normal=>
     obtain⟨m',hlt,hI'⟩:=q;obtain⟨e2,jF,w2,hp2,NQ⟩:=ih m' hlt a1 w1 qP hI' s r;exact⟨e2,jF,w2,hp2,.of_steps (Steps.trans harr (.one step_inLoop)) NQ⟩
    | exit id=>exact⟨_,qP,w1,⟨a1,q,r,s⟩,.pass (x:=.inLoop c1) rfl (fun _ _=>.inl (by simp)) harr⟩
    | goto l=>exact⟨_,qP,w1,⟨a1,q,r,s⟩,.pass (x:=.inLoop c1) rfl (fun _ _=>.inl (by simp)) harr⟩
    | ret=>exact⟨_,qP,w1,⟨a1,q,r,s⟩,.pass (x:=.inLoop c1) rfl (fun _ _=>.inl (by simp)) harr⟩
    | panic ch=>exact⟨_,qP,w1,⟨a1,q,r,s⟩,.pass (x:=.inLoop c1) rfl (fun _ _=>.inl (by simp)) harr⟩
    | outgrown=>exact⟨_,qP,w1,⟨a1,q,r,s⟩,.pass (x:=.inLoop c1) rfl (fun _ _=>.inl (by simp)) harr⟩
  obtain⟨e,a',w',hp,harr⟩:=key m0 a w act hI0 hE hF;exact⟨e,a',w',hp,.of_steps (.one step_loop) harr⟩
 | exit id=>
  intro ac hc Q a w h act hE hF;simp only[comp,dQ,Option.some.injEq] at hc;subst hc;exact wp_exit ⟨a,h,hF,hE⟩
 | ret=>
  intro ac hc Q a w h act hE hF;simp only[comp,dQ,Option.some.injEq] at hc;subst hc;exact wp_ret ⟨a,h,hF,hE⟩
 | scope c1 eD=>
  intro ac hc Q a w h;simp only[comp,dQ,Option.map_eq_some_iff] at hc;obtain⟨X,hX,rfl⟩:=hc;simp only[lH] at h
 | _=>
  intro ac hc Q a w h;simp only[comp,dQ,Option.some.injEq] at hc;subst hc;simp only[lH] at h
structure BG(P:Program)(fw fb fs:FuncId)(T e:TypeId):Prop where
 cw:tQ P fw
 cb:tQ P fb
 cs:tQ P fs
 w:∀(B b:Nat) (bs:List Value) (s:ByteArray) (w:World),Lib.IsBuilderF T e B b bs w→bs.length+s.size≤140737488355328→B≤w.heap.size→
  Calls P fw #[.pointer (some ⟨b,0,none⟩),.string s] w fun en w'=>en=.returned (.tuple #[.int .i64 s.size,.nilIface])∧Lib.IsBuilderF T e B b (bs++Lib.strCells s) w'∧Below B w w'
 b:∀(B b:Nat) (bs:List Value) (c:Int) (w:World),Lib.IsBuilderF T e B b bs w→bs.length+1≤140737488355328→B≤w.heap.size→
  Calls P fb #[.pointer (some ⟨b,0,none⟩),.int .u8 c] w fun en w'=>en=.returned .nilIface∧Lib.IsBuilderF T e B b (bs++[.int .u8 c]) w'∧Below B w w'
 s:∀(B b:Nat) (l:List UInt8) (w:World),Lib.IsBuilderF T e B b (Lib.byteCells l) w→B≤w.heap.size→
  Calls P fs #[.pointer (some ⟨b,0,none⟩)] w fun en w'=>en=.returned (.string ⟨l.toArray⟩)∧Below B w w'
structure Dr(P:Program)(fi:FuncId)(good:Int→Prop):Prop where
 c:tQ P fi
 h:∀(H:Nat→Option (Array Value)) (n:Int) (w:World),jO P H→kR H w→good n→Calls P fi #[.int .i64 n] w fun en w'=>en=.returned (.string ⟨(Lib.itoa n).toArray⟩)∧Below w.heap.size w w'
def sj(l:List UInt8):AV:=.v (.string ⟨l.toArray⟩)
theorem Zn2(l:List UInt8):(⟨l.toArray⟩:ByteArray).size=l.length:=rfl
theorem Z88(l m:List UInt8):Lib.byteCells (l++m)=Lib.byteCells l++Lib.byteCells m:=by simp[Lib.byteCells]
theorem Z9M(l:List UInt8):(Lib.byteCells l).length=l.length:=by simp[Lib.byteCells]
structure BE(E:Env)(B b:Nat):Prop where
 ρ:E.ρ 0=some ⟨b,0,2,1⟩
 H:∀c cs,E.H c=some cs→c < B
theorem BE.ptr{E:Env}{B b:Nat}(h:BE E B b){v:Value}(r:aK E (.ptr 0 0 0) v):v=.pointer (some ⟨b,0,none⟩):=by
 cases r with
 | ptr _ _ _ l hl=>
  rw[h.ρ] at hl;cases hl;rfl
theorem BE.keep{E:Env}{B b:Nat}(h:BE E B b){w w':World}(hH:kR E.H w)(hb:Below B w w'):kR E.H w':=by
 intro c cs e;obtain⟨el,fz,hw⟩:=hH c cs e;exact⟨el,fz,by rw[hb.block c (h.H c cs e)];exact hw⟩
theorem Zcj{E:Env}{x:AV}{vals:Array Value}(h:kJ E [x] vals):∃v,vals=#[v]∧aK E x v:=by
 obtain⟨h1,h2⟩:=h;refine⟨vals.getD 0 undef,?_,h2 0 (by simp)⟩;apply Array.ext
 ·simpa using h1
 ·intro i h3 h4
  have:i=0:=by simp at h4;omega
  subst this;simp[Array.getD_eq_getD_getElem?,Array.getElem?_eq_getElem h3]
theorem Zck{E:Env}{x y:AV}{vals:Array Value}(h:kJ E [x,y] vals):∃v u,vals=#[v,u]∧aK E x v∧aK E y u:=by
 obtain⟨h1,h2⟩:=h;refine⟨vals.getD 0 undef,vals.getD 1 undef,?_,h2 0 (by simp),h2 1 (by simp)⟩;apply Array.ext
 ·simpa using h1
 ·intro i h3 h4
  have hi:i < 2:=by simpa using h4
  match i,hi with
  | 0,_=>simp[Array.getD_eq_getD_getElem?,Array.getElem?_eq_getElem h3]
  | 1,_=>simp[Array.getD_eq_getD_getElem?,Array.getElem?_eq_getElem h3]
structure wK(T e B b:Nat)(w0:World)(l:List UInt8)(w:World):Prop where
 is:Lib.IsBuilderF T e B b (Lib.byteCells l) w
 below:Below B w0 w
 room:B≤w.heap.size
theorem wK.kept{T e B b:Nat}{w0 w w':World}{l:List UInt8}(h:wK T e B b w0 l w)(hb:Below w.heap.size w w'):wK T e B b w0 l w':=by
 have Td:Below B w w':=⟨hb.os,hb.tape,hb.output,hb.size,fun k hk=>hb.block k (Nat.lt_of_lt_of_le hk h.room)⟩;have hgr:w.grownBy w' none:=⟨hb.os,hb.tape,hb.output,hb.size,fun k hk _=>hb.block k hk⟩
 have key:∀p,Lib.BuilderAtF T e B b p (Lib.byteCells l) w→Lib.BuilderAtF T e B b p (Lib.byteCells l) w':=by
  rintro p ⟨h1,v,h2,h3,h4⟩;refine⟨h1,v,?_,h3.kept hgr (by cases hv:v.ownBlock<;>simp),h4⟩;rw[hb.block b (Array.getElem?_eq_some_iff.mp h2).1];exact h2
 exact⟨h.is.elim (fun x=>.inl (key _ x)) (fun x=>.inr (key _ x)),h.below.trans Td,Nat.le_trans h.room hb.size⟩
theorem uz.str{P:Program}{fw fb fs:FuncId}{T e:TypeId}(k:BG P fw fb fs T e){E:Env}{B b:Nat}(hE:BE E B b){w0 w:World}{l m:List UInt8}(h:wK T e B b w0 l w)(hH:kR E.H w)(hl:l.length+m.length≤140737488355328)
  {K:AV→World→Prop} (hK:∀w',wK T e B b w0 (l++m) w'→kR E.H w'→K .junk w'):uz P E fw [.ptr 0 0 0,sj m] w K:=by
 refine⟨k.cw,fun vals hv=>?_⟩;obtain⟨v,u,rfl,r1,r2⟩:=Zck hv;have e1:=hE.ptr r1;have e2:=r2.jC;subst e1;subst e2;refine(k.w B b _ ⟨m.toArray⟩ w h.is (by rw[Z9M,Zn2];exact hl) h.room).mono ?_;rintro en w' ⟨rfl,h1,h2⟩;exact⟨_,.junk,rfl,.junk _,hE.keep hH h2,hK w' ⟨by rw[Z88];exact h1,h.below.trans h2,Nat.le_trans h.room h2.size⟩ (hE.keep hH h2)⟩
theorem uz.byte{P:Program}{fw fb fs:FuncId}{T e:TypeId}(k:BG P fw fb fs T e){E:Env}{B b:Nat}(hE:BE E B b){w0 w:World}{l:List UInt8}{c:UInt8}(h:wK T e B b w0 l w)(hH:kR E.H w)(hl:l.length+1≤140737488355328)
  {K:AV→World→Prop} (hK:∀w',wK T e B b w0 (l++[c]) w'→kR E.H w'→K .junk w') {n:Int} (hc:n=(c.toNat:Int)):uz P E fb [.ptr 0 0 0,.v (.int .u8 n)] w K:=by
 refine⟨k.cb,fun vals hv=>?_⟩;obtain⟨v,u,rfl,r1,r2⟩:=Zck hv;have e1:=hE.ptr r1;have e2:=r2.jC;subst e1;subst e2;refine(k.b B b _ n w h.is (by rw[Z9M];exact hl) h.room).mono ?_;rintro en w' ⟨rfl,h1,h2⟩;exact⟨_,.junk,rfl,.junk _,hE.keep hH h2,hK w' ⟨by rw[Z88];subst hc;exact h1,h.below.trans h2,Nat.le_trans h.room h2.size⟩ (hE.keep hH h2)⟩
theorem uz.string{P:Program}{fw fb fs:FuncId}{T e:TypeId}(k:BG P fw fb fs T e){E:Env}{B b:Nat}(hE:BE E B b){w0 w:World}{l:List UInt8}(h:wK T e B b w0 l w)(hH:kR E.H w)
  {K:AV→World→Prop} (hK:∀w',Below B w0 w'→K (sj l) w'):uz P E fs [.ptr 0 0 0] w K:=by
 refine⟨k.cs,fun vals hv=>?_⟩;obtain⟨v,rfl,r1⟩:=Zcj hv;have e1:=hE.ptr r1;subst e1;refine(k.s B b l w h.is h.room).mono ?_;rintro en w' ⟨rfl,h2⟩;exact⟨_,sj l,rfl,.v _ rfl,hE.keep hH h2,hK w' (h.below.trans h2)⟩
theorem uz.itoa{P:Program}{fi:FuncId}{good:Int→Prop}(k:Dr P fi good){E:Env}{T e B b:Nat}(hE:BE E B b){w0 w:World}{l:List UInt8}(h:wK T e B b w0 l w){n:Int}(hn:good n)(hG:jO P E.H)(hH:kR E.H w)
  {K:AV→World→Prop} (hK:∀w',wK T e B b w0 l w'→kR E.H w'→K (sj (Lib.itoa n)) w'):uz P E fi [ah n] w K:=by
 refine⟨k.c,fun vals hv=>?_⟩;obtain⟨v,rfl,r1⟩:=Zcj hv;have e1:=r1.jC;subst e1;refine(k.h E.H n w hG hH hn).mono ?_;rintro en w' ⟨rfl,hb⟩;have Td:Below B w w':=⟨hb.os,hb.tape,hb.output,hb.size,fun k hk=>hb.block k (Nat.lt_of_lt_of_le hk h.room)⟩;exact⟨_,sj (Lib.itoa n),rfl,.v _ rfl,hE.keep hH Td,hK w' (h.kept hb) (hE.keep hH Td)⟩
theorem PX{P:Program}{n:Nat}{c:Code}{X Y:AC}(h:comp P n c=some (.seq X Y)):∃x y,c=.seq x y∧comp P n x=some X∧comp P n y=some Y:=by
 cases c with
 | seq x y=>
  simp only[comp,dQ,Option.map_eq_some_iff,Option.bind_eq_some_iff] at h;obtain⟨X',hX,Y',hY,e⟩:=h;simp only[AC.seq.injEq] at e;obtain⟨rfl,rfl⟩:=e;exact⟨x,y,rfl,hX,hY⟩
 | region id ops dr=>
  have e:=IE (R:=wB) h;unfold wB Da at e;split at e<;>cases e
 | cond a x y=>
  simp only[comp,dQ,Option.map_eq_some_iff,Option.bind_eq_some_iff] at h;obtain⟨_,_,_,_,_,_,e⟩:=h;cases e
 | block a x=>
  simp only[comp,dQ,Option.map_eq_some_iff] at h;obtain⟨_,_,e⟩:=h;cases e
 | loop x=>
  simp only[comp,dQ,Option.map_eq_some_iff] at h;obtain⟨_,_,e⟩:=h;cases e
 | scope x=>
  simp only[comp,dQ,Option.map_eq_some_iff] at h;obtain⟨_,_,e⟩:=h;cases e
 | _=>simp only[comp,dQ,Option.some.injEq,reduceCtorEq] at h
theorem Zf7{P:Program}{n:Nat}{c:Code}{os:List aZ}(h:comp P n c=some (.reg none os)):∃id ops,c=.region id ops false∧ops.size=os.length∧∀k (hk:k < os.length),∃o,ops[k]? = some o∧nC P n ops o=some (os[k]):=by
 cases c with
 | region id ops dr=>
  have e:=IE (R:=wB) h;unfold wB at e;cases hq:(ops.toList.mapM (nC P n ops)).bind (Et dr ops) with
  | none=>rw[hq] at e;cases e
  | some p=>
   rw[hq] at e;simp only[Da,AC.reg.injEq] at e;obtain⟨e1,rfl⟩:=e;simp only[Option.bind_eq_some_iff] at hq;obtain⟨ys,hy,hcr⟩:=hq;obtain⟨h1,h2⟩:=Bp hy;unfold Et at hcr;split at hcr
   ·split at hcr
    ·cases hcr;cases e1
    ·cases hcr
   ·rename_i hdr
    simp only[Bool.not_eq_true] at hdr;subst hdr;cases hcr;exact⟨id,ops,rfl,by rw[h1];simp,fun k hk=>by obtain⟨o,a1,a2⟩:=h2 k hk;exact⟨o,by simpa using a1,a2⟩⟩
 | seq x y=>
  simp only[comp,dQ,Option.map_eq_some_iff,Option.bind_eq_some_iff] at h;obtain⟨_,_,_,_,e⟩:=h;cases e
 | cond a x y=>
  simp only[comp,dQ,Option.map_eq_some_iff,Option.bind_eq_some_iff] at h;obtain⟨_,_,_,_,_,_,e⟩:=h;cases e
 | block a x=>
  simp only[comp,dQ,Option.map_eq_some_iff] at h;obtain⟨_,_,e⟩:=h;cases e
 | loop x=>
  simp only[comp,dQ,Option.map_eq_some_iff] at h;obtain⟨_,_,e⟩:=h;cases e
 | scope x=>
  simp only[comp,dQ,Option.map_eq_some_iff] at h;obtain⟨_,_,e⟩:=h;cases e
 | _=>simp only[comp,dQ,Option.some.injEq,reduceCtorEq] at h
def FY:Code→Option TypeId
 | .seq _ (.seq (.region _ ops _) _)=>match ops[0]? with
  | some o=>match o.op with
   | .alloc t=>some t
   | _=>none
  | none=>none
 | _=>none
def JW:AV:=.agg [.v (.pointer none),.sl true []]
theorem Zmv{z:Value}(h:C9 z=some JW):z.cells=#[.pointer none,.slice none 0 0]:=by
 unfold C9 at h;split at h
 ·rename_i cs
  simp only[Option.map_eq_some_iff,JW,AV.agg.injEq] at h;obtain⟨l,h1,rfl⟩:=h;obtain⟨k1,_,k3⟩:=VL (E:=⟨fun _=>none,fun _=>none⟩) h1;have hs:cs.size=2:=by simpa using k1.symm
  have r0:=(k3 0 (by simp)).jC
  have hm:∃x y,cs.toList=[x,y]:=by
   have:cs.toList.length=2:=by simpa using hs
   match hcl:cs.toList,this with
   | [x,y],_=>exact⟨x,y,rfl⟩
  obtain⟨x,y,hxy⟩:=hm
  have hcs:cs=#[x,y]:=by
   apply Array.ext';simpa using hxy
  subst hcs;simp only[List.mapM_cons,List.mapM_nil,Option.bind_eq_bind,Option.bind_eq_some_iff,Option.pure_def,Option.some.injEq,List.cons.injEq] at h1;obtain⟨p,hp,q,⟨q2,hq,q3,⟨rfl⟩,rfl⟩,rfl,rfl,_⟩:=h1;have hx:x=.pointer none:=(V5 (E:=⟨fun _=>none,fun _=>none⟩) hp).1.jC
  have hy:y=.slice none 0 0:=by
   unfold FZ at hq;split at hq
   ·rfl
   ·cases hq
   ·split at hq<;>cases hq
  rw[hx,hy];rfl
 ·unfold FZ at h
  split at h<;>simp[JW] at h
theorem ZeN{P:Program}{n d:Nat}{c:Code}(h:comp P n c=some (.reg none [⟨some d,.alloc JW 2,none,none⟩])){a:AF}{act:Act}{w:World}{E:Env}(hF:eu E n a act)(hρ:∀i,E.ρ i=none)(hH:kR E.H w){T:TypeId}
  (hT:∀id ops,c=.region id ops false→∃o,ops[0]? = some o∧o.op=.alloc T) (e:TypeId) :
  c.wp P (fun ex act' w'=>ex=.normal∧w'=w.alloc (.cells #[.pointer none,.slice none 0 0] T)∧A9 ⟨fun i=>if i=0 then some ⟨w.heap.size,0,2,1⟩ else none,E.H⟩ w'∧
   eu ⟨fun i=>if i=0 then some ⟨w.heap.size,0,2,1⟩ else none,E.H⟩ n (a.put (some d) (.ptr 0 0 0)) act'∧wK T e w.heap.size w.heap.size w [] w') act w:=by
 obtain⟨id,ops,rfl,hs,hc⟩:=Zf7 h;obtain⟨o,ho,hco⟩:=hc 0 (by simp);simp only[List.getElem_cons_zero] at hco;obtain⟨hd,hdst,hgd,hor⟩:=FC hco;obtain⟨o',ho',hop'⟩:=hT _ _ rfl;rw[ho] at ho';cases ho'
 have hgo:o.guard=none:=by
  unfold CG at hgd;split at hgd
  ·assumption
  ·simp only[Option.map_eq_some_iff] at hgd
   obtain⟨_,_,e⟩:=hgd;cases e
 simp only at hdst hgd hor;rcases hor with⟨p,hp,_⟩ | ⟨_,hop⟩
 ·cases hp
 rw[hop'] at hop;simp only[cop,Option.map_eq_some_iff,jJ.alloc.injEq] at hop;obtain⟨p,hz,hp1,hp2⟩:=hop;obtain⟨i,zv,g1,g2,g3,g4,g5,g6,g7⟩:=LX (x:=p.1) (m:=p.2) hz;rw[hp1] at g3;have hzc:=Zmv g3;have hsz:ops.size=1:=by simpa using hs
 refine wp_region ?_;rw[hsz];have hl:List.range 1=[0]:=rfl;rw[hl];simp only[wpOps,ho,Region.wanted,hgo,if_true];left;unfold Oper.wp
 have hrun:(execOp act.eval o).run P w=.ok (.value (.pointer (some ⟨w.heap.size,0,none⟩))) (w.alloc (.cells #[.pointer none,.slice none 0 0] T)):=by
  rw[←hzc];simp[execOp,hop',Instr.alloc,zeroValue,typeInfo,g1,g2,newVar,newRow]
 rw[hrun,Oper.upon_value];have hle:E.le ⟨fun i=>if i=0 then some ⟨w.heap.size,0,2,1⟩ else none,E.H⟩:=⟨fun i l e=>absurd e (by rw[hρ i];simp),fun _ _ e=>e⟩;have hbel:Below w.heap.size w (w.alloc (.cells #[.pointer none,.slice none 0 0] T)):=(Below.refl w.heap.size w).alloc (Nat.le_refl _) _;refine⟨trivial,rfl,⟨fun b cs e=>?_,fun id h1=>by simp only;rw[if_neg (by omega)]⟩,?_,⟨.inl ⟨Nat.le_refl _,.slice none 0 0,LM w _,World.ownsRowF_nil _ _ _ _,by simp[Value.ownBlock]⟩,hbel,hbel.size⟩⟩
 ·obtain⟨el,fz,hw⟩:=hH b cs e
  exact⟨el,fz,by rw[hbel.block b (Array.getElem?_eq_some_iff.mp hw).1];exact hw⟩
 ·rw[hdst]
  have hr:aK ⟨fun i=>if i=0 then some ⟨w.heap.size,0,2,1⟩ else none,E.H⟩ (.ptr 0 0 0) (.pointer (some ⟨w.heap.size,0,none⟩)):=by
   have:=aK.ptr (E:=⟨fun i=>if i=0 then some ⟨w.heap.size,0,2,1⟩ else none,E.H⟩) 0 0 0 ⟨w.heap.size,0,2,1⟩ rfl;simpa using this
  exact(hF.mono hle).put hd hr
theorem aJ.P64{P:Program}{f:FuncId}{fn:Func}{c:Code}{x0:List aZ}{d:Nat}{Y:AC}{t:Nat}{T e:TypeId}(hf:P.funcs[f]? = some fn)(hnm:(fn.name == "runtime.NumGoroutine")=false)(hb:fn.body=some c)
  (hc:comp P fn.ntmps c=some (.seq (.reg none x0) (sq [⟨some d,.alloc JW 2,none,none⟩] Y))) (hT:FY c=some T) (hr:fn.results=([t].map ResultVar.tmp).toArray) {args:List AV} (hn:args.length≤fn.ntmps) {r:Value} (hrs:Af r=true)
  (h0:∀(Q:Exit→AF→World→Prop) E w,lH P E (.reg none x0) Q (bF args) w=Q .normal (x0.foldl (fun a o=>a.put o.dst (match o.op with | .mv x=>x.ev a | _=>.junk)) (bF args)) w)
  (h1:∀E B w w0,BE E B B→jO P E.H→kR E.H w→wK T e B B w0 [] w→lH P E Y (fun ex a w'=>(ex=.ret∨ex=.normal)∧a t=.v r∧Below B w0 w') ((x0.foldl (fun a o=>a.put o.dst (match o.op with | .mv x=>x.ev a | _=>.junk)) (bF args)).put (some d) (.ptr 0 0 0)) w):aJ P f args (.v r):=by
 refine⟨vR hf hnm hb,fun H w vals hG hH hv=>?_⟩;obtain⟨c0,c1,rfl,hc0,hc1⟩:=PX hc;obtain⟨c2,c3,rfl,hc2,hc3⟩:=PX hc1;have hF:=Bo hv hn;have hE0:A9 ⟨uX,H⟩ w:=⟨hH,fun _ _=>rfl⟩;refine calls_of_wp hf hb (wp_seq (wp_mono (V9 c0 _ hc0 (fun ex a w'=>ex=.normal∧a=x0.foldl (fun a o=>a.put o.dst (match o.op with | .mv x=>x.ev a | _=>.junk)) (bF args)∧w'=w) _ w (by rw[h0];exact⟨rfl,rfl,rfl⟩) _ hE0 hF) fun ex qP w1 hp=>?_));obtain⟨a1,⟨rfl,rfl,rfl⟩,hF1,hE1⟩:=hp;refine wp_seq (wp_mono (ZeN (e:=e) hc2 hF1 (fun _=>rfl) hE1.hH (T:=T) (fun id ops e=>?_)) fun ex jF w2 hp=>?_)
 ·subst e
  simp only[FY] at hT;split at hT
  ·rename_i o ho
   refine⟨o,ho,?_⟩;split at hT
   ·rename_i t' ht
    cases hT;exact ht
   ·cases hT
  ·cases hT
 obtain⟨rfl,rfl,hE2,hF2,hB⟩:=hp;have hbe:BE ⟨fun i=>if i=0 then some ⟨w1.heap.size,0,2,1⟩ else none,H⟩ w1.heap.size w1.heap.size:=⟨rfl,fun c cs e=>by obtain⟨el,fz,hw⟩:=hH c cs e;exact(Array.getElem?_eq_some_iff.mp hw).1⟩;refine wp_mono (V9 c3 _ hc3 _ _ _ (h1 _ _ _ w1 hbe hG hE2.hH hB) _ hE2 hF2) fun ex GR w3 hp=>?_
 obtain⟨a3,⟨hex,hat,hbel⟩,ED,YV⟩:=hp;have hres:=LP (P:=P) hr GR.tmps w3;have hrep:=I5 ED [t];simp only[uU,hat] at hrep;have hval:=hrep.jC
 have fin:bodyPost P fn (fun e w'=>∃v H',e=.returned v∧(∀b cs,H b=some cs→H' b=some cs)∧(∀b cs,H' b=some cs→H b=some cs∨w1.heap.size≤b)∧kR H' w'∧aK ⟨uX,H'⟩ (.v r) v∧Below w1.heap.size w1 w') .ret GR w3:=
  ⟨ED.defers,_,hres,_,H,rfl,fun _ _ e=>e,fun _ _ e=>.inl e,YV.hH,by rw[hval];exact .v _ hrs,hbel⟩
 rcases hex with rfl | rfl
 ·exact fin
 ·exact fin
end Go.Rf
