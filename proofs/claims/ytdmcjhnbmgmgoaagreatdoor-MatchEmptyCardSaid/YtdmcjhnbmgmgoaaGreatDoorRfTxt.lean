import Derived.Test.YtdmcjhnbmgmgoaaGreatDoorRfNew
import Derived.Scope
import Derived.Laws.Wrap64
import Derived.Lib.FrozenHead
import Derived.Lib.ItoaNum
set_option linter.unusedVariables false
set_option linter.unusedSimpArgs false
set_option linter.unusedSectionVars false
namespace Go.Rf
open Go.RowKit
def aJ.jf:aJ→List Nat
 | .t i=>[i]
 | .c _=>[]
def Yw:Option aJ→List Nat
 | none=>[]
 | some x=>x.jf
def jA.jf:jA→List Nat
 | .mv x | .box _ x | .load _ x | .un _ x | .conv _ x | .cZ _ x | .field _ _ x | .len x | .Tm x | .GR x | .ext _ x | .iP x | .cap x | .JO _ _ x | .Es _ _ x | .NK _ x | .NV _ _ x | .NC _ x=>x.jf
 | .pick c x y=>c.jf++x.jf++y.jf
 | .alloc _ _ | .Er=>[]
 | .store _ p x | .bin _ p x | .beq _ p x | .aI _ p x | .wz _ _ p x | .Tk _ _ _ p x | .Tj p x | .app _ _ p x | .wB _ _ _ p x | .look _ _ _ p x | .mm _ p x | .seq _ _ p x | .M8 _ p x | .JL _ _ _ p x=>p.jf++x.jf
 | .Br _ m k x=>m.jf++k.jf++x.jf
 | .slc _ x lo hi | .Tz x lo hi=>x.jf++Yw lo++Yw hi
 | .build _ _ qs | .cO _ _ _ qs=>qs.flatMap fun q=>q.2.jf
 | .Ak _ f c=>(f++c).flatMap aJ.jf
theorem eH{a b:AF}{x:aJ}(h:∀t∈x.jf,a t=b t):x.ev a=x.ev b:=by
 cases x with
 | t i=>exact h i (by simp[aJ.jf])
 | c x=>rfl
theorem QD{a b:AF}{x:Option aJ}(h:∀t∈Yw x,a t=b t):x.map (·.ev a)=x.map (·.ev b):=by
 cases x with
 | none=>rfl
 | some x=>simp only[Option.map_some];rw[eH h]
theorem Mg{a b:AF}:∀{xs:List aJ},(∀t∈xs.flatMap aJ.jf,a t=b t)→xs.map (·.ev a)=xs.map (·.ev b)
 | [],_=>rfl
 | x::xs,h=>by
  simp only[List.map_cons];rw[eH (fun t ht=>h t (by simp[ht])),Mg (xs:=xs) (fun t ht=>h t (by simp only[List.flatMap_cons,List.mem_append];exact .inr ht))]
theorem ZpC{a b:AF}:∀{qs:List (Nat×aJ)},(∀t∈qs.flatMap (fun q=>q.2.jf),a t=b t)→qs.map (fun q=>(q.1,q.2.ev a))=qs.map fun q=>(q.1,q.2.ev b)
 | [],_=>rfl
 | q::qs,h=>by
  simp only[List.map_cons];rw[eH (fun t ht=>h t (by simp[ht])),ZpC (qs:=qs) (fun t ht=>h t (by simp only[List.flatMap_cons,List.mem_append];exact .inr ht))]
theorem ZpD{a b:AF}:∀{rs:List (Nat×Nat)} {qs:List (Nat×aJ)},(∀t∈qs.flatMap (fun q=>q.2.jf),a t=b t)→
  List.zipWith (fun r q=>(r.1,r.2,q.2.ev a)) rs qs=List.zipWith (fun r q=>(r.1,r.2,q.2.ev b)) rs qs
 | [],_,_=>by simp
 | _::_,[],_=>by simp
 | r::rs,q::qs,h=>by
  simp only[List.zipWith_cons_cons];rw[eH (fun t ht=>h t (by simp[ht])),ZpD (rs:=rs) (qs:=qs) (fun t ht=>h t (by simp only[List.flatMap_cons,List.mem_append];exact .inr ht))]
theorem Rx{a b:AF}{op:jA}(h:∀t∈op.jf,a t=b t):ex op a=ex op b:=by
 cases op<;>simp only[jA.jf] at h<;>simp only[ex]
 case mv x=>rw[eH h]
 case pick c x y=>rw[eH (x:=c) (fun t ht=>h t (by simp[ht])),eH (x:=x) (fun t ht=>h t (by simp[ht])),eH (x:=y) (fun t ht=>h t (by simp[ht]))]
 case box m x=>rw[eH h]
 case load k p=>rw[eH h]
 case store m p x=>rw[eH (x:=p) (fun t ht=>h t (by simp[ht])),eH (x:=x) (fun t ht=>h t (by simp[ht]))]
 case bin o p x=>rw[eH (x:=p) (fun t ht=>h t (by simp[ht])),eH (x:=x) (fun t ht=>h t (by simp[ht]))]
 case beq q p x=>rw[eH (x:=p) (fun t ht=>h t (by simp[ht])),eH (x:=x) (fun t ht=>h t (by simp[ht]))]
 case un o x=>rw[eH h]
 case conv k x=>rw[eH h]
 case cZ off x=>rw[eH h]
 case aI es p x=>rw[eH (x:=p) (fun t ht=>h t (by simp[ht])),eH (x:=x) (fun t ht=>h t (by simp[ht]))]
 case wz m es p x=>rw[eH (x:=p) (fun t ht=>h t (by simp[ht])),eH (x:=x) (fun t ht=>h t (by simp[ht]))]
 case field k off x=>rw[eH h]
 case Tk m es k p x=>rw[eH (x:=p) (fun t ht=>h t (by simp[ht])),eH (x:=x) (fun t ht=>h t (by simp[ht]))]
 case Tj p x=>rw[eH (x:=p) (fun t ht=>h t (by simp[ht])),eH (x:=x) (fun t ht=>h t (by simp[ht]))]
 case len x=>rw[eH h]
 case Tm x=>rw[eH h]
 case app es c p x=>rw[eH (x:=p) (fun t ht=>h t (by simp[ht])),eH (x:=x) (fun t ht=>h t (by simp[ht]))]
 case slc es x lo hi=>rw[eH (x:=x) (fun t ht=>h t (by simp[ht])),QD (x:=lo) (fun t ht=>h t (by simp[ht])),QD (x:=hi) (fun t ht=>h t (by simp[ht]))]
 case Tz x lo hi=>rw[eH (x:=x) (fun t ht=>h t (by simp[ht])),QD (x:=lo) (fun t ht=>h t (by simp[ht])),QD (x:=hi) (fun t ht=>h t (by simp[ht]))]
 case build z rs qs=>rw[ZpD h]
 case cO es m z qs=>rw[ZpC h]
 case wB es c z p x=>rw[eH (x:=p) (fun t ht=>h t (by simp[ht])),eH (x:=x) (fun t ht=>h t (by simp[ht]))]
 case ext i x=>rw[eH h]
 case GR x=>rw[eH h]
 case seq q l p x=>rw[eH (x:=p) (fun t ht=>h t (by simp[ht])),eH (x:=x) (fun t ht=>h t (by simp[ht]))]
 case iP x=>rw[eH h]
 case cap x=>rw[eH h]
 case Es sl neg x=>rw[eH h]
 case NK t x=>rw[eH h]
 case NV t z x=>rw[eH h]
 case NC neg x=>rw[eH h]
 case JL es b z p x=>rw[eH (x:=p) (fun t ht=>h t (by simp[ht])),eH (x:=x) (fun t ht=>h t (by simp[ht]))]
 case JO es z x=>rw[eH h]
 case M8 es p x=>rw[eH (x:=p) (fun t ht=>h t (by simp[ht])),eH (x:=x) (fun t ht=>h t (by simp[ht]))]
 case mm mx p x=>rw[eH (x:=p) (fun t ht=>h t (by simp[ht])),eH (x:=x) (fun t ht=>h t (by simp[ht]))]
 case look d z ok p x=>rw[eH (x:=p) (fun t ht=>h t (by simp[ht])),eH (x:=x) (fun t ht=>h t (by simp[ht]))]
 case Br d c x y=>rw[eH (x:=c) (fun t ht=>h t (by simp[ht])),eH (x:=x) (fun t ht=>h t (by simp[ht])),eH (x:=y) (fun t ht=>h t (by simp[ht]))]
 case Ak f xs ys=>
  have h1:xs.map (·.ev a)=xs.map (·.ev b):=Mg (fun t ht=>h t (by simp only[List.flatMap_append,List.mem_append];exact .inl ht));have h2:ys.map (·.ev a)=ys.map (·.ev b):=Mg (fun t ht=>h t (by simp only[List.flatMap_append,List.mem_append];exact .inr ht));rw[h1,h2]
def aZ.jf(o:aZ):List Nat:=
 (match o.guard with | none=>[] | some (d,_)=>[d])++(match o.call with | some (G,xs)=>G.jf++xs.flatMap aJ.jf | none=>o.op.jf)
theorem Jo{a b:AF}{o:aZ}(h:∀t∈o.jf,a t=b t):gd o a=gd o b:=by
 unfold gd;cases hg:o.guard with
 | none=>rfl
 | some p=>
  obtain⟨d,w⟩:=p;have:a d=b d:=h d (by simp[aZ.jf,hg]);simp only[this]
structure DS where
 i:Nat
 o:aZ
 F:List Nat
 W:List Nat
 U:Nat→Option aF
 v:AV
def St.over(S:St)(W:List Nat)(U:Nat→Option aF):St:=⟨S.n,fun j=>if j∈W then U j else S.g j⟩
def only(F:List Nat)(g:Nat→Option aF):Nat→Option aF:=fun j=>if j∈F then g j else none
def mo(P:Program)(f:FuncId)(args:List AV)(S:St)(F:List Nat)(r:AV):Prop:=
 ∃args',aN P f args' r∧args'.length=args.length∧(∀j (h1:j < args.length) (h2:j < args'.length),Fz (only F S.g) (args[j]) (args'[j]))∧(xB r∨(F=[]∧aY r)∨(aY r∧rW P f args' r))
inductive uH (P:Program) (base:Nat) (s:DS) (a:AF) (S:St):AF→St→Prop
 | skip (h:gd s.o a=some false) (hF:s.F=[]) (hW:s.W=[]) (hv:s.v=.aM []):uH P base s a S (a.put s.o.dst (.aM [])) S
 | call (h:gd s.o a=some true) (G:aJ) (xs:List aJ) (hc:s.o.call=some (G,xs)) (f:FuncId) (first cap:List AV) (hG:G.ev a=.aP f first cap) (hW:s.W=[])
   (hr:mo P f (first++xs.map (·.ev a)++cap) S s.F s.v):uH P base s a S (a.put s.o.dst s.v) S
 | op (h:gd s.o a=some true) (hc:s.o.call=none) (bs:List aF) (hb:(ex s.o.op a).F.mapM S.g=some bs) (out:Out) (ho:(ex s.o.op a).k bs=some out) (hF:s.F=(ex s.o.op a).F)
   (hv:s.v=out.v (base+s.i)) (hW:(out.up≠[]→∀j∈s.F,j∈s.W)∧(out.nw.isSome=true→base+s.i∈s.W))
   (hW2:∀j∈s.W,(out.up≠[]∧j∈s.F)∨(out.nw.isSome=true∧j=base+s.i))
   (hU:∀j∈s.W,s.U j=((S.fD (ex s.o.op a).F out.up).iU (base+s.i) out.nw).g j):uH P base s a S (a.put s.o.dst s.v) ((S.fD (ex s.o.op a).F out.up).iU (base+s.i) out.nw)
theorem XO:∀(F:List Nat) (ks:List (Option aF)) (S:St),(S.fD F ks).n=S.n
 | [],ks,S=>by cases ks<;>rfl
 | i::F,[],S=>rfl
 | i::F,k::ks,S=>by simp only[St.fD];rw[XO F ks];rfl
theorem ZiR:∀(F:List Nat) (ks:List (Option aF)) (S:St) (j:Nat),j∉F→(S.fD F ks).g j=S.g j
 | [],ks,S,j,_=>by cases ks<;>rfl
 | i::F,[],S,j,_=>rfl
 | i::F,k::ks,S,j,h=>by
  simp only[St.fD];rw[ZiR F ks _ j (by simp at h;exact h.2)];simp only[List.mem_cons,not_or] at h;simp[St.set,bF,h.1]
theorem ZdB:∀(F:List Nat) (ks:List (Option aF)) (S T:St) (j:Nat),S.g j=T.g j→(S.fD F ks).g j=(T.fD F ks).g j
 | [],ks,S,T,j,h=>by cases ks<;>exact h
 | i::F,[],S,T,j,h=>h
 | i::F,k::ks,S,T,j,h=>by
  simp only[St.fD];refine ZdB F ks _ _ j ?_;simp only[St.set,bF];split<;>first | rfl | exact h
theorem ZpX(S:St)(i:Nat)(k:Option aF):(S.iU i k).n=S.n:=by cases k<;>rfl
theorem ZjS(S T:St)(i:Nat)(k:Option aF)(j:Nat)(h:S.g j=T.g j):(S.iU i k).g j=(T.iU i k).g j:=by
 cases k with
 | none=>exact h
 | some b=>simp only[St.iU,St.set,bF];split<;>first | rfl | exact h
theorem St.ext'{S T:St}(h1:S.n=T.n)(h2:∀j,S.g j=T.g j):S=T:=by
 cases S;cases T;simp only[St.mk.injEq] at *;exact⟨h1,funext h2⟩
theorem uH.shape{P:Program}{base:Nat}{s:DS}{a:AF}{S:St}{a':AF}{S':St}(h:uH P base s a S a' S'):a'=a.put s.o.dst s.v∧S'=S.over s.W s.U:=by
 cases h with
 | skip h hF hW hv=>exact⟨by rw[hv],by rw[hW];exact St.ext' rfl (fun j=>by simp[St.over])⟩
 | call h G xs hc f first cap hG hW hr=>exact⟨rfl,by rw[hW];exact St.ext' rfl (fun j=>by simp[St.over])⟩
 | op h hc bs hb out ho hF hv hW hW2 hU=>
  refine⟨rfl,St.ext' (by rw[ZpX,XO];rfl) (fun j=>?_)⟩;by_cases hj:j∈s.W
  ·simp only[St.over,hj,if_true];exact(hU j hj).symm
  ·simp only[St.over,hj,if_false]
   have h1:((S.fD (ex s.o.op a).F out.up).iU (base+s.i) out.nw).g j=(S.fD (ex s.o.op a).F out.up).g j:=by
    cases hn:out.nw with
    | none=>rfl
    | some b=>
     simp only[St.iU,St.set,bF];rw[if_neg];intro e;subst e;exact hj (hW.2 (by rw[hn];rfl))
   rw[h1];by_cases hup:out.up=[]
   ·rw[hup];cases(ex s.o.op a).F<;>rfl
   ·exact ZiR _ _ _ _ (fun hjF=>hj (hW.1 hup j (by rw[hF];exact hjF)))
theorem Fp{F:List Nat}{g:Nat→Option aF}:∀i k,only F g i=some k→g i=some k:=by
 intro i k h;simp only[only] at h;split at h
 ·exact h
 ·cases h
theorem ZrE{F:List Nat}{g g':Nat→Option aF}(h:∀j∈F,g j=g' j):only F g=only F g':=by
 funext j;simp only[only];split
 ·exact h j ‹_›
 ·rfl
theorem Zdl{F:List Nat}{g g':Nat→Option aF}(h:∀j∈F,g j=g' j):F.mapM g=F.mapM g':=by
 induction F with
 | nil=>rfl
 | cons i F ih=>simp only[List.mapM_cons];rw[h i (by simp),ih (fun j hj=>h j (by simp[hj]))]
theorem uH.move{P:Program}{base:Nat}{s:DS}{a:AF}{S:St}{a':AF}{S':St}(h:uH P base s a S a' S'){b:AF}{T:St}(ha:∀t∈s.o.jf,a t=b t)(hS:∀j∈s.F,S.g j=T.g j) :
  uH P base s b T (b.put s.o.dst s.v) (T.over s.W s.U):=by
 cases h with
 | skip h hF hW hv=>
  have:T.over s.W s.U=T:=by rw[hW];exact St.ext' rfl (fun j=>by simp[St.over])
  rw[this,hv];exact .skip (by rw[←Jo ha];exact h) hF hW hv
 | call h G xs hc f first cap hG hW hr=>
  have:T.over s.W s.U=T:=by rw[hW];exact St.ext' rfl (fun j=>by simp[St.over])
  rw[this];have hrd:∀t∈G.jf++xs.flatMap aJ.jf,a t=b t:=fun t ht=>ha t (by simp only[aZ.jf,hc,List.mem_append];exact .inr (by simpa using ht))
  have e1:G.ev b=G.ev a:=(eH (fun t ht=>hrd t (by simp[ht]))).symm;have e2:xs.map (·.ev b)=xs.map (·.ev a):=(Mg (fun t ht=>hrd t (List.mem_append.mpr (.inr ht)))).symm;refine .call (by rw[←Jo ha];exact h) G xs hc f first cap (by rw[e1];exact hG) hW ?_
  rw[e2];obtain⟨args',q1,q2,q3,q4⟩:=hr;exact⟨args',q1,q2,by rw[←ZrE hS];exact q3,q4⟩
 | op h hc bs hb out ho hF hv hW hW2 hU=>
  have hrd:∀t∈s.o.op.jf,a t=b t:=fun t ht=>ha t (by simp only[aZ.jf,hc,List.mem_append];exact .inr ht)
  have he:ex s.o.op b=ex s.o.op a:=(Rx hrd).symm
  have key:∀j∈s.W,s.U j=((T.fD (ex s.o.op b).F out.up).iU (base+s.i) out.nw).g j:=by
   intro j hj;rw[hU j hj,he];rcases hW2 j hj with⟨_,h2⟩ | ⟨h2,rfl⟩
   ·exact ZjS _ _ _ _ _ (ZdB _ _ _ _ _ (hS j h2))
   ·cases hn:out.nw with
    | none=>rw[hn] at h2;simp at h2
    | some bk=>simp[St.iU,St.set,bF]
  have hd:uH P base s b T (b.put s.o.dst s.v) ((T.fD (ex s.o.op b).F out.up).iU (base+s.i) out.nw):=
   .op (by rw[←Jo ha];exact h) hc bs (by rw[he,←Zdl (by rw[←hF];exact hS)];exact hb) out (by rw[he];exact ho) (by rw[he];exact hF) hv hW hW2 key
  have:=hd.shape.2;rw[this] at hd;exact hd
structure N7(s t:DS):Prop where
 r1:∀d,s.o.dst=some d→d∉t.o.jf
 r2:∀d,t.o.dst=some d→d∉s.o.jf
 dd:∀d,s.o.dst=some d→t.o.dst≠some d
 wf:∀j∈s.W,j∉t.F
 fw:∀j∈t.W,j∉s.F
 ww:∀j∈s.W,j∉t.W
theorem AF.put_eq{a:AF}{d:Option Nat}{x:AV}{t:Nat}(h:∀e,d=some e→t≠e):a.put d x t=a t:=by
 cases d with
 | none=>rfl
 | some e=>simp[AF.put,bF,h e rfl]
theorem AF.put_comm{a:AF}{d e:Option Nat}{x y:AV}(h:∀k,d=some k→e≠some k):(a.put d x).put e y=(a.put e y).put d x:=by
 cases d with
 | none=>rfl
 | some d=>
  cases e with
  | none=>rfl
  | some e=>
   funext t;have:d≠e:=fun q=>h d rfl (by rw[q])
   simp only[AF.put,bF];by_cases h1:t=e
   ·subst h1;simp;intro q;exact(this q.symm).elim
   ·simp[h1]
theorem uH.swap{P:Program}{base:Nat}{s t:DS}{a a1 a2:AF}{S S1 S2:St}(hi:N7 s t)(h1:uH P base s a S a1 S1)(h2:uH P base t a1 S1 a2 S2) :
  ∃b T,uH P base t a S b T∧uH P base s b T a2 S2:=by
 obtain⟨rfl,rfl⟩:=h1.shape;obtain⟨e2,e3⟩:=h2.shape
 have m1:=h2.move (b:=a) (T:=S) (fun q hq=>AF.put_eq (fun e he=>by intro h3;subst h3;exact hi.r1 _ he hq)) (fun j hj=>by
  simp only[St.over];rw[if_neg (fun hw=>hi.wf j hw hj)])
 have m2:=h1.move (b:=a.put t.o.dst t.v) (T:=S.over t.W t.U) (fun q hq=>(AF.put_eq (fun e he=>by intro h3;subst h3;exact hi.r2 _ he hq)).symm) (fun j hj=>by
  simp only[St.over];rw[if_neg (fun hw=>hi.fw j hw hj)])
 refine⟨_,_,m1,?_⟩;rw[e2,e3,AF.put_comm (d:=s.o.dst) (e:=t.o.dst) hi.dd]
 have:(S.over t.W t.U).over s.W s.U=(S.over s.W s.U).over t.W t.U:=by
  refine St.ext' rfl (fun j=>?_);simp only[St.over];by_cases hs:j∈s.W
  ·rw[if_pos hs,if_neg (hi.ww j hs),if_pos hs]
  ·rw[if_neg hs]
   by_cases ht:j∈t.W
   ·rw[if_pos ht,if_pos ht]
   ·rw[if_neg ht,if_neg ht,if_neg hs]
 rw[←this];exact m2
inductive zM (P:Program) (base:Nat):List DS→AF→St→AF→St→Prop
 | nil (a:AF) (S:St):zM P base [] a S a S
 | cons {s:DS} {l:List DS} {a a1 a2:AF} {S S1 S2:St} (h:uH P base s a S a1 S1) (k:zM P base l a1 S1 a2 S2):zM P base (s::l) a S a2 S2
theorem zM.front{P:Program}{base:Nat}{x:DS}{l2:List DS}:∀{l1:List DS} {a a2:AF} {S S2:St},(∀s∈l1,N7 s x)→zM P base (l1++x::l2) a S a2 S2→zM P base (x::(l1++l2)) a S a2 S2
 | [],_,_,_,_,_,h=>h
 | s::l1,a,a2,S,S2,hi,h=>by
  cases h with
  | cons h1 h2=>
   have:=zM.front (l1:=l1) (fun q hq=>hi q (by simp[hq])) h2;cases this with
   | cons k1 k2=>
    obtain⟨b,T,m1,m2⟩:=uH.swap (hi s (by simp)) h1 k1;exact .cons m1 (.cons m2 k2)
theorem mo.wV{P:Program}{f:FuncId}{args:List AV}{S:St}{F:List Nat}{r:AV}(h:mo P f args S F r):aQ P f args S fun r' S'=>r'=r∧S'=S:=by
 obtain⟨args',q1,q2,q3,q4⟩:=h;rcases q4 with q4 | ⟨rfl,q4⟩ | ⟨q4,q5⟩
 ·exact .KV q1 (only F S.g) Fp S rfl (fun _ _ e=>e) q2 q3 (.inl q4.rep) ⟨rfl,rfl⟩
 ·exact .KV q1 (only [] S.g) Fp S rfl (fun _ _ e=>e) q2 q3 (.inr ⟨q4,fun i k e=>by simp[only] at e⟩) ⟨rfl,rfl⟩
 ·exact .UU q5 (only F S.g) Fp q2 q3 q4 ⟨rfl,rfl⟩
theorem ZgP{P:Program}{n:Nat}{ops:Array Oper}{base:Nat}{s:DS}{a:AF}{S:St}{a':AF}{S':St}(h:uH P base s a S a' S'){o:Oper}(ho:ops[s.i]? = some o)(hc:nW P n ops o=some s.o)
  {E:Env} {w:World} {act:Act} (y7:jI P E.H) (hS:bf E S w) (hF:fu E n a act) (hρ:E.ρ (base+s.i)=none) (hlt:base+s.i < S.n) {K:Act→World→Prop} {Q:Exit→Act→World→Prop}
  (hK:∀act' w' E',bf E' S' w'→fu E' n a' act'→kH E S w E' S' w'→S.n≤S'.n→(∀i,i < S.n→i≠base+s.i→E.ρ i=none→E'.ρ i=none)→K act' w'):wpOp P ops Q s.i K act w:=by
 obtain⟨hd,hdst,hgd,hor⟩:=Fb hc;unfold wpOp;rw[ho];simp only;cases h with
 | skip h hF' hW hv=>
  rw[zy hF hgd h];simp only[Bool.false_eq_true,if_false];rw[←hdst];exact hK _ _ E hS (hF.put (by rw[hdst];exact hd) Lv) (.refl _ _ _) (Nat.le_refl _) (fun _ _ _ e=>e)
 | call h G xs hcl f first cap hG hW hr=>
  rw[zy hF hgd h];simp only[if_true];left;rcases hor with⟨p,hp1,hp2⟩ | ⟨hp1,hop⟩
  ·rw[hcl] at hp1
   cases hp1;unfold CJ at hp2;split at hp2
   ·rename_i g ys ts wQ
    simp only[Option.bind_eq_some_iff,Option.map_eq_some_iff,Prod.mk.injEq] at hp2;obtain⟨G',hG',XS,Ae,rfl,rfl⟩:=hp2;have rg:=bT hF hG';rw[hG] at rg;generalize hev:act.eval g=gv at rg;cases rg with
    | aP _ _ _ fv cv hn hm hf hcc=>
     have hx:=Ie hF Ae;have hargs:kC E (first++XS.map (·.ev a)++cap) (fv++ys.map act.eval++cv):=(kC.append ⟨hn,hf⟩ hx).append ⟨hm,hcc⟩;have hcr:=hr.wV;refine Pz hd hcr y7 hS hF hargs ?_ (fun r S2 act' w' E' k1 k2 k3 k4=>?_)
     ·simp only[execOp,wQ,Sem.run_bind,ER act.eval g ys ts o.type hev,Result.andThen_ok,invoke]
      exact ES hcr.1 _ _
     ·obtain⟨rfl,rfl⟩:=k1
      exact hK act' w' E' k2 (by rw[hdst];exact k3) k4.bX k4.jP (fun i hi _ e=>k4.low i hi e)
   ·cases hp2
  ·rw[hp1] at hcl;cases hcl
 | op h hcl bs hb out ho' hF' hv hW hW2 hU=>
  rw[zy hF hgd h];simp only[if_true];left;rcases hor with⟨p,hp1,hp2⟩ | ⟨hp1,hop⟩
  ·rw[hcl] at hp1;cases hp1
  ·have hrun:(ex s.o.op a).run S (base+s.i)=some (s.v,(S.fD (ex s.o.op a).F out.up).iU (base+s.i) out.nw):=by
    simp only[Eff.run,hb,ho',hv]
   have hok:=I8 (P:=P) (n:=n) (o:=o) hd hop hrun;refine hok E w act hS hF hρ hlt _ _ fun act' w' E' k1 k2 k3 k4=>hK act' w' E' k1 (by rw[hdst];exact k2) k3 (by rw[ZpX,XO];exact Nat.le_refl _) (fun i _ hi e=>k4.2 i hi e)
inductive Ord (ops:Array Oper):Nat→Nat→Prop
 | here {i:Nat} {o:Oper} {e:Edge} (h:ops[i]? = some o) (he:e∈o.after) (hb:Region.binds .any e=true):Ord ops i e.on
 | more {i j:Nat} {o:Oper} {e:Edge} (h:ops[i]? = some o) (he:e∈o.after) (hb:Region.binds .any e=true) (k:Ord ops e.on j):Ord ops i j
def XW(ops:Array Oper)(listed:Array Bool):Prop:=∀k o,listed.getD k false=true→ops[k]? = some o→∀e∈o.after,Region.binds .any e=true→listed.getD e.on false=true
theorem Ord.listed{ops:Array Oper}{listed:Array Bool}(hd:XW ops listed){i j:Nat}(h:Ord ops i j):∀o,ops[i]? = some o→(∀e∈o.after,Region.binds .any e=true→listed.getD e.on false=true)→listed.getD j false=true:=by
 induction h with
 | here h he hb=>intro o' h' ha;rw[h] at h';cases h';exact ha _ he hb
 | more h he hb k ih=>
  intro o' h' ha;rw[h] at h';cases h';have hl:=ha _ he hb;cases k with
  | here h2 he2 hb2=>exact ih _ h2 (fun e he hb=>hd _ _ hl h2 e he hb)
  | more h2 he2 hb2 k2=>exact ih _ h2 (fun e he hb=>hd _ _ hl h2 e he hb)
def I5(ms:List Nat):List Edge→Nat
 | []=>0
 | e::es=>if Region.binds .any e=true then ((1 <<< e.on) ||| ms.getD e.on 0) ||| I5 ms es else I5 ms es
def yJ(ms:List Nat)(o:Oper):Nat:=I5 ms o.after.toList
def Fw(ops:Array Oper)(ms:List Nat):Prop:=∀i j,(ms.getD i 0).testBit j=true→Ord ops i j
theorem VX{ops:Array Oper}{ms:List Nat}(hm:Fw ops ms){i:Nat}{o:Oper}(ho:ops[i]? = some o):∀(es:List Edge),(∀e∈es,e∈o.after)→∀j,(I5 ms es).testBit j=true→Ord ops i j
 | [],_,j,h=>by simp[I5] at h
 | e::es,hs,j,h=>by
  simp only[I5] at h;split at h
  ·rename_i hb
   simp only[Nat.testBit_or,Bool.or_eq_true] at h;rcases h with(h | h) | h
   ·have:e.on=j:=by
     rw[Nat.one_shiftLeft,Nat.testBit_two_pow] at h;simpa using h
    subst this;exact .here ho (hs e (by simp)) hb
   ·exact .more ho (hs e (by simp)) hb (hm _ _ h)
   ·exact VX hm ho es (fun e he=>hs e (by simp[he])) j h
  ·exact VX hm ho es (fun e he=>hs e (by simp[he])) j h
theorem Wm{ops:Array Oper}{ms:List Nat}(hm:Fw ops ms){i:Nat}{o:Oper}(ho:ops[i]? = some o)(j:Nat)(h:(yJ ms o).testBit j=true):Ord ops i j:=
 VX hm ho _ (fun e he=>by simpa using he) j h
theorem Fw.push{ops:Array Oper}{ms:List Nat}(hm:Fw ops ms){o:Oper}(ho:ops[ms.length]? = some o):Fw ops (ms++[yJ ms o]):=by
 intro i j h;by_cases hi:i < ms.length
 ·refine hm i j ?_
  simpa[List.getD_eq_getElem?_getD,List.getElem?_append_left hi] using h
 ·by_cases h2:i=ms.length
  ·subst h2
   refine Wm hm ho j ?_;simpa[List.getD_eq_getElem?_getD] using h
  ·rw[List.getD_eq_getElem?_getD,List.getElem?_eq_none (by simp;omega)] at h
   simp at h
theorem IE{ops:Array Oper}{listed:Array Bool}{i:Nat}:i∈Region.ready .any ops listed↔i < ops.size∧listed.getD i true=false∧∃o,ops[i]? = some o∧∀e∈o.after,Region.binds .any e=true→listed.getD e.on false=true:=by
 simp only[Region.ready,List.mem_filter,List.mem_range,Bool.and_eq_true,Bool.not_eq_true'];constructor
 ·rintro⟨h1,h2,h3⟩
  refine⟨h1,h2,?_⟩;cases ho:ops[i]? with
  | none=>rw[ho] at h3;simp at h3
  | some o=>
   rw[ho] at h3;simp only[Option.map_some,Option.getD_some] at h3;refine⟨o,rfl,fun e he hb=>?_⟩;have:=(Array.all_eq_true'.mp h3) e he;simpa[hb] using this
 ·rintro⟨h1,h2,o,ho,h3⟩
  refine⟨h1,h2,?_⟩;rw[ho];simp only[Option.map_some,Option.getD_some];refine Array.all_eq_true'.mpr (fun e he=>?_);cases hb:Region.binds .any e with
  | false=>simp
  | true=>simp[h3 e he hb]
theorem Zm5{l:List DS}{x:DS}(h:x∈l):∃l1 l2,l=l1++x::l2:=List.append_of_mem h
theorem Zi0{P:Program}{n:Nat}{ops:Array Oper}{base:Nat}{Q:Exit→AF→St→Prop}{E0:Env}{S0:St}{w0:World}(hG0:jI P E0.H)(hb:S0.n≤base)
  (hon:∀(i:Nat) o,ops[i]? = some o→∀e∈o.after,Region.binds .any e=true→e.on < i) :
  ∀(fuel:Nat) (R:List DS) (listed:Array Bool) (a:AF) (S:St) (a2:AF) (S2:St),R.length=fuel→zM P base R a S a2 S2→Q .normal a2 S2→R.Pairwise (fun s t=>s.i < t.i)→
   (∀i,i < ops.size→(listed.getD i true=false↔∃s∈R,s.i=i))→(∀s∈R,s.i < ops.size)→listed.size=ops.size→XW ops listed→
   (∀s∈R,∃o,ops[s.i]? = some o∧nW P n ops o=some s.o)→(∀s∈R,∀t∈R,s.i < t.i→Ord ops t.i s.i∨N7 s t)→
   ∀E w act,bf E S w→fu E n a act→(∀s∈R,E.ρ (base+s.i)=none∧base+s.i < S.n)→Ev E0 S0 w0 E S w→wpAny P .any ops (nZ E0 S0 w0 n Q) fuel listed act w
 | 0,R,listed,a,S,a2,S2,hlen,hch,hq,_,hmem,_,_,_,_,_,E,w,act,hS,hF,_,hE=>by
  have:R=[]:=List.eq_nil_of_length_eq_zero hlen;subst this;cases hch;refine⟨?_,a,S,E,hq,hS,hF,hE⟩;refine List.eq_nil_iff_forall_not_mem.mpr (fun i hi=>?_);obtain⟨h1,h2,_⟩:=IE.mp hi;obtain⟨s,hs,_⟩:=(hmem i h1).mp h2;simp at hs
 | fuel+1,R,listed,a,S,a2,S2,hlen,hch,hq,hsort,hmem,hlt,hsz,Nl,hops,Nr,E,w,act,hS,hF,hr,hE=>by
  refine⟨fun hnil=>?_,fun i hi=>?_⟩
  ·
   cases R with
   | nil=>simp at hlen
   | cons s R=>
    exfalso
    have Nt:s.i∈Region.ready .any ops listed:=by
     obtain⟨o,ho,_⟩:=hops s (by simp);have hsi:=hlt s (by simp);refine IE.mpr ⟨hsi,(hmem s.i hsi).mpr ⟨s,by simp,rfl⟩,o,ho,fun e he hbn=>?_⟩;have hlt2:=hon _ o ho e he hbn;cases hl:listed.getD e.on false with
     | true=>rfl
     | false=>
      have hl2:listed.getD e.on true=false:=by
       simp only[Array.getD_eq_getD_getElem?] at hl ⊢;rw[Array.getElem?_eq_getElem (by omega)] at hl ⊢;exact hl
      obtain⟨s',hs',e'⟩:=(hmem e.on (by omega)).mp hl2;rcases List.mem_cons.mp hs' with rfl | h3
      ·omega
      ·have:=List.rel_of_pairwise_cons hsort h3
       omega
    rw[hnil] at Nt;simp at Nt
  ·obtain⟨h1,h2,o,ho,hpre⟩:=IE.mp hi
   obtain⟨s,hs,rfl⟩:=(hmem i h1).mp h2;obtain⟨l1,l2,rfl⟩:=Zm5 hs
   have Y9:∀q∈l1,N7 q s:=by
    intro q hq'
    have hqi:q.i < s.i:=by
     have:=List.pairwise_append.mp hsort;exact this.2.2 q hq' s (by simp)
    rcases Nr q (by simp[hq']) s (by simp) hqi with h3 | h3
    ·exfalso
     have h4:=h3.listed Nl o ho hpre;have h5:=(hmem q.i (hlt q (by simp[hq']))).mpr ⟨q,by simp[hq'],rfl⟩;simp only[Array.getD_eq_getD_getElem?] at h4 h5;rw[Array.getElem?_eq_getElem (by have:=hlt q (by simp[hq']);omega)] at h4 h5;simp at h4 h5;rw[h4] at h5;cases h5
    ·exact h3
   have hfr:=zM.front Y9 hch;cases hfr with
   | cons d1 d2=>
    obtain⟨o',ho',hco⟩:=hops s (by simp);obtain⟨r1,r2⟩:=hr s (by simp)
    have Zg:(l1++l2).Pairwise (fun s t=>s.i < t.i):=by
     have h6:=List.pairwise_append.mp hsort;refine List.pairwise_append.mpr ⟨h6.1,(List.pairwise_cons.mp h6.2.1).2,fun x hx y hy=>h6.2.2 x hx y (by simp[hy])⟩
    have hne:∀q∈l1++l2,q.i≠s.i:=by
     intro q hq';have h6:=List.pairwise_append.mp hsort;rcases List.mem_append.mp hq' with h7 | h7
     ·have:=h6.2.2 q h7 s (by simp);omega
     ·have:=(List.pairwise_cons.mp h6.2.1).1 q h7;omega
    have hsub:∀q∈l1++l2,q∈l1++s::l2:=by
     intro q hq';rcases List.mem_append.mp hq' with h7 | h7<;>simp[h7]
    refine ZgP d1 ho' hco (hG0.le hE.bX.le) hS hF r1 r2 fun act' w' E' k1 k2 k3 k4 k5=>?_
    refine Zi0 hG0 hb hon fuel (l1++l2) (listed.setIfInBounds s.i true) _ _ a2 S2 (by simp at hlen ⊢;omega) d2 hq Zg ?_ (fun q hq'=>hlt q (hsub q hq')) (by simpa using hsz) ?_ (fun q hq'=>hops q (hsub q hq'))
     (fun q hq' t ht=>Nr q (hsub q hq') t (hsub t ht)) E' w' act' k1 k2 (fun q hq'=>?_) ⟨hE.bX.trans k3,by have:=hE.jP;omega,fun id hid e=>k5 id (by have:=hE.jP;omega) (by omega) (hE.low id hid e)⟩
    ·intro j hj
     simp only[Array.getD_eq_getD_getElem?,Array.getElem?_setIfInBounds];by_cases hjs:s.i=j
     ·subst hjs
      rw[if_pos rfl,if_pos (by omega)];simp only[Option.getD_some,Bool.true_eq_false,false_iff,not_exists,not_and];exact fun q hq'=>hne q hq'
     ·rw[if_neg hjs]
      have:=hmem j hj;simp only[Array.getD_eq_getD_getElem?] at this;rw[this];constructor
      ·rintro⟨q,hq',e⟩
       refine⟨q,?_,e⟩;rcases List.mem_append.mp hq' with h7 | h7
       ·simp[h7]
       ·rcases List.mem_cons.mp h7 with rfl | h8
        ·exact(hjs e).elim
        ·simp[h8]
      ·rintro⟨q,hq',e⟩;exact⟨q,hsub q hq',e⟩
    ·intro k o2 hk ho2 e he hbn
     simp only[Array.getD_eq_getD_getElem?,Array.getElem?_setIfInBounds] at hk ⊢;by_cases hks:s.i=k
     ·subst hks
      rw[ho] at ho2;cases ho2;have h8:=hpre e he hbn;simp only[Array.getD_eq_getD_getElem?] at h8;split
      ·rw[if_pos (by omega)];rfl
      ·exact h8
     ·rw[if_neg hks] at hk
      have h8:=Nl k o2 (by simpa[Array.getD_eq_getD_getElem?] using hk) ho2 e he hbn;simp only[Array.getD_eq_getD_getElem?] at h8;split
      ·rename_i h9
       split
       ·rfl
       ·rw[←h9,Array.getElem?_eq_none (by omega)] at h8;simp at h8
      ·exact h8
    ·obtain⟨q1,q2⟩:=hr q (hsub q hq')
     exact⟨k5 _ q2 (by have:=hne q hq';omega) q1,by omega⟩
def MZ:jA→Bool
 | .box _ _ | .alloc _ _ | .store _ _ _ | .app _ _ _ _ | .wB _ _ _ _ _ | .Er | .Br _ _ _ _ | .JO _ _ _ | .M8 _ _ _ | .JL _ _ _ _ _=>true
 | _=>false
theorem BJ{x:Option AV}{bs:List aF}{out:Out}(h:(Eff.val x).k bs=some out):out.up=[]∧out.nw=none:=by
 simp only[Eff.val,Option.map_eq_some_iff] at h;obtain⟨_,_,rfl⟩:=h;exact⟨rfl,rfl⟩
theorem LJ{id:Nat}{k:aF→Option AV}{bs:List aF}{out:Out}(h:(Eff.rd id k).k bs=some out):out.up=[]∧out.nw=none:=by
 simp only[Eff.rd] at h;split at h
 ·simp only[Option.map_eq_some_iff] at h;obtain⟨_,_,rfl⟩:=h;exact⟨rfl,rfl⟩
 ·cases h
theorem ZiC{op:jA}(hq:MZ op=false){a:AF}{bs:List aF}{out:Out}(h:(ex op a).k bs=some out):out.up=[]∧out.nw=none:=by
 cases op<;>simp only[MZ,Bool.true_eq_false] at hq<;>simp only[ex] at h
 case load k p=>
  unfold bW at h;split at h
  ·exact BJ h
  ·exact LJ h
  ·exact BJ h
 case aI es x i=>
  unfold dD at h;split at h
  ·exact BJ h
  ·exact LJ h
  ·exact BJ h
 case slc es x lo hi=>
  unfold xD at h;split at h
  ·exact BJ h
  ·exact LJ h
  ·exact BJ h
 case look d z ok m k=>
  unfold AU at h;split at h
  ·exact LJ h
  ·exact BJ h
 case GR x=>
  unfold Je at h;split at h
  ·exact LJ h
  ·exact BJ h
 all_goals exact BJ h
def FN(s t:aZ):Bool:=
 (match s.dst with | some d=>!t.jf.contains d && t.dst != some d | none=>true) && (match t.dst with | some d=>!s.jf.contains d | none=>true)
theorem Zg8{s t:aZ}(h:FN s t=true):(∀d,s.dst=some d→d∉t.jf)∧(∀d,t.dst=some d→d∉s.jf)∧(∀d,s.dst=some d→t.dst≠some d):=by
 simp only[FN,Bool.and_eq_true] at h;obtain⟨h1,h2⟩:=h;refine⟨fun d e=>?_,fun d e=>?_,fun d e=>?_⟩
 ·rw[e] at h1;simp at h1;exact h1.1
 ·rw[e] at h2;simp at h2;exact h2
 ·rw[e] at h1;simp at h1;exact h1.2
def xw(o:aZ):Bool:=o.call.isSome || !MZ o.op
def Eff.runT(e:Eff)(S:St)(aC:Nat):Option (AV×St×List Nat×List Nat):=
 match e.F.mapM S.g with
 | none=>none
 | some bs=>match e.k bs with
  | none=>none
  | some o=>some (o.v aC,(S.fD e.F o.up).iU aC o.nw,e.F,(match o.up with | []=>[] | _=>e.F)++(match o.nw with | some _=>[aC] | none=>[]))
def C8(p:List Nat×List Nat)(F W:List Nat):Prop:=(∀j∈p.2,j∉F)∧(∀j∈W,j∉p.1)∧∀j∈p.2,j∉W
def lW:List Bool→List (List Nat×List Nat)→List Nat→List Nat→Prop
 | true::bs,p::T,F,W=>C8 p F W∧lW bs T F W
 | false::bs,_::T,F,W=>lW bs T F W
 | _,_,_,_=>True
theorem lW.at_{F W:List Nat}:∀{bs:List Bool} {T:List (List Nat×List Nat)},lW bs T F W→∀(j:Nat) (p:List Nat×List Nat),bs[j]? = some true→T[j]? = some p→C8 p F W
 | [],_,_,j,p,h,_=>by simp at h
 | _::_,[],_,j,p,_,h=>by simp at h
 | true::bs,q::T,h,0,p,_,hp=>by simp at hp;subst hp;exact h.1
 | false::bs,q::T,h,0,p,hb,_=>by simp at hb
 | true::bs,q::T,h,j+1,p,hb,hp=>lW.at_ (bs:=bs) (T:=T) h.2 j p (by simpa using hb) (by simpa using hp)
 | false::bs,q::T,h,j+1,p,hb,hp=>lW.at_ (bs:=bs) (T:=T) h j p (by simpa using hb) (by simpa using hp)
def sP(fr:List (List Bool))(T:List (List Nat×List Nat))(F W:List Nat):List (List Nat×List Nat):=
 match fr with
 | []=>T
 | _=>(F,W)::T
def Qr(m:Nat)(t:aZ):List Bool→List (Nat×aZ)→Bool
 | _,[]=>true
 | fr,(j,s)::prev=>(m.testBit j || (FN s t && ((xw s && xw t) || fr.headD false))) && Qr m t fr.tail prev
def Mf:List Oper→List aZ→List (List Bool)→List (Nat×aZ)→List Nat→Nat→Bool
 | o::ops,s::os,fr,prev,ms,i=>
  o.after.toList.all (fun e=>!Region.binds .any e || decide (e.on < i)) && Qr (yJ ms o) s (fr.headD []) prev && Mf ops os fr.tail ((i,s)::prev) (ms++[yJ ms o]) (i+1)
 | [],[],_,_,_,_=>true
 | _,_,_,_,_,_=>false
def QA(ops:Array Oper)(os:List aZ)(fr:List (List Bool)):Bool:=Mf ops.toList os fr [] [] 0
def RD(P:Program)(base:Nat):List aZ→List (List Bool)→Nat→List (List Nat×List Nat)→(AF→St→Prop)→AF→St→Prop
 | [],_,_,_,K,a,S=>K a S
 | o::os,fr,i,T,K,a,S=>
  match gd o a with
  | none=>False
  | some false=>RD P base os fr.tail (i+1) (sP fr T [] []) K (a.put o.dst (.aM [])) S
  | some true=>match o.call with
   | some (G,xs)=>match G.ev a with
    | .aP f first cap=>∃r F,mo P f (first++xs.map (·.ev a)++cap) S F r∧lW (fr.headD []) T F []∧RD P base os fr.tail (i+1) (sP fr T F []) K (a.put o.dst r) S
    | _=>False
   | none=>match (ex o.op a).runT S (base+i) with
    | some (v,S',F,W)=>lW (fr.headD []) T F W∧RD P base os fr.tail (i+1) (sP fr T F W) K (a.put o.dst v) S'
    | none=>False
theorem ZoZ{e:Eff}{S:St}{aC:Nat}{v:AV}{S':St}{F W:List Nat}(h:e.runT S aC=some (v,S',F,W)) :
  ∃bs out,e.F.mapM S.g=some bs∧e.k bs=some out∧v=out.v aC∧S'=(S.fD e.F out.up).iU aC out.nw∧F=e.F∧W=(if out.up=[] then [] else e.F)++(if out.nw.isSome=true then [aC] else []):=by
 unfold Eff.runT at h;split at h
 ·cases h
 ·rename_i bs hbs
  split at h
  ·cases h
  ·rename_i out hout
   simp only[Option.some.injEq,Prod.mk.injEq] at h;obtain⟨rfl,rfl,rfl,rfl⟩:=h;refine⟨bs,out,hbs,hout,rfl,rfl,rfl,?_⟩;cases out.up<;>cases out.nw<;>simp
theorem ZiE{P:Program}{base:Nat}{K:AF→St→Prop}:∀(os:List aZ) (fr:List (List Bool)) (i:Nat) (T:List (List Nat×List Nat)) (a:AF) (S:St),RD P base os fr i T K a S→
  ∃l a2 S2,zM P base l a S a2 S2∧K a2 S2∧l.map (·.o)=os∧l.map (·.i)=List.range' i os.length∧(∀s∈l,xw s.o=true→s.W=[])∧
   ∀(k:Nat) (hk:k < l.length) (j:Nat) (p:List Nat×List Nat),(fr.getD k [])[j]? = some true→((l.take k).reverse.map (fun s=>(s.F,s.W))++T)[j]? = some p→C8 p (l[k]).F (l[k]).W
 | [],fr,i,T,a,S,h=>⟨[],a,S,.nil a S,h,rfl,rfl,by simp,by simp⟩
 | o::os,fr,i,T,a,S,h=>by
  simp only[RD] at h
  have fin:∀(s:DS) (a1:AF) (S1:St),s.o=o→s.i=i→(xw s.o=true→s.W=[])→uH P base s a S a1 S1→lW (fr.headD []) T s.F s.W→RD P base os fr.tail (i+1) (sP fr T s.F s.W) K a1 S1→
    ∃l a2 S2,zM P base l a S a2 S2∧K a2 S2∧l.map (·.o)=o::os∧l.map (·.i)=List.range' i (os.length+1)∧(∀s∈l,xw s.o=true→s.W=[])∧
     ∀(k:Nat) (hk:k < l.length) (j:Nat) (p:List Nat×List Nat),(fr.getD k [])[j]? = some true→((l.take k).reverse.map (fun s=>(s.F,s.W))++T)[j]? = some p→C8 p (l[k]).F (l[k]).W:=by
   intro s a1 S1 h1 h2 h3 h4 hA h5;obtain⟨l,a2,S2,k1,k2,k3,k4,k5,k6⟩:=ZiE os fr.tail (i+1) _ a1 S1 h5;refine⟨s::l,a2,S2,.cons h4 k1,k2,by simp[h1,k3],by simp[h2,k4,List.range'_succ],?_,?_⟩
   ·intro q hq
    rcases List.mem_cons.mp hq with rfl | hq
    ·exact h3
    ·exact k5 q hq
   ·intro k hk j p hj hp
    cases k with
    | zero=>
     have hj':(fr.headD [])[j]? = some true:=by cases fr with | nil=>simp at hj | cons a l=>simpa using hj
     exact hA.at_ j p hj' (by simpa using hp)
    | succ k=>
     cases fr with
     | nil=>simp at hj
     | cons b fr=>
      refine k6 k (by simpa using hk) j p (by simpa using hj) ?_;simpa[sP,List.append_assoc] using hp
  split at h
  ·exact h.elim
  ·rename_i hg
   exact fin ⟨i,o,[],[],fun _=>none,.aM []⟩ _ _ rfl rfl (fun _=>rfl) (.skip hg rfl rfl rfl) (by
    generalize fr.headD []=bs;clear fin h;induction bs generalizing T with
    | nil=>simp[lW]
    | cons b bs ih=>cases T<;>cases b<;>simp[lW,C8,ih]) h
  ·rename_i hg
   split at h
   ·rename_i G xs hc
    split at h
    ·rename_i f first cap hG
     obtain⟨r,F,hr,hA,h2⟩:=h;exact fin ⟨i,o,F,[],fun _=>none,r⟩ _ _ rfl rfl (fun _=>rfl) (.call hg G xs hc f first cap hG rfl hr) hA h2
    ·exact h.elim
   ·rename_i hc
    split at h
    ·rename_i v S' F W hrun
     obtain⟨bs,out,hbs,hout,rfl,rfl,rfl,rfl⟩:=ZoZ hrun;refine fin ⟨i,o,(ex o.op a).F,_,((S.fD (ex o.op a).F out.up).iU (base+i) out.nw).g,out.v (base+i)⟩ _ _ rfl rfl ?_ (.op hg hc bs hbs out hout rfl rfl ?_ ?_ (fun _ _=>rfl)) h.1 h.2
     ·intro hq
      simp only[xw,hc,Option.isSome_none,Bool.false_or,Bool.not_eq_true'] at hq;obtain⟨q1,q2⟩:=ZiC hq hout;simp[q1,q2]
     ·refine⟨fun h1 j hj=>?_,fun h1=>?_⟩
      ·simp only[List.mem_append];left;rw[if_neg h1];exact hj
      ·simp only[List.mem_append];right;rw[if_pos h1];simp
     ·intro j hj
      simp only[List.mem_append] at hj;rcases hj with hj | hj
      ·split at hj
       ·simp at hj
       ·rename_i h1;exact .inl ⟨h1,hj⟩
      ·split at hj
       ·rename_i h1;simp at hj;exact .inr ⟨h1,hj⟩
       ·simp at hj
    ·exact h.elim
theorem Zdr{m:Nat}{t:aZ}:∀{fr:List Bool} {prev:List (Nat×aZ)},Qr m t fr prev=true→∀(k j:Nat) (s:aZ),prev[k]? = some (j,s)→
  m.testBit j=true∨(FN s t=true∧((xw s=true∧xw t=true)∨fr[k]? = some true))
 | fr,[],_,k,j,s,h=>by simp at h
 | fr,(j',s')::prev,h,k,j,s,hk=>by
  simp only[Qr,Bool.and_eq_true] at h;cases k with
  | zero=>
   simp only[List.getElem?_cons_zero,Option.some.injEq,Prod.mk.injEq] at hk;obtain⟨rfl,rfl⟩:=hk;have h1:=h.1;simp only[Bool.or_eq_true,Bool.and_eq_true] at h1;rcases h1 with h1 | ⟨h1,h2 | h2⟩
   ·exact .inl h1
   ·exact .inr ⟨h1,.inl h2⟩
   ·exact .inr ⟨h1,.inr (by cases fr<;>simp_all)⟩
  | succ k=>
   rcases Zdr h.2 k j s (by simpa using hk) with h1 | ⟨h1,h2 | h2⟩
   ·exact .inl h1
   ·exact .inr ⟨h1,.inl h2⟩
   ·exact .inr ⟨h1,.inr (by cases fr<;>simp_all)⟩
theorem Zda{ops:Array Oper}{os:List aZ}{fr:List (List Bool)}:∀(n i:Nat) (prev:List (Nat×aZ)) (ms:List Nat),n=ops.size - i→i≤ops.size→i≤os.length→ms.length=i→Fw ops ms→prev.length=i→
  (∀k,k < i→prev[i - 1 - k]? = (os[k]?).map fun s=>(k,s))→Mf (ops.toList.drop i) (os.drop i) (fr.drop i) prev ms i=true→
  (∀(t:Nat) o,i≤t→ops[t]? = some o→∀e∈o.after,Region.binds .any e=true→e.on < t)∧
  ∀t j,i≤t→t < ops.size→j < t→Ord ops t j∨∀s u,os[j]? = some s→os[t]? = some u→FN s u=true∧((xw s=true∧xw u=true)∨(fr.getD t [])[t - 1 - j]? = some true)
 | 0,i,prev,ms,hn,hi,_,_,_,_,_,_=>by
  refine⟨fun t o h1 h2=>?_,fun t j h1 h2=>by omega⟩;have:=(Array.getElem?_eq_some_iff.mp h2).1;omega
 | n+1,i,prev,ms,hn,hi,hil,hms,hmo,hpl,aaj,h=>by
  have hlt:i < ops.size:=by omega
  have ho:ops[i]? = some ops[i]:=Array.getElem?_eq_getElem hlt
  have hdo:ops.toList.drop i=ops[i]::ops.toList.drop (i+1):=by
   rw[List.drop_eq_getElem_cons (by simpa using hlt)];simp
  rw[hdo] at h;cases hd:os.drop i with
  | nil=>rw[hd] at h;simp[Mf] at h
  | cons s os'=>
   have Y8:i < os.length:=by
    have:=congrArg List.length hd;simp at this;omega
   have hos:os[i]? = some s:=by
    rw[List.drop_eq_getElem_cons Y8] at hd;simp only[List.cons.injEq] at hd;rw[List.getElem?_eq_getElem Y8,hd.1]
   have ab9:os.drop (i+1)=os':=by
    rw[List.drop_eq_getElem_cons Y8] at hd;simp only[List.cons.injEq] at hd;exact hd.2
   rw[hd] at h;simp only[Mf,Bool.and_eq_true] at h;obtain⟨⟨h1,h2⟩,h3⟩:=h
   have ih:=Zda (fr:=fr) (os:=os) n (i+1) ((i,s)::prev) (ms++[yJ ms ops[i]]) (by omega) (by omega) (by omega) (by simp[hms]) (hmo.push (by rw[hms];exact ho)) (by simp[hpl]) (by
    intro k hk;by_cases hki:k=i
    ·subst hki;simp[hos]
    ·have:i+1 - 1 - k=(i - 1 - k)+1:=by omega
     rw[this,List.getElem?_cons_succ];exact aaj k (by omega)) (by rw[ab9];simpa[List.tail_drop] using h3)
   refine⟨fun t o ht hto e he hb=>?_,fun t j ht htl hj=>?_⟩
   ·by_cases hti:t=i
    ·subst hti
     rw[ho] at hto;cases hto;have:=(List.all_eq_true.mp h1) e (by simpa using he);simpa[hb] using this
    ·exact ih.1 t o (by omega) hto e he hb
   ·by_cases hti:t=i
    ·subst hti
     have hjl:j < os.length:=by omega
     have hp:=aaj j hj;rw[List.getElem?_eq_getElem hjl] at hp;rcases Zdr h2 _ _ _ hp with h4 | h4
     ·exact .inl (Wm hmo ho j h4)
     ·refine .inr (fun s' u hs' hu=>?_)
      rw[List.getElem?_eq_getElem hjl] at hs';cases hs';rw[hos] at hu;cases hu;have hfr:(fr.drop t).headD []=fr.getD t []:=by simp[List.getD_eq_getElem?_getD,List.headD_eq_head?_getD,List.head?_drop]
      rw[hfr] at h4;exact h4
    ·exact ih.2 t j (by omega) htl hj
theorem Zjt{ops:Array Oper}{os:List aZ}{fr:List (List Bool)}(h:QA ops os fr=true) :
  (∀(i:Nat) o,ops[i]? = some o→∀e∈o.after,Region.binds .any e=true→e.on < i)∧
  ∀i j,i < ops.size→j < i→Ord ops i j∨∀s t,os[j]? = some s→os[i]? = some t→FN s t=true∧((xw s=true∧xw t=true)∨(fr.getD i [])[i - 1 - j]? = some true):=by
 obtain⟨h1,h2⟩:=Zda (ops:=ops) (os:=os) (fr:=fr) ops.size 0 [] [] (by omega) (by omega) (by omega) rfl (fun i j h=>by simp at h) rfl (by intro k hk;omega) (by rw[QA] at h;simpa using h);exact⟨fun i o=>h1 i o (Nat.zero_le _),fun i j=>h2 i j (Nat.zero_le _)⟩
theorem Zju{P:Program}{n:Nat}{ops:Array Oper}{os:List aZ}{fr:List (List Bool)}{id:Nat}{Q:Exit→AF→St→Prop}(hm:P.follows .mixedOrders=true)(hc:ops.toList.mapM (nW P n ops)=some os)(hok:QA ops os fr=true)
  (hget:os.length=ops.size∧∀k (hk:k < os.length),∃o,ops[k]? = some o∧nW P n ops o=some (os[k])) {a:AF} {S:St}
  (h:RD P S.n os fr 0 [] (fun a S=>Q .normal a S) a ⟨S.n+os.length,S.g⟩) {E:Env} {w:World} {act:Act} (hG:jI P E.H) (hS:bf E S w) (hF:fu E n a act):(Code.region id ops true).wp P (nZ E S w n Q) act w:=by
 obtain⟨hlen,hg⟩:=hget;obtain⟨h1,h2⟩:=Zjt hok;obtain⟨l,a2,S2,k1,k2,k3,k4,k5,k6⟩:=ZiE os fr 0 [] a _ h;have hll:l.length=os.length:=by rw[←k3];simp
 have hi:∀k (hk:k < l.length),(l[k]).i=k:=by
  intro k hk;have h5:(l.map (·.i))[k]'(by simpa using hk)=(List.range' 0 os.length)[k]'(by simp;omega):=by simp only[k4]
  simpa using h5
 have ho:∀k (hk:k < l.length),(l[k]).o=os[k]'(by omega):=by
  intro k hk;have h5:(l.map (·.o))[k]'(by simpa using hk)=os[k]'(by omega):=by simp only[k3]
  simpa using h5
 have hmem:∀s∈l,∃k,∃hk:k < l.length,l[k]=s∧s.i=k:=by
  intro s hs;obtain⟨k,hk,e⟩:=List.mem_iff_getElem.mp hs;exact⟨k,hk,e,by rw[←e];exact hi k hk⟩
 refine wp_region_any hm ?_;refine Zi0 (S0:=S) (base:=S.n) hG (Nat.le_refl _) h1 ops.size l (Array.replicate ops.size false) a _ a2 S2 (by omega) k1 k2 ?_ ?_ ?_ (by simp) ?_ ?_ ?_ E _ act ((hS.drop S.g (fun _ _ e=>e) _ (by show S.n≤S.n+_;omega)).drew) hF ?_ ?_
 ·have h6:(l.map (·.i)).Pairwise (· < ·):=by rw[k4];exact List.pairwise_lt_range'
  exact List.pairwise_map.mp h6
 ·intro i hi'
  have:(Array.replicate ops.size false).getD i true=false:=by simp[Array.getD_eq_getD_getElem?,hi']
  simp only[this,true_iff];exact⟨l[i]'(by omega),List.getElem_mem _,hi i (by omega)⟩
 ·intro s hs
  obtain⟨k,hk,_,e⟩:=hmem s hs;omega
 ·intro k o hk
  simp only[Array.getD_eq_getD_getElem?] at hk;by_cases hks:k < ops.size
  ·simp[hks] at hk
  ·simp[hks] at hk
 ·intro s hs
  obtain⟨k,hk,e1,e2⟩:=hmem s hs;obtain⟨o,q1,q2⟩:=hg k (by omega);refine⟨o,by rw[e2];exact q1,?_⟩;rw[←e1,ho k hk];exact q2
 ·intro s hs t ht hlt
  obtain⟨k,hk,e1,e2⟩:=hmem s hs;obtain⟨m,hm',e3,e4⟩:=hmem t ht;rcases h2 t.i s.i (by omega) hlt with h7 | h7
  ·exact .inl h7
  ·right
   obtain⟨q1,q2⟩:=h7 s.o t.o (by rw[←e1,ho k hk,hi k hk];exact List.getElem?_eq_getElem _) (by rw[←e3,ho m hm',hi m hm'];exact List.getElem?_eq_getElem _);obtain⟨s1,s2,s3⟩:=Zg8 q1;rcases q2 with⟨q2,q3⟩ | q2
   ·have w1:=k5 s hs q2
    have w2:=k5 t ht q3;exact⟨s1,s2,s3,by simp[w1],by simp[w2],by simp[w1]⟩
   ·have hkm:k < m:=by omega
    obtain⟨d1,d2,d3⟩:=k6 m hm' (m - 1 - k) (s.F,s.W) (by rw[←e4,←e2];exact q2) (by
     rw[List.append_nil,List.getElem?_map,List.getElem?_reverse (by simp;omega)];have:(List.take m l).length - 1 - (m - 1 - k)=k:=by simp;omega
     rw[this,List.getElem?_take,if_pos hkm,List.getElem?_eq_getElem hk,e1];rfl)
    rw[e3] at d1 d2 d3;exact⟨s1,s2,s3,d1,d2,d3⟩
 ·intro s hs
  obtain⟨k,hk,e1,e2⟩:=hmem s hs;exact⟨hS.fresh _ (by omega),by show S.n+s.i < S.n+os.length;omega⟩
 ·exact⟨⟨rfl,rfl,rfl,Nat.le_refl _,fun _ _ _=>rfl,fun id l k hk hl=>.inr ⟨id,l,k,hk,hl,rfl⟩,Env.le_refl _,fun _ _ e=>.inl e⟩,by show S.n≤S.n+_;omega,fun _ _ e=>e⟩
def Rp:jA→Bool
 | .Es _ _ _=>false
 | _=>true
def vX(o:aZ):Bool:=o.call.isNone && !MZ o.op && Rp o.op
def A9(o:aZ):Bool:=o.guard.isNone && o.call.isNone && (match o.op with | .mv _ | .Ak _ _ _=>true | _=>false)
def G8(o:aZ)(a:AF):AV:=match o.op with
 | .mv x=>x.ev a
 | .Ak f first cap=>.aP f (first.map (·.ev a)) (cap.map (·.ev a))
 | _=>.junk
def Fq(o:aZ)(a:AF):List Nat:=if vX o=true then (match gd o a with | some true=>(ex o.op a).F | _=>[]) else []
def xE(w:List Nat)(g g':Nat→Option aF):List (Nat×List Nat)→Prop
 | []=>True
 | (i,F)::T=>(if w.contains i=true then ∀j∈F,g' j=g j else True)∧xE w g g' T
theorem IU{w:List Nat}{g g':Nat→Option aF}:∀{T:List (Nat×List Nat)},xE w g g' T↔∀p∈T,p.1∈w→∀j∈p.2,g' j=g j
 | []=>by simp[xE]
 | (i,F)::T=>by
  unfold xE;rw[IU (T:=T)];by_cases h:i∈w
  ·simp[h]
  ·simp[h]
def lS(P:Program)(base i:Nat)(o:aZ)(w:List Nat)(T:List (Nat×List Nat))(R:AV→St→Prop)(a:AF)(S:St):Prop:=
 match gd o a with
 | none=>False
 | some false=>R (.aM []) S
 | some true=>match o.call with
  | some (G,xs)=>match G.ev a with
   | .aP f first cap=>aQ P f (first++xs.map (·.ev a)++cap) S fun r S'=>xE w S.g S'.g T∧R r S'
   | _=>False
  | none=>match (ex o.op a).run S (base+i) with
   | some (v,S')=>R v S'
   | none=>sJ o.op a fun v=>R v S
abbrev mQ:=Nat×aZ×List Nat
def jD(P:Program)(base:Nat):List mQ→List (Nat×List Nat)→(AF→St→Prop)→AF→St→Prop
 | [],_,K,a,S=>K a S
 | (i,o,w)::l,T,K,a,S=>lS P base i o w T (fun v S'=>jD P base l ((i,Fq o a)::T) K (a.put o.dst v) S') a S
section
variable{P:Program}{base i:Nat}{o:aZ}{w:List Nat}{T T':List (Nat×List Nat)}{R R':AV→St→Prop}{a b:AF}{S:St}
theorem lS.mono(hk:∀v S,R v S→R' v S)(h:lS P base i o w T R a S):lS P base i o w T R' a S:=by
 unfold lS at h ⊢;split at h
 ·exact h.elim
 ·exact hk _ _ h
 ·split at h
  ·split at h
   ·exact h.mono fun r S' k=>⟨k.1,hk _ _ k.2⟩
   ·exact h.elim
  ·split at h
   ·exact hk _ _ h
   ·exact PN (fun v hv=>hk _ _ hv) h
theorem lS.watch(hT:∀p∈T',p.2=[]∨p∈T)(h:lS P base i o w T R a S):lS P base i o w T' R a S:=by
 unfold lS at h ⊢;split at h
 ·exact h
 ·exact h
 ·split at h
  ·split at h
   ·refine h.mono fun r S' k=>⟨IU.mpr fun p hp hw j hj=>?_,k.2⟩
    rcases hT p hp with h1 | h1
    ·rw[h1] at hj;simp at hj
    ·exact IU.mp k.1 p h1 hw j hj
   ·exact h.elim
  ·exact h
theorem lS.P5V(ha:∀t∈o.jf,a t=b t)(h:lS P base i o w T R a S):lS P base i o w T R b S:=by
 have hg:=Jo (o:=o) ha;unfold lS at h ⊢;rw[←hg];split at h
 ·exact h
 ·exact h
 ·split at h
  ·rename_i G xs hc
   have hrd:∀t∈G.jf++xs.flatMap aJ.jf,a t=b t:=fun t ht=>ha t (by simp only[aZ.jf,hc,List.mem_append];exact .inr (by simpa using ht))
   have e1:G.ev b=G.ev a:=(eH (fun t ht=>hrd t (by simp[ht]))).symm;have e2:xs.map (·.ev b)=xs.map (·.ev a):=(Mg (fun t ht=>hrd t (List.mem_append.mpr (.inr ht)))).symm;rw[e1,e2];exact h
  ·rename_i hc
   have hrd:∀t∈o.op.jf,a t=b t:=fun t ht=>ha t (by simp only[aZ.jf,hc,List.mem_append];exact .inr ht)
   have he:ex o.op b=ex o.op a:=(Rx hrd).symm;rw[he];split at h
   ·exact h
   ·unfold sJ at h ⊢
    split
    ·rename_i neg x hop
     rw[hop] at h hrd;simp only at h;have:x.ev b=x.ev a:=(eH (fun t ht=>hrd t (by simpa[jA.jf] using ht))).symm;rw[this];exact h
    ·rename_i hop
     split at h
     ·rename_i neg x hop2;exact(hop _ _ hop2).elim
     ·exact h
theorem Zsj(ha:∀t∈o.jf,a t=b t):Fq o a=Fq o b:=by
 unfold Fq;by_cases hq:vX o=true
 ·rw[if_pos hq,if_pos hq,Jo ha]
  simp only[vX,Bool.and_eq_true] at hq;have hc:o.call=none:=by simpa using hq.1.1
  have he:ex o.op a=ex o.op b:=Rx (fun t ht=>ha t (by simp only[aZ.jf,hc,List.mem_append];exact .inr ht));rw[he]
 ·rw[if_neg hq,if_neg hq]
def qv(base i:Nat)(o:aZ)(a:AF)(S:St):Option AV:=match gd o a with
 | none=>none
 | some false=>some (.aM [])
 | some true=>((ex o.op a).run S (base+i)).map Prod.fst
theorem ZoK{op:jA}(h:Rp op=true){k:AV→Prop}(hn:sJ op a k):False:=by
 unfold sJ at hn;split at hn
 ·simp[Rp] at h
 ·exact hn
theorem Zp5(F:List Nat)(S:St):S.fD F []=S:=by cases F<;>rfl
theorem Il(hq:vX o=true):lS P base i o w T R a S↔∃v,qv base i o a S=some v∧R v S:=by
 have hq':=hq;simp only[vX,Bool.and_eq_true,Bool.not_eq_true'] at hq';obtain⟨⟨hc,hm⟩,hn⟩:=hq';have hc:o.call=none:=by simpa using hc
 unfold lS qv;cases hg:gd o a with
 | none=>simp
 | some b=>
  cases b with
  | false=>simp
  | true=>
   simp only[hc];cases hr:(ex o.op a).run S (base+i) with
   | none=>
    simp only[Option.map_none];constructor
    ·intro h;exact(ZoK hn h).elim
    ·rintro⟨v,h,_⟩;cases h
   | some p=>
    obtain⟨v,S'⟩:=p
    have hS:S'=S:=by
     unfold Eff.run at hr;split at hr
     ·cases hr
     ·split at hr
      ·cases hr
      ·rename_i out hout
       obtain⟨q1,q2⟩:=ZiC hm hout;simp only[Option.some.injEq,Prod.mk.injEq] at hr;obtain⟨_,rfl⟩:=hr;rw[q1,q2,Zp5];rfl
    subst hS;simp
theorem ZtI{S':St}(hq:vX o=true)(ha:∀t∈o.jf,a t=b t)(hS:∀j∈Fq o a,S'.g j=S.g j):qv base i o b S'=qv base i o a S:=by
 have hq':=hq;simp only[vX,Bool.and_eq_true,Bool.not_eq_true'] at hq';obtain⟨⟨hc,hm⟩,hn⟩:=hq';have hc:o.call=none:=by simpa using hc
 have he:ex o.op b=ex o.op a:=(Rx (fun t ht=>ha t (by simp only[aZ.jf,hc,List.mem_append];exact .inr ht))).symm;unfold qv;rw[←Jo ha,he];cases hg:gd o a with
 | none=>rfl
 | some c=>
  cases c with
  | false=>rfl
  | true=>
   simp only;have hF:Fq o a=(ex o.op a).F:=by unfold Fq;rw[if_pos hq,hg]
   rw[hF] at hS;unfold Eff.run;rw[Zdl hS];cases(ex o.op a).F.mapM S.g with
   | none=>rfl
   | some bs=>
    simp only;cases(ex o.op a).k bs<;>rfl
theorem Ll(h:A9 o=true):vX o=true:=by
 simp only[A9,Bool.and_eq_true] at h;obtain⟨⟨h1,h2⟩,h3⟩:=h;simp only[vX,Bool.and_eq_true,h2,true_and,Bool.not_eq_true'];cases ho:o.op<;>rw[ho] at h3<;>first | exact Bool.noConfusion h3 | exact⟨rfl,rfl⟩
theorem ZmU(h:A9 o=true):Fq o a=[]:=by
 unfold Fq;rw[if_pos (Ll h)];simp only[A9,Bool.and_eq_true] at h;obtain⟨⟨h1,h2⟩,h3⟩:=h
 have hg:gd o a=some true:=by
  unfold gd;have:o.guard=none:=by simpa using h1
  rw[this]
 rw[hg];cases ho:o.op<;>rw[ho] at h3<;>first | exact Bool.noConfusion h3 | rfl
theorem Qa(h:A9 o=true):qv base i o a S=some (G8 o a):=by
 unfold qv G8;simp only[A9,Bool.and_eq_true] at h;obtain⟨⟨h1,h2⟩,h3⟩:=h
 have hg:gd o a=some true:=by
  unfold gd;have:o.guard=none:=by simpa using h1
  rw[this]
 rw[hg];cases ho:o.op<;>rw[ho] at h3<;>first | exact Bool.noConfusion h3 | (simp only[ex,Eff.rR,Option.map_some])
theorem ZtQ(h:A9 o=true)(ha:∀t∈o.jf,a t=b t):G8 o b=G8 o a:=by
 have h1:=Qa (base:=0) (i:=0) (S:=⟨0,fun _=>none⟩) (a:=a) h;have h2:=Qa (base:=0) (i:=0) (S:=⟨0,fun _=>none⟩) (a:=b) h;have h3:=ZtI (base:=0) (i:=0) (S:=⟨0,fun _=>none⟩) (S':=⟨0,fun _=>none⟩) (Ll h) ha (fun _ _=>rfl);rw[h1,h2] at h3;exact Option.some.inj h3
end
section
variable{P:Program}{base:Nat}
theorem ZeR:∀(l:List mQ) {T T':List (Nat×List Nat)} {K:AF→St→Prop} {a:AF} {S:St},(∀p∈T',p.2=[]∨p∈T)→jD P base l T K a S→jD P base l T' K a S
 | [],_,_,_,_,_,_,h=>h
 | (i,o,w)::l,T,T',K,a,S,hT,h=>by
  unfold jD at h ⊢;refine lS.mono (fun v S' h'=>?_) (h.watch hT);refine ZeR l (fun p hp=>?_) h';rcases List.mem_cons.mp hp with rfl | hp
  ·exact .inr (by simp)
  ·rcases hT p hp with h1 | h1
   ·exact .inl h1
   ·exact .inr (by simp[h1])
theorem ZhA:∀(l:List mQ) {T:List (Nat×List Nat)} {K K':AF→St→Prop} {a:AF} {S:St},(∀a S,K a S→K' a S)→jD P base l T K a S→jD P base l T K' a S
 | [],_,_,_,_,_,hk,h=>hk _ _ h
 | (i,o,w)::l,T,K,K',a,S,hk,h=>by
  unfold jD at h ⊢;exact lS.mono (fun v S' h'=>ZhA l hk h') h
def Cu(s t:mQ):Bool:=FN s.2.1 t.2.1 && (A9 s.2.1 || A9 t.2.1 || (vX s.2.1 && vX t.2.1) || (vX s.2.1 && t.2.1.call.isSome && t.2.2.contains s.1))
theorem II{a:AF}{d:Option Nat}{v:AV}{L:List Nat}(h:∀e,d=some e→e∉L):∀t∈L,a t=a.put d v t:=fun t ht=>(AF.put_eq (fun e he=>by intro h3;subst h3;exact h _ he ht)).symm
theorem Znq{s t:mQ}{l:List mQ}{T:List (Nat×List Nat)}{K:AF→St→Prop}{a:AF}{S:St}(hb:Cu s t=true)(h:jD P base (s::t::l) T K a S):jD P base (t::s::l) T K a S:=by
 obtain⟨i,o,w⟩:=s;obtain⟨j,u,x⟩:=t;simp only[Cu,Bool.and_eq_true,Bool.or_eq_true] at hb;obtain⟨hsl,hor⟩:=hb;obtain⟨r1,r2,dd⟩:=Zg8 hsl;unfold jD at h ⊢;unfold jD at h ⊢;have hFu:∀v,Fq u (a.put o.dst v)=Fq u a:=fun v=>(Zsj (II r1)).symm
 have hFo:∀v,Fq o (a.put u.dst v)=Fq o a:=fun v=>(Zsj (II r2)).symm
 have perm:∀{b:AF} {S2:St},jD P base l ((j,Fq u a)::(i,Fq o a)::T) K b S2→jD P base l ((i,Fq o a)::(j,Fq u a)::T) K b S2:=
  fun h=>ZeR l (fun p hp=>.inr (by simp only[List.mem_cons] at hp ⊢;rcases hp with h1 | h1 | h1<;>simp[h1])) h
 have key:vX o=true→(∀b,lS P base j u x ((i,Fq o a)::T) (fun r S'=>jD P base l ((j,Fq u a)::(i,Fq o a)::T) K ((a.put o.dst b).put u.dst r) S') a S→
   lS P base j u x ((i,Fq o a)::T) (fun r S'=>(∀k∈Fq o a,S'.g k=S.g k)∧jD P base l ((j,Fq u a)::(i,Fq o a)::T) K ((a.put o.dst b).put u.dst r) S') a S)→
   lS P base j u x T (fun v S'=>lS P base i o w ((j,Fq u a)::T) (fun v_1 S'=>jD P base l ((i,Fq o (a.put u.dst v))::(j,Fq u a)::T) K ((a.put u.dst v).put o.dst v_1) S') (a.put u.dst v) S') a S:=by
  intro hq hkeep;obtain⟨v,hv,h2⟩:=(Il hq).mp h;rw[hFu] at h2;have h3:=hkeep v (lS.P5V (fun t ht=>(II r1 t ht).symm) h2);refine lS.mono (fun r S' hh=>?_) (h3.watch (T':=T) (fun p hp=>.inr (by simp[hp])));obtain⟨h4,h5⟩:=hh;refine(Il hq).mpr ⟨v,?_,?_⟩
  ·rw[←hv]
   exact ZtI hq (II r2) h4
  ·rw[hFo]
   rw[AF.put_comm (d:=u.dst) (e:=o.dst) (fun k hk=>fun e=>dd k e hk)];exact perm h5
 rcases hor with((h1 | h1) | ⟨h1,h2⟩) | ⟨⟨h1,h2⟩,h3⟩
 ·refine key (Ll h1) (fun b hh=>lS.mono (fun r S' k=>⟨fun q hq=>?_,k⟩) hh)
  rw[ZmU h1] at hq;simp at hq
 ·
  have hFz:Fq u a=[]:=ZmU h1;refine(Il (Ll h1)).mpr ⟨G8 u a,Qa h1,?_⟩
  have h2:lS P base i o w T (fun v S'=>jD P base l ((i,Fq o a)::(j,Fq u a)::T) K ((a.put u.dst (G8 u a)).put o.dst v) S') a S:=by
   refine lS.mono (fun v S' hh=>?_) h;obtain⟨v2,hv2,h3⟩:=(Il (Ll h1)).mp hh;rw[Qa h1] at hv2;cases hv2;rw[ZtQ h1 (II r1),hFu] at h3;rw[AF.put_comm (d:=u.dst) (e:=o.dst) (fun k hk=>fun e=>dd k e hk)];exact perm h3
  have h3:=h2.P5V (b:=a.put u.dst (G8 u a)) (II r2);rw[hFo];refine h3.watch (fun p hp=>?_);rcases List.mem_cons.mp hp with rfl | hp
  ·exact .inl hFz
  ·exact .inr hp
 ·refine key h1 (fun b hh=>?_)
  obtain⟨v,k1,k2⟩:=(Il h2).mp hh;exact(Il h2).mpr ⟨v,k1,fun _ _=>rfl,k2⟩
 ·refine key h1 (fun b hh=>?_)
  have hx:i∈x:=by simpa using h3
  unfold lS at hh ⊢;split at hh
  ·exact hh
  ·exact⟨fun _ _=>rfl,hh⟩
  ·split at hh
   ·split at hh
    ·refine hh.mono fun r S' k=>⟨k.1,?_,k.2⟩
     exact IU.mp k.1 (i,Fq o a) (by simp) hx
    ·exact hh.elim
   ·rename_i hc
    rw[hc] at h2;simp at h2
theorem ZeQ{x:mQ}{l2:List mQ}:∀{l1:List mQ} {T:List (Nat×List Nat)} {K:AF→St→Prop} {a:AF} {S:St},(∀s∈l1,Cu s x=true)→jD P base (l1++x::l2) T K a S→jD P base (x::(l1++l2)) T K a S
 | [],_,_,_,_,_,h=>h
 | (i,o,w)::l1,T,K,a,S,hi,h=>by
  have h2:jD P base ((i,o,w)::x::(l1++l2)) T K a S:=by
   rw[List.cons_append] at h;unfold jD at h ⊢;exact lS.mono (fun v S' hh=>ZeQ (l1:=l1) (fun q hq=>hi q (by simp[hq])) hh) h
  exact Znq (hi _ (by simp)) h2
end
theorem ZmZ{P:Program}{n:Nat}{ops:Array Oper}{base i:Nat}{ao:aZ}{w0:List Nat}{T:List (Nat×List Nat)}{R:AV→St→Prop}{a:AF}{S:St}(h:lS P base i ao w0 T R a S){o:Oper}(ho:ops[i]? = some o)(hco:nW P n ops o=some ao)
  {E:Env} {w:World} {act:Act} (y7:jI P E.H) (hS:bf E S w) (hF:fu E n a act) (hρ:E.ρ (base+i)=none) (hlt:base+i < S.n) {K:Act→World→Prop} {Q:Exit→Act→World→Prop}
  (hK:∀v S' act' w' E',R v S'→bf E' S' w'→fu E' n (a.put ao.dst v) act'→kH E S w E' S' w'→S.n≤S'.n→(∀k,k < S.n→k≠base+i→E.ρ k=none→E'.ρ k=none)→K act' w'):wpOp P ops Q i K act w:=by
 obtain⟨hd,hdst,hgd,hor⟩:=Fb hco;unfold wpOp;rw[ho];simp only;unfold lS at h;split at h
 ·exact h.elim
 ·rename_i hg
  rw[zy hF hgd hg];simp only[Bool.false_eq_true,if_false];rw[←hdst];exact hK _ _ _ _ E h hS (hF.put (by rw[hdst];exact hd) Lv) (.refl _ _ _) (Nat.le_refl _) (fun _ _ _ e=>e)
 ·rename_i hg
  rw[zy hF hgd hg];simp only[if_true];left;rcases hor with⟨p,hp1,hp2⟩ | ⟨hp1,hop⟩
  ·rw[hp1] at h
   obtain⟨G,xs⟩:=p;simp only at h;unfold CJ at hp2;split at hp2
   ·rename_i g ys ts wQ
    simp only[Option.bind_eq_some_iff,Option.map_eq_some_iff,Prod.mk.injEq] at hp2;obtain⟨G',hG,XS,Ae,rfl,rfl⟩:=hp2;have rg:=bT hF hG;split at h
    ·rename_i f first cap Af
     rw[Af] at rg;generalize hev:act.eval g=gv at rg;cases rg with
     | aP _ _ _ fv cv hn hm hf hcc=>
      have hx:=Ie hF Ae;have hargs:kC E (first++XS.map (·.ev a)++cap) (fv++ys.map act.eval++cv):=(kC.append ⟨hn,hf⟩ hx).append ⟨hm,hcc⟩;refine Pz hd h y7 hS hF hargs ?_ (fun r S2 act' w' E' k1 k2 k3 k4=>?_)
      ·simp only[execOp,wQ,Sem.run_bind,ER act.eval g ys ts o.type hev,Result.andThen_ok,invoke]
       exact ES h.1 _ _
      ·exact hK r S2 act' w' E' k1.2 k2 (by rw[hdst];exact k3) k4.bX k4.jP (fun i hi _ e=>k4.low i hi e)
    ·exact h.elim
   ·cases hp2
  ·rw[hp1] at h
   simp only at h;split at h
   ·rename_i v S' hex
    have hok:=I8 (P:=P) (n:=n) (o:=o) hd hop hex;have hn:=Eff.OV hex;refine hok E w act hS hF hρ hlt _ _ fun act' w' E' k1 k2 k3 k4=>hK v S' act' w' E' h k1 (by rw[hdst];exact k2) k3 (by omega) (fun k _ hk e=>k4.2 k hk e)
   ·obtain⟨b,g1,g2⟩:=Qq hop h hF w
    unfold Oper.wp;rw[g2,Oper.upon_value];rw[←hdst];exact hK _ _ _ _ E g1 hS (hF.put (by rw[hdst];exact hd) (.v _ rfl)) (.refl _ _ _) (Nat.le_refl _) (fun _ _ _ e=>e)
theorem Zi1{P:Program}{n:Nat}{ops:Array Oper}{base:Nat}{Q:Exit→AF→St→Prop}{E0:Env}{S0:St}{w0:World}(hG0:jI P E0.H)(hb:S0.n≤base)
  (hon:∀(i:Nat) o,ops[i]? = some o→∀e∈o.after,Region.binds .any e=true→e.on < i) :
  ∀(fuel:Nat) (R:List mQ) (T:List (Nat×List Nat)) (listed:Array Bool) (a:AF) (S:St),R.length=fuel→jD P base R T (fun a S=>Q .normal a S) a S→R.Pairwise (fun s t=>s.1 < t.1)→
   (∀i,i < ops.size→(listed.getD i true=false↔∃s∈R,s.1=i))→(∀s∈R,s.1 < ops.size)→listed.size=ops.size→XW ops listed→
   (∀s∈R,∃o,ops[s.1]? = some o∧nW P n ops o=some s.2.1)→(∀s∈R,∀t∈R,s.1 < t.1→Ord ops t.1 s.1∨Cu s t=true)→
   ∀E w act,bf E S w→fu E n a act→(∀s∈R,E.ρ (base+s.1)=none∧base+s.1 < S.n)→Ev E0 S0 w0 E S w→wpAny P .any ops (nZ E0 S0 w0 n Q) fuel listed act w
 | 0,R,T,listed,a,S,hlen,hch,_,hmem,_,_,_,_,_,E,w,act,hS,hF,_,hE=>by
  have:R=[]:=List.eq_nil_of_length_eq_zero hlen;subst this;refine⟨?_,a,S,E,hch,hS,hF,hE⟩;refine List.eq_nil_iff_forall_not_mem.mpr (fun i hi=>?_);obtain⟨h1,h2,_⟩:=IE.mp hi;obtain⟨s,hs,_⟩:=(hmem i h1).mp h2;simp at hs
 | fuel+1,R,T,listed,a,S,hlen,hch,hsort,hmem,hlt,hsz,Nl,hops,Nr,E,w,act,hS,hF,hr,hE=>by
  refine⟨fun hnil=>?_,fun i hi=>?_⟩
  ·cases R with
   | nil=>simp at hlen
   | cons s R=>
    exfalso
    have Nt:s.1∈Region.ready .any ops listed:=by
     obtain⟨o,ho,_⟩:=hops s (by simp);have hsi:=hlt s (by simp);refine IE.mpr ⟨hsi,(hmem s.1 hsi).mpr ⟨s,by simp,rfl⟩,o,ho,fun e he hbn=>?_⟩;have hlt2:=hon _ o ho e he hbn;cases hl:listed.getD e.on false with
     | true=>rfl
     | false=>
      have hl2:listed.getD e.on true=false:=by
       simp only[Array.getD_eq_getD_getElem?] at hl ⊢;rw[Array.getElem?_eq_getElem (by omega)] at hl ⊢;exact hl
      obtain⟨s',hs',e'⟩:=(hmem e.on (by omega)).mp hl2;rcases List.mem_cons.mp hs' with rfl | h3
      ·omega
      ·have:=List.rel_of_pairwise_cons hsort h3
       omega
    rw[hnil] at Nt;simp at Nt
  ·obtain⟨h1,h2,o,ho,hpre⟩:=IE.mp hi
   obtain⟨s,hs,rfl⟩:=(hmem i h1).mp h2;obtain⟨l1,l2,rfl⟩:=List.append_of_mem hs
   have Y9:∀q∈l1,Cu q s=true:=by
    intro q hq'
    have hqi:q.1 < s.1:=by
     have:=List.pairwise_append.mp hsort;exact this.2.2 q hq' s (by simp)
    rcases Nr q (by simp[hq']) s (by simp) hqi with h3 | h3
    ·exfalso
     have h4:=h3.listed Nl o ho hpre;have h5:=(hmem q.1 (hlt q (by simp[hq']))).mpr ⟨q,by simp[hq'],rfl⟩;simp only[Array.getD_eq_getD_getElem?] at h4 h5;rw[Array.getElem?_eq_getElem (by have:=hlt q (by simp[hq']);omega)] at h4 h5;simp at h4 h5;rw[h4] at h5;cases h5
    ·exact h3
   have hfr:=ZeQ Y9 hch;obtain⟨si,so,sw⟩:=s;simp only at *;unfold jD at hfr;obtain⟨o',ho',hco⟩:=hops (si,so,sw) (by simp);obtain⟨r1,r2⟩:=hr (si,so,sw) (by simp)
   have Zg:(l1++l2).Pairwise (fun s t=>s.1 < t.1):=by
    have h6:=List.pairwise_append.mp hsort;refine List.pairwise_append.mpr ⟨h6.1,(List.pairwise_cons.mp h6.2.1).2,fun x hx y hy=>h6.2.2 x hx y (by simp[hy])⟩
   have hne:∀q∈l1++l2,q.1≠si:=by
    intro q hq';have h6:=List.pairwise_append.mp hsort;rcases List.mem_append.mp hq' with h7 | h7
    ·have:=h6.2.2 q h7 (si,so,sw) (by simp);simp only at this;omega
    ·have:=(List.pairwise_cons.mp h6.2.1).1 q h7;simp only at this;omega
   have hsub:∀q∈l1++l2,q∈l1++(si,so,sw)::l2:=by
    intro q hq';rcases List.mem_append.mp hq' with h7 | h7<;>simp[h7]
   refine ZmZ hfr ho' hco (hG0.le hE.bX.le) hS hF r1 r2 fun v S1 act' w' E' k0 k1 k2 k3 k4 k5=>?_
   refine Zi1 hG0 hb hon fuel (l1++l2) _ (listed.setIfInBounds si true) _ _ (by simp at hlen ⊢;omega) k0 Zg ?_ (fun q hq'=>hlt q (hsub q hq')) (by simpa using hsz) ?_ (fun q hq'=>hops q (hsub q hq'))
    (fun q hq' t ht=>Nr q (hsub q hq') t (hsub t ht)) E' w' act' k1 k2 (fun q hq'=>?_) ⟨hE.bX.trans k3,by have:=hE.jP;omega,fun id hid e=>k5 id (by have:=hE.jP;omega) (by omega) (hE.low id hid e)⟩
   ·intro j hj
    simp only[Array.getD_eq_getD_getElem?,Array.getElem?_setIfInBounds];by_cases hjs:si=j
    ·subst hjs
     rw[if_pos rfl,if_pos (by omega)];simp only[Option.getD_some,Bool.true_eq_false,false_iff,not_exists,not_and];exact fun q hq'=>hne q hq'
    ·rw[if_neg hjs]
     have:=hmem j hj;simp only[Array.getD_eq_getD_getElem?] at this;rw[this];constructor
     ·rintro⟨q,hq',e⟩
      refine⟨q,?_,e⟩;rcases List.mem_append.mp hq' with h7 | h7
      ·simp[h7]
      ·rcases List.mem_cons.mp h7 with rfl | h8
       ·exact(hjs e).elim
       ·simp[h8]
     ·rintro⟨q,hq',e⟩;exact⟨q,hsub q hq',e⟩
   ·intro k o2 hk ho2 e he hbn
    simp only[Array.getD_eq_getD_getElem?,Array.getElem?_setIfInBounds] at hk ⊢;by_cases hks:si=k
    ·subst hks
     rw[ho] at ho2;cases ho2;have h8:=hpre e he hbn;simp only[Array.getD_eq_getD_getElem?] at h8;split
     ·rw[if_pos (by omega)];rfl
     ·exact h8
    ·rw[if_neg hks] at hk
     have h8:=Nl k o2 (by simpa[Array.getD_eq_getD_getElem?] using hk) ho2 e he hbn;simp only[Array.getD_eq_getD_getElem?] at h8;split
     ·rename_i h9
      split
      ·rfl
      ·rw[←h9,Array.getElem?_eq_none (by omega)] at h8;simp at h8
     ·exact h8
   ·obtain⟨q1,q2⟩:=hr q (hsub q hq')
    exact⟨k5 _ q2 (by have:=hne q hq';omega) q1,by omega⟩
def QF(m:Nat)(t:mQ):List mQ→Bool
 | []=>true
 | s::prev=>(m.testBit s.1 || Cu s t) && QF m t prev
def Jq:List Oper→List mQ→List mQ→List Nat→Nat→Bool
 | o::ops,s::os,prev,ms,i=>o.after.toList.all (fun e=>!Region.binds .any e || decide (e.on < i)) && QF (yJ ms o) s prev && Nat.beq s.1 i && Jq ops os (s::prev) (ms++[yJ ms o]) (i+1)
 | [],[],_,_,_=>true
 | _,_,_,_,_=>false
def FX:List Oper→List aZ→List mQ→List Nat→Nat→List mQ
 | o::ops,s::os,prev,ms,i=>(i,s,if s.call.isSome=true then (prev.filter fun p=>!(yJ ms o).testBit p.1 && vX p.2.1 && !A9 p.2.1).map (·.1) else []) ::
   FX ops os ((i,s,[])::prev) (ms++[yJ ms o]) (i+1)
 | _,_,_,_,_=>[]
theorem Zds{m:Nat}{t:mQ}:∀{prev:List mQ},QF m t prev=true→∀s∈prev,m.testBit s.1=true∨Cu s t=true
 | [],_,s,h=>by simp at h
 | x::prev,h,s,hs=>by
  simp only[QF,Bool.and_eq_true,Bool.or_eq_true] at h;rcases List.mem_cons.mp hs with rfl | hs
  ·exact h.1
  ·exact Zds h.2 s hs
theorem ZfO{ops:Array Oper}:∀(l:List Oper) (os prev:List mQ) (ms:List Nat) (i:Nat),ops.toList.drop i=l→ms.length=i→Fw ops ms→Jq l os prev ms i=true→
  os.map (·.1)=List.range' i l.length∧(∀(t:Nat) o,i≤t→ops[t]? = some o→∀e∈o.after,Region.binds .any e=true→e.on < t)∧
   (∀t∈os,∀s∈prev,Ord ops t.1 s.1∨Cu s t=true)∧os.Pairwise (fun s t=>Ord ops t.1 s.1∨Cu s t=true)
 | [],os,prev,ms,i,hl,_,_,h=>by
  cases os with
  | cons s os=>simp[Jq] at h
  | nil=>
   refine⟨rfl,fun t o h1 h2=>?_,by simp,.nil⟩;have h3:=(Array.getElem?_eq_some_iff.mp h2).1;have h4:=List.drop_eq_nil_iff.mp hl;simp at h4;omega
 | o::l,os,prev,ms,i,hl,hms,hmo,h=>by
  cases os with
  | nil=>simp[Jq] at h
  | cons s os=>
   simp only[Jq,Bool.and_eq_true] at h;obtain⟨⟨⟨h1,h2⟩,h3⟩,h4⟩:=h;have hsi:s.1=i:=Nat.eq_of_beq_eq_true h3
   have hlt:i < ops.size:=by
    have:=congrArg List.length hl;simp at this;omega
   have ho:ops[i]? = some o:=by
    rw[List.drop_eq_getElem_cons (by simpa using hlt)] at hl;simp only[List.cons.injEq] at hl;rw[Array.getElem?_eq_getElem hlt,←hl.1];simp
   have hl2:ops.toList.drop (i+1)=l:=by
    rw[List.drop_eq_getElem_cons (by simpa using hlt)] at hl;simp only[List.cons.injEq] at hl;exact hl.2
   obtain⟨k1,k2,k3,k4⟩:=ZfO l os (s::prev) (ms++[yJ ms o]) (i+1) hl2 (by simp[hms]) (hmo.push (by rw[hms];exact ho)) h4;refine⟨by simp[k1,hsi,List.range'_succ],fun t o' ht hto e he hb=>?_,fun t ht q hq=>?_,List.pairwise_cons.mpr ⟨fun t ht=>k3 t ht s (by simp),k4⟩⟩
   ·by_cases hti:t=i
    ·subst hti
     rw[ho] at hto;cases hto;have:=(List.all_eq_true.mp h1) e (by simpa using he);simpa[hb] using this
    ·exact k2 t o' (by omega) hto e he hb
   ·rcases List.mem_cons.mp ht with rfl | ht
    ·rcases Zds h2 q hq with h5 | h5
     ·left;rw[hsi];exact Wm hmo ho _ h5
     ·exact .inr h5
    ·exact k3 t ht q (by simp[hq])
def ZtO(ops:Array Oper)(l:List mQ):Bool:=Jq ops.toList l [] [] 0
theorem ZmO{P:Program}{n:Nat}{ops:Array Oper}{l:List mQ}{id:Nat}{Q:Exit→AF→St→Prop}(hm:P.follows .mixedOrders=true)(hok:ZtO ops l=true)
  (hget:∀s∈l,∃o,ops[s.1]? = some o∧nW P n ops o=some s.2.1) {a:AF} {S:St}
  (h:jD P S.n l [] (fun a S=>Q .normal a S) a ⟨S.n+l.length,S.g⟩) {E:Env} {w:World} {act:Act} (hG:jI P E.H) (hS:bf E S w) (hF:fu E n a act):(Code.region id ops true).wp P (nZ E S w n Q) act w:=by
 obtain⟨k1,k2,k3,k4⟩:=ZfO (ops:=ops) ops.toList l [] [] 0 (by simp) rfl (fun i j h=>by simp at h) hok;have hlen:l.length=ops.size:=by have:=congrArg List.length k1;simpa using this
 have hi:∀k (hk:k < l.length),(l[k]).1=k:=by
  intro k hk;have h5:(l.map (·.1))[k]'(by simpa using hk)=(List.range' 0 ops.toList.length)[k]'(by simp;omega):=by simp only[k1]
  simpa using h5
 have hmem:∀s∈l,s.1 < ops.size:=by
  intro s hs;obtain⟨k,hk,e⟩:=List.mem_iff_getElem.mp hs;have:=hi k hk;rw[e] at this;omega
 refine wp_region_any hm ?_;refine Zi1 (S0:=S) (base:=S.n) hG (Nat.le_refl _) (fun i o=>k2 i o (Nat.zero_le _)) ops.size l [] (Array.replicate ops.size false) a _ (by omega) h ?_ ?_ hmem (by simp) ?_ hget ?_ E _ act ((hS.drop S.g (fun _ _ e=>e) _ (by show S.n≤S.n+_;omega)).drew) hF ?_ ?_
 ·have h6:(l.map (·.1)).Pairwise (· < ·):=by rw[k1];exact List.pairwise_lt_range'
  exact List.pairwise_map.mp h6
 ·intro i hi'
  have:(Array.replicate ops.size false).getD i true=false:=by simp[Array.getD_eq_getD_getElem?,hi']
  simp only[this,true_iff];exact⟨l[i]'(by omega),List.getElem_mem _,hi i (by omega)⟩
 ·intro k o hk
  simp only[Array.getD_eq_getD_getElem?] at hk;by_cases hks:k < ops.size
  ·simp[hks] at hk
  ·simp[hks] at hk
 ·intro s hs t ht hlt
  obtain⟨k,hk,e1⟩:=List.mem_iff_getElem.mp hs;obtain⟨m,hm',e2⟩:=List.mem_iff_getElem.mp ht;have q1:=hi k hk;have q2:=hi m hm';rw[e1] at q1;rw[e2] at q2;have:=List.pairwise_iff_getElem.mp k4 k m hk hm' (by omega);rw[e1,e2] at this;exact this
 ·intro s hs
  have:=hmem s hs;exact⟨hS.fresh _ (by omega),by show S.n+s.1 < S.n+l.length;omega⟩
 ·exact⟨⟨rfl,rfl,rfl,Nat.le_refl _,fun _ _ _=>rfl,fun id l k hk hl=>.inr ⟨id,l,k,hk,hl,rfl⟩,Env.le_refl _,fun _ _ e=>.inl e⟩,by show S.n≤S.n+_;omega,fun _ _ e=>e⟩
def oO(P:Program)(f:FuncId)(args:List AV)(S:St)(K:AV→St→Prop)(X:Value→St→Prop):Prop:=
 tO P f∧∀E w vals,jI P E.H→bf E S w→kC E args vals→
  Calls P f vals w fun e w'=>∃S' E',bf E' S' w'∧Ev E S w E' S' w'∧((∃v r,e=.returned v∧K r S'∧aL E' r v)∨∃v,e=.panicked [{ v,recovered:=false }]∧X v S')
theorem oO.mono{P:Program}{f:FuncId}{args:List AV}{S:St}{K K':AV→St→Prop}{X X':Value→St→Prop}(h:oO P f args S K X)(hk:∀r S',K r S'→K' r S')(hx:∀v S',X v S'→X' v S'):oO P f args S K' X':=
 ⟨h.1,fun E w vals h0 h1 h2=>(h.2 E w vals h0 h1 h2).mono fun e w' ⟨S',E',a,b,c⟩=>⟨S',E',a,b,c.imp (fun⟨v,r,x,y,z⟩=>⟨v,r,x,hk _ _ y,z⟩) fun⟨v,x,y⟩=>⟨v,x,hx _ _ y⟩⟩⟩
theorem oO.GZ{P:Program}{f:FuncId}{args:List AV}{S:St}{K:AV→St→Prop}{X:Value→St→Prop}(h:aQ P f args S K):oO P f args S K X:=
 ⟨h.1,fun E w vals h0 h1 h2=>(h.2 E w vals h0 h1 h2).mono fun e w' ⟨v,r,S',E',a,b,c,d,f⟩=>⟨S',E',c,f,.inl ⟨v,r,a,b,d⟩⟩⟩
def pn(v:Value):Exit:=.panic [{ v,recovered:=false }]
def jJ(P:Program)(base:Nat)(p:Option aJ):List aZ→Nat→(Exit→AF→St→Prop)→AF→St→Prop
 | [],_,Q,a,S=>match p with
  | none=>Q .normal a S
  | some x=>match x.ev a with
   | .v (.iface t y)=>Q (pn (.iface t y)) a S
   | _=>False
 | o::os,i,Q,a,S=>
  match gd o a with
  | none=>False
  | some false=>jJ P base p os (i+1) Q (a.put o.dst (.aM [])) S
  | some true=>match o.call with
   | some (G,xs)=>match G.ev a with
    | .aP f first cap=>oO P f (first++xs.map (·.ev a)++cap) S (fun r S'=>jJ P base p os (i+1) Q (a.put o.dst r) S') fun v S'=>Q (pn v) a S'
    | _=>False
   | none=>match (ex o.op a).run S (base+i) with
    | some (v,S')=>jJ P base p os (i+1) Q (a.put o.dst v) S'
    | none=>sJ o.op a fun v=>jJ P base p os (i+1) Q (a.put o.dst v) S
theorem LC{P:Program}{base:Nat}{p:Option aJ}:∀(os:List aZ) (i:Nat) {Q Q':Exit→AF→St→Prop} {a:AF} {S:St},(∀e a S,Q e a S→Q' e a S)→jJ P base p os i Q a S→jJ P base p os i Q' a S
 | [],i,Q,Q',a,S,hk,h=>by
  cases p with
  | none=>exact hk _ _ _ h
  | some x=>
   simp only[jJ] at h ⊢;split at h
   ·exact hk _ _ _ h
   ·exact h.elim
 | o::os,i,Q,Q',a,S,hk,h=>by
  simp only[jJ] at h ⊢;split at h
  ·exact h.elim
  ·exact LC os (i+1) hk h
  ·split at h
   ·split at h
    ·exact h.mono (fun r S' h'=>LC os (i+1) hk h') fun v S' h'=>hk _ _ _ h'
    ·exact h.elim
   ·split at h
    ·exact LC os (i+1) hk h
    ·exact PN (fun v hv=>LC os (i+1) hk hv) h
theorem Iu{P:Program}{base:Nat}{Q:Exit→AF→St→Prop}:∀(os:List aZ) (i:Nat) {a:AF} {S:St},RG P base os i (fun a S=>Q .normal a S) a S→jJ P base none os i Q a S
 | [],i,a,S,h=>h
 | o::os,i,a,S,h=>by
  simp only[RG] at h;simp only[jJ];cases hg:gd o a with
  | none=>rw[hg] at h;exact h
  | some b=>
   rw[hg] at h;cases b with
   | false=>exact Iu os (i+1) h
   | true=>
    simp only at h ⊢;cases hc:o.call with
    | some p=>
     rw[hc] at h;obtain⟨G,xs⟩:=p;simp only at h ⊢;cases hG:G.ev a with
     | aP f first cap=>rw[hG] at h;exact .GZ (h.mono fun r S' h'=>Iu os (i+1) h')
     | _=>rw[hG] at h;exact h
    | none=>
     rw[hc] at h;simp only at h ⊢;cases hr:(ex o.op a).run S (base+i) with
     | some p=>rw[hr] at h;exact Iu os (i+1) h
     | none=>rw[hr] at h;exact PN (fun v hv=>Iu os (i+1) hv) h
theorem Zjl{P:Program}{n:Nat}{o:Oper}{a:AF}{S:St}(hd:∀d,o.dst=some d→d < n){f:FuncId}{args:List AV}{K:AV→St→Prop}{X:Value→St→Prop}(h:oO P f args S K X)
  {E:Env} {w:World} {act:Act} (hG:jI P E.H) (hS:bf E S w) (hF:fu E n a act) {vals:Array Value} (hv:kC E args vals) (hrun:(execOp act.eval o).run P w=.ok (.enter f vals) w)
  {KK:Act→World→Prop} {Q:Exit→Act→World→Prop} (hK:∀r S' act' w' E',K r S'→bf E' S' w'→fu E' n (a.put o.dst r) act'→Ev E S w E' S' w'→KK act' w')
  (hX:∀v S' w' E',X v S'→bf E' S' w'→fu E' n a act→Ev E S w E' S' w'→Q (pn v) act w'):o.wp P act w KK Q:=by
 unfold Oper.wp;rw[hrun,Oper.upon_enter];refine(h.2 E w vals hG hS hv).mono ?_;rintro e w' ⟨S',E',hS',hev,⟨v,r,rfl,hk,hr⟩ | ⟨v,rfl,hx⟩⟩
 ·exact hK r S' _ w' E' hk hS' ((hF.mono hev.bX.le).put hd hr) hev
 ·exact hX v S' w' E' hx hS' (hF.mono hev.bX.le) hev
theorem Wq{P:Program}{n:Nat}{ops:Array Oper}{base:Nat}{p:Option aJ}{Q:Exit→AF→St→Prop}{E0:Env}{S0:St}{w0:World}(hG0:jI P E0.H)(hb:S0.n≤base) :
  ∀(os:List aZ) (i:Nat) (a:AF) (S:St),(∀k (hk:k < os.length),∃o,ops[i+k]? = some o∧nW P n ops o=some (os[k]))→
   (∀X,p=some X→∃o x,ops[i+os.length]? = some o∧o.op=.panic x∧aV x=some X∧o.guard=none)→jJ P base p os i Q a S→
   ∀E w act,bf E S w→fu E n a act→(∀k,i≤k→k < i+os.length→E.ρ (base+k)=none∧base+k < S.n)→Ev E0 S0 w0 E S w→
    wpOps P ops (nZ E0 S0 w0 n Q) (List.range' i (os.length+p.toList.length)) act w
 | [],i,a,S,_,ht,h,E,w,act,hS,hF,_,hE=>by
  cases p with
  | none=>exact⟨a,S,E,h,hS,hF,hE⟩
  | some X=>
   obtain⟨o,x,ho,hop,hx,hg⟩:=ht X rfl;simp only[jJ] at h;simp only[List.length_nil,Nat.zero_add,Option.toList_some,List.length_cons,List.range'_succ,List.range'_zero,wpOps];simp only[List.length_nil,Nat.add_zero] at ho;rw[ho];simp only[Region.wanted,hg];split at h
   ·rename_i t y hxe
    have rx:=bT hF hx;rw[hxe] at rx;have e:=rx.jl;rw[if_pos trivial];left;unfold Oper.wp
    have hrun:(execOp act.eval o).run P w=.halt (.panic (.iface t y)) w:=by
     simp only[execOp,hop,e,Instr.panic];rfl
    rw[hrun,Oper.upon_panic];exact⟨a,S,E,h,hS,hF,hE⟩
   ·exact h.elim
 | ao::os,i,a,S,hc,ht,h,E,w,act,hS,hF,hr,hE=>by
  obtain⟨o,ho,hco⟩:=hc 0 (by simp);simp only[Nat.add_zero,List.getElem_cons_zero] at ho hco;obtain⟨hd,hdst,hgd,hor⟩:=Fb hco
  have hc':∀k (hk:k < os.length),∃o,ops[i+1+k]? = some o∧nW P n ops o=some (os[k]):=by
   intro k hk;obtain⟨o',h1,h2⟩:=hc (k+1) (by simpa using hk);exact⟨o',by rw[←h1];congr 1;omega,by simpa using h2⟩
  have ht':∀X,p=some X→∃o x,ops[i+1+os.length]? = some o∧o.op=.panic x∧aV x=some X∧o.guard=none:=by
   intro X hX;obtain⟨o',x,h1,h2⟩:=ht X hX;refine⟨o',x,?_,h2⟩;rw[←h1];congr 1;simp only[List.length_cons];omega
  have hr0:=hr i (Nat.le_refl _) (by simp);have hlen:(ao::os).length+p.toList.length=(os.length+p.toList.length)+1:=by simp only[List.length_cons];omega
  rw[hlen];simp only[List.range'_succ,wpOps,ho];simp only[jJ] at h;split at h
  ·exact h.elim
  ·rename_i hg
   rw[zy hF hgd hg];simp only[Bool.false_eq_true,if_false];rw[hdst] at h;exact Wq hG0 hb os (i+1) _ S hc' ht' h E w _ hS (hF.put hd Lv) (fun k h1 h2=>hr k (by omega) (by simp;omega)) hE
  ·rename_i hg
   rw[zy hF hgd hg];simp only[if_true];left;rw[hdst] at h
   have next:∀{r:AV} {S':St} {act':Act} {w':World} {E':Env},jJ P base p os (i+1) Q (a.put o.dst r) S'→bf E' S' w'→fu E' n (a.put o.dst r) act'→Ev E0 S0 w0 E' S' w'→
     (∀k,i < k→k < i+(os.length+1)→E'.ρ (base+k)=none∧base+k < S'.n)→wpOps P ops (nZ E0 S0 w0 n Q) (List.range' (i+1) (os.length+p.toList.length)) act' w':=
    fun h1 h2 h3 h4 h5=>Wq hG0 hb os (i+1) _ _ hc' ht' h1 _ _ _ h2 h3 (fun k a1 a2=>h5 k (by omega) (by omega)) h4
   have hcall:∀{f:FuncId} {args:List AV} {vals:Array Value},oO P f args S (fun r S'=>jJ P base p os (i+1) Q (a.put o.dst r) S') (fun v S'=>Q (pn v) a S')→kC E args vals→
     (execOp act.eval o).run P w=.ok (.enter f vals) w→o.wp P act w (wpOps P ops (nZ E0 S0 w0 n Q) (List.range' (i+1) (os.length+p.toList.length))) (nZ E0 S0 w0 n Q):=by
    intro f args vals h1 h2 h3;refine Zjl hd h1 (hG0.le hE.bX.le) hS hF h2 h3 (fun r S' act' w' E' k1 k2 k3 k4=>next k1 k2 k3 (hE.trans k4) fun k a1 a2=>?_) (fun v S' w' E' k1 k2 k3 k4=>⟨a,S',E',k1,k2,k3,hE.trans k4⟩);obtain⟨b1,b2⟩:=hr k (by omega) (by simp;omega);exact⟨k4.low _ b2 b1,Nat.lt_of_lt_of_le b2 k4.jP⟩
   rcases hor with⟨q,hp1,hp2⟩ | ⟨hp1,hop⟩
   ·
    rw[hp1] at h;obtain⟨G,xs⟩:=q;simp only at h;unfold CJ at hp2;split at hp2
    ·rename_i g ys ts wQ
     simp only[Option.bind_eq_some_iff,Option.map_eq_some_iff,Prod.mk.injEq] at hp2;obtain⟨G',hG,XS,Ae,rfl,rfl⟩:=hp2;have rg:=bT hF hG;split at h
     ·rename_i f first cap Af
      rw[Af] at rg;generalize hev:act.eval g=gv at rg;cases rg with
      | aP _ _ _ fv cv hn hm hf hcc=>
       have hx:=Ie hF Ae;have hargs:kC E (first++XS.map (·.ev a)++cap) (fv++ys.map act.eval++cv):=(kC.append ⟨hn,hf⟩ hx).append ⟨hm,hcc⟩;refine hcall h hargs ?_;simp only[execOp,wQ,Sem.run_bind,ER act.eval g ys ts o.type hev,Result.andThen_ok,invoke];exact ES h.1 _ _
     ·exact h.elim
    ·cases hp2
   ·rw[hp1] at h
    simp only at h;split at h
    ·rename_i v S' hex
     have hok:=I8 (P:=P) (n:=n) (o:=o) hd hop hex;have hn:=Eff.OV hex;refine hok E w act hS hF hr0.1 hr0.2 _ _ fun act' w' E' k1 k2 k3 k4=>next h k1 k2 ⟨hE.bX.trans k3,by have:=hE.jP;omega,fun id hid e=>k4.2 id (by omega) (hE.low id hid e)⟩ fun k a1 a2=>?_
     ·obtain⟨b1,b2⟩:=hr k (by omega) (by simp;omega)
      exact⟨k4.2 _ (by omega) b1,by omega⟩
    ·obtain⟨b,g1,g2⟩:=Qq hop h hF w
     unfold Oper.wp;rw[g2,Oper.upon_value];exact next g1 hS (hF.put hd (.v _ rfl)) hE fun k a1 a2=>hr k (by omega) (by simp;omega)
inductive AC where
 | skip
 | reg (draw:Option (List (List Bool))) (os:List aZ)
 | wR (l:List mQ)
 | seq (x y:AC)
 | cond (c:aJ) (x y:AC)
 | block (id:Nat) (x:AC)
 | loop (x:AC)
 | exit (id:Nat)
 | ret
 | scp (x:AC)
 | mE (os:List aZ) (p:Option aJ)
 | bad
abbrev sq(os:List aZ)(x:AC):AC:=.seq (.reg none os) x
def ZtT:List Bool→List Bool
 | []=>[]
 | b::bs=>match b,ZtT bs with
  | false,[]=>[]
  | b,bs=>b::bs
def ZtU:List (List Bool)→List (List Bool)
 | []=>[]
 | b::bs=>match b,ZtU bs with
  | [],[]=>[]
  | b,bs=>b::bs
def Zv9:List Oper→List aZ→List (Nat×aZ)→List Nat→Nat→List (List Bool)
 | o::ops,s::os,prev,ms,i=>ZtT (prev.map fun p=>!(xw p.2 && xw s) && !(yJ ms o).testBit p.1)::Zv9 ops os ((i,s)::prev) (ms++[yJ ms o]) (i+1)
 | _,_,_,_,_=>[]
def Zvi(ops:Array Oper)(os:List aZ):List (List Bool):=ZtU (Zv9 ops.toList os [] [] 0)
def Ec(draw:Bool)(ops:Array Oper)(os:List aZ):Option (Option (List (List Bool))×List aZ):=
 if draw=true then (if QA ops os (Zvi ops os)=true then some (some (Zvi ops os),os) else none) else some (none,os)
def Cy:Option (Option (List (List Bool))×List aZ)→AC
 | some p=>.reg p.1 p.2
 | none=>.bad
def eF(R:Program→Nat→Bool→Array Oper→AC)(P:Program)(n:Nat):Code→Option AC
 | .skip=>some .skip
 | .region _ ops draw=>some (R P n draw ops)
 | .seq x y=>(eF R P n x).bind fun X=>(eF R P n y).map fun Y=>.seq X Y
 | .cond c x y=>(aV c).bind fun C=>(eF R P n x).bind fun X=>(eF R P n y).map fun Y=>.cond C X Y
 | .block id x=>(eF R P n x).map (.block id)
 | .loop x=>(eF R P n x).map .loop
 | .exit id=>some (.exit id)
 | .ret=>some .ret
 | .label _=>some .skip
 | .scope x=>(eF R P n x).map .scp
 | _=>some .bad
def wm(P:Program)(n:Nat)(draw:Bool)(ops:Array Oper):AC:=Cy ((ops.toList.mapM (nW P n ops)).bind (Ec draw ops))
def comp(P:Program)(n:Nat)(c:Code):Option AC:=eF wm P n c
def JJ(P:Program)(n:Nat)(draw:Bool)(ops:Array Oper):AC:= if draw=true then (match ops.toList.mapM (nW P n ops) with | some os=>if ZtO ops (FX ops.toList os [] [] 0)=true then .wR (FX ops.toList os [] [] 0) else wm P n draw ops | none=>wm P n draw ops) else wm P n draw ops
def Rj(P:Program)(n:Nat)(c:Code):Option AC:=eF JJ P n c
def A8(P:Program)(n:Nat)(ops:Array Oper):List Oper→AC
 | []=>.bad
 | o::rest=>match o.op,o.guard with
  | .panic x,none=>match aV x,rest.reverse.mapM (nW P n ops) with
   | some X,some os=>.mE os (some X)
   | _,_=>.bad
  | _,_=>.bad
def mE(P:Program)(n:Nat)(draw:Bool)(ops:Array Oper):AC:= if draw=true then JJ P n draw ops else match ops.toList.mapM (nW P n ops) with | some os=>if os.any (fun o=>o.call.isSome)=true then .mE os none else .reg none os | none=>A8 P n ops ops.toList.reverse
def xW(P:Program)(n:Nat)(c:Code):Option AC:=eF mE P n c
def jE(K:AF→St→Prop)(Q:Exit→AF→St→Prop):Exit→AF→St→Prop
 | .normal,a,S=>K a S
 | e,a,S=>Q e a S
def l7(id:Nat)(Q:Exit→AF→St→Prop):Exit→AF→St→Prop
 | .exit id',a,S=>if id'=id then Q .normal a S else Q (.exit id') a S
 | e,a,S=>Q e a S
def xk(Q:Exit→AF→St→Prop):Exit→AF→St→Prop
 | .goto _,_,_=>False
 | e,a,S=>Q e a S
def AW(P:Program):AC→(Exit→AF→St→Prop)→AF→St→Prop
 | .skip,Q,a,S=>Q .normal a S
 | .reg none os,Q,a,S=>RG P S.n os 0 (fun a S=>Q .normal a S) a ⟨S.n+os.length,S.g⟩
 | .reg (some fr) os,Q,a,S=>RD P S.n os fr 0 [] (fun a S=>Q .normal a S) a ⟨S.n+os.length,S.g⟩
 | .wR l,Q,a,S=>jD P S.n l [] (fun a S=>Q .normal a S) a ⟨S.n+l.length,S.g⟩
 | .mE os p,Q,a,S=>jJ P S.n p os 0 Q a ⟨S.n+os.length,S.g⟩
 | .seq x y,Q,a,S=>AW P x (jE (AW P y Q) Q) a S
 | .cond c x y,Q,a,S=>match c.ev a with
  | .v (.bool b)=>if b=true then AW P x Q a S else AW P y Q a S
  | _=>False
 | .block id x,Q,a,S=>AW P x (l7 id Q) a S
 | .loop x,Q,a,S=>∃I:Nat→AF→St→Prop,(∃m,I m a S)∧∀m a S,I m a S→AW P x (jE (fun a' S'=>∃m',m' < m∧I m' a' S') Q) a S
 | .exit id,Q,a,S=>Q (.exit id) a S
 | .ret,Q,a,S=>Q .ret a S
 | .scp x,Q,a,S=>AW P x (xk Q) a S
 | .bad,_,_,_=>False
theorem AB{α β:Type}{f:α→Option β}:∀{l:List α} {ys:List β},l.mapM f=some ys→ys.length=l.length∧∀k (hk:k < ys.length),∃x,l[k]? = some x∧f x=some (ys[k])
 | [],ys,h=>by simp at h;subst h;simp
 | x::l,ys,h=>by
  simp only[List.mapM_cons,Option.bind_eq_bind,Option.bind_eq_some_iff,Option.pure_def,Option.some.injEq] at h;obtain⟨y,hy,zs,hz,rfl⟩:=h;obtain⟨h1,h2⟩:=AB hz;refine⟨by simp[h1],fun k hk=>?_⟩;cases k with
  | zero=>exact⟨x,rfl,hy⟩
  | succ k=>simpa using h2 k (by simpa using hk)
theorem bf.reserve{E:Env}{S:St}{w:World}(h:bf E S w)(m:Nat):bf E ⟨S.n+m,S.g⟩ w:=h.drop S.g (fun _ _ e=>e) _ (by omega)
theorem nZ.mono{E0:Env}{S0:St}{w0:World}{n:Nat}{Q Q':Exit→AF→St→Prop}(hq:∀e a S,Q e a S→Q' e a S){e:Exit}{act:Act}{w:World}(k:nZ E0 S0 w0 n Q e act w):nZ E0 S0 w0 n Q' e act w:=
 let ⟨a,S,E,h1,h2⟩:=k;⟨a,S,E,hq _ _ _ h1,h2⟩
def FW(P:Program)(n:Nat)(R:Program→Nat→Bool→Array Oper→AC):Prop:=
 ∀(id:Nat) (ops:Array Oper) (draw:Bool) (Q:Exit→AF→St→Prop) (a:AF) (S:St),AW P (R P n draw ops) Q a S→Kg P n (.region id ops draw) Q a S
theorem BS{P:Program}(hm:P.follows .mixedOrders=true){n:Nat}:FW P n wm:=by
 intro id ops dr Q a S h E w act hG hS hF;unfold wm at h;cases hq:(ops.toList.mapM (nW P n ops)).bind (Ec dr ops) with
 | none=>rw[hq] at h;simp only[Cy,AW] at h
 | some p=>
  rw[hq] at h;simp only[Cy] at h;simp only[Option.bind_eq_some_iff] at hq;obtain⟨ys,hy,hc⟩:=hq;obtain⟨h1,h2⟩:=AB hy;have hlen:ys.length=ops.size:=by rw[h1];simp
  obtain⟨draw,os⟩:=p;unfold Ec at hc;split at hc
  ·rename_i hdr
   subst hdr;split at hc
   ·rename_i hok
    simp only[Option.some.injEq,Prod.mk.injEq] at hc;obtain⟨rfl,rfl⟩:=hc;simp only[AW] at h;exact Zju hm hy hok ⟨hlen,fun k hk=>by obtain⟨o,a1,a2⟩:=h2 k hk;exact⟨o,by simpa using a1,a2⟩⟩ h hG hS hF
   ·cases hc
  ·rename_i hdr
   simp only[Bool.not_eq_true] at hdr;subst hdr;simp only[Option.some.injEq,Prod.mk.injEq] at hc;obtain⟨rfl,rfl⟩:=hc;simp only[AW] at h;refine wp_region ?_
   have:=WE (P:=P) (n:=n) (ops:=ops) (base:=S.n) (E0:=E) (S0:=S) (w0:=w) hG (Nat.le_refl _) ys 0 a ⟨S.n+ys.length,S.g⟩ (fun k hk=>by
    obtain⟨o,a1,a2⟩:=h2 k hk;exact⟨o,by rw[Nat.zero_add];simpa using a1,a2⟩) h E w act (hS.drop S.g (fun _ _ e=>e) _ (by show S.n≤S.n+_;omega)) hF (fun k _ hk=>⟨hS.fresh _ (by omega),by show S.n+k < S.n+ys.length;omega⟩)
    ⟨⟨rfl,rfl,rfl,Nat.le_refl _,fun _ _ _=>rfl,fun id l k hk hl=>.inr ⟨id,l,k,hk,hl,rfl⟩,Env.le_refl _,fun _ _ e=>.inl e⟩,by show S.n≤S.n+_;omega,fun _ _ e=>e⟩
   rw[List.range_eq_range',←hlen];exact this
theorem ZeW{ops:Array Oper}{os0:List aZ}{f:Oper→Option aZ}(hos:∀k (hk:k < os0.length),∃o,ops[k]? = some o∧f o=some os0[k]):∀(l:List Oper) (os:List aZ) (prev:List mQ) (ms:List Nat) (i:Nat),os0.drop i=os→∀s∈FX l os prev ms i,∃o,ops[s.1]? = some o∧f o=some s.2.1
 | [],os,prev,ms,i,_,s,hs=>by simp[FX] at hs
 | o::l,[],prev,ms,i,_,s,hs=>by simp[FX] at hs
 | o::l,x::os,prev,ms,i,hd,s,hs=>by
  have hi:i < os0.length:=by
   have:=congrArg List.length hd;simp at this;omega
  rw[List.drop_eq_getElem_cons hi] at hd;simp only[List.cons.injEq] at hd;simp only[FX,List.mem_cons] at hs;rcases hs with rfl | hs
  ·obtain⟨o',h1,h2⟩:=hos i hi
   exact⟨o',h1,by rw[h2,hd.1]⟩
  ·exact ZeW hos l os _ _ (i+1) hd.2 s hs
theorem Xo{P:Program}(hm:P.follows .mixedOrders=true){n:Nat}:FW P n JJ:=by
 intro id ops dr Q a S h E w act hG hS hF;unfold JJ at h;split at h
 ·rename_i hdr
  split at h
  ·rename_i os hos
   split at h
   ·rename_i hok
    subst hdr;obtain⟨h1,h2⟩:=AB hos;simp only[AW] at h;exact ZmO hm hok (ZeW (fun k hk=>by obtain⟨o,a1,a2⟩:=h2 k hk;exact⟨o,by simpa using a1,a2⟩) _ _ _ _ 0 (by simp)) h hG hS hF
   ·exact BS hm id ops dr Q a S h E w act hG hS hF
  ·exact BS hm id ops dr Q a S h E w act hG hS hF
 ·exact BS hm id ops dr Q a S h E w act hG hS hF
theorem LK{P:Program}{n id:Nat}{ops:Array Oper}{Q:Exit→AF→St→Prop}{a:AF}{S:St}{os:List aZ}{p:Option aJ}(hc:∀k (hk:k < os.length),∃o,ops[k]? = some o∧nW P n ops o=some (os[k]))
  (ht:∀X,p=some X→∃o x,ops[os.length]? = some o∧o.op=.panic x∧aV x=some X∧o.guard=none) (hs:ops.size=os.length+p.toList.length)
  (h:jJ P S.n p os 0 Q a ⟨S.n+os.length,S.g⟩) {E:Env} {w:World} {act:Act} (hG:jI P E.H) (hS:bf E S w) (hF:fu E n a act):wpOps P ops (nZ E S w n Q) (List.range ops.size) act w:=by
 rw[List.range_eq_range',hs]
 exact Wq (P:=P) (n:=n) (ops:=ops) (base:=S.n) (E0:=E) (S0:=S) (w0:=w) hG (Nat.le_refl _) os 0 a ⟨S.n+os.length,S.g⟩ (fun k hk=>by rw[Nat.zero_add];exact hc k hk) (fun X hX=>by rw[Nat.zero_add];exact ht X hX) h E w act
  (hS.drop S.g (fun _ _ e=>e) _ (by show S.n≤S.n+_;omega)) hF (fun k _ hk=>⟨hS.fresh _ (by omega),by show S.n+k < S.n+os.length;omega⟩)
  ⟨⟨rfl,rfl,rfl,Nat.le_refl _,fun _ _ _=>rfl,fun id l k hk hl=>.inr ⟨id,l,k,hk,hl,rfl⟩,Env.le_refl _,fun _ _ e=>.inl e⟩,by show S.n≤S.n+_;omega,fun _ _ e=>e⟩
structure XIs(P:Program)(n:Nat)(ops:Array Oper)(os:List aZ)(p:Option aJ):Prop where
 hc:∀k (hk:k < os.length),∃o,ops[k]? = some o∧nW P n ops o=some (os[k])
 ht:∀X,p=some X→∃o x,ops[os.length]? = some o∧o.op=.panic x∧aV x=some X∧o.guard=none
 hs:ops.size=os.length+p.toList.length
theorem ZfV{P:Program}{n:Nat}{ops:Array Oper}{os:List aZ}{p:Option aJ}(h:A8 P n ops ops.toList.reverse=.mE os p):XIs P n ops os p:=by
 cases hr:ops.toList.reverse with
 | nil=>rw[hr] at h;simp[A8] at h
 | cons o rest=>
  rw[hr] at h;simp only[A8] at h;split at h
  ·rename_i x hop hg
   split at h
   ·rename_i X os' hX hos
    simp only[AC.mE.injEq] at h;obtain⟨rfl,rfl⟩:=h
    have hl:ops.toList=rest.reverse++[o]:=by
     have:=congrArg List.reverse hr;simpa using this
    obtain⟨h1,h2⟩:=AB hos;have hget:∀k,ops[k]? = (rest.reverse++[o])[k]?:=fun k=>by rw[←hl,Array.getElem?_toList]
    refine⟨fun k hk=>?_,fun X' hX'=>?_,?_⟩
    ·obtain⟨o',a1,a2⟩:=h2 k hk
     refine⟨o',?_,a2⟩;rw[hget,List.getElem?_append_left (by omega)];exact a1
    ·cases hX'
     refine⟨o,x,?_,hop,hX,hg⟩;rw[hget,List.getElem?_append_right (by omega),h1];simp
    ·have:=congrArg List.length hl
     simp at this ⊢;rw[h1];simpa using this
   ·cases h
  ·cases h
theorem ZrK{P:Program}(hm:P.follows .mixedOrders=true){n:Nat}:FW P n mE:=by
 intro id ops dr Q a S h E w act hG hS hF;unfold mE at h;split at h
 ·rename_i hdr
  subst hdr;exact Xo hm id ops true Q a S h E w act hG hS hF
 ·rename_i hdr
  simp only[Bool.not_eq_true] at hdr;subst hdr;split at h
  ·rename_i os hos
   obtain⟨h1,h2⟩:=AB hos;split at h
   ·simp only[AW] at h
    exact wp_region (LK (id:=id) (p:=none) (fun k hk=>by obtain⟨o,a1,a2⟩:=h2 k hk;exact⟨o,by simpa using a1,a2⟩) (fun _ e=>by cases e) (by rw[h1];simp) h hG hS hF)
   ·refine BS hm id ops false Q a S ?_ E w act hG hS hF
    simp only[wm,hos,Option.bind_some,Ec,Bool.false_eq_true,if_false,Cy];exact h
  ·cases hl:A8 P n ops ops.toList.reverse with
   | mE os p=>
    rw[hl] at h;have x:=ZfV hl;simp only[AW] at h;exact wp_region (LK (id:=id) x.hc x.ht x.hs h hG hS hF)
   | bad=>rw[hl] at h;simp only[AW] at h
   | _=>
    exfalso;cases hr:ops.toList.reverse with
    | nil=>rw[hr] at hl;simp[A8] at hl
    | cons o rest=>
     rw[hr] at hl;simp only[A8] at hl;split at hl<;>(try split at hl)<;>cases hl
theorem Ij{R:Program→Nat→Bool→Array Oper→AC}{P:Program}{n id:Nat}{ops:Array Oper}{draw:Bool}{ac:AC}(h:eF R P n (.region id ops draw)=some ac):ac=R P n draw ops:=by
 simp only[eF,Option.some.injEq] at h;exact h.symm
theorem VT{P:Program}(hm:P.follows .mixedOrders=true){n:Nat}{R:Program→Nat→Bool→Array Oper→AC}(hR:FW P n R):∀(c:Code) (ac:AC),eF R P n c=some ac→∀(Q:Exit→AF→St→Prop) (a:AF) (S:St),AW P ac Q a S→Kg P n c Q a S:=by
 intro c;induction c with
 | skip=>
  intro ac hc Q a S h E w act hG hS hF;simp only[eF,Option.some.injEq] at hc;subst hc;exact wp_skip ⟨a,S,E,h,hS,hF,.refl _ _ _⟩
 | label l=>
  intro ac hc Q a S h E w act hG hS hF;simp only[eF,Option.some.injEq] at hc;subst hc;exact wp_label ⟨a,S,E,h,hS,hF,.refl _ _ _⟩
 | region id ops dr=>
  intro ac hc Q a S h;rw[Ij hc] at h;exact hR id ops dr Q a S h
 | seq c1 c2 fA ihy=>
  intro ac hc Q a S h E w act hG hS hF;simp only[eF,Option.map_eq_some_iff,Option.bind_eq_some_iff] at hc;obtain⟨X,hX,Y,hY,rfl⟩:=hc;simp only[AW] at h;refine wp_seq (wp_mono (fA X hX _ a S h E w act hG hS hF) fun e act' w' hp=>?_);obtain⟨a',S',E',q,s,r,ev⟩:=hp;cases e with
  | normal=>exact wp_mono (ihy Y hY Q a' S' q E' w' act' (hG.le ev.bX.le) s r) fun e jq w2 hp2=>hp2.trans ev
  | _=>exact⟨a',S',E',q,s,r,ev⟩
 | cond c0 c1 c2 fA ihy=>
  intro ac hc Q a S h E w act hG hS hF;simp only[eF,Option.map_eq_some_iff,Option.bind_eq_some_iff] at hc;obtain⟨C',hC,X,hX,Y,hY,rfl⟩:=hc;simp only[AW] at h;split at h
  ·rename_i b hb
   have r:=bT hF hC;rw[hb] at r;refine wp_cond (t:=b) r.jl ?_;cases b with
   | true=>exact fA X hX Q a S (by simpa using h) E w act hG hS hF
   | false=>exact ihy Y hY Q a S (by simpa using h) E w act hG hS hF
  ·exact h.elim
 | block id' c1 fA=>
  intro ac hc Q a S h E w act hG hS hF;simp only[eF,Option.map_eq_some_iff] at hc;obtain⟨X,hX,rfl⟩:=hc;simp only[AW] at h;refine wp_block (wp_mono (fA X hX _ a S h E w act hG hS hF) fun e act' w' hp=>?_);obtain⟨a',S',E',q,s,r,ev⟩:=hp;cases e with
  | exit j=>
   simp only[l7] at q;simp only[Exit.inBlock];split at q
   ·rename_i hj;rw[if_pos hj];exact⟨a',S',E',q,s,r,ev⟩
   ·rename_i hj;rw[if_neg hj];exact⟨a',S',E',q,s,r,ev⟩
  | _=>exact⟨a',S',E',q,s,r,ev⟩
 | loop c1 fA=>
  intro ac hc Q a S h E w act hG hS hF;simp only[eF,Option.map_eq_some_iff] at hc;obtain⟨X,hX,rfl⟩:=hc;simp only[AW] at h;obtain⟨I,⟨m0,hI0⟩,Nv⟩:=h;intro b k cs
  have key:∀m,∀a S E' w' act',jI P E'.H→I m a S→bf E' S w'→fu E' n a act'→Ev E (⟨S.n,S.g⟩:St) w' E' S w'∨True→
    ∃e a' w2,nZ E' S w' n Q e a' w2∧Arrives P (lone (b.at act' (.code c1::.inLoop c1::k)) cs w') b k cs e a' w2:=by
   intro m;induction m using Nat.strongRecOn with
   | _ m ih=>
    intro a S E' w' act' hG' hI hS' hF' _;obtain⟨e,qU,w1,hp,harr⟩:=fA X hX _ a S (Nv m a S hI) E' w' act' hG' hS' hF' b (.inLoop c1::k) cs;obtain⟨a1,S1,E1,q,s,r,ev⟩:=hp;cases e with
    | normal=>
     obtain⟨m',hlt,hI'⟩:=q;obtain⟨e2,jq,w2,hp2,Nj⟩:=ih m' hlt a1 S1 E1 w1 qU (hG'.le ev.bX.le) hI' s r (.inr trivial);exact⟨e2,jq,w2,hp2.trans ev,.of_steps (Steps.trans harr (.one step_inLoop)) Nj⟩
    | exit id=>exact⟨_,qU,w1,⟨a1,S1,E1,q,s,r,ev⟩,.pass (x:=.inLoop c1) rfl (fun _ _=>.inl (by simp)) harr⟩
    | goto l=>exact⟨_,qU,w1,⟨a1,S1,E1,q,s,r,ev⟩,.pass (x:=.inLoop c1) rfl (fun _ _=>.inl (by simp)) harr⟩
    | ret=>exact⟨_,qU,w1,⟨a1,S1,E1,q,s,r,ev⟩,.pass (x:=.inLoop c1) rfl (fun _ _=>.inl (by simp)) harr⟩
    | panic ch=>exact⟨_,qU,w1,⟨a1,S1,E1,q,s,r,ev⟩,.pass (x:=.inLoop c1) rfl (fun _ _=>.inl (by simp)) harr⟩
    | outgrown=>exact⟨_,qU,w1,⟨a1,S1,E1,q,s,r,ev⟩,.pass (x:=.inLoop c1) rfl (fun _ _=>.inl (by simp)) harr⟩
  obtain⟨e,a',w',hp,harr⟩:=key m0 a S E w act hG hI0 hS hF (.inr trivial);exact⟨e,a',w',hp,.of_steps (.one step_loop) harr⟩
 | exit id=>
  intro ac hc Q a S h E w act hG hS hF;simp only[eF,Option.some.injEq] at hc;subst hc;exact wp_exit ⟨a,S,E,h,hS,hF,.refl _ _ _⟩
 | ret=>
  intro ac hc Q a S h E w act hG hS hF;simp only[eF,Option.some.injEq] at hc;subst hc;exact wp_ret ⟨a,S,E,h,hS,hF,.refl _ _ _⟩
 | scope c1 fA=>
  intro ac hc Q a S h E w act hG hS hF;simp only[eF,Option.map_eq_some_iff] at hc;obtain⟨X,hX,rfl⟩:=hc;simp only[AW] at h;refine wp_scope_straight (wp_mono (fA X hX _ a S h E w act hG hS hF) fun e act' w' hp=>?_);obtain⟨a',S',E',q,s,r,ev⟩:=hp;cases e with
  | goto l=>exact q
  | _=>exact⟨a',S',E',q,s,r,ev⟩
 | _=>
  intro ac hc Q a S h;simp only[eF,Option.some.injEq] at hc;subst hc;simp only[AW] at h
theorem Wv{P:Program}(hm:P.follows .mixedOrders=true){n:Nat}(ac:AC)(c:Code)(h:comp P n c=some ac):∀(Q:Exit→AF→St→Prop) (a:AF) (S:St),AW P ac Q a S→Kg P n c Q a S:=VT hm (BS hm) c ac h
theorem VU{P:Program}(hm:P.follows .mixedOrders=true){n:Nat}(ac:AC)(c:Code)(h:xW P n c=some ac):∀(Q:Exit→AF→St→Prop) (a:AF) (S:St),AW P ac Q a S→Kg P n c Q a S:=VT hm (ZrK hm) c ac h
theorem Zky{P:Program}(hm:P.follows .mixedOrders=true){n:Nat}(ac:AC)(c:Code)(h:Rj P n c=some ac):∀(Q:Exit→AF→St→Prop) (a:AF) (S:St),AW P ac Q a S→Kg P n c Q a S:=VT hm (Xo hm) c ac h
theorem LQ{P:Program}{base:Nat}:∀(os:List aZ) (i:Nat) {K K':AF→St→Prop} {a:AF} {S:St},(∀a S,K a S→K' a S)→RG P base os i K a S→RG P base os i K' a S
 | [],i,K,K',a,S,hk,h=>hk _ _ h
 | o::os,i,K,K',a,S,hk,h=>by
  simp only[RG] at h ⊢;split at h
  ·exact h.elim
  ·rename_i hg;exact LQ os (i+1) hk h
  ·rename_i hg
   split at h
   ·rename_i G xs hc
    split at h
    ·rename_i f first cap hG
     exact h.mono fun r S' h'=>LQ os (i+1) hk h'
    ·exact h.elim
   ·rename_i hc
    split at h
    ·rename_i v S' hr;exact LQ os (i+1) hk h
    ·exact PN (fun v hv=>LQ os (i+1) hk hv) h
theorem Qf{P:Program}{base:Nat}:∀(os:List aZ) (fr:List (List Bool)) (i:Nat) (T:List (List Nat×List Nat)) {K K':AF→St→Prop} {a:AF} {S:St},(∀a S,K a S→K' a S)→RD P base os fr i T K a S→RD P base os fr i T K' a S
 | [],fr,i,T,K,K',a,S,hk,h=>hk _ _ h
 | o::os,fr,i,T,K,K',a,S,hk,h=>by
  simp only[RD] at h ⊢;split at h
  ·exact h.elim
  ·rename_i hg;exact Qf os _ (i+1) _ hk h
  ·rename_i hg
   split at h
   ·rename_i G xs hc
    split at h
    ·rename_i f first cap hG
     obtain⟨r,F,h1,h2,h3⟩:=h;exact⟨r,F,h1,h2,Qf os _ (i+1) _ hk h3⟩
    ·exact h.elim
   ·rename_i hc
    split at h
    ·rename_i v S' F W hr;exact⟨h.1,Qf os _ (i+1) _ hk h.2⟩
    ·exact h.elim
theorem BN{P:Program}:∀(ac:AC) {Q Q':Exit→AF→St→Prop} {a:AF} {S:St},(∀e a S,Q e a S→Q' e a S)→AW P ac Q a S→AW P ac Q' a S:=by
 intro ac;induction ac with
 | skip=>intro Q Q' a S hq h;exact hq _ _ _ h
 | reg d os=>
  intro Q Q' a S hq h;cases d with
  | none=>exact LQ os 0 (fun a S h=>hq _ _ _ h) h
  | some fr=>exact Qf os fr 0 [] (fun a S h=>hq _ _ _ h) h
 | wR l=>
  intro Q Q' a S hq h;exact ZhA l (fun a S h=>hq _ _ _ h) h
 | mE os p=>
  intro Q Q' a S hq h;exact LC os 0 hq h
 | seq x y fA ihy=>
  intro Q Q' a S hq h;refine fA (Q:=jE (AW P y Q) Q) (fun e a S h=>?_) h;cases e with
  | normal=>exact ihy hq h
  | _=>exact hq _ _ _ h
 | cond c x y fA ihy=>
  intro Q Q' a S hq h;simp only[AW] at h ⊢;split at h
  ·rename_i b hb
   split at h
   ·rename_i hbt;rw[if_pos hbt];exact fA hq h
   ·rename_i hbt;rw[if_neg hbt];exact ihy hq h
  ·exact h.elim
 | block id x fA=>
  intro Q Q' a S hq h;refine fA (Q:=l7 id Q) (fun e a S h=>?_) h;cases e with
  | exit j=>
   simp only[l7] at h ⊢;split at h
   ·rename_i hj;rw[if_pos hj];exact hq _ _ _ h
   ·rename_i hj;rw[if_neg hj];exact hq _ _ _ h
  | _=>exact hq _ _ _ h
 | loop x fA=>
  intro Q Q' a S hq h;obtain⟨I,h1,h2⟩:=h;refine⟨I,h1,fun m a S hi=>fA (fun e a S h=>?_) (h2 m a S hi)⟩;cases e with
  | normal=>exact h
  | _=>exact hq _ _ _ h
 | exit id=>intro Q Q' a S hq h;exact hq _ _ _ h
 | ret=>intro Q Q' a S hq h;exact hq _ _ _ h
 | scp x fA=>
  intro Q Q' a S hq h;refine fA (Q:=xk Q) (fun e a S h=>?_) h;cases e with
  | goto l=>exact h
  | _=>exact hq _ _ _ h
 | bad=>intro Q Q' a S hq h;exact h
theorem aQ.K3{P:Program}(hm:P.follows .mixedOrders=true){f:FuncId}{fn:Func}{c:Code}{ac:AC}{ts:List Nat}(hf:P.funcs[f]? = some fn)(hnm:(fn.name == "runtime.NumGoroutine")=false)(hb:fn.body=some c)
  (hc:comp P fn.ntmps c=some ac) (hr:fn.results=(ts.map ResultVar.tmp).toArray) {args:List AV} (hn:args.length≤fn.ntmps) {S:St} {K:AV→St→Prop} (h:AW P ac (gG ts K) (bP args) S):aQ P f args S K:=by
 refine⟨vK hf hnm hb,fun E w vals hG hS hv=>?_⟩;refine calls_of_wp hf hb (wp_mono (Wv hm ac c hc _ _ _ h E w _ hG hS (AA hv hn)) fun e act w' hp=>?_);obtain⟨a,S',E',q,s,r,ev⟩:=hp;have hrr:=Lj (P:=P) hr act.tmps w';cases e<;>simp only[gG] at q
 ·exact⟨r.defers,_,hrr,_,_,S',E',rfl,q,s,IJ r ts,ev⟩
 ·exact⟨r.defers,_,hrr,_,_,S',E',rfl,q,s,IJ r ts,ev⟩
theorem aN.K3{P:Program}(hm:P.follows .mixedOrders=true){f:FuncId}{fn:Func}{c:Code}{ac:AC}{ts:List Nat}(hf:P.funcs[f]? = some fn)(hnm:(fn.name == "runtime.NumGoroutine")=false)(hb:fn.body=some c)
  (hc:comp P fn.ntmps c=some ac) (hr:fn.results=(ts.map ResultVar.tmp).toArray) {args:List AV} (hn:args.length≤fn.ntmps) {r:AV} (h:AW P ac (gG ts fun r' S'=>Fz S'.g r' r) (bP args) S0):aN P f args r:=
 .uQ (.K3 hm hf hnm hb hc hr hn h)
def nK(Q:Exit→AF→St→Prop):AF→St→Prop:=fun a S=>Q .normal a S
def Rk(P:Program)(base:Nat)(os:List aZ)(i:Nat)(K:AF→St→Prop)(a:AF)(d:Option Nat):AV→St→Prop:=fun r S'=>RG P base os (i+1) K (a.put d r) S'
def J9(P:Program)(base:Nat)(os:List aZ)(i:Nat)(K:AF→St→Prop)(a:AF)(d:Option Nat)(op:jA)(S:St)(r:Option (AV×St)):Prop:=
 match r with
 | some (v,S')=>RG P base os (i+1) K (a.put d v) S'
 | none=>sJ op a fun v=>RG P base os (i+1) K (a.put d v) S
def Q0(P:Program)(base:Nat)(os:List aZ)(i:Nat)(K:AF→St→Prop)(a:AF)(S:St)(d:Option Nat)(f:AV)(args:List AV):Prop:=
 match f with
 | .aP f first cap=>aQ P f (first++args++cap) S (Rk P base os i K a d)
 | _=>False
def y5(P:Program)(base:Nat)(o:aZ)(os:List aZ)(i:Nat)(K:AF→St→Prop)(a:AF)(S:St)(g:AV)(want:Bool):Prop:=
 match g with
 | .v (.bool b)=>if b=want then RG P base (⟨o.dst,o.op,none,o.call⟩::os) i K a S else RG P base os (i+1) K (a.put o.dst (.aM [])) S
 | .aM []=>RG P base os (i+1) K (a.put o.dst (.aM [])) S
 | _=>False
def R9(P:Program)(base:Nat)(os:List aZ)(i:Nat)(T:List (List Nat×List Nat))(K:AF→St→Prop)(a:AF)(d:Option Nat)(r:Option (AV×St)):Prop:=
 match r with
 | some (v,S')=>RD P base os [] (i+1) T K (a.put d v) S'
 | none=>False
def Sb(P:Program)(base:Nat)(os:List aZ)(b:List Bool)(fr:List (List Bool))(i:Nat)(T:List (List Nat×List Nat))(K:AF→St→Prop)(a:AF)(d:Option Nat)(r:Option (AV×St×List Nat×List Nat)):Prop:=
 match r with
 | some (v,S',F,W)=>lW b T F W∧RD P base os fr (i+1) ((F,W)::T) K (a.put d v) S'
 | none=>False
def Qv(P:Program)(base:Nat)(os:List aZ)(fr:List (List Bool))(i:Nat)(T:List (List Nat×List Nat))(K:AF→St→Prop)(a:AF)(S:St)(d:Option Nat)(f:AV)(args:List AV):Prop:=
 match f with
 | .aP f first cap=>∃r F,mo P f (first++args++cap) S F r∧lW (fr.headD []) T F []∧RD P base os fr.tail (i+1) (sP fr T F []) K (a.put d r) S
 | _=>False
def yZ(P:Program)(base:Nat)(o:aZ)(os:List aZ)(fr:List (List Bool))(i:Nat)(T:List (List Nat×List Nat))(K:AF→St→Prop)(a:AF)(S:St)(g:AV)(want:Bool):Prop:=
 match g with
 | .v (.bool b)=>if b=want then RD P base (⟨o.dst,o.op,none,o.call⟩::os) fr i T K a S else RD P base os fr.tail (i+1) (sP fr T [] []) K (a.put o.dst (.aM [])) S
 | .aM []=>RD P base os fr.tail (i+1) (sP fr T [] []) K (a.put o.dst (.aM [])) S
 | _=>False
def Jy(P:Program)(x y:AC)(Q:Exit→AF→St→Prop)(a:AF)(S:St)(c:AV):Prop:=
 match c with
 | .v (.bool b)=>if b=true then AW P x Q a S else AW P y Q a S
 | _=>False
def zN(I:Nat→AF→St→Prop)(m:Nat):AF→St→Prop:=fun a S=>∃m',m' < m∧I m' a S
def iQ(r:AV):AV→St→Prop:=fun r' S'=>Fz S'.g r' r
section
variable{P:Program}{Q:Exit→AF→St→Prop}{a:AF}{S:St}{K:AF→St→Prop}{base i:Nat}{os:List aZ}{d:Option Nat}{op:jA}
theorem lI:AW P .skip Q a S=Q .normal a S:=by simp only[AW]
theorem kZ(x y:AC):AW P (.seq x y) Q a S=AW P x (jE (AW P y Q) Q) a S:=by simp only[AW]
private theorem Zq3:AW P (.reg none os) Q a S=RG P S.n os 0 (nK Q) a ⟨S.n+os.length,S.g⟩:=rfl
theorem kN:AW P (.reg none os) Q a S=RG P S.n os 0 (nK Q) a ⟨S.n+os.length,S.g⟩:=by rw[Zq3]
private theorem Znf (c:aJ) (x y:AC):AW P (.cond c x y) Q a S=Jy P x y Q a S (c.ev a):=rfl
theorem lK(c:aJ)(x y:AC):AW P (.cond c x y) Q a S=Jy P x y Q a S (c.ev a):=by rw[Znf]
theorem lG(x y:AC):Jy P x y Q a S (.v (.bool true))=AW P x Q a S:=by simp[Jy]
theorem lF(x y:AC):Jy P x y Q a S (.v (.bool false))=AW P y Q a S:=by simp[Jy]
theorem lH(id:Nat)(x:AC):AW P (.block id x) Q a S=AW P x (l7 id Q) a S:=by simp only[AW]
theorem lM(id:Nat):AW P (.exit id) Q a S=Q (.exit id) a S:=by simp only[AW]
theorem kY:AW P .ret Q a S=Q .ret a S:=by simp only[AW]
theorem vT{x:AC}(I:Nat→AF→St→Prop)(m:Nat)(h0:I m a S)(h:∀m a S,I m a S→AW P x (jE (zN I m) Q) a S):AW P (.loop x) Q a S:=⟨I,⟨m,h0⟩,h⟩
theorem lN(x:AC):AW P (.scp x) Q a S=AW P x (xk Q) a S:=by simp only[AW]
theorem gJ:xk Q .normal a S=Q .normal a S:=by simp only[xk]
theorem iq:xk Q .ret a S=Q .ret a S:=by simp only[xk]
theorem gX(j:Nat):xk Q (.exit j) a S=Q (.exit j) a S:=by simp only[xk]
theorem dO:jE K Q .normal a S=K a S:=by simp only[jE]
theorem iA:jE K Q .ret a S=Q .ret a S:=by simp only[jE]
theorem fI(j:Nat):jE K Q (.exit j) a S=Q (.exit j) a S:=by simp only[jE]
theorem gI(id:Nat):l7 id Q .normal a S=Q .normal a S:=by simp only[l7]
theorem ig(id:Nat):l7 id Q .ret a S=Q .ret a S:=by simp only[l7]
theorem fH(id j:Nat):l7 id Q (.exit j) a S=if j=id then Q .normal a S else Q (.exit j) a S:=by simp only[l7]
theorem gT(ts:List Nat)(R:AV→St→Prop):gG ts R .ret a S=R (uI ts a) S:=by simp only[gG]
theorem gY(ts:List Nat)(R:AV→St→Prop):gG ts R .normal a S=R (uI ts a) S:=by simp only[gG]
theorem eY(t:Nat):uI [t] a=a t:=by simp only[uI]
theorem gN(t u:Nat):uI [t,u] a=.aM [a t,a u]:=by simp[uI]
theorem gZ(t u x:Nat):uI [t,u,x] a=.aM [a t,a u,a x]:=by simp[uI]
theorem gM:uI [] a=.aM []:=by simp[uI]
theorem eB:RG P base [] i (nK Q) a S=Q .normal a S:=by simp only[RG,nK]
theorem eD:RG P base (⟨d,op,none,none⟩::os) i K a S=J9 P base os i K a d op S ((ex op a).run S (base+i)):=by
 simp only[RG,gd,J9];cases(ex op a).run S (base+i)<;>rfl
theorem dY(v:AV)(S':St):J9 P base os i K a d op S (some (v,S'))=RG P base os (i+1) K (a.put d v) S':=by simp only[J9]
private theorem Znp (G:aJ) (xs:List aJ):RG P base (⟨d,op,none,some (G,xs)⟩::os) i K a S=Q0 P base os i K a S d (G.ev a) (xs.map (·.ev a)):=rfl
theorem fV(G:aJ)(xs:List aJ):RG P base (⟨d,op,none,some (G,xs)⟩::os) i K a S=Q0 P base os i K a S d (G.ev a) (xs.map (·.ev a)):=by rw[Znp]
theorem fK(f:FuncId)(first cap args:List AV):Q0 P base os i K a S d (.aP f first cap) args=aQ P f (first++args++cap) S (Rk P base os i K a d):=by simp only[Q0]
theorem fG(r:AV):Rk P base os i K a d r S=RG P base os (i+1) K (a.put d r) S:=by simp only[Rk]
theorem gQ(g:Nat)(want:Bool)(c:Option (aJ×List aJ)) :
  RG P base (⟨d,op,some (g,want),c⟩::os) i K a S=y5 P base ⟨d,op,none,c⟩ os i K a S (a g) want:=by
 simp only[RG,gd,y5];cases h:a g with
 | v x=>
  cases x with
  | bool b=>
   simp only;cases hb:(b == want) with
   | true=>simp only[beq_iff_eq] at hb;rw[if_pos hb]
   | false=>simp only[beq_eq_false_iff_ne,ne_eq] at hb;rw[if_neg hb]
  | _=>rfl
 | aM vs=>cases vs<;>rfl
 | _=>rfl
theorem iJ(c:Option (aJ×List aJ)):y5 P base ⟨d,op,none,c⟩ os i K a S (.v (.bool true)) true=RG P base (⟨d,op,none,c⟩::os) i K a S:=by simp[y5]
theorem iG(c:Option (aJ×List aJ)):y5 P base ⟨d,op,none,c⟩ os i K a S (.v (.bool false)) false=RG P base (⟨d,op,none,c⟩::os) i K a S:=by simp[y5]
theorem iK(want:Bool)(c:Option (aJ×List aJ)):y5 P base ⟨d,op,none,c⟩ os i K a S (.aM []) want=RG P base os (i+1) K (a.put d (.aM [])) S:=by simp[y5]
theorem iI(c:Option (aJ×List aJ)):y5 P base ⟨d,op,none,c⟩ os i K a S (.v (.bool true)) false=RG P base os (i+1) K (a.put d (.aM [])) S:=by simp[y5]
theorem iH(c:Option (aJ×List aJ)):y5 P base ⟨d,op,none,c⟩ os i K a S (.v (.bool false)) true=RG P base os (i+1) K (a.put d (.aM [])) S:=by simp[y5]
theorem dx(o:Option AV)(S:St)(aC:Nat):(Eff.val o).runT S aC=o.map fun v=>(v,S,[],[]):=by
 cases o<;>simp[Eff.runT,Eff.val,St.fD,St.iU]
theorem dL(id:Nat)(k:aF→Option AV)(S:St)(aC:Nat):(Eff.rd id k).runT S aC=((S.g id).bind k).map fun v=>(v,S,[id],[]):=by
 cases h:S.g id with
 | none=>simp[Eff.runT,Eff.rd,h]
 | some b=>cases h2:k b<;>simp[Eff.runT,Eff.rd,h,h2,St.fD,St.iU]
theorem eZ(id:Nat)(k:aF→Option aF)(S:St)(aC:Nat):(Eff.wr id k).runT S aC=((S.g id).bind k).map fun b=>(.junk,S.set id (some b),[id],[id]):=by
 cases h:S.g id with
 | none=>simp[Eff.runT,Eff.wr,h]
 | some b=>cases h2:k b<;>simp[Eff.runT,Eff.wr,h,h2,St.fD,St.iU]
theorem gW(o:Option (aF×(Nat→AV)))(S:St)(aC:Nat):(Eff.new o).runT S aC=o.map fun p=>(p.2 aC,S.set aC (some p.1),[],[aC]):=by
 cases o<;>simp[Eff.runT,Eff.new,St.fD,St.iU]
theorem iN(id:Nat)(k:aF→Option (aF×(Nat→AV)))(S:St)(aC:Nat) :
  (Eff.mv id k).runT S aC=((S.g id).bind k).map fun p=>(p.2 aC,(S.set id none).set aC (some p.1),[id],[id,aC]):=by
 cases h:S.g id with
 | none=>simp[Eff.runT,Eff.mv,h]
 | some b=>cases h2:k b<;>simp[Eff.runT,Eff.mv,h,h2,St.fD,St.iU]
private theorem Zng (fr:List (List Bool)):AW P (.reg (some fr) os) Q a S=RD P S.n os fr 0 [] (nK Q) a ⟨S.n+os.length,S.g⟩:=rfl
theorem kW(fr:List (List Bool)):AW P (.reg (some fr) os) Q a S=RD P S.n os fr 0 [] (nK Q) a ⟨S.n+os.length,S.g⟩:=by rw[Zng]
theorem fZ(fr:List (List Bool))(T:List (List Nat×List Nat)):RD P base [] fr i T (nK Q) a S=Q .normal a S:=by simp only[RD,nK]
theorem gu(T:List (List Nat×List Nat)):RD P base (⟨d,op,none,none⟩::os) [] i T K a S=R9 P base os i T K a d ((ex op a).run S (base+i)):=by
 simp only[RD,gd,R9,sP,List.headD_nil,List.tail_nil];simp only[Eff.runT,Eff.run];cases(ex op a).F.mapM S.g with
 | none=>rfl
 | some bs=>
  simp only;cases(ex op a).k bs with
  | none=>rfl
  | some o=>simp[lW]
theorem fO(T:List (List Nat×List Nat))(v:AV)(S':St):R9 P base os i T K a d (some (v,S'))=RD P base os [] (i+1) T K (a.put d v) S':=by simp only[R9]
theorem gy(b:List Bool)(fr:List (List Bool))(T:List (List Nat×List Nat)):RD P base (⟨d,op,none,none⟩::os) (b::fr) i T K a S=Sb P base os b fr i T K a d ((ex op a).runT S (base+i)):=by
 simp only[RD,gd,Sb,sP,List.headD_cons,List.tail_cons]
 all_goals (cases(ex op a).runT S (base+i)<;>rfl)
theorem fP(b:List Bool)(fr:List (List Bool))(T:List (List Nat×List Nat))(v:AV)(S':St)(F W:List Nat):Sb P base os b fr i T K a d (some (v,S',F,W))=(lW b T F W∧RD P base os fr (i+1) ((F,W)::T) K (a.put d v) S'):=by simp only[Sb]
private theorem Znn (G:aJ) (xs:List aJ) (fr:List (List Bool)) (T:List (List Nat×List Nat)):RD P base (⟨d,op,none,some (G,xs)⟩::os) fr i T K a S=Qv P base os fr i T K a S d (G.ev a) (xs.map (·.ev a)):=rfl
theorem iL(G:aJ)(xs:List aJ)(fr:List (List Bool))(T:List (List Nat×List Nat)):RD P base (⟨d,op,none,some (G,xs)⟩::os) fr i T K a S=Qv P base os fr i T K a S d (G.ev a) (xs.map (·.ev a)):=by rw[Znn]
theorem iw(f:FuncId)(first cap args:List AV)(fr:List (List Bool))(T:List (List Nat×List Nat)) :
  Qv P base os fr i T K a S d (.aP f first cap) args=∃r F,mo P f (first++args++cap) S F r∧lW (fr.headD []) T F []∧RD P base os fr.tail (i+1) (sP fr T F []) K (a.put d r) S:=by simp only[Qv]
theorem gP(g:Nat)(want:Bool)(c:Option (aJ×List aJ))(fr:List (List Bool))(T:List (List Nat×List Nat)) :
  RD P base (⟨d,op,some (g,want),c⟩::os) fr i T K a S=yZ P base ⟨d,op,none,c⟩ os fr i T K a S (a g) want:=by
 simp only[RD,gd,yZ];cases h:a g with
 | v x=>
  cases x with
  | bool b=>
   simp only;cases hb:(b == want) with
   | true=>simp only[beq_iff_eq] at hb;rw[if_pos hb]
   | false=>simp only[beq_eq_false_iff_ne,ne_eq] at hb;rw[if_neg hb]
  | _=>rfl
 | aM vs=>cases vs<;>rfl
 | _=>rfl
theorem iE(c:Option (aJ×List aJ))(fr:List (List Bool))(T:List (List Nat×List Nat)):yZ P base ⟨d,op,none,c⟩ os fr i T K a S (.v (.bool true)) true=RD P base (⟨d,op,none,c⟩::os) fr i T K a S:=by simp[yZ]
theorem iB(c:Option (aJ×List aJ))(fr:List (List Bool))(T:List (List Nat×List Nat)):yZ P base ⟨d,op,none,c⟩ os fr i T K a S (.v (.bool false)) false=RD P base (⟨d,op,none,c⟩::os) fr i T K a S:=by simp[yZ]
theorem iF(want:Bool)(c:Option (aJ×List aJ))(fr:List (List Bool))(T:List (List Nat×List Nat)):yZ P base ⟨d,op,none,c⟩ os fr i T K a S (.aM []) want=RD P base os fr.tail (i+1) (sP fr T [] []) K (a.put d (.aM [])) S:=by simp[yZ]
theorem iD(c:Option (aJ×List aJ))(fr:List (List Bool))(T:List (List Nat×List Nat)):yZ P base ⟨d,op,none,c⟩ os fr i T K a S (.v (.bool true)) false=RD P base os fr.tail (i+1) (sP fr T [] []) K (a.put d (.aM [])) S:=by simp[yZ]
theorem iC(c:Option (aJ×List aJ))(fr:List (List Bool))(T:List (List Nat×List Nat)):yZ P base ⟨d,op,none,c⟩ os fr i T K a S (.v (.bool false)) true=RD P base os fr.tail (i+1) (sP fr T [] []) K (a.put d (.aM [])) S:=by simp[yZ]
theorem iM(T:List (List Nat×List Nat))(F W:List Nat):sP [] T F W=T:=by simp only[sP]
theorem gV(b:List Bool)(fr:List (List Bool))(T:List (List Nat×List Nat))(F W:List Nat):sP (b::fr) T F W=(F,W)::T:=by simp only[sP]
theorem fQ(T:List (List Nat×List Nat))(F W:List Nat):lW [] T F W=True:=by simp only[lW]
theorem fE(b:List Bool)(F W:List Nat):lW b [] F W=True:=by cases b<;>simp only[lW]
theorem fF(b:List Bool)(p:List Nat×List Nat)(T:List (List Nat×List Nat))(F W:List Nat):lW (true::b) (p::T) F W=(C8 p F W∧lW b T F W):=by simp only[lW]
theorem fJ(b:List Bool)(p:List Nat×List Nat)(T:List (List Nat×List Nat))(F W:List Nat):lW (false::b) (p::T) F W=lW b T F W:=by simp only[lW]
theorem fU(G H F W:List Nat):C8 (G,H) F W=((∀j∈H,j∉F)∧(∀j∈W,j∉G)∧∀j∈H,j∉W):=by simp only[C8]
theorem au(j t:Nat)(x:AV):(AF.put a (some j) x) t=if t=j then x else a t:=by simp only[AF.put,bF]
theorem cu(x:AV):AF.put a none x=a:=by simp only[AF.put]
theorem dM(j:Nat):(aJ.t j).ev a=a j:=by simp only[aJ.ev]
theorem dX(x:AV):(aJ.c x).ev a=x:=by simp only[aJ.ev]
theorem bM(x:AV)(xs:List AV):bP (x::xs) 0=x:=by simp[bP]
theorem bU(x:AV)(xs:List AV)(n:Nat):bP (x::xs) (n+1)=bP xs n:=by simp[bP]
theorem bB(j:Nat)(k:Option aF):(S.set j k).n=S.n:=by simp only[St.set]
theorem aG(j l:Nat)(k:Option aF):(S.set j k).g l=if l=j then k else S.g l:=by simp only[St.set,bF]
end
def aj(n:Int):AV:=.v (.int .i64 n)
def aH(b:Bool):AV:=.v (.bool b)
theorem dV(x:Value):(AV.v x).cells=[.v x]:=by simp only[AV.cells]
theorem eX(t:Bool)(xs:List AV):(AV.sl t xs).cells=[.sl t xs]:=by simp only[AV.cells]
theorem dR(xs:List AV):(AV.agg xs).cells=xs:=by simp only[AV.cells]
theorem fM(i j k:Nat):(AV.own i j k).cells=[.own i j k]:=by simp only[AV.cells]
theorem gL(i j k:Nat):(AV.ptr i j k).cells=[.ptr i j k]:=by simp only[AV.cells]
theorem gK(f:FuncId)(a b:List AV):(AV.aP f a b).cells=[.aP f a b]:=by simp only[AV.cells]
theorem iy(x:AV)(c:Nat):(AV.bJ x c).cells=[.bJ x c]:=by simp only[AV.cells]
theorem gU(i:Nat):(AV.mp i).cells=[.mp i]:=by simp only[AV.cells]
theorem bI(n:Int)(h:-9223372036854775808≤n∧n≤9223372036854775807):IntKind.i64.wrap n=n:=by
 rw[IntKind.wrap_i64];omega
def Is(P:Program)(f:FuncId)(ac:AC)(ts:List Nat)(n:Nat):Prop:=
 ∃fn c,P.funcs[f]? = some fn∧(fn.name == "runtime.NumGoroutine")=false∧fn.body=some c∧comp P fn.ntmps c=some ac∧fn.results=(ts.map ResultVar.tmp).toArray∧n≤fn.ntmps
theorem Is.wV{P:Program}(hm:P.follows .mixedOrders=true){f:FuncId}{ac:AC}{ts:List Nat}{n:Nat}(h:Is P f ac ts n){args:List AV}(hn:args.length=n){S:St}{K:AV→St→Prop}
  (hb:AW P ac (gG ts K) (bP args) S):aQ P f args S K:=by
 obtain⟨fn,c,h1,h2,h3,h4,h5,h6⟩:=h;exact .K3 hm h1 h2 h3 h4 h5 (by omega) hb
theorem Is.pure{P:Program}(hm:P.follows .mixedOrders=true){f:FuncId}{ac:AC}{ts:List Nat}{n:Nat}(h:Is P f ac ts n){args:List AV}(hn:args.length=n){r:AV}
  (hb:AW P ac (gG ts (iQ r)) (bP args) S0):aN P f args r:=
 .uQ (h.wV hm hn hb)
def JB(r:AV):AV→St→Prop:=fun r' S'=>kI S'.g r' r
theorem Zkj{ts:List Nat}{K K':AV→St→Prop}(h:∀r S,K r S→K' r S){e:Exit}{a:AF}{S:St}(k:gG ts K e a S):gG ts K' e a S:=by
 cases e<;>simp only[gG] at k ⊢<;>first | exact h _ _ k | exact k
theorem Is.P5Y{P:Program}(hm:P.follows .mixedOrders=true){f:FuncId}{ac:AC}{ts:List Nat}{n:Nat}(h:Is P f ac ts n){args:List AV}(hn:args.length=n){r:AV}
  (hb:AW P ac (gG ts (JB r)) (bP args) S0):rW P f args r:=
 .uQ (h.wV hm hn hb)
def fC(g:Nat→Option aF)(a b:List AV):Prop:=b.length=a.length∧∀j (h1:j < a.length) (h2:j < b.length),Fz g (a[j]) (b[j])
theorem fC.nil{g:Nat→Option aF}:fC g [] []:=⟨rfl,fun j h=>by simp at h⟩
theorem fC.cons{g:Nat→Option aF}{x y:AV}{a b:List AV}(h:Fz g x y)(k:fC g a b):fC g (x::a) (y::b):=by
 refine⟨by simp[k.1],fun j h1 h2=>?_⟩;cases j with
 | zero=>exact h
 | succ j=>exact k.2 j (by simpa using h1) (by simpa using h2)
theorem fC.closed{g:Nat→Option aF}{a:List AV}(h:∀x∈a,aY x):fC g a a:=⟨rfl,fun j h1 _=>.closed _ (h _ (List.getElem_mem h1))⟩
theorem aQ.looks{P:Program}{f:FuncId}{args args':List AV}{r:AV}(h:aN P f args' r){S:St}(hz:fC S.g args args')(hr:xB r){K:AV→St→Prop}(hk:K r S):aQ P f args S K:=
 .look h hz.1 hz.2 hr hk
def St.lose(S:St)(ids:List Nat):St:=⟨S.n,fun i=>if i∈ids then none else S.g i⟩
theorem aQ.gives{P:Program}{f:FuncId}{args args':List AV}{r:AV}(ids:List Nat)(h:aN P f args' r){S:St}(hz:fC (only ids S.g) args args')(hr:aY r){K:AV→St→Prop}(hk:K r (S.lose ids)):aQ P f args S K:=
 .KV h (only ids S.g) Fp (S.lose ids) rfl (fun i k e=>by simp only[St.lose] at e;split at e<;>first | cases e | exact e) hz.1 hz.2
  (.inr ⟨hr,fun i k e=>by simp only[only] at e;simp only[St.lose];split at e<;>simp_all⟩) hk
theorem Fz.box{g:Nat→Option aF}(id c es:Nat)(x z:AV)(hg:g id=some (.arr es [x]))(h:Fz g x z):Fz g (.ptr id 0 c) (.bJ z c):=.ptr id 0 c es [x] z hg (Nat.zero_lt_one) h
theorem Fz.OU{g:Nat→Option aF}{f:FuncId}{bs bs':List AV}(h:fC g bs bs'):Fz g (.aP f [] bs) (.aP f [] bs'):=.aP f [] bs [] bs' rfl h.1 (fun i h=>by simp at h) h.2
theorem Ci{S:St}(ids:List Nat)(i:Nat):(S.lose ids).g i=if i∈ids then none else S.g i:=by simp only[St.lose]
theorem ZpL{S:St}(ids:List Nat):(S.lose ids).n=S.n:=by simp only[St.lose]
theorem DL(F:List Nat)(g:Nat→Option aF)(i:Nat):only F g i=if i∈F then g i else none:=by simp only[only]
theorem aN.weak{P:Program}{f:FuncId}{args args':List AV}{r:AV}(h:aN P f args' r)(hl:args'.length=args.length)(hr:∀j (h1:j < args.length) (h2:j < args'.length) (E:Env) (v:Value),aL E (args[j]) v→aL E (args'[j]) v):aN P f args r:=
 ⟨h.1,fun H w vals hG hH hv=>h.2 H w vals hG hH ⟨by rw[hv.1,hl],fun j hj=>hr j (by omega) hj _ _ (hv.2 j (by omega))⟩⟩
def aA(l:List Int):AV:=.sl false (l.map aj)
def iY(l:List Bool):AV:=.sl false (l.map aH)
def aX(l:List (List Int)):AV:=.sl false (l.map aA)
theorem aW(n:Int):aY (aj n):=.v _
theorem dN(b:Bool):aY (aH b):=.v _
theorem EX{X:Type}{t:Bool}{enc:X→AV}(h:∀x,aY (enc x))(l:List X):aY (.sl t (l.map enc)):=.sl _ _ (by intro y hy;obtain⟨x,_,rfl⟩:=List.mem_map.mp hy;exact h x)
theorem aS(l:List Int):aY (aA l):=EX aW l
theorem jL(l:List Bool):aY (iY l):=EX dN l
theorem jo(l:List (List Int)):aY (aX l):=EX aS l
theorem L9(b:Bool):xB (aH b):=.v _
theorem jF(b:Bool)(S:St):iQ (aH b) (.v (.bool b)) S:=.closed _ (.v _)
theorem Cm(n:Int)(S:St):iQ (aj n) (.v (.int .i64 n)) S:=.closed _ (.v _)
def Len{X:Type}(l:List X):Prop:=l.length≤140737488351232
theorem aU:∀y∈([]:List AV),aY y:=by simp
theorem aK{x:AV}{l:List AV}(h:aY x)(k:∀y∈l,aY y):∀y∈x::l,aY y:=by
 intro y hy;rcases List.mem_cons.mp hy with rfl | hy
 ·exact h
 ·exact k y hy
structure aD where
 signs:Int
 next:List (List Int)
 fin:List Bool
 deriving DecidableEq
def aT(d:aD):AV:=.agg [aj d.signs,aX d.next,iY d.fin]
theorem iV(d:aD):aY (aT d):=.agg _ (by
 intro y hy;simp only[List.mem_cons,List.not_mem_nil,or_false] at hy;rcases hy with rfl | rfl | rfl
 ·exact aW _
 ·exact jo _
 ·exact jL _)
structure rP(d:aD):Prop where
 next:Len d.next
 fin:Len d.fin
 rows:∀r∈d.next,Len r
 signs:-9223372036854775808≤d.signs∧d.signs≤9223372036854775807
def ME(d:aD)(r:List Int):Bool:=decide ((r.length:Int)=d.signs) && r.all fun t=>decide (0≤t) && decide (t < d.next.length)
def lg(d:aD):Bool:=decide (1≤d.signs) && decide (d.signs≤400) && decide (1≤d.next.length) && decide (d.next.length≤3000) && decide (d.fin.length=d.next.length) && d.next.all (ME d)
structure bD(d:aD):Prop where
 s1:1≤d.signs
 s2:d.signs≤400
 n1:1≤d.next.length
 n2:d.next.length≤3000
 fin:d.fin.length=d.next.length
 row:∀i (h:i < d.next.length),((d.next[i]).length:Int)=d.signs
 at_:∀i (h:i < d.next.length) j (k:j < (d.next[i]).length),0≤(d.next[i])[j]∧(d.next[i])[j] < d.next.length
theorem xP(d:aD):lg d=true↔bD d:=by
 simp only[lg,Bool.and_eq_true,decide_eq_true_eq,List.all_eq_true,ME];constructor
 ·rintro⟨⟨⟨⟨⟨h1,h2⟩,h3⟩,h4⟩,h5⟩,h6⟩
  exact⟨h1,h2,h3,h4,h5,fun i h=>(h6 _ (List.getElem_mem h)).1,fun i h j k=>(h6 _ (List.getElem_mem h)).2 _ (List.getElem_mem k)⟩
 ·intro h
  refine⟨⟨⟨⟨⟨h.s1,h.s2⟩,h.n1⟩,h.n2⟩,h.fin⟩,fun r hr=>?_⟩;obtain⟨i,hi,rfl⟩:=List.mem_iff_getElem.mp hr;refine⟨h.row i hi,fun t ht=>?_⟩;obtain⟨j,hj,rfl⟩:=List.mem_iff_getElem.mp ht;exact h.at_ i hi j hj
def bO(d:aD)(a:Nat)(s:Int):Nat:=((d.next.getD a []).getD s.toNat 0).toNat
def sj(d:aD):Nat→List Int→Option Nat
 | a,[]=>some a
 | a,s::l=>if 0≤s∧s < d.signs then sj d (bO d a s) l else none
def xH(d:aD)(l:List Int):Option Nat:=if lg d=true then sj d 0 l else none
def Bl:Option Nat→Int
 | some a=>a
 | none => -1
def mM(d:aD)(l:List Int):Bool:=match xH d l with
 | some a=>d.fin.getD a false
 | none=>false
theorem Dx{d:aD}(h:bD d){a:Nat}(ha:a < d.next.length){s:Int}(h0:0≤s)(hs:s < d.signs) :
  ∃hj:s.toNat < (d.next[a]).length,(d.next[a])[s.toNat]=bO d a s∧bO d a s < d.next.length:=by
 have hr:=h.row a ha;have hj:s.toNat < (d.next[a]).length:=by omega
 have:=h.at_ a ha s.toNat hj
 have e:bO d a s=((d.next[a])[s.toNat]).toNat:=by
  simp[bO,List.getD_eq_getElem?_getD,List.getElem?_eq_getElem ha,List.getElem?_eq_getElem hj]
 exact⟨hj,by omega,by omega⟩
theorem Zdy{d:aD}(h:bD d):∀(l:List Int) (a:Nat),a < d.next.length→∀b,sj d a l=some b→b < d.next.length
 | [],a,ha,b,e=>by simp[sj] at e;omega
 | s::l,a,ha,b,e=>by
  simp only[sj] at e;split at e
  ·rename_i hs
   exact Zdy h l _ (Dx h ha hs.1 hs.2).2.2 b e
  ·cases e
def zS:jA→Bool
 | .mv _ | .pick .. | .load .. | .bin .. | .un .. | .cZ .. | .aI .. | .field .. | .len _ | .ext .. | .iP _=>true
 | _=>false
theorem Zo7{P:Program}{o:Op}{ao:jA}(h:cop P o=some ao)(hp:zS ao=true):tV o=true:=by
 cases o with
 | call c=>
  simp only[cop] at h;unfold Q5 at h;split at h
  ·rename_i x t
   rfl
  ·split at h
   ·simp only[Option.bind_eq_some_iff,Option.map_eq_some_iff] at h
    obtain⟨_,_,_,_,_,_,rfl⟩:=h;cases hp
   ·split at h
    ·simp only[Option.bind_eq_some_iff,Option.map_eq_some_iff] at h
     obtain⟨_,_,_,_,_,_,rfl⟩:=h;cases hp
    ·cases h
  all_goals first
   | (cases h;done)
   | (simp only[Option.bind_eq_some_iff,Option.map_eq_some_iff] at h;obtain⟨_,_,_,_,_,_,rfl⟩:=h;cases hp;done)
   | (simp only[Option.bind_eq_some_iff,Option.map_eq_some_iff] at h;obtain⟨_,_,_,_,rfl⟩:=h;cases hp;done)
   | (simp only[Option.bind_eq_some_iff,Option.map_eq_some_iff] at h;obtain⟨_,_,_,_,_,rfl⟩:=h;cases hp;done)
 | alloc t=>simp only[cop,Option.map_eq_some_iff] at h;obtain⟨_,_,rfl⟩:=h;cases hp
 | box t x=>simp only[cop,Option.bind_eq_some_iff,Option.map_eq_some_iff] at h;obtain⟨_,_,_,_,rfl⟩:=h;cases hp
 | store t p x=>simp only[cop,Option.bind_eq_some_iff,Option.map_eq_some_iff] at h;obtain⟨_,_,_,_,_,_,rfl⟩:=h;cases hp
 | build t ps=>
  simp only[cop,Option.bind_eq_some_iff] at h;obtain⟨qs,hq,hb⟩:=h;unfold Qw at hb;split at hb
  ·simp only[Option.bind_eq_some_iff,Option.map_eq_some_iff] at hb
   obtain⟨_,_,_,_,rfl⟩:=hb;cases hp
  ·cases hb
 | buildSlice t m ps=>simp only[cop,Option.bind_eq_some_iff,Option.map_eq_some_iff] at h;obtain⟨_,_,_,_,rfl⟩:=h;cases hp
 | makeSlice t l c=>simp only[cop,Option.bind_eq_some_iff,Option.map_eq_some_iff] at h;obtain⟨_,_,_,_,_,_,rfl⟩:=h;cases hp
 | slice t x lo hi mx=>
  cases mx with
  | some m=>simp[cop] at h
  | none=>
   simp only[cop,Option.bind_eq_some_iff] at h;obtain⟨X,hx,LO,hlo,HI,hhi,hb⟩:=h;unfold RZ at hb;split at hb
   ·cases hb;cases hp
   ·simp only[Option.map_eq_some_iff] at hb
    obtain⟨_,_,rfl⟩:=hb;cases hp
   ·cases hb
 | makeFunc f a b=>
  cases f with
  | func f=>simp only[cop,Option.bind_eq_some_iff,Option.map_eq_some_iff] at h;obtain⟨_,_,_,_,rfl⟩:=h;cases hp
  | _=>simp[cop] at h
 | makeMap t r=>
  cases r with
  | some r=>simp[cop] at h
  | none=>simp only[cop,Option.some.injEq] at h;subst h;cases hp
 | lookup t m k ok=>simp only[cop,Option.bind_eq_some_iff,Option.map_eq_some_iff] at h;obtain⟨_,_,_,_,_,_,rfl⟩:=h;cases hp
 | mapUpdate t m k x=>simp only[cop,Cq,Option.bind_eq_some_iff,Option.map_eq_some_iff] at h;obtain⟨_,_,_,_,_,_,_,_,rfl⟩:=h;cases hp
 | insert t m k x=>simp only[cop,Cq,Option.bind_eq_some_iff,Option.map_eq_some_iff] at h;obtain⟨_,_,_,_,_,_,_,_,rfl⟩:=h;cases hp
 | makeInterface t x=>
  simp only[cop] at h;split at h
  ·simp only[Option.map_eq_some_iff] at h;obtain⟨_,_,rfl⟩:=h;cases hp
  ·cases h
 | typeAssert x xt t ok=>
  cases ok with
  | false=>simp[cop] at h
  | true=>
   simp only[cop] at h;split at h
   ·simp only[Option.bind_eq_some_iff,Option.map_eq_some_iff] at h;obtain⟨_,_,_,_,rfl⟩:=h;cases hp
   ·cases h
 | _=>first | rfl | (simp[cop] at h;done)
def SE:St:=⟨2,fun _=>none⟩
structure Am(E:Env)(w:World):Prop where
 hH:kT E.H w
 fresh:∀id,1≤id→E.ρ id=none
theorem Am.sim{E:Env}{w:World}(h:Am E w):bf E SE w:=
 ⟨h.hH,fun i k e=>by simp[SE] at e,fun i j ki kj li lj e=>by simp[SE] at e,fun i hi=>h.fresh i (by have:2≤i:=hi;omega)⟩
def tX(P:Program)(E:Env)(f:FuncId)(args:List AV)(w:World)(K:AV→World→Prop):Prop:=
 tO P f∧∀vals,kC E args vals→Calls P f vals w fun e w'=>∃v r,e=.returned v∧aL E r v∧kT E.H w'∧K r w'
def WG(P:Program)(E:Env):List aZ→(AF→World→Prop)→AF→World→Prop
 | [],K,a,w=>K a w
 | o::os,K,a,w=>o.guard=none∧match o.call with
  | some (G,xs)=>match G.ev a with
   | .aP f [] []=>tX P E f (xs.map (·.ev a)) w fun r w'=>WG P E os K (a.put o.dst r) w'
   | _=>False
  | none=>zS o.op=true∧match (ex o.op a).run SE 1 with
   | some (v,_)=>WG P E os K (a.put o.dst v) w
   | none=>False
def yK(K:AF→World→Prop)(Q:Exit→AF→World→Prop):Exit→AF→World→Prop
 | .normal,a,w=>K a w
 | e,a,w=>Q e a w
def DJ(id:Nat)(Q:Exit→AF→World→Prop):Exit→AF→World→Prop
 | .exit id',a,w=>if id'=id then Q .normal a w else Q (.exit id') a w
 | e,a,w=>Q e a w
def lV(P:Program)(E:Env):AC→(Exit→AF→World→Prop)→AF→World→Prop
 | .skip,Q,a,w=>Q .normal a w
 | .reg none os,Q,a,w=>WG P E os (fun a w=>Q .normal a w) a w
 | .seq x y,Q,a,w=>lV P E x (yK (lV P E y Q) Q) a w
 | .cond c x y,Q,a,w=>match c.ev a with
  | .v (.bool b)=>if b=true then lV P E x Q a w else lV P E y Q a w
  | _=>False
 | .block id x,Q,a,w=>lV P E x (DJ id Q) a w
 | .loop x,Q,a,w=>∃I:Nat→AF→World→Prop,(∃m,I m a w)∧∀m a w,I m a w→lV P E x (yK (fun a' w'=>∃m',m' < m∧I m' a' w') Q) a w
 | .exit id,Q,a,w=>Q (.exit id) a w
 | .ret,Q,a,w=>Q .ret a w
 | _,_,_,_=>False
def Rc(E:Env)(n:Nat)(Q:Exit→AF→World→Prop):Exit→Act→World→Prop:=fun e act w=>∃a,Q e a w∧fu E n a act∧Am E w
theorem Zj5{P:Program}{n:Nat}{ops:Array Oper}{E:Env}{Q:Exit→AF→World→Prop}:∀(os:List aZ) (i:Nat) (a:AF) (w:World),(∀k (hk:k < os.length),∃o,ops[i+k]? = some o∧nW P n ops o=some (os[k]))→
  WG P E os (fun a w=>Q .normal a w) a w→∀act,Am E w→fu E n a act→wpOps P ops (Rc E n Q) (List.range' i os.length) act w
 | [],i,a,w,_,h,act,hE,hF=>⟨a,h,hF,hE⟩
 | ao::os,i,a,w,hc,h,act,hE,hF=>by
  obtain⟨o,ho,hco⟩:=hc 0 (by simp);simp only[Nat.add_zero,List.getElem_cons_zero] at ho hco;obtain⟨hd,hdst,hgd,hor⟩:=Fb hco
  have hc':∀k (hk:k < os.length),∃o,ops[i+1+k]? = some o∧nW P n ops o=some (os[k]):=by
   intro k hk;obtain⟨o',h1,h2⟩:=hc (k+1) (by simpa using hk);exact⟨o',by rw[←h1];congr 1;omega,by simpa using h2⟩
  simp only[WG] at h;obtain⟨hgn,h⟩:=h
  have hgo:o.guard=none:=by
   rw[hgn] at hgd;unfold Ce at hgd;split at hgd
   ·assumption
   ·simp only[Option.map_eq_some_iff] at hgd
    obtain⟨_,_,e⟩:=hgd;cases e
  simp only[List.length_cons,List.range'_succ,wpOps,ho];simp only[Region.wanted,hgo,if_true];left;rw[hdst] at h
  have next:∀{r:AV} {act':Act} {w':World},WG P E os (fun a w=>Q .normal a w) (a.put o.dst r) w'→Am E w'→fu E n (a.put o.dst r) act'→wpOps P ops (Rc E n Q) (List.range' (i+1) os.length) act' w':=
   fun h1 h2 h3=>Zj5 os (i+1) _ _ hc' h1 _ h2 h3
  rcases hor with⟨q,hp1,hp2⟩ | ⟨hp1,hop⟩
  ·rw[hp1] at h
   obtain⟨G,xs⟩:=q;simp only at h;unfold CJ at hp2;split at hp2
   ·rename_i g ys ts wQ
    simp only[Option.bind_eq_some_iff,Option.map_eq_some_iff,Prod.mk.injEq] at hp2;obtain⟨G',hG,XS,Ae,rfl,rfl⟩:=hp2;have rg:=bT hF hG;split at h
    ·rename_i f Af
     rw[Af] at rg;generalize hev:act.eval g=gv at rg;cases rg with
     | aP _ _ _ fv cv hn hm hf hcc=>
      have hfv:fv=#[]:=Array.eq_empty_of_size_eq_zero (by simpa using hn);have hcv:cv=#[]:=Array.eq_empty_of_size_eq_zero (by simpa using hm);subst hfv;subst hcv;have hx:=Ie hF Ae;unfold Oper.wp
      have hrun:(execOp act.eval o).run P w=.ok (.enter f (ys.map act.eval)) w:=by
       simp only[execOp,wQ,Sem.run_bind,ER act.eval g ys ts o.type hev,Result.andThen_ok,invoke];have:=ES h.1 (ys.map act.eval) w;simpa using this
      rw[hrun,Oper.upon_enter];refine(h.2 _ hx).mono ?_;rintro e w' ⟨v,r,rfl,hr,hH,hk⟩;exact next hk ⟨hH,hE.fresh⟩ (hF.put hd hr)
    ·exact h.elim
   ·cases hp2
  ·rw[hp1] at h
   simp only at h;obtain⟨hpa,h⟩:=h;split at h
   ·rename_i v S' hex
    have hok:=I8 (P:=P) (n:=n) (o:=o) (aC:=1) hd hop hex;refine hok E w act hE.sim hF (hE.fresh 1 (Nat.le_refl _)) (by show 1 < 2;omega) _ _ fun act' w' E' k1 k2 k3 k4=>?_
    obtain⟨e1,e2⟩:=k4.1 (Zo7 hop hpa);subst e1;subst e2;exact next h hE k2
   ·exact h.elim
theorem VW{P:Program}{n:Nat}{E:Env}:∀(c:Code) (ac:AC),comp P n c=some ac→∀(Q:Exit→AF→World→Prop) (a:AF) (w:World),lV P E ac Q a w→∀act,Am E w→fu E n a act→c.wp P (Rc E n Q) act w:=by
 intro c;induction c with
 | skip=>
  intro ac hc Q a w h act hE hF;simp only[comp,eF,Option.some.injEq] at hc;subst hc;exact wp_skip ⟨a,h,hF,hE⟩
 | label l=>
  intro ac hc Q a w h act hE hF;simp only[comp,eF,Option.some.injEq] at hc;subst hc;exact wp_label ⟨a,h,hF,hE⟩
 | region id ops dr=>
  intro ac hc Q a w h act hE hF;have e:=Ij (R:=wm) hc;subst e;unfold wm at h;cases hq:(ops.toList.mapM (nW P n ops)).bind (Ec dr ops) with
  | none=>rw[hq] at h;simp only[Cy,lV] at h
  | some p=>
   rw[hq] at h;simp only[Cy] at h;simp only[Option.bind_eq_some_iff] at hq;obtain⟨ys,hy,hcr⟩:=hq;obtain⟨h1,h2⟩:=AB hy;obtain⟨draw,os⟩:=p;unfold Ec at hcr;split at hcr
   ·split at hcr
    ·simp only[Option.some.injEq,Prod.mk.injEq] at hcr
     obtain⟨rfl,rfl⟩:=hcr;simp only[lV] at h
    ·cases hcr
   ·rename_i hdr
    simp only[Bool.not_eq_true] at hdr;subst hdr;simp only[Option.some.injEq,Prod.mk.injEq] at hcr;obtain⟨rfl,rfl⟩:=hcr;simp only[lV] at h;refine wp_region ?_
    have:=Zj5 (P:=P) (n:=n) (ops:=ops) (Q:=Q) ys 0 a w (fun k hk=>by
     obtain⟨o,a1,a2⟩:=h2 k hk;exact⟨o,by rw[Nat.zero_add];simpa using a1,a2⟩) h act hE hF
    have hlen:ys.length=ops.size:=by rw[h1];simp
    rw[List.range_eq_range',←hlen];exact this
 | seq c1 c2 fA ihy=>
  intro ac hc Q a w h act hE hF;simp only[comp,eF,Option.map_eq_some_iff,Option.bind_eq_some_iff] at hc;obtain⟨X,hX,Y,hY,rfl⟩:=hc;simp only[lV] at h;refine wp_seq (wp_mono (fA X hX _ a w h act hE hF) fun e act' w' hp=>?_);obtain⟨a',q,r,s⟩:=hp;cases e with
  | normal=>exact ihy Y hY Q a' w' q act' s r
  | _=>exact⟨a',q,r,s⟩
 | cond c0 c1 c2 fA ihy=>
  intro ac hc Q a w h act hE hF;simp only[comp,eF,Option.map_eq_some_iff,Option.bind_eq_some_iff] at hc;obtain⟨C',hC,X,hX,Y,hY,rfl⟩:=hc;simp only[lV] at h;split at h
  ·rename_i b hb
   have r:=bT hF hC;rw[hb] at r;refine wp_cond (t:=b) r.jl ?_;cases b with
   | true=>exact fA X hX Q a w (by simpa using h) act hE hF
   | false=>exact ihy Y hY Q a w (by simpa using h) act hE hF
  ·exact h.elim
 | block id' c1 fA=>
  intro ac hc Q a w h act hE hF;simp only[comp,eF,Option.map_eq_some_iff] at hc;obtain⟨X,hX,rfl⟩:=hc;simp only[lV] at h;refine wp_block (wp_mono (fA X hX _ a w h act hE hF) fun e act' w' hp=>?_);obtain⟨a',q,r,s⟩:=hp;cases e with
  | exit j=>
   simp only[DJ] at q;simp only[Exit.inBlock];split at q
   ·rename_i hj;rw[if_pos hj];exact⟨a',q,r,s⟩
   ·rename_i hj;rw[if_neg hj];exact⟨a',q,r,s⟩
  | _=>exact⟨a',q,r,s⟩
 | loop c1 fA=>
  intro ac hc Q a w h act hE hF;simp only[comp,eF,Option.map_eq_some_iff] at hc;obtain⟨X,hX,rfl⟩:=hc;simp only[lV] at h;obtain⟨I,⟨m0,hI0⟩,Nv⟩:=h;intro b k cs
  have key:∀m,∀a w' act',I m a w'→Am E w'→fu E n a act'→
    ∃e a' w2,Rc E n Q e a' w2∧Arrives P (lone (b.at act' (.code c1::.inLoop c1::k)) cs w') b k cs e a' w2:=by
   intro m;induction m using Nat.strongRecOn with
   | _ m ih=>
    intro a w' act' hI hE' hF';obtain⟨e,qU,w1,hp,harr⟩:=fA X hX _ a w' (Nv m a w' hI) act' hE' hF' b (.inLoop c1::k) cs;obtain⟨a1,q,r,s⟩:=hp;cases e with
    | normal=>
     obtain⟨m',hlt,hI'⟩:=q;obtain⟨e2,jq,w2,hp2,Nj⟩:=ih m' hlt a1 w1 qU hI' s r;exact⟨e2,jq,w2,hp2,.of_steps (Steps.trans harr (.one step_inLoop)) Nj⟩
    | exit id=>exact⟨_,qU,w1,⟨a1,q,r,s⟩,.pass (x:=.inLoop c1) rfl (fun _ _=>.inl (by simp)) harr⟩
    | goto l=>exact⟨_,qU,w1,⟨a1,q,r,s⟩,.pass (x:=.inLoop c1) rfl (fun _ _=>.inl (by simp)) harr⟩
    | ret=>exact⟨_,qU,w1,⟨a1,q,r,s⟩,.pass (x:=.inLoop c1) rfl (fun _ _=>.inl (by simp)) harr⟩
    | panic ch=>exact⟨_,qU,w1,⟨a1,q,r,s⟩,.pass (x:=.inLoop c1) rfl (fun _ _=>.inl (by simp)) harr⟩
    | outgrown=>exact⟨_,qU,w1,⟨a1,q,r,s⟩,.pass (x:=.inLoop c1) rfl (fun _ _=>.inl (by simp)) harr⟩
  obtain⟨e,a',w',hp,harr⟩:=key m0 a w act hI0 hE hF;exact⟨e,a',w',hp,.of_steps (.one step_loop) harr⟩
 | exit id=>
  intro ac hc Q a w h act hE hF;simp only[comp,eF,Option.some.injEq] at hc;subst hc;exact wp_exit ⟨a,h,hF,hE⟩
 | ret=>
  intro ac hc Q a w h act hE hF;simp only[comp,eF,Option.some.injEq] at hc;subst hc;exact wp_ret ⟨a,h,hF,hE⟩
 | scope c1 fA=>
  intro ac hc Q a w h;simp only[comp,eF,Option.map_eq_some_iff] at hc;obtain⟨X,hX,rfl⟩:=hc;simp only[lV] at h
 | _=>
  intro ac hc Q a w h;simp only[comp,eF,Option.some.injEq] at hc;subst hc;simp only[lV] at h
structure Bc(P:Program)(fw fb fs:FuncId)(T e:TypeId):Prop where
 cw:tO P fw
 cb:tO P fb
 cs:tO P fs
 w:∀(B b:Nat) (bs:List Value) (s:ByteArray) (w:World),Lib.IsBuilderF T e B b bs w→bs.length+s.size≤140737488355328→B≤w.heap.size→
  Calls P fw #[.pointer (some ⟨b,0,none⟩),.string s] w fun en w'=>en=.returned (.tuple #[.int .i64 s.size,.nilIface])∧Lib.IsBuilderF T e B b (bs++Lib.strCells s) w'∧Below B w w'
 b:∀(B b:Nat) (bs:List Value) (c:Int) (w:World),Lib.IsBuilderF T e B b bs w→bs.length+1≤140737488355328→B≤w.heap.size→
  Calls P fb #[.pointer (some ⟨b,0,none⟩),.int .u8 c] w fun en w'=>en=.returned .nilIface∧Lib.IsBuilderF T e B b (bs++[.int .u8 c]) w'∧Below B w w'
 s:∀(B b:Nat) (l:List UInt8) (w:World),Lib.IsBuilderF T e B b (Lib.byteCells l) w→B≤w.heap.size→
  Calls P fs #[.pointer (some ⟨b,0,none⟩)] w fun en w'=>en=.returned (.string ⟨l.toArray⟩)∧Below B w w'
structure Da(P:Program)(fi:FuncId)(good:Int→Prop):Prop where
 c:tO P fi
 h:∀(H:Nat→Option (Array Value)) (n:Int) (w:World),jI P H→kT H w→good n→Calls P fi #[.int .i64 n] w fun en w'=>en=.returned (.string ⟨(Lib.itoa n).toArray⟩)∧Below w.heap.size w w'
def sF(l:List UInt8):AV:=.v (.string ⟨l.toArray⟩)
theorem ZmS(l:List UInt8):(⟨l.toArray⟩:ByteArray).size=l.length:=rfl
theorem Z81(l m:List UInt8):Lib.byteCells (l++m)=Lib.byteCells l++Lib.byteCells m:=by simp[Lib.byteCells]
theorem Z9Q(l:List UInt8):(Lib.byteCells l).length=l.length:=by simp[Lib.byteCells]
structure BE(E:Env)(B b:Nat):Prop where
 ρ:E.ρ 0=some ⟨b,0,2,1⟩
 H:∀c cs,E.H c=some cs→c < B
theorem BE.ptr{E:Env}{B b:Nat}(h:BE E B b){v:Value}(r:aL E (.ptr 0 0 0) v):v=.pointer (some ⟨b,0,none⟩):=by
 cases r with
 | ptr _ _ _ l hl=>
  rw[h.ρ] at hl;cases hl;rfl
theorem BE.keep{E:Env}{B b:Nat}(h:BE E B b){w w':World}(hH:kT E.H w)(hb:Below B w w'):kT E.H w':=by
 intro c cs e;obtain⟨el,fz,hw⟩:=hH c cs e;exact⟨el,fz,by rw[hb.block c (h.H c cs e)];exact hw⟩
theorem Zcm{E:Env}{x:AV}{vals:Array Value}(h:kC E [x] vals):∃v,vals=#[v]∧aL E x v:=by
 obtain⟨h1,h2⟩:=h;refine⟨vals.getD 0 undef,?_,h2 0 (by simp)⟩;apply Array.ext
 ·simpa using h1
 ·intro i h3 h4
  have:i=0:=by simp at h4;omega
  subst this;simp[Array.getD_eq_getD_getElem?,Array.getElem?_eq_getElem h3]
theorem Zcn{E:Env}{x y:AV}{vals:Array Value}(h:kC E [x,y] vals):∃v u,vals=#[v,u]∧aL E x v∧aL E y u:=by
 obtain⟨h1,h2⟩:=h;refine⟨vals.getD 0 undef,vals.getD 1 undef,?_,h2 0 (by simp),h2 1 (by simp)⟩;apply Array.ext
 ·simpa using h1
 ·intro i h3 h4
  have hi:i < 2:=by simpa using h4
  match i,hi with
  | 0,_=>simp[Array.getD_eq_getD_getElem?,Array.getElem?_eq_getElem h3]
  | 1,_=>simp[Array.getD_eq_getD_getElem?,Array.getElem?_eq_getElem h3]
structure wD(T e B b:Nat)(w0:World)(l:List UInt8)(w:World):Prop where
 is:Lib.IsBuilderF T e B b (Lib.byteCells l) w
 below:Below B w0 w
 room:B≤w.heap.size
theorem wD.kept{T e B b:Nat}{w0 w w':World}{l:List UInt8}(h:wD T e B b w0 l w)(hb:Below w.heap.size w w'):wD T e B b w0 l w':=by
 have SG:Below B w w':=⟨hb.os,hb.tape,hb.output,hb.size,fun k hk=>hb.block k (Nat.lt_of_lt_of_le hk h.room)⟩;have hgr:w.grownBy w' none:=⟨hb.os,hb.tape,hb.output,hb.size,fun k hk _=>hb.block k hk⟩
 have key:∀p,Lib.BuilderAtF T e B b p (Lib.byteCells l) w→Lib.BuilderAtF T e B b p (Lib.byteCells l) w':=by
  rintro p ⟨h1,v,h2,h3,h4⟩;refine⟨h1,v,?_,h3.kept hgr (by cases hv:v.ownBlock<;>simp),h4⟩;rw[hb.block b (Array.getElem?_eq_some_iff.mp h2).1];exact h2
 exact⟨h.is.elim (fun x=>.inl (key _ x)) (fun x=>.inr (key _ x)),h.below.trans SG,Nat.le_trans h.room hb.size⟩
theorem tX.str{P:Program}{fw fb fs:FuncId}{T e:TypeId}(k:Bc P fw fb fs T e){E:Env}{B b:Nat}(hE:BE E B b){w0 w:World}{l m:List UInt8}(h:wD T e B b w0 l w)(hH:kT E.H w)(hl:l.length+m.length≤140737488355328)
  {K:AV→World→Prop} (hK:∀w',wD T e B b w0 (l++m) w'→kT E.H w'→K .junk w'):tX P E fw [.ptr 0 0 0,sF m] w K:=by
 refine⟨k.cw,fun vals hv=>?_⟩;obtain⟨v,u,rfl,r1,r2⟩:=Zcn hv;have e1:=hE.ptr r1;have e2:=r2.jl;subst e1;subst e2;refine(k.w B b _ ⟨m.toArray⟩ w h.is (by rw[Z9Q,ZmS];exact hl) h.room).mono ?_;rintro en w' ⟨rfl,h1,h2⟩;exact⟨_,.junk,rfl,.junk _,hE.keep hH h2,hK w' ⟨by rw[Z81];exact h1,h.below.trans h2,Nat.le_trans h.room h2.size⟩ (hE.keep hH h2)⟩
theorem tX.byte{P:Program}{fw fb fs:FuncId}{T e:TypeId}(k:Bc P fw fb fs T e){E:Env}{B b:Nat}(hE:BE E B b){w0 w:World}{l:List UInt8}{c:UInt8}(h:wD T e B b w0 l w)(hH:kT E.H w)(hl:l.length+1≤140737488355328)
  {K:AV→World→Prop} (hK:∀w',wD T e B b w0 (l++[c]) w'→kT E.H w'→K .junk w') {n:Int} (hc:n=(c.toNat:Int)):tX P E fb [.ptr 0 0 0,.v (.int .u8 n)] w K:=by
 refine⟨k.cb,fun vals hv=>?_⟩;obtain⟨v,u,rfl,r1,r2⟩:=Zcn hv;have e1:=hE.ptr r1;have e2:=r2.jl;subst e1;subst e2;refine(k.b B b _ n w h.is (by rw[Z9Q];exact hl) h.room).mono ?_;rintro en w' ⟨rfl,h1,h2⟩;exact⟨_,.junk,rfl,.junk _,hE.keep hH h2,hK w' ⟨by rw[Z81];subst hc;exact h1,h.below.trans h2,Nat.le_trans h.room h2.size⟩ (hE.keep hH h2)⟩
theorem tX.string{P:Program}{fw fb fs:FuncId}{T e:TypeId}(k:Bc P fw fb fs T e){E:Env}{B b:Nat}(hE:BE E B b){w0 w:World}{l:List UInt8}(h:wD T e B b w0 l w)(hH:kT E.H w)
  {K:AV→World→Prop} (hK:∀w',Below B w0 w'→K (sF l) w'):tX P E fs [.ptr 0 0 0] w K:=by
 refine⟨k.cs,fun vals hv=>?_⟩;obtain⟨v,rfl,r1⟩:=Zcm hv;have e1:=hE.ptr r1;subst e1;refine(k.s B b l w h.is h.room).mono ?_;rintro en w' ⟨rfl,h2⟩;exact⟨_,sF l,rfl,.v _ rfl,hE.keep hH h2,hK w' (h.below.trans h2)⟩
theorem tX.itoa{P:Program}{fi:FuncId}{good:Int→Prop}(k:Da P fi good){E:Env}{T e B b:Nat}(hE:BE E B b){w0 w:World}{l:List UInt8}(h:wD T e B b w0 l w){n:Int}(hn:good n)(hG:jI P E.H)(hH:kT E.H w)
  {K:AV→World→Prop} (hK:∀w',wD T e B b w0 l w'→kT E.H w'→K (sF (Lib.itoa n)) w'):tX P E fi [aj n] w K:=by
 refine⟨k.c,fun vals hv=>?_⟩;obtain⟨v,rfl,r1⟩:=Zcm hv;have e1:=r1.jl;subst e1;refine(k.h E.H n w hG hH hn).mono ?_;rintro en w' ⟨rfl,hb⟩;have SG:Below B w w':=⟨hb.os,hb.tape,hb.output,hb.size,fun k hk=>hb.block k (Nat.lt_of_lt_of_le hk h.room)⟩;exact⟨_,sF (Lib.itoa n),rfl,.v _ rfl,hE.keep hH SG,hK w' (h.kept hb) (hE.keep hH SG)⟩
theorem Pk{P:Program}{n:Nat}{c:Code}{X Y:AC}(h:comp P n c=some (.seq X Y)):∃x y,c=.seq x y∧comp P n x=some X∧comp P n y=some Y:=by
 cases c with
 | seq x y=>
  simp only[comp,eF,Option.map_eq_some_iff,Option.bind_eq_some_iff] at h;obtain⟨X',hX,Y',hY,e⟩:=h;simp only[AC.seq.injEq] at e;obtain⟨rfl,rfl⟩:=e;exact⟨x,y,rfl,hX,hY⟩
 | region id ops dr=>
  have e:=Ij (R:=wm) h;unfold wm Cy at e;split at e<;>cases e
 | cond a x y=>
  simp only[comp,eF,Option.map_eq_some_iff,Option.bind_eq_some_iff] at h;obtain⟨_,_,_,_,_,_,e⟩:=h;cases e
 | block a x=>
  simp only[comp,eF,Option.map_eq_some_iff] at h;obtain⟨_,_,e⟩:=h;cases e
 | loop x=>
  simp only[comp,eF,Option.map_eq_some_iff] at h;obtain⟨_,_,e⟩:=h;cases e
 | scope x=>
  simp only[comp,eF,Option.map_eq_some_iff] at h;obtain⟨_,_,e⟩:=h;cases e
 | _=>simp only[comp,eF,Option.some.injEq,reduceCtorEq] at h
theorem Zfc{P:Program}{n:Nat}{c:Code}{os:List aZ}(h:comp P n c=some (.reg none os)):∃id ops,c=.region id ops false∧ops.size=os.length∧∀k (hk:k < os.length),∃o,ops[k]? = some o∧nW P n ops o=some (os[k]):=by
 cases c with
 | region id ops dr=>
  have e:=Ij (R:=wm) h;unfold wm at e;cases hq:(ops.toList.mapM (nW P n ops)).bind (Ec dr ops) with
  | none=>rw[hq] at e;cases e
  | some p=>
   rw[hq] at e;simp only[Cy,AC.reg.injEq] at e;obtain⟨e1,rfl⟩:=e;simp only[Option.bind_eq_some_iff] at hq;obtain⟨ys,hy,hcr⟩:=hq;obtain⟨h1,h2⟩:=AB hy;unfold Ec at hcr;split at hcr
   ·split at hcr
    ·cases hcr;cases e1
    ·cases hcr
   ·rename_i hdr
    simp only[Bool.not_eq_true] at hdr;subst hdr;cases hcr;exact⟨id,ops,rfl,by rw[h1];simp,fun k hk=>by obtain⟨o,a1,a2⟩:=h2 k hk;exact⟨o,by simpa using a1,a2⟩⟩
 | seq x y=>
  simp only[comp,eF,Option.map_eq_some_iff,Option.bind_eq_some_iff] at h;obtain⟨_,_,_,_,e⟩:=h;cases e
 | cond a x y=>
  simp only[comp,eF,Option.map_eq_some_iff,Option.bind_eq_some_iff] at h;obtain⟨_,_,_,_,_,_,e⟩:=h;cases e
 | block a x=>
  simp only[comp,eF,Option.map_eq_some_iff] at h;obtain⟨_,_,e⟩:=h;cases e
 | loop x=>
  simp only[comp,eF,Option.map_eq_some_iff] at h;obtain⟨_,_,e⟩:=h;cases e
 | scope x=>
  simp only[comp,eF,Option.map_eq_some_iff] at h;obtain⟨_,_,e⟩:=h;cases e
 | _=>simp only[comp,eF,Option.some.injEq,reduceCtorEq] at h
def FC:Code→Option TypeId
 | .seq _ (.seq (.region _ ops _) _)=>match ops[0]? with
  | some o=>match o.op with
   | .alloc t=>some t
   | _=>none
  | none=>none
 | _=>none
def JF:AV:=.agg [.v (.pointer none),.sl true []]
theorem Zmg{z:Value}(h:Cx z=some JF):z.cells=#[.pointer none,.slice none 0 0]:=by
 unfold Cx at h;split at h
 ·rename_i cs
  simp only[Option.map_eq_some_iff,JF,AV.agg.injEq] at h;obtain⟨l,h1,rfl⟩:=h;obtain⟨k1,_,k3⟩:=VB (E:=⟨fun _=>none,fun _=>none⟩) h1;have hs:cs.size=2:=by simpa using k1.symm
  have r0:=(k3 0 (by simp)).jl
  have hm:∃x y,cs.toList=[x,y]:=by
   have:cs.toList.length=2:=by simpa using hs
   match hcl:cs.toList,this with
   | [x,y],_=>exact⟨x,y,rfl⟩
  obtain⟨x,y,hxy⟩:=hm
  have hcs:cs=#[x,y]:=by
   apply Array.ext';simpa using hxy
  subst hcs;simp only[List.mapM_cons,List.mapM_nil,Option.bind_eq_bind,Option.bind_eq_some_iff,Option.pure_def,Option.some.injEq,List.cons.injEq] at h1;obtain⟨p,hp,q,⟨q2,hq,q3,⟨rfl⟩,rfl⟩,rfl,rfl,_⟩:=h1;have hx:x=.pointer none:=(VQ (E:=⟨fun _=>none,fun _=>none⟩) hp).1.jl
  have hy:y=.slice none 0 0:=by
   unfold FE at hq;split at hq
   ·rfl
   ·cases hq
   ·split at hq<;>cases hq
  rw[hx,hy];rfl
 ·unfold FE at h
  split at h<;>simp[JF] at h
theorem ZeV{P:Program}{n d:Nat}{c:Code}(h:comp P n c=some (.reg none [⟨some d,.alloc JF 2,none,none⟩])){a:AF}{act:Act}{w:World}{E:Env}(hF:fu E n a act)(hρ:∀i,E.ρ i=none)(hH:kT E.H w){T:TypeId}
  (hT:∀id ops,c=.region id ops false→∃o,ops[0]? = some o∧o.op=.alloc T) (e:TypeId) :
  c.wp P (fun ex act' w'=>ex=.normal∧w'=w.alloc (.cells #[.pointer none,.slice none 0 0] T)∧Am ⟨fun i=>if i=0 then some ⟨w.heap.size,0,2,1⟩ else none,E.H⟩ w'∧
   fu ⟨fun i=>if i=0 then some ⟨w.heap.size,0,2,1⟩ else none,E.H⟩ n (a.put (some d) (.ptr 0 0 0)) act'∧wD T e w.heap.size w.heap.size w [] w') act w:=by
 obtain⟨id,ops,rfl,hs,hc⟩:=Zfc h;obtain⟨o,ho,hco⟩:=hc 0 (by simp);simp only[List.getElem_cons_zero] at hco;obtain⟨hd,hdst,hgd,hor⟩:=Fb hco;obtain⟨o',ho',hop'⟩:=hT _ _ rfl;rw[ho] at ho';cases ho'
 have hgo:o.guard=none:=by
  unfold Ce at hgd;split at hgd
  ·assumption
  ·simp only[Option.map_eq_some_iff] at hgd
   obtain⟨_,_,e⟩:=hgd;cases e
 simp only at hdst hgd hor;rcases hor with⟨p,hp,_⟩ | ⟨_,hop⟩
 ·cases hp
 rw[hop'] at hop;simp only[cop,Option.map_eq_some_iff,jA.alloc.injEq] at hop;obtain⟨p,hz,hp1,hp2⟩:=hop;obtain⟨i,zv,g1,g2,g3,g4,g5,g6,g7⟩:=Ls (x:=p.1) (m:=p.2) hz;rw[hp1] at g3;have hzc:=Zmg g3;have hsz:ops.size=1:=by simpa using hs
 refine wp_region ?_;rw[hsz];have hl:List.range 1=[0]:=rfl;rw[hl];simp only[wpOps,ho,Region.wanted,hgo,if_true];left;unfold Oper.wp
 have hrun:(execOp act.eval o).run P w=.ok (.value (.pointer (some ⟨w.heap.size,0,none⟩))) (w.alloc (.cells #[.pointer none,.slice none 0 0] T)):=by
  rw[←hzc];simp[execOp,hop',Instr.alloc,zeroValue,typeInfo,g1,g2,newVar,newRow]
 rw[hrun,Oper.upon_value];have hle:E.le ⟨fun i=>if i=0 then some ⟨w.heap.size,0,2,1⟩ else none,E.H⟩:=⟨fun i l e=>absurd e (by rw[hρ i];simp),fun _ _ e=>e⟩;have hbel:Below w.heap.size w (w.alloc (.cells #[.pointer none,.slice none 0 0] T)):=(Below.refl w.heap.size w).alloc (Nat.le_refl _) _;refine⟨trivial,rfl,⟨fun b cs e=>?_,fun id h1=>by simp only;rw[if_neg (by omega)]⟩,?_,⟨.inl ⟨Nat.le_refl _,.slice none 0 0,Li w _,World.ownsRowF_nil _ _ _ _,by simp[Value.ownBlock]⟩,hbel,hbel.size⟩⟩
 ·obtain⟨el,fz,hw⟩:=hH b cs e
  exact⟨el,fz,by rw[hbel.block b (Array.getElem?_eq_some_iff.mp hw).1];exact hw⟩
 ·rw[hdst]
  have hr:aL ⟨fun i=>if i=0 then some ⟨w.heap.size,0,2,1⟩ else none,E.H⟩ (.ptr 0 0 0) (.pointer (some ⟨w.heap.size,0,none⟩)):=by
   have:=aL.ptr (E:=⟨fun i=>if i=0 then some ⟨w.heap.size,0,2,1⟩ else none,E.H⟩) 0 0 0 ⟨w.heap.size,0,2,1⟩ rfl;simpa using this
  exact(hF.mono hle).put hd hr
theorem aN.P5X{P:Program}{f:FuncId}{fn:Func}{c:Code}{x0:List aZ}{d:Nat}{Y:AC}{t:Nat}{T e:TypeId}(hf:P.funcs[f]? = some fn)(hnm:(fn.name == "runtime.NumGoroutine")=false)(hb:fn.body=some c)
  (hc:comp P fn.ntmps c=some (.seq (.reg none x0) (sq [⟨some d,.alloc JF 2,none,none⟩] Y))) (hT:FC c=some T) (hr:fn.results=([t].map ResultVar.tmp).toArray) {args:List AV} (hn:args.length≤fn.ntmps) {r:Value} (hrs:zG r=true)
  (h0:∀(Q:Exit→AF→World→Prop) E w,lV P E (.reg none x0) Q (bP args) w=Q .normal (x0.foldl (fun a o=>a.put o.dst (match o.op with | .mv x=>x.ev a | _=>.junk)) (bP args)) w)
  (h1:∀E B w w0,BE E B B→jI P E.H→kT E.H w→wD T e B B w0 [] w→lV P E Y (fun ex a w'=>(ex=.ret∨ex=.normal)∧a t=.v r∧Below B w0 w') ((x0.foldl (fun a o=>a.put o.dst (match o.op with | .mv x=>x.ev a | _=>.junk)) (bP args)).put (some d) (.ptr 0 0 0)) w):aN P f args (.v r):=by
 refine⟨vK hf hnm hb,fun H w vals hG hH hv=>?_⟩;obtain⟨c0,c1,rfl,hc0,hc1⟩:=Pk hc;obtain⟨c2,c3,rfl,hc2,hc3⟩:=Pk hc1;have hF:=AA hv hn;have hE0:Am ⟨uM,H⟩ w:=⟨hH,fun _ _=>rfl⟩;refine calls_of_wp hf hb (wp_seq (wp_mono (VW c0 _ hc0 (fun ex a w'=>ex=.normal∧a=x0.foldl (fun a o=>a.put o.dst (match o.op with | .mv x=>x.ev a | _=>.junk)) (bP args)∧w'=w) _ w (by rw[h0];exact⟨rfl,rfl,rfl⟩) _ hE0 hF) fun ex qU w1 hp=>?_));obtain⟨a1,⟨rfl,rfl,rfl⟩,hF1,hE1⟩:=hp;refine wp_seq (wp_mono (ZeV (e:=e) hc2 hF1 (fun _=>rfl) hE1.hH (T:=T) (fun id ops e=>?_)) fun ex jq w2 hp=>?_)
 ·subst e
  simp only[FC] at hT;split at hT
  ·rename_i o ho
   refine⟨o,ho,?_⟩;split at hT
   ·rename_i t' ht
    cases hT;exact ht
   ·cases hT
  ·cases hT
 obtain⟨rfl,rfl,hE2,hF2,hB⟩:=hp;have hbe:BE ⟨fun i=>if i=0 then some ⟨w1.heap.size,0,2,1⟩ else none,H⟩ w1.heap.size w1.heap.size:=⟨rfl,fun c cs e=>by obtain⟨el,fz,hw⟩:=hH c cs e;exact(Array.getElem?_eq_some_iff.mp hw).1⟩;refine wp_mono (VW c3 _ hc3 _ _ _ (h1 _ _ _ w1 hbe hG hE2.hH hB) _ hE2 hF2) fun ex Gt w3 hp=>?_
 obtain⟨a3,⟨hex,hat,hbel⟩,Ei,YZ⟩:=hp;have hres:=Lj (P:=P) hr Gt.tmps w3;have hrep:=IJ Ei [t];simp only[uI,hat] at hrep;have hval:=hrep.jl
 have fin:bodyPost P fn (fun e w'=>∃v H',e=.returned v∧(∀b cs,H b=some cs→H' b=some cs)∧(∀b cs,H' b=some cs→H b=some cs∨w1.heap.size≤b)∧kT H' w'∧aL ⟨uM,H'⟩ (.v r) v∧Below w1.heap.size w1 w') .ret Gt w3:=
  ⟨Ei.defers,_,hres,_,H,rfl,fun _ _ e=>e,fun _ _ e=>.inl e,YZ.hH,by rw[hval];exact .v _ hrs,hbel⟩
 rcases hex with rfl | rfl
 ·exact fin
 ·exact fin
end Go.Rf
