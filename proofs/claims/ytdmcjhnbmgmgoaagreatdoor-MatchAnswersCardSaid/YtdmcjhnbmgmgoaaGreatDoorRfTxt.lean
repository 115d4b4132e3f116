import Derived.Test.YtdmcjhnbmgmgoaaGreatDoorRfNew
import Derived.Scope
import Derived.Laws.Wrap64
import Derived.Lib.FrozenHead
import Derived.Lib.ItoaNum
set_option linter.unusedVariables false
set_option linter.unusedSimpArgs false
set_option linter.unusedSectionVars false
namespace Go.Rf
open Go.RowKit
def aJ.iL:aJ→List Nat
 | .t i=>[i]
 | .c _=>[]
def VG:Option aJ→List Nat
 | none=>[]
 | some x=>x.iL
def jc.iL:jc→List Nat
 | .mv x | .box _ x | .load _ x | .un _ x | .conv _ x | .bV _ x | .field _ _ x | .len x | .PN x | .Es x | .ext _ x | .fH x | .cap x | .GQ _ _ x | .Cn _ _ x | .KL _ x | .KQ _ _ x | .KH _ x=>x.iL
 | .pick c x y=>c.iL++x.iL++y.iL
 | .alloc _ _ | .Cm=>[]
 | .store _ p x | .bin _ p x | .beq _ p x | .aI _ p x | .uj _ _ p x | .PK _ _ _ p x | .PI p x | .app _ _ p x | .um _ _ _ p x | .look _ _ _ p x | .mm _ p x | .seq _ _ p x | .Kg _ p x | .GK _ _ _ p x=>p.iL++x.iL
 | .zI _ m k x=>m.iL++k.iL++x.iL
 | .slc _ x lo hi | .P6 x lo hi=>x.iL++VG lo++VG hi
 | .build _ _ qs | .bS _ _ _ qs=>qs.flatMap fun q=>q.2.iL
 | .yP _ f c=>(f++c).flatMap aJ.iL
theorem dM{a b:AF}{x:aJ}(h:∀t∈x.iL,a t=b t):x.ev a=x.ev b:=by
 cases x with
 | t i=>exact h i (by simp[aJ.iL])
 | c x=>rfl
theorem ND{a b:AF}{x:Option aJ}(h:∀t∈VG x,a t=b t):x.map (·.ev a)=x.map (·.ev b):=by
 cases x with
 | none=>rfl
 | some x=>simp only[Option.map_some];rw[dM h]
theorem JC{a b:AF}:∀{xs:List aJ},(∀t∈xs.flatMap aJ.iL,a t=b t)→xs.map (·.ev a)=xs.map (·.ev b)
 | [],_=>rfl
 | x::xs,h=>by
  simp only[List.map_cons];rw[dM (fun t ht=>h t (by simp[ht])),JC (xs:=xs) (fun t ht=>h t (by simp only[List.flatMap_cons,List.mem_append];exact .inr ht))]
theorem Zmt{a b:AF}:∀{qs:List (Nat×aJ)},(∀t∈qs.flatMap (fun q=>q.2.iL),a t=b t)→qs.map (fun q=>(q.1,q.2.ev a))=qs.map fun q=>(q.1,q.2.ev b)
 | [],_=>rfl
 | q::qs,h=>by
  simp only[List.map_cons];rw[dM (fun t ht=>h t (by simp[ht])),Zmt (qs:=qs) (fun t ht=>h t (by simp only[List.flatMap_cons,List.mem_append];exact .inr ht))]
theorem Zmu{a b:AF}:∀{rs:List (Nat×Nat)} {qs:List (Nat×aJ)},(∀t∈qs.flatMap (fun q=>q.2.iL),a t=b t)→
  List.zipWith (fun r q=>(r.1,r.2,q.2.ev a)) rs qs=List.zipWith (fun r q=>(r.1,r.2,q.2.ev b)) rs qs
 | [],_,_=>by simp
 | _::_,[],_=>by simp
 | r::rs,q::qs,h=>by
  simp only[List.zipWith_cons_cons];rw[dM (fun t ht=>h t (by simp[ht])),Zmu (rs:=rs) (qs:=qs) (fun t ht=>h t (by simp only[List.flatMap_cons,List.mem_append];exact .inr ht))]
theorem Oh{a b:AF}{op:jc}(h:∀t∈op.iL,a t=b t):ex op a=ex op b:=by
 cases op<;>simp only[jc.iL] at h<;>simp only[ex]
 case mv x=>rw[dM h]
 case pick c x y=>rw[dM (x:=c) (fun t ht=>h t (by simp[ht])),dM (x:=x) (fun t ht=>h t (by simp[ht])),dM (x:=y) (fun t ht=>h t (by simp[ht]))]
 case box m x=>rw[dM h]
 case load k p=>rw[dM h]
 case store m p x=>rw[dM (x:=p) (fun t ht=>h t (by simp[ht])),dM (x:=x) (fun t ht=>h t (by simp[ht]))]
 case bin o p x=>rw[dM (x:=p) (fun t ht=>h t (by simp[ht])),dM (x:=x) (fun t ht=>h t (by simp[ht]))]
 case beq q p x=>rw[dM (x:=p) (fun t ht=>h t (by simp[ht])),dM (x:=x) (fun t ht=>h t (by simp[ht]))]
 case un o x=>rw[dM h]
 case conv k x=>rw[dM h]
 case bV off x=>rw[dM h]
 case aI es p x=>rw[dM (x:=p) (fun t ht=>h t (by simp[ht])),dM (x:=x) (fun t ht=>h t (by simp[ht]))]
 case uj m es p x=>rw[dM (x:=p) (fun t ht=>h t (by simp[ht])),dM (x:=x) (fun t ht=>h t (by simp[ht]))]
 case field k off x=>rw[dM h]
 case PK m es k p x=>rw[dM (x:=p) (fun t ht=>h t (by simp[ht])),dM (x:=x) (fun t ht=>h t (by simp[ht]))]
 case PI p x=>rw[dM (x:=p) (fun t ht=>h t (by simp[ht])),dM (x:=x) (fun t ht=>h t (by simp[ht]))]
 case len x=>rw[dM h]
 case PN x=>rw[dM h]
 case app es c p x=>rw[dM (x:=p) (fun t ht=>h t (by simp[ht])),dM (x:=x) (fun t ht=>h t (by simp[ht]))]
 case slc es x lo hi=>rw[dM (x:=x) (fun t ht=>h t (by simp[ht])),ND (x:=lo) (fun t ht=>h t (by simp[ht])),ND (x:=hi) (fun t ht=>h t (by simp[ht]))]
 case P6 x lo hi=>rw[dM (x:=x) (fun t ht=>h t (by simp[ht])),ND (x:=lo) (fun t ht=>h t (by simp[ht])),ND (x:=hi) (fun t ht=>h t (by simp[ht]))]
 case build z rs qs=>rw[Zmu h]
 case bS es m z qs=>rw[Zmt h]
 case um es c z p x=>rw[dM (x:=p) (fun t ht=>h t (by simp[ht])),dM (x:=x) (fun t ht=>h t (by simp[ht]))]
 case ext i x=>rw[dM h]
 case Es x=>rw[dM h]
 case seq q l p x=>rw[dM (x:=p) (fun t ht=>h t (by simp[ht])),dM (x:=x) (fun t ht=>h t (by simp[ht]))]
 case fH x=>rw[dM h]
 case cap x=>rw[dM h]
 case Cn sl neg x=>rw[dM h]
 case KL t x=>rw[dM h]
 case KQ t z x=>rw[dM h]
 case KH neg x=>rw[dM h]
 case GK es b z p x=>rw[dM (x:=p) (fun t ht=>h t (by simp[ht])),dM (x:=x) (fun t ht=>h t (by simp[ht]))]
 case GQ es z x=>rw[dM h]
 case Kg es p x=>rw[dM (x:=p) (fun t ht=>h t (by simp[ht])),dM (x:=x) (fun t ht=>h t (by simp[ht]))]
 case mm mx p x=>rw[dM (x:=p) (fun t ht=>h t (by simp[ht])),dM (x:=x) (fun t ht=>h t (by simp[ht]))]
 case look d z ok p x=>rw[dM (x:=p) (fun t ht=>h t (by simp[ht])),dM (x:=x) (fun t ht=>h t (by simp[ht]))]
 case zI d c x y=>rw[dM (x:=c) (fun t ht=>h t (by simp[ht])),dM (x:=x) (fun t ht=>h t (by simp[ht])),dM (x:=y) (fun t ht=>h t (by simp[ht]))]
 case yP f xs ys=>
  have h1:xs.map (·.ev a)=xs.map (·.ev b):=JC (fun t ht=>h t (by simp only[List.flatMap_append,List.mem_append];exact .inl ht));have h2:ys.map (·.ev a)=ys.map (·.ev b):=JC (fun t ht=>h t (by simp only[List.flatMap_append,List.mem_append];exact .inr ht));rw[h1,h2]
def aT.iL(o:aT):List Nat:=
 (match o.guard with | none=>[] | some (d,_)=>[d])++(match o.call with | some (G,xs)=>G.iL++xs.flatMap aJ.iL | none=>o.op.iL)
theorem Gq{a b:AF}{o:aT}(h:∀t∈o.iL,a t=b t):gd o a=gd o b:=by
 unfold gd;cases hg:o.guard with
 | none=>rfl
 | some p=>
  obtain⟨d,w⟩:=p;have:a d=b d:=h d (by simp[aT.iL,hg]);simp only[this]
structure DS where
 i:Nat
 o:aT
 F:List Nat
 W:List Nat
 U:Nat→Option aF
 v:AV
def St.over(S:St)(W:List Nat)(U:Nat→Option aF):St:=⟨S.n,fun j=>if j∈W then U j else S.g j⟩
def only(F:List Nat)(g:Nat→Option aF):Nat→Option aF:=fun j=>if j∈F then g j else none
def kI(P:Program)(f:FuncId)(args:List AV)(S:St)(F:List Nat)(r:AV):Prop:=
 ∃args',aM P f args' r∧args'.length=args.length∧(∀j (h1:j < args.length) (h2:j < args'.length),Fz (only F S.g) (args[j]) (args'[j]))∧(uH r∨(F=[]∧aV r)∨(aV r∧rQ P f args' r))
inductive sF (P:Program) (base:Nat) (s:DS) (a:AF) (S:St):AF→St→Prop
 | skip (h:gd s.o a=some false) (hF:s.F=[]) (hW:s.W=[]) (hv:s.v=.aL []):sF P base s a S (a.put s.o.dst (.aL [])) S
 | call (h:gd s.o a=some true) (G:aJ) (xs:List aJ) (hc:s.o.call=some (G,xs)) (f:FuncId) (first cap:List AV) (hG:G.ev a=.aO f first cap) (hW:s.W=[])
   (hr:kI P f (first++xs.map (·.ev a)++cap) S s.F s.v):sF P base s a S (a.put s.o.dst s.v) S
 | op (h:gd s.o a=some true) (hc:s.o.call=none) (bs:List aF) (hb:(ex s.o.op a).F.mapM S.g=some bs) (out:Out) (ho:(ex s.o.op a).k bs=some out) (hF:s.F=(ex s.o.op a).F)
   (hv:s.v=out.v (base+s.i)) (hW:(out.up≠[]→∀j∈s.F,j∈s.W)∧(out.nw.isSome=true→base+s.i∈s.W))
   (hW2:∀j∈s.W,(out.up≠[]∧j∈s.F)∨(out.nw.isSome=true∧j=base+s.i))
   (hU:∀j∈s.W,s.U j=((S.dV (ex s.o.op a).F out.up).iG (base+s.i) out.nw).g j):sF P base s a S (a.put s.o.dst s.v) ((S.dV (ex s.o.op a).F out.up).iG (base+s.i) out.nw)
theorem UR:∀(F:List Nat) (ks:List (Option aF)) (S:St),(S.dV F ks).n=S.n
 | [],ks,S=>by cases ks<;>rfl
 | i::F,[],S=>rfl
 | i::F,k::ks,S=>by simp only[St.dV];rw[UR F ks];rfl
theorem ZgZ:∀(F:List Nat) (ks:List (Option aF)) (S:St) (j:Nat),j∉F→(S.dV F ks).g j=S.g j
 | [],ks,S,j,_=>by cases ks<;>rfl
 | i::F,[],S,j,_=>rfl
 | i::F,k::ks,S,j,h=>by
  simp only[St.dV];rw[ZgZ F ks _ j (by simp at h;exact h.2)];simp only[List.mem_cons,not_or] at h;simp[St.set,bq,h.1]
theorem Y1:∀(F:List Nat) (ks:List (Option aF)) (S T:St) (j:Nat),S.g j=T.g j→(S.dV F ks).g j=(T.dV F ks).g j
 | [],ks,S,T,j,h=>by cases ks<;>exact h
 | i::F,[],S,T,j,h=>h
 | i::F,k::ks,S,T,j,h=>by
  simp only[St.dV];refine Y1 F ks _ _ j ?_;simp only[St.set,bq];split<;>first | rfl | exact h
theorem ZmM(S:St)(i:Nat)(k:Option aF):(S.iG i k).n=S.n:=by cases k<;>rfl
theorem ZhO(S T:St)(i:Nat)(k:Option aF)(j:Nat)(h:S.g j=T.g j):(S.iG i k).g j=(T.iG i k).g j:=by
 cases k with
 | none=>exact h
 | some b=>simp only[St.iG,St.set,bq];split<;>first | rfl | exact h
theorem St.ext'{S T:St}(h1:S.n=T.n)(h2:∀j,S.g j=T.g j):S=T:=by
 cases S;cases T;simp only[St.mk.injEq] at *;exact⟨h1,funext h2⟩
theorem sF.shape{P:Program}{base:Nat}{s:DS}{a:AF}{S:St}{a':AF}{S':St}(h:sF P base s a S a' S'):a'=a.put s.o.dst s.v∧S'=S.over s.W s.U:=by
 cases h with
 | skip h hF hW hv=>exact⟨by rw[hv],by rw[hW];exact St.ext' rfl (fun j=>by simp[St.over])⟩
 | call h G xs hc f first cap hG hW hr=>exact⟨rfl,by rw[hW];exact St.ext' rfl (fun j=>by simp[St.over])⟩
 | op h hc bs hb out ho hF hv hW hW2 hU=>
  refine⟨rfl,St.ext' (by rw[ZmM,UR];rfl) (fun j=>?_)⟩;by_cases hj:j∈s.W
  ·simp only[St.over,hj,if_true];exact(hU j hj).symm
  ·simp only[St.over,hj,if_false]
   have h1:((S.dV (ex s.o.op a).F out.up).iG (base+s.i) out.nw).g j=(S.dV (ex s.o.op a).F out.up).g j:=by
    cases hn:out.nw with
    | none=>rfl
    | some b=>
     simp only[St.iG,St.set,bq];rw[if_neg];intro e;subst e;exact hj (hW.2 (by rw[hn];rfl))
   rw[h1];by_cases hup:out.up=[]
   ·rw[hup];cases(ex s.o.op a).F<;>rfl
   ·exact ZgZ _ _ _ _ (fun hjF=>hj (hW.1 hup j (by rw[hF];exact hjF)))
theorem Dc{F:List Nat}{g:Nat→Option aF}:∀i k,only F g i=some k→g i=some k:=by
 intro i k h;simp only[only] at h;split at h
 ·exact h
 ·cases h
theorem Zor{F:List Nat}{g g':Nat→Option aF}(h:∀j∈F,g j=g' j):only F g=only F g':=by
 funext j;simp only[only];split
 ·exact h j ‹_›
 ·rfl
theorem YR{F:List Nat}{g g':Nat→Option aF}(h:∀j∈F,g j=g' j):F.mapM g=F.mapM g':=by
 induction F with
 | nil=>rfl
 | cons i F ih=>simp only[List.mapM_cons];rw[h i (by simp),ih (fun j hj=>h j (by simp[hj]))]
theorem sF.move{P:Program}{base:Nat}{s:DS}{a:AF}{S:St}{a':AF}{S':St}(h:sF P base s a S a' S'){b:AF}{T:St}(ha:∀t∈s.o.iL,a t=b t)(hS:∀j∈s.F,S.g j=T.g j) :
  sF P base s b T (b.put s.o.dst s.v) (T.over s.W s.U):=by
 cases h with
 | skip h hF hW hv=>
  have:T.over s.W s.U=T:=by rw[hW];exact St.ext' rfl (fun j=>by simp[St.over])
  rw[this,hv];exact .skip (by rw[←Gq ha];exact h) hF hW hv
 | call h G xs hc f first cap hG hW hr=>
  have:T.over s.W s.U=T:=by rw[hW];exact St.ext' rfl (fun j=>by simp[St.over])
  rw[this];have hrd:∀t∈G.iL++xs.flatMap aJ.iL,a t=b t:=fun t ht=>ha t (by simp only[aT.iL,hc,List.mem_append];exact .inr (by simpa using ht))
  have e1:G.ev b=G.ev a:=(dM (fun t ht=>hrd t (by simp[ht]))).symm;have e2:xs.map (·.ev b)=xs.map (·.ev a):=(JC (fun t ht=>hrd t (List.mem_append.mpr (.inr ht)))).symm;refine .call (by rw[←Gq ha];exact h) G xs hc f first cap (by rw[e1];exact hG) hW ?_
  rw[e2];obtain⟨args',q1,q2,q3,q4⟩:=hr;exact⟨args',q1,q2,by rw[←Zor hS];exact q3,q4⟩
 | op h hc bs hb out ho hF hv hW hW2 hU=>
  have hrd:∀t∈s.o.op.iL,a t=b t:=fun t ht=>ha t (by simp only[aT.iL,hc,List.mem_append];exact .inr ht)
  have he:ex s.o.op b=ex s.o.op a:=(Oh hrd).symm
  have key:∀j∈s.W,s.U j=((T.dV (ex s.o.op b).F out.up).iG (base+s.i) out.nw).g j:=by
   intro j hj;rw[hU j hj,he];rcases hW2 j hj with⟨_,h2⟩ | ⟨h2,rfl⟩
   ·exact ZhO _ _ _ _ _ (Y1 _ _ _ _ _ (hS j h2))
   ·cases hn:out.nw with
    | none=>rw[hn] at h2;simp at h2
    | some bk=>simp[St.iG,St.set,bq]
  have hd:sF P base s b T (b.put s.o.dst s.v) ((T.dV (ex s.o.op b).F out.up).iG (base+s.i) out.nw):=
   .op (by rw[←Gq ha];exact h) hc bs (by rw[he,←YR (by rw[←hF];exact hS)];exact hb) out (by rw[he];exact ho) (by rw[he];exact hF) hv hW hW2 key
  have:=hd.shape.2;rw[this] at hd;exact hd
structure KS(s t:DS):Prop where
 r1:∀d,s.o.dst=some d→d∉t.o.iL
 r2:∀d,t.o.dst=some d→d∉s.o.iL
 dd:∀d,s.o.dst=some d→t.o.dst≠some d
 wf:∀j∈s.W,j∉t.F
 fw:∀j∈t.W,j∉s.F
 ww:∀j∈s.W,j∉t.W
theorem AF.put_eq{a:AF}{d:Option Nat}{x:AV}{t:Nat}(h:∀e,d=some e→t≠e):a.put d x t=a t:=by
 cases d with
 | none=>rfl
 | some e=>simp[AF.put,bq,h e rfl]
theorem AF.put_comm{a:AF}{d e:Option Nat}{x y:AV}(h:∀k,d=some k→e≠some k):(a.put d x).put e y=(a.put e y).put d x:=by
 cases d with
 | none=>rfl
 | some d=>
  cases e with
  | none=>rfl
  | some e=>
   funext t;have:d≠e:=fun q=>h d rfl (by rw[q])
   simp only[AF.put,bq];by_cases h1:t=e
   ·subst h1;simp;intro q;exact(this q.symm).elim
   ·simp[h1]
theorem sF.swap{P:Program}{base:Nat}{s t:DS}{a a1 a2:AF}{S S1 S2:St}(hi:KS s t)(h1:sF P base s a S a1 S1)(h2:sF P base t a1 S1 a2 S2) :
  ∃b T,sF P base t a S b T∧sF P base s b T a2 S2:=by
 obtain⟨rfl,rfl⟩:=h1.shape;obtain⟨e2,e3⟩:=h2.shape
 have m1:=h2.move (b:=a) (T:=S) (fun q hq=>AF.put_eq (fun e he=>by intro h3;subst h3;exact hi.r1 _ he hq)) (fun j hj=>by
  simp only[St.over];rw[if_neg (fun hw=>hi.wf j hw hj)])
 have m2:=h1.move (b:=a.put t.o.dst t.v) (T:=S.over t.W t.U) (fun q hq=>(AF.put_eq (fun e he=>by intro h3;subst h3;exact hi.r2 _ he hq)).symm) (fun j hj=>by
  simp only[St.over];rw[if_neg (fun hw=>hi.fw j hw hj)])
 refine⟨_,_,m1,?_⟩;rw[e2,e3,AF.put_comm (d:=s.o.dst) (e:=t.o.dst) hi.dd]
 have:(S.over t.W t.U).over s.W s.U=(S.over s.W s.U).over t.W t.U:=by
  refine St.ext' rfl (fun j=>?_);simp only[St.over];by_cases hs:j∈s.W
  ·rw[if_pos hs,if_neg (hi.ww j hs),if_pos hs]
  ·rw[if_neg hs]
   by_cases ht:j∈t.W
   ·rw[if_pos ht,if_pos ht]
   ·rw[if_neg ht,if_neg ht,if_neg hs]
 rw[←this];exact m2
inductive xY (P:Program) (base:Nat):List DS→AF→St→AF→St→Prop
 | nil (a:AF) (S:St):xY P base [] a S a S
 | cons {s:DS} {l:List DS} {a a1 a2:AF} {S S1 S2:St} (h:sF P base s a S a1 S1) (k:xY P base l a1 S1 a2 S2):xY P base (s::l) a S a2 S2
theorem xY.front{P:Program}{base:Nat}{x:DS}{l2:List DS}:∀{l1:List DS} {a a2:AF} {S S2:St},(∀s∈l1,KS s x)→xY P base (l1++x::l2) a S a2 S2→xY P base (x::(l1++l2)) a S a2 S2
 | [],_,_,_,_,_,h=>h
 | s::l1,a,a2,S,S2,hi,h=>by
  cases h with
  | cons h1 h2=>
   have:=xY.front (l1:=l1) (fun q hq=>hi q (by simp[hq])) h2;cases this with
   | cons k1 k2=>
    obtain⟨b,T,m1,m2⟩:=sF.swap (hi s (by simp)) h1 k1;exact .cons m1 (.cons m2 k2)
theorem kI.uV{P:Program}{f:FuncId}{args:List AV}{S:St}{F:List Nat}{r:AV}(h:kI P f args S F r):aQ P f args S fun r' S'=>r'=r∧S'=S:=by
 obtain⟨args',q1,q2,q3,q4⟩:=h;rcases q4 with q4 | ⟨rfl,q4⟩ | ⟨q4,q5⟩
 ·exact .IG q1 (only F S.g) Dc S rfl (fun _ _ e=>e) q2 q3 (.inl q4.rep) ⟨rfl,rfl⟩
 ·exact .IG q1 (only [] S.g) Dc S rfl (fun _ _ e=>e) q2 q3 (.inr ⟨q4,fun i k e=>by simp[only] at e⟩) ⟨rfl,rfl⟩
 ·exact .Lu q5 (only F S.g) Dc q2 q3 q4 ⟨rfl,rfl⟩
theorem Zfq{P:Program}{n:Nat}{ops:Array Oper}{base:Nat}{s:DS}{a:AF}{S:St}{a':AF}{S':St}(h:sF P base s a S a' S'){o:Oper}(ho:ops[s.i]? = some o)(hc:lC P n ops o=some s.o)
  {E:Env} {w:World} {act:Act} (xu:jd P E.H) (hS:aU E S w) (hF:dR E n a act) (hρ:E.ρ (base+s.i)=none) (hlt:base+s.i < S.n) {K:Act→World→Prop} {Q:Exit→Act→World→Prop}
  (hK:∀act' w' E',aU E' S' w'→dR E' n a' act'→jB E S w E' S' w'→S.n≤S'.n→(∀i,i < S.n→i≠base+s.i→E.ρ i=none→E'.ρ i=none)→K act' w'):wpOp P ops Q s.i K act w:=by
 obtain⟨hd,hdst,hgd,hor⟩:=Da hc;unfold wpOp;rw[ho];simp only;cases h with
 | skip h hF' hW hv=>
  rw[xM hF hgd h];simp only[Bool.false_eq_true,if_false];rw[←hdst];exact hK _ _ E hS (hF.put (by rw[hdst];exact hd) Je) (.refl _ _ _) (Nat.le_refl _) (fun _ _ _ e=>e)
 | call h G xs hcl f first cap hG hW hr=>
  rw[xM hF hgd h];simp only[if_true];left;rcases hor with⟨p,hp1,hp2⟩ | ⟨hp1,hop⟩
  ·rw[hcl] at hp1
   cases hp1;unfold AA at hp2;split at hp2
   ·rename_i g ys ts uO
    simp only[Option.bind_eq_some_iff,Option.map_eq_some_iff,Prod.mk.injEq] at hp2;obtain⟨G',hG',XS,yI,rfl,rfl⟩:=hp2;have rg:=bH hF hG';rw[hG] at rg;generalize hev:act.eval g=gv at rg;cases rg with
    | aO _ _ _ fv cv hn hm hf hcc=>
     have hx:=Fe hF yI;have hargs:jl E (first++XS.map (·.ev a)++cap) (fv++ys.map act.eval++cv):=(jl.append ⟨hn,hf⟩ hx).append ⟨hm,hcc⟩;have hcr:=hr.uV;refine MH hd hcr xu hS hF hargs ?_ (fun r S2 act' w' E' k1 k2 k3 k4=>?_)
     ·simp only[execOp,uO,Sem.run_bind,CU act.eval g ys ts o.type hev,Result.andThen_ok,invoke]
      exact CW hcr.1 _ _
     ·obtain⟨rfl,rfl⟩:=k1
      exact hK act' w' E' k2 (by rw[hdst];exact k3) k4.bL k4.jg (fun i hi _ e=>k4.low i hi e)
   ·cases hp2
  ·rw[hp1] at hcl;cases hcl
 | op h hcl bs hb out ho' hF' hv hW hW2 hU=>
  rw[xM hF hgd h];simp only[if_true];left;rcases hor with⟨p,hp1,hp2⟩ | ⟨hp1,hop⟩
  ·rw[hcl] at hp1;cases hp1
  ·have hrun:(ex s.o.op a).run S (base+s.i)=some (s.v,(S.dV (ex s.o.op a).F out.up).iG (base+s.i) out.nw):=by
    simp only[Eff.run,hb,ho',hv]
   have hok:=Gc (P:=P) (n:=n) (o:=o) hd hop hrun;refine hok E w act hS hF hρ hlt _ _ fun act' w' E' k1 k2 k3 k4=>hK act' w' E' k1 (by rw[hdst];exact k2) k3 (by rw[ZmM,UR];exact Nat.le_refl _) (fun i _ hi e=>k4.2 i hi e)
inductive Ord (ops:Array Oper):Nat→Nat→Prop
 | here {i:Nat} {o:Oper} {e:Edge} (h:ops[i]? = some o) (he:e∈o.after) (hb:Region.binds .any e=true):Ord ops i e.on
 | more {i j:Nat} {o:Oper} {e:Edge} (h:ops[i]? = some o) (he:e∈o.after) (hb:Region.binds .any e=true) (k:Ord ops e.on j):Ord ops i j
def UY(ops:Array Oper)(listed:Array Bool):Prop:=∀k o,listed.getD k false=true→ops[k]? = some o→∀e∈o.after,Region.binds .any e=true→listed.getD e.on false=true
theorem Ord.listed{ops:Array Oper}{listed:Array Bool}(hd:UY ops listed){i j:Nat}(h:Ord ops i j):∀o,ops[i]? = some o→(∀e∈o.after,Region.binds .any e=true→listed.getD e.on false=true)→listed.getD j false=true:=by
 induction h with
 | here h he hb=>intro o' h' ha;rw[h] at h';cases h';exact ha _ he hb
 | more h he hb k ih=>
  intro o' h' ha;rw[h] at h';cases h';have hl:=ha _ he hb;cases k with
  | here h2 he2 hb2=>exact ih _ h2 (fun e he hb=>hd _ _ hl h2 e he hb)
  | more h2 he2 hb2 k2=>exact ih _ h2 (fun e he hb=>hd _ _ hl h2 e he hb)
def F9(ms:List Nat):List Edge→Nat
 | []=>0
 | e::es=>if Region.binds .any e=true then ((1 <<< e.on) ||| ms.getD e.on 0) ||| F9 ms es else F9 ms es
def wS(ms:List Nat)(o:Oper):Nat:=F9 ms o.after.toList
def Df(ops:Array Oper)(ms:List Nat):Prop:=∀i j,(ms.getD i 0).testBit j=true→Ord ops i j
theorem SL{ops:Array Oper}{ms:List Nat}(hm:Df ops ms){i:Nat}{o:Oper}(ho:ops[i]? = some o):∀(es:List Edge),(∀e∈es,e∈o.after)→∀j,(F9 ms es).testBit j=true→Ord ops i j
 | [],_,j,h=>by simp[F9] at h
 | e::es,hs,j,h=>by
  simp only[F9] at h;split at h
  ·rename_i hb
   simp only[Nat.testBit_or,Bool.or_eq_true] at h;rcases h with(h | h) | h
   ·have:e.on=j:=by
     rw[Nat.one_shiftLeft,Nat.testBit_two_pow] at h;simpa using h
    subst this;exact .here ho (hs e (by simp)) hb
   ·exact .more ho (hs e (by simp)) hb (hm _ _ h)
   ·exact SL hm ho es (fun e he=>hs e (by simp[he])) j h
  ·exact SL hm ho es (fun e he=>hs e (by simp[he])) j h
theorem SC{ops:Array Oper}{ms:List Nat}(hm:Df ops ms){i:Nat}{o:Oper}(ho:ops[i]? = some o)(j:Nat)(h:(wS ms o).testBit j=true):Ord ops i j:=
 SL hm ho _ (fun e he=>by simpa using he) j h
theorem Df.push{ops:Array Oper}{ms:List Nat}(hm:Df ops ms){o:Oper}(ho:ops[ms.length]? = some o):Df ops (ms++[wS ms o]):=by
 intro i j h;by_cases hi:i < ms.length
 ·refine hm i j ?_
  simpa[List.getD_eq_getElem?_getD,List.getElem?_append_left hi] using h
 ·by_cases h2:i=ms.length
  ·subst h2
   refine SC hm ho j ?_;simpa[List.getD_eq_getElem?_getD] using h
  ·rw[List.getD_eq_getElem?_getD,List.getElem?_eq_none (by simp;omega)] at h
   simp at h
theorem FD{ops:Array Oper}{listed:Array Bool}{i:Nat}:i∈Region.ready .any ops listed↔i < ops.size∧listed.getD i true=false∧∃o,ops[i]? = some o∧∀e∈o.after,Region.binds .any e=true→listed.getD e.on false=true:=by
 simp only[Region.ready,List.mem_filter,List.mem_range,Bool.and_eq_true,Bool.not_eq_true'];constructor
 ·rintro⟨h1,h2,h3⟩
  refine⟨h1,h2,?_⟩;cases ho:ops[i]? with
  | none=>rw[ho] at h3;simp at h3
  | some o=>
   rw[ho] at h3;simp only[Option.map_some,Option.getD_some] at h3;refine⟨o,rfl,fun e he hb=>?_⟩;have:=(Array.all_eq_true'.mp h3) e he;simpa[hb] using this
 ·rintro⟨h1,h2,o,ho,h3⟩
  refine⟨h1,h2,?_⟩;rw[ho];simp only[Option.map_some,Option.getD_some];refine Array.all_eq_true'.mpr (fun e he=>?_);cases hb:Region.binds .any e with
  | false=>simp
  | true=>simp[h3 e he hb]
theorem Zjn{l:List DS}{x:DS}(h:x∈l):∃l1 l2,l=l1++x::l2:=List.append_of_mem h
theorem Zgi{P:Program}{n:Nat}{ops:Array Oper}{base:Nat}{Q:Exit→AF→St→Prop}{E0:Env}{S0:St}{w0:World}(hG0:jd P E0.H)(hb:S0.n≤base)
  (hon:∀(i:Nat) o,ops[i]? = some o→∀e∈o.after,Region.binds .any e=true→e.on < i) :
  ∀(fuel:Nat) (R:List DS) (listed:Array Bool) (a:AF) (S:St) (a2:AF) (S2:St),R.length=fuel→xY P base R a S a2 S2→Q .normal a2 S2→R.Pairwise (fun s t=>s.i < t.i)→
   (∀i,i < ops.size→(listed.getD i true=false↔∃s∈R,s.i=i))→(∀s∈R,s.i < ops.size)→listed.size=ops.size→UY ops listed→
   (∀s∈R,∃o,ops[s.i]? = some o∧lC P n ops o=some s.o)→(∀s∈R,∀t∈R,s.i < t.i→Ord ops t.i s.i∨KS s t)→
   ∀E w act,aU E S w→dR E n a act→(∀s∈R,E.ρ (base+s.i)=none∧base+s.i < S.n)→Ev E0 S0 w0 E S w→wpAny P .any ops (lD E0 S0 w0 n Q) fuel listed act w
 | 0,R,listed,a,S,a2,S2,hlen,hch,hq,_,hmem,_,_,_,_,_,E,w,act,hS,hF,_,hE=>by
  have:R=[]:=List.eq_nil_of_length_eq_zero hlen;subst this;cases hch;refine⟨?_,a,S,E,hq,hS,hF,hE⟩;refine List.eq_nil_iff_forall_not_mem.mpr (fun i hi=>?_);obtain⟨h1,h2,_⟩:=FD.mp hi;obtain⟨s,hs,_⟩:=(hmem i h1).mp h2;simp at hs
 | fuel+1,R,listed,a,S,a2,S2,hlen,hch,hq,hsort,hmem,hlt,hsz,Kt,hops,Kw,E,w,act,hS,hF,hr,hE=>by
  refine⟨fun hnil=>?_,fun i hi=>?_⟩
  ·
   cases R with
   | nil=>simp at hlen
   | cons s R=>
    exfalso
    have KA:s.i∈Region.ready .any ops listed:=by
     obtain⟨o,ho,_⟩:=hops s (by simp);have hsi:=hlt s (by simp);refine FD.mpr ⟨hsi,(hmem s.i hsi).mpr ⟨s,by simp,rfl⟩,o,ho,fun e he hbn=>?_⟩;have hlt2:=hon _ o ho e he hbn;cases hl:listed.getD e.on false with
     | true=>rfl
     | false=>
      have hl2:listed.getD e.on true=false:=by
       simp only[Array.getD_eq_getD_getElem?] at hl ⊢;rw[Array.getElem?_eq_getElem (by omega)] at hl ⊢;exact hl
      obtain⟨s',hs',e'⟩:=(hmem e.on (by omega)).mp hl2;rcases List.mem_cons.mp hs' with rfl | h3
      ·omega
      ·have:=List.rel_of_pairwise_cons hsort h3
       omega
    rw[hnil] at KA;simp at KA
  ·obtain⟨h1,h2,o,ho,hpre⟩:=FD.mp hi
   obtain⟨s,hs,rfl⟩:=(hmem i h1).mp h2;obtain⟨l1,l2,rfl⟩:=Zjn hs
   have Wm:∀q∈l1,KS q s:=by
    intro q hq'
    have hqi:q.i < s.i:=by
     have:=List.pairwise_append.mp hsort;exact this.2.2 q hq' s (by simp)
    rcases Kw q (by simp[hq']) s (by simp) hqi with h3 | h3
    ·exfalso
     have h4:=h3.listed Kt o ho hpre;have h5:=(hmem q.i (hlt q (by simp[hq']))).mpr ⟨q,by simp[hq'],rfl⟩;simp only[Array.getD_eq_getD_getElem?] at h4 h5;rw[Array.getElem?_eq_getElem (by have:=hlt q (by simp[hq']);omega)] at h4 h5;simp at h4 h5;rw[h4] at h5;cases h5
    ·exact h3
   have hfr:=xY.front Wm hch;cases hfr with
   | cons d1 d2=>
    obtain⟨o',ho',hco⟩:=hops s (by simp);obtain⟨r1,r2⟩:=hr s (by simp)
    have Ww:(l1++l2).Pairwise (fun s t=>s.i < t.i):=by
     have h6:=List.pairwise_append.mp hsort;refine List.pairwise_append.mpr ⟨h6.1,(List.pairwise_cons.mp h6.2.1).2,fun x hx y hy=>h6.2.2 x hx y (by simp[hy])⟩
    have hne:∀q∈l1++l2,q.i≠s.i:=by
     intro q hq';have h6:=List.pairwise_append.mp hsort;rcases List.mem_append.mp hq' with h7 | h7
     ·have:=h6.2.2 q h7 s (by simp);omega
     ·have:=(List.pairwise_cons.mp h6.2.1).1 q h7;omega
    have hsub:∀q∈l1++l2,q∈l1++s::l2:=by
     intro q hq';rcases List.mem_append.mp hq' with h7 | h7<;>simp[h7]
    refine Zfq d1 ho' hco (hG0.le hE.bL.le) hS hF r1 r2 fun act' w' E' k1 k2 k3 k4 k5=>?_
    refine Zgi hG0 hb hon fuel (l1++l2) (listed.setIfInBounds s.i true) _ _ a2 S2 (by simp at hlen ⊢;omega) d2 hq Ww ?_ (fun q hq'=>hlt q (hsub q hq')) (by simpa using hsz) ?_ (fun q hq'=>hops q (hsub q hq'))
     (fun q hq' t ht=>Kw q (hsub q hq') t (hsub t ht)) E' w' act' k1 k2 (fun q hq'=>?_) ⟨hE.bL.trans k3,by have:=hE.jg;omega,fun id hid e=>k5 id (by have:=hE.jg;omega) (by omega) (hE.low id hid e)⟩
    ·intro j hj
     simp only[Array.getD_eq_getD_getElem?,Array.getElem?_setIfInBounds];by_cases hjs:s.i=j
     ·subst hjs
      rw[if_pos rfl,if_pos (by omega)];simp only[Option.getD_some,Bool.true_eq_false,false_iff,not_exists,not_and];exact fun q hq'=>hne q hq'
     ·rw[if_neg hjs]
      have:=hmem j hj;simp only[Array.getD_eq_getD_getElem?] at this;rw[this];constructor
      ·rintro⟨q,hq',e⟩
       refine⟨q,?_,e⟩;rcases List.mem_append.mp hq' with h7 | h7
       ·simp[h7]
       ·rcases List.mem_cons.mp h7 with rfl | h8
        ·exact(hjs e).elim
        ·simp[h8]
      ·rintro⟨q,hq',e⟩;exact⟨q,hsub q hq',e⟩
    ·intro k o2 hk ho2 e he hbn
     simp only[Array.getD_eq_getD_getElem?,Array.getElem?_setIfInBounds] at hk ⊢;by_cases hks:s.i=k
     ·subst hks
      rw[ho] at ho2;cases ho2;have h8:=hpre e he hbn;simp only[Array.getD_eq_getD_getElem?] at h8;split
      ·rw[if_pos (by omega)];rfl
      ·exact h8
     ·rw[if_neg hks] at hk
      have h8:=Kt k o2 (by simpa[Array.getD_eq_getD_getElem?] using hk) ho2 e he hbn;simp only[Array.getD_eq_getD_getElem?] at h8;split
      ·rename_i h9
       split
       ·rfl
       ·rw[←h9,Array.getElem?_eq_none (by omega)] at h8;simp at h8
      ·exact h8
    ·obtain⟨q1,q2⟩:=hr q (hsub q hq')
     exact⟨k5 _ q2 (by have:=hne q hq';omega) q1,by omega⟩
def OI:jc→Bool
 | .box _ _ | .alloc _ _ | .store _ _ _ | .app _ _ _ _ | .um _ _ _ _ _ | .Cm | .zI _ _ _ _ | .GQ _ _ _ | .Kg _ _ _ | .GK _ _ _ _ _=>true
 | _=>false
theorem zR{x:Option AV}{bs:List aF}{out:Out}(h:(Eff.val x).k bs=some out):out.up=[]∧out.nw=none:=by
 simp only[Eff.val,Option.map_eq_some_iff] at h;obtain⟨_,_,rfl⟩:=h;exact⟨rfl,rfl⟩
theorem Jg{id:Nat}{k:aF→Option AV}{bs:List aF}{out:Out}(h:(Eff.rd id k).k bs=some out):out.up=[]∧out.nw=none:=by
 simp only[Eff.rd] at h;split at h
 ·simp only[Option.map_eq_some_iff] at h;obtain⟨_,_,rfl⟩:=h;exact⟨rfl,rfl⟩
 ·cases h
theorem ZgN{op:jc}(hq:OI op=false){a:AF}{bs:List aF}{out:Out}(h:(ex op a).k bs=some out):out.up=[]∧out.nw=none:=by
 cases op<;>simp only[OI,Bool.true_eq_false] at hq<;>simp only[ex] at h
 case load k p=>
  unfold bM at h;split at h
  ·exact zR h
  ·exact Jg h
  ·exact zR h
 case aI es x i=>
  unfold dP at h;split at h
  ·exact zR h
  ·exact Jg h
  ·exact zR h
 case slc es x lo hi=>
  unfold vT at h;split at h
  ·exact zR h
  ·exact Jg h
  ·exact zR h
 case look d z ok m k=>
  unfold zk at h;split at h
  ·exact Jg h
  ·exact zR h
 case Es x=>
  unfold Gd at h;split at h
  ·exact Jg h
  ·exact zR h
 all_goals exact zR h
def Dq(s t:aT):Bool:=
 (match s.dst with | some d=>!t.iL.contains d && t.dst != some d | none=>true) && (match t.dst with | some d=>!s.iL.contains d | none=>true)
theorem Zy{s t:aT}(h:Dq s t=true):(∀d,s.dst=some d→d∉t.iL)∧(∀d,t.dst=some d→d∉s.iL)∧(∀d,s.dst=some d→t.dst≠some d):=by
 simp only[Dq,Bool.and_eq_true] at h;obtain⟨h1,h2⟩:=h;refine⟨fun d e=>?_,fun d e=>?_,fun d e=>?_⟩
 ·rw[e] at h1;simp at h1;exact h1.1
 ·rw[e] at h2;simp at h2;exact h2
 ·rw[e] at h1;simp at h1;exact h1.2
def uZ(o:aT):Bool:=o.call.isSome || !OI o.op
def Eff.runT(e:Eff)(S:St)(aA:Nat):Option (AV×St×List Nat×List Nat):=
 match e.F.mapM S.g with
 | none=>none
 | some bs=>match e.k bs with
  | none=>none
  | some o=>some (o.v aA,(S.dV e.F o.up).iG aA o.nw,e.F,(match o.up with | []=>[] | _=>e.F)++(match o.nw with | some _=>[aA] | none=>[]))
def AZ(p:List Nat×List Nat)(F W:List Nat):Prop:=(∀j∈p.2,j∉F)∧(∀j∈W,j∉p.1)∧∀j∈p.2,j∉W
def jV:List Bool→List (List Nat×List Nat)→List Nat→List Nat→Prop
 | true::bs,p::T,F,W=>AZ p F W∧jV bs T F W
 | false::bs,_::T,F,W=>jV bs T F W
 | _,_,_,_=>True
theorem jV.at_{F W:List Nat}:∀{bs:List Bool} {T:List (List Nat×List Nat)},jV bs T F W→∀(j:Nat) (p:List Nat×List Nat),bs[j]? = some true→T[j]? = some p→AZ p F W
 | [],_,_,j,p,h,_=>by simp at h
 | _::_,[],_,j,p,_,h=>by simp at h
 | true::bs,q::T,h,0,p,_,hp=>by simp at hp;subst hp;exact h.1
 | false::bs,q::T,h,0,p,hb,_=>by simp at hb
 | true::bs,q::T,h,j+1,p,hb,hp=>jV.at_ (bs:=bs) (T:=T) h.2 j p (by simpa using hb) (by simpa using hp)
 | false::bs,q::T,h,j+1,p,hb,hp=>jV.at_ (bs:=bs) (T:=T) h j p (by simpa using hb) (by simpa using hp)
def qo(fr:List (List Bool))(T:List (List Nat×List Nat))(F W:List Nat):List (List Nat×List Nat):=
 match fr with
 | []=>T
 | _=>(F,W)::T
def Na(m:Nat)(t:aT):List Bool→List (Nat×aT)→Bool
 | _,[]=>true
 | fr,(j,s)::prev=>(m.testBit j || (Dq s t && ((uZ s && uZ t) || fr.headD false))) && Na m t fr.tail prev
def JB:List Oper→List aT→List (List Bool)→List (Nat×aT)→List Nat→Nat→Bool
 | o::ops,s::os,fr,prev,ms,i=>
  o.after.toList.all (fun e=>!Region.binds .any e || decide (e.on < i)) && Na (wS ms o) s (fr.headD []) prev && JB ops os fr.tail ((i,s)::prev) (ms++[wS ms o]) (i+1)
 | [],[],_,_,_,_=>true
 | _,_,_,_,_,_=>false
def NC(ops:Array Oper)(os:List aT)(fr:List (List Bool)):Bool:=JB ops.toList os fr [] [] 0
def RD(P:Program)(base:Nat):List aT→List (List Bool)→Nat→List (List Nat×List Nat)→(AF→St→Prop)→AF→St→Prop
 | [],_,_,_,K,a,S=>K a S
 | o::os,fr,i,T,K,a,S=>
  match gd o a with
  | none=>False
  | some false=>RD P base os fr.tail (i+1) (qo fr T [] []) K (a.put o.dst (.aL [])) S
  | some true=>match o.call with
   | some (G,xs)=>match G.ev a with
    | .aO f first cap=>∃r F,kI P f (first++xs.map (·.ev a)++cap) S F r∧jV (fr.headD []) T F []∧RD P base os fr.tail (i+1) (qo fr T F []) K (a.put o.dst r) S
    | _=>False
   | none=>match (ex o.op a).runT S (base+i) with
    | some (v,S',F,W)=>jV (fr.headD []) T F W∧RD P base os fr.tail (i+1) (qo fr T F W) K (a.put o.dst v) S'
    | none=>False
theorem ZlS{e:Eff}{S:St}{aA:Nat}{v:AV}{S':St}{F W:List Nat}(h:e.runT S aA=some (v,S',F,W)) :
  ∃bs out,e.F.mapM S.g=some bs∧e.k bs=some out∧v=out.v aA∧S'=(S.dV e.F out.up).iG aA out.nw∧F=e.F∧W=(if out.up=[] then [] else e.F)++(if out.nw.isSome=true then [aA] else []):=by
 unfold Eff.runT at h;split at h
 ·cases h
 ·rename_i bs hbs
  split at h
  ·cases h
  ·rename_i out hout
   simp only[Option.some.injEq,Prod.mk.injEq] at h;obtain⟨rfl,rfl,rfl,rfl⟩:=h;refine⟨bs,out,hbs,hout,rfl,rfl,rfl,?_⟩;cases out.up<;>cases out.nw<;>simp
theorem ZgP{P:Program}{base:Nat}{K:AF→St→Prop}:∀(os:List aT) (fr:List (List Bool)) (i:Nat) (T:List (List Nat×List Nat)) (a:AF) (S:St),RD P base os fr i T K a S→
  ∃l a2 S2,xY P base l a S a2 S2∧K a2 S2∧l.map (·.o)=os∧l.map (·.i)=List.range' i os.length∧(∀s∈l,uZ s.o=true→s.W=[])∧
   ∀(k:Nat) (hk:k < l.length) (j:Nat) (p:List Nat×List Nat),(fr.getD k [])[j]? = some true→((l.take k).reverse.map (fun s=>(s.F,s.W))++T)[j]? = some p→AZ p (l[k]).F (l[k]).W
 | [],fr,i,T,a,S,h=>⟨[],a,S,.nil a S,h,rfl,rfl,by simp,by simp⟩
 | o::os,fr,i,T,a,S,h=>by
  simp only[RD] at h
  have fin:∀(s:DS) (a1:AF) (S1:St),s.o=o→s.i=i→(uZ s.o=true→s.W=[])→sF P base s a S a1 S1→jV (fr.headD []) T s.F s.W→RD P base os fr.tail (i+1) (qo fr T s.F s.W) K a1 S1→
    ∃l a2 S2,xY P base l a S a2 S2∧K a2 S2∧l.map (·.o)=o::os∧l.map (·.i)=List.range' i (os.length+1)∧(∀s∈l,uZ s.o=true→s.W=[])∧
     ∀(k:Nat) (hk:k < l.length) (j:Nat) (p:List Nat×List Nat),(fr.getD k [])[j]? = some true→((l.take k).reverse.map (fun s=>(s.F,s.W))++T)[j]? = some p→AZ p (l[k]).F (l[k]).W:=by
   intro s a1 S1 h1 h2 h3 h4 hA h5;obtain⟨l,a2,S2,k1,k2,k3,k4,k5,k6⟩:=ZgP os fr.tail (i+1) _ a1 S1 h5;refine⟨s::l,a2,S2,.cons h4 k1,k2,by simp[h1,k3],by simp[h2,k4,List.range'_succ],?_,?_⟩
   ·intro q hq
    rcases List.mem_cons.mp hq with rfl | hq
    ·exact h3
    ·exact k5 q hq
   ·intro k hk j p hj hp
    cases k with
    | zero=>
     have hj':(fr.headD [])[j]? = some true:=by cases fr with | nil=>simp at hj | cons a l=>simpa using hj
     exact hA.at_ j p hj' (by simpa using hp)
    | succ k=>
     cases fr with
     | nil=>simp at hj
     | cons b fr=>
      refine k6 k (by simpa using hk) j p (by simpa using hj) ?_;simpa[qo,List.append_assoc] using hp
  split at h
  ·exact h.elim
  ·rename_i hg
   exact fin ⟨i,o,[],[],fun _=>none,.aL []⟩ _ _ rfl rfl (fun _=>rfl) (.skip hg rfl rfl rfl) (by
    generalize fr.headD []=bs;clear fin h;induction bs generalizing T with
    | nil=>simp[jV]
    | cons b bs ih=>cases T<;>cases b<;>simp[jV,AZ,ih]) h
  ·rename_i hg
   split at h
   ·rename_i G xs hc
    split at h
    ·rename_i f first cap hG
     obtain⟨r,F,hr,hA,h2⟩:=h;exact fin ⟨i,o,F,[],fun _=>none,r⟩ _ _ rfl rfl (fun _=>rfl) (.call hg G xs hc f first cap hG rfl hr) hA h2
    ·exact h.elim
   ·rename_i hc
    split at h
    ·rename_i v S' F W hrun
     obtain⟨bs,out,hbs,hout,rfl,rfl,rfl,rfl⟩:=ZlS hrun;refine fin ⟨i,o,(ex o.op a).F,_,((S.dV (ex o.op a).F out.up).iG (base+i) out.nw).g,out.v (base+i)⟩ _ _ rfl rfl ?_ (.op hg hc bs hbs out hout rfl rfl ?_ ?_ (fun _ _=>rfl)) h.1 h.2
     ·intro hq
      simp only[uZ,hc,Option.isSome_none,Bool.false_or,Bool.not_eq_true'] at hq;obtain⟨q1,q2⟩:=ZgN hq hout;simp[q1,q2]
     ·refine⟨fun h1 j hj=>?_,fun h1=>?_⟩
      ·simp only[List.mem_append];left;rw[if_neg h1];exact hj
      ·simp only[List.mem_append];right;rw[if_pos h1];simp
     ·intro j hj
      simp only[List.mem_append] at hj;rcases hj with hj | hj
      ·split at hj
       ·simp at hj
       ·rename_i h1;exact .inl ⟨h1,hj⟩
      ·split at hj
       ·rename_i h1;simp at hj;exact .inr ⟨h1,hj⟩
       ·simp at hj
    ·exact h.elim
theorem YV{m:Nat}{t:aT}:∀{fr:List Bool} {prev:List (Nat×aT)},Na m t fr prev=true→∀(k j:Nat) (s:aT),prev[k]? = some (j,s)→
  m.testBit j=true∨(Dq s t=true∧((uZ s=true∧uZ t=true)∨fr[k]? = some true))
 | fr,[],_,k,j,s,h=>by simp at h
 | fr,(j',s')::prev,h,k,j,s,hk=>by
  simp only[Na,Bool.and_eq_true] at h;cases k with
  | zero=>
   simp only[List.getElem?_cons_zero,Option.some.injEq,Prod.mk.injEq] at hk;obtain⟨rfl,rfl⟩:=hk;have h1:=h.1;simp only[Bool.or_eq_true,Bool.and_eq_true] at h1;rcases h1 with h1 | ⟨h1,h2 | h2⟩
   ·exact .inl h1
   ·exact .inr ⟨h1,.inl h2⟩
   ·exact .inr ⟨h1,.inr (by cases fr<;>simp_all)⟩
  | succ k=>
   rcases YV h.2 k j s (by simpa using hk) with h1 | ⟨h1,h2 | h2⟩
   ·exact .inl h1
   ·exact .inr ⟨h1,.inl h2⟩
   ·exact .inr ⟨h1,.inr (by cases fr<;>simp_all)⟩
theorem Zd{ops:Array Oper}{os:List aT}{fr:List (List Bool)}:∀(n i:Nat) (prev:List (Nat×aT)) (ms:List Nat),n=ops.size - i→i≤ops.size→i≤os.length→ms.length=i→Df ops ms→prev.length=i→
  (∀k,k < i→prev[i - 1 - k]? = (os[k]?).map fun s=>(k,s))→JB (ops.toList.drop i) (os.drop i) (fr.drop i) prev ms i=true→
  (∀(t:Nat) o,i≤t→ops[t]? = some o→∀e∈o.after,Region.binds .any e=true→e.on < t)∧
  ∀t j,i≤t→t < ops.size→j < t→Ord ops t j∨∀s u,os[j]? = some s→os[t]? = some u→Dq s u=true∧((uZ s=true∧uZ u=true)∨(fr.getD t [])[t - 1 - j]? = some true)
 | 0,i,prev,ms,hn,hi,_,_,_,_,_,_=>by
  refine⟨fun t o h1 h2=>?_,fun t j h1 h2=>by omega⟩;have:=(Array.getElem?_eq_some_iff.mp h2).1;omega
 | n+1,i,prev,ms,hn,hi,hil,hms,hmo,hpl,aak,h=>by
  have hlt:i < ops.size:=by omega
  have ho:ops[i]? = some ops[i]:=Array.getElem?_eq_getElem hlt
  have hdo:ops.toList.drop i=ops[i]::ops.toList.drop (i+1):=by
   rw[List.drop_eq_getElem_cons (by simpa using hlt)];simp
  rw[hdo] at h;cases hd:os.drop i with
  | nil=>rw[hd] at h;simp[JB] at h
  | cons s os'=>
   have Wl:i < os.length:=by
    have:=congrArg List.length hd;simp at this;omega
   have hos:os[i]? = some s:=by
    rw[List.drop_eq_getElem_cons Wl] at hd;simp only[List.cons.injEq] at hd;rw[List.getElem?_eq_getElem Wl,hd.1]
   have ab5:os.drop (i+1)=os':=by
    rw[List.drop_eq_getElem_cons Wl] at hd;simp only[List.cons.injEq] at hd;exact hd.2
   rw[hd] at h;simp only[JB,Bool.and_eq_true] at h;obtain⟨⟨h1,h2⟩,h3⟩:=h
   have ih:=Zd (fr:=fr) (os:=os) n (i+1) ((i,s)::prev) (ms++[wS ms ops[i]]) (by omega) (by omega) (by omega) (by simp[hms]) (hmo.push (by rw[hms];exact ho)) (by simp[hpl]) (by
    intro k hk;by_cases hki:k=i
    ·subst hki;simp[hos]
    ·have:i+1 - 1 - k=(i - 1 - k)+1:=by omega
     rw[this,List.getElem?_cons_succ];exact aak k (by omega)) (by rw[ab5];simpa[List.tail_drop] using h3)
   refine⟨fun t o ht hto e he hb=>?_,fun t j ht htl hj=>?_⟩
   ·by_cases hti:t=i
    ·subst hti
     rw[ho] at hto;cases hto;have:=(List.all_eq_true.mp h1) e (by simpa using he);simpa[hb] using this
    ·exact ih.1 t o (by omega) hto e he hb
   ·by_cases hti:t=i
    ·subst hti
     have hjl:j < os.length:=by omega
     have hp:=aak j hj;rw[List.getElem?_eq_getElem hjl] at hp;rcases YV h2 _ _ _ hp with h4 | h4
     ·exact .inl (SC hmo ho j h4)
     ·refine .inr (fun s' u hs' hu=>?_)
      rw[List.getElem?_eq_getElem hjl] at hs';cases hs';rw[hos] at hu;cases hu;have hfr:(fr.drop t).headD []=fr.getD t []:=by simp[List.getD_eq_getElem?_getD,List.headD_eq_head?_getD,List.head?_drop]
      rw[hfr] at h4;exact h4
    ·exact ih.2 t j (by omega) htl hj
theorem Zht{ops:Array Oper}{os:List aT}{fr:List (List Bool)}(h:NC ops os fr=true) :
  (∀(i:Nat) o,ops[i]? = some o→∀e∈o.after,Region.binds .any e=true→e.on < i)∧
  ∀i j,i < ops.size→j < i→Ord ops i j∨∀s t,os[j]? = some s→os[i]? = some t→Dq s t=true∧((uZ s=true∧uZ t=true)∨(fr.getD i [])[i - 1 - j]? = some true):=by
 obtain⟨h1,h2⟩:=Zd (ops:=ops) (os:=os) (fr:=fr) ops.size 0 [] [] (by omega) (by omega) (by omega) rfl (fun i j h=>by simp at h) rfl (by intro k hk;omega) (by rw[NC] at h;simpa using h);exact⟨fun i o=>h1 i o (Nat.zero_le _),fun i j=>h2 i j (Nat.zero_le _)⟩
theorem Zhu{P:Program}{n:Nat}{ops:Array Oper}{os:List aT}{fr:List (List Bool)}{id:Nat}{Q:Exit→AF→St→Prop}(hm:P.follows .mixedOrders=true)(hc:ops.toList.mapM (lC P n ops)=some os)(hok:NC ops os fr=true)
  (hget:os.length=ops.size∧∀k (hk:k < os.length),∃o,ops[k]? = some o∧lC P n ops o=some (os[k])) {a:AF} {S:St}
  (h:RD P S.n os fr 0 [] (fun a S=>Q .normal a S) a ⟨S.n+os.length,S.g⟩) {E:Env} {w:World} {act:Act} (hG:jd P E.H) (hS:aU E S w) (hF:dR E n a act):(Code.region id ops true).wp P (lD E S w n Q) act w:=by
 obtain⟨hlen,hg⟩:=hget;obtain⟨h1,h2⟩:=Zht hok;obtain⟨l,a2,S2,k1,k2,k3,k4,k5,k6⟩:=ZgP os fr 0 [] a _ h;have hll:l.length=os.length:=by rw[←k3];simp
 have hi:∀k (hk:k < l.length),(l[k]).i=k:=by
  intro k hk;have h5:(l.map (·.i))[k]'(by simpa using hk)=(List.range' 0 os.length)[k]'(by simp;omega):=by simp only[k4]
  simpa using h5
 have ho:∀k (hk:k < l.length),(l[k]).o=os[k]'(by omega):=by
  intro k hk;have h5:(l.map (·.o))[k]'(by simpa using hk)=os[k]'(by omega):=by simp only[k3]
  simpa using h5
 have hmem:∀s∈l,∃k,∃hk:k < l.length,l[k]=s∧s.i=k:=by
  intro s hs;obtain⟨k,hk,e⟩:=List.mem_iff_getElem.mp hs;exact⟨k,hk,e,by rw[←e];exact hi k hk⟩
 refine wp_region_any hm ?_;refine Zgi (S0:=S) (base:=S.n) hG (Nat.le_refl _) h1 ops.size l (Array.replicate ops.size false) a _ a2 S2 (by omega) k1 k2 ?_ ?_ ?_ (by simp) ?_ ?_ ?_ E _ act ((hS.drop S.g (fun _ _ e=>e) _ (by show S.n≤S.n+_;omega)).drew) hF ?_ ?_
 ·have h6:(l.map (·.i)).Pairwise (· < ·):=by rw[k4];exact List.pairwise_lt_range'
  exact List.pairwise_map.mp h6
 ·intro i hi'
  have:(Array.replicate ops.size false).getD i true=false:=by simp[Array.getD_eq_getD_getElem?,hi']
  simp only[this,true_iff];exact⟨l[i]'(by omega),List.getElem_mem _,hi i (by omega)⟩
 ·intro s hs
  obtain⟨k,hk,_,e⟩:=hmem s hs;omega
 ·intro k o hk
  simp only[Array.getD_eq_getD_getElem?] at hk;by_cases hks:k < ops.size
  ·simp[hks] at hk
  ·simp[hks] at hk
 ·intro s hs
  obtain⟨k,hk,e1,e2⟩:=hmem s hs;obtain⟨o,q1,q2⟩:=hg k (by omega);refine⟨o,by rw[e2];exact q1,?_⟩;rw[←e1,ho k hk];exact q2
 ·intro s hs t ht hlt
  obtain⟨k,hk,e1,e2⟩:=hmem s hs;obtain⟨m,hm',e3,e4⟩:=hmem t ht;rcases h2 t.i s.i (by omega) hlt with h7 | h7
  ·exact .inl h7
  ·right
   obtain⟨q1,q2⟩:=h7 s.o t.o (by rw[←e1,ho k hk,hi k hk];exact List.getElem?_eq_getElem _) (by rw[←e3,ho m hm',hi m hm'];exact List.getElem?_eq_getElem _);obtain⟨s1,s2,s3⟩:=Zy q1;rcases q2 with⟨q2,q3⟩ | q2
   ·have w1:=k5 s hs q2
    have w2:=k5 t ht q3;exact⟨s1,s2,s3,by simp[w1],by simp[w2],by simp[w1]⟩
   ·have hkm:k < m:=by omega
    obtain⟨d1,d2,d3⟩:=k6 m hm' (m - 1 - k) (s.F,s.W) (by rw[←e4,←e2];exact q2) (by
     rw[List.append_nil,List.getElem?_map,List.getElem?_reverse (by simp;omega)];have:(List.take m l).length - 1 - (m - 1 - k)=k:=by simp;omega
     rw[this,List.getElem?_take,if_pos hkm,List.getElem?_eq_getElem hk,e1];rfl)
    rw[e3] at d1 d2 d3;exact⟨s1,s2,s3,d1,d2,d3⟩
 ·intro s hs
  obtain⟨k,hk,e1,e2⟩:=hmem s hs;exact⟨hS.fresh _ (by omega),by show S.n+s.i < S.n+os.length;omega⟩
 ·exact⟨⟨rfl,rfl,rfl,Nat.le_refl _,fun _ _ _=>rfl,fun id l k hk hl=>.inr ⟨id,l,k,hk,hl,rfl⟩,Env.le_refl _,fun _ _ e=>.inl e⟩,by show S.n≤S.n+_;omega,fun _ _ e=>e⟩
def Vm:jc→Bool
 | .Cn _ _ _=>false
 | _=>true
def u6(o:aT):Bool:=o.call.isNone && !OI o.op && Vm o.op
def zo(o:aT):Bool:=o.guard.isNone && o.call.isNone && (match o.op with | .mv _ | .yP _ _ _=>true | _=>false)
def EA(o:aT)(a:AF):AV:=match o.op with
 | .mv x=>x.ev a
 | .yP f first cap=>.aO f (first.map (·.ev a)) (cap.map (·.ev a))
 | _=>.junk
def Fq(o:aT)(a:AF):List Nat:=if u6 o=true then (match gd o a with | some true=>(ex o.op a).F | _=>[]) else []
def Gv(w:List Nat)(g g':Nat→Option aF):List (Nat×List Nat)→Prop
 | []=>True
 | (i,F)::T=>(if w.contains i=true then ∀j∈F,g' j=g j else True)∧Gv w g g' T
theorem FN{w:List Nat}{g g':Nat→Option aF}:∀{T:List (Nat×List Nat)},Gv w g g' T↔∀p∈T,p.1∈w→∀j∈p.2,g' j=g j
 | []=>by simp[Gv]
 | (i,F)::T=>by
  unfold Gv;rw[FN (T:=T)];by_cases h:i∈w
  ·simp[h]
  ·simp[h]
def kJ(P:Program)(base i:Nat)(o:aT)(w:List Nat)(T:List (Nat×List Nat))(R:AV→St→Prop)(a:AF)(S:St):Prop:=
 match gd o a with
 | none=>False
 | some false=>R (.aL []) S
 | some true=>match o.call with
  | some (G,xs)=>match G.ev a with
   | .aO f first cap=>aQ P f (first++xs.map (·.ev a)++cap) S fun r S'=>Gv w S.g S'.g T∧R r S'
   | _=>False
  | none=>match (ex o.op a).run S (base+i) with
   | some (v,S')=>R v S'
   | none=>qF o.op a fun v=>R v S
abbrev lM:=Nat×aT×List Nat
def lq(P:Program)(base:Nat):List lM→List (Nat×List Nat)→(AF→St→Prop)→AF→St→Prop
 | [],_,K,a,S=>K a S
 | (i,o,w)::l,T,K,a,S=>kJ P base i o w T (fun v S'=>lq P base l ((i,Fq o a)::T) K (a.put o.dst v) S') a S
section
variable{P:Program}{base i:Nat}{o:aT}{w:List Nat}{T T':List (Nat×List Nat)}{R R':AV→St→Prop}{a b:AF}{S:St}
theorem kJ.mono(hk:∀v S,R v S→R' v S)(h:kJ P base i o w T R a S):kJ P base i o w T R' a S:=by
 unfold kJ at h ⊢;split at h
 ·exact h.elim
 ·exact hk _ _ h
 ·split at h
  ·split at h
   ·exact h.mono fun r S' k=>⟨k.1,hk _ _ k.2⟩
   ·exact h.elim
  ·split at h
   ·exact hk _ _ h
   ·exact Mw (fun v hv=>hk _ _ hv) h
theorem kJ.watch(hT:∀p∈T',p.2=[]∨p∈T)(h:kJ P base i o w T R a S):kJ P base i o w T' R a S:=by
 unfold kJ at h ⊢;split at h
 ·exact h
 ·exact h
 ·split at h
  ·split at h
   ·refine h.mono fun r S' k=>⟨FN.mpr fun p hp hw j hj=>?_,k.2⟩
    rcases hT p hp with h1 | h1
    ·rw[h1] at hj;simp at hj
    ·exact FN.mp k.1 p h1 hw j hj
   ·exact h.elim
  ·exact h
theorem kJ.X7(ha:∀t∈o.iL,a t=b t)(h:kJ P base i o w T R a S):kJ P base i o w T R b S:=by
 have hg:=Gq (o:=o) ha;unfold kJ at h ⊢;rw[←hg];split at h
 ·exact h
 ·exact h
 ·split at h
  ·rename_i G xs hc
   have hrd:∀t∈G.iL++xs.flatMap aJ.iL,a t=b t:=fun t ht=>ha t (by simp only[aT.iL,hc,List.mem_append];exact .inr (by simpa using ht))
   have e1:G.ev b=G.ev a:=(dM (fun t ht=>hrd t (by simp[ht]))).symm;have e2:xs.map (·.ev b)=xs.map (·.ev a):=(JC (fun t ht=>hrd t (List.mem_append.mpr (.inr ht)))).symm;rw[e1,e2];exact h
  ·rename_i hc
   have hrd:∀t∈o.op.iL,a t=b t:=fun t ht=>ha t (by simp only[aT.iL,hc,List.mem_append];exact .inr ht)
   have he:ex o.op b=ex o.op a:=(Oh hrd).symm;rw[he];split at h
   ·exact h
   ·unfold qF at h ⊢
    split
    ·rename_i neg x hop
     rw[hop] at h hrd;simp only at h;have:x.ev b=x.ev a:=(dM (fun t ht=>hrd t (by simpa[jc.iL] using ht))).symm;rw[this];exact h
    ·rename_i hop
     split at h
     ·rename_i neg x hop2;exact(hop _ _ hop2).elim
     ·exact h
theorem ZoZ(ha:∀t∈o.iL,a t=b t):Fq o a=Fq o b:=by
 unfold Fq;by_cases hq:u6 o=true
 ·rw[if_pos hq,if_pos hq,Gq ha]
  simp only[u6,Bool.and_eq_true] at hq;have hc:o.call=none:=by simpa using hq.1.1
  have he:ex o.op a=ex o.op b:=Oh (fun t ht=>ha t (by simp only[aT.iL,hc,List.mem_append];exact .inr ht));rw[he]
 ·rw[if_neg hq,if_neg hq]
def qv(base i:Nat)(o:aT)(a:AF)(S:St):Option AV:=match gd o a with
 | none=>none
 | some false=>some (.aL [])
 | some true=>((ex o.op a).run S (base+i)).map Prod.fst
theorem ZlC{op:jc}(h:Vm op=true){k:AV→Prop}(hn:qF op a k):False:=by
 unfold qF at hn;split at hn
 ·simp[Vm] at h
 ·exact hn
theorem ZlY(F:List Nat)(S:St):S.dV F []=S:=by cases F<;>rfl
theorem Fy(hq:u6 o=true):kJ P base i o w T R a S↔∃v,qv base i o a S=some v∧R v S:=by
 have hq':=hq;simp only[u6,Bool.and_eq_true,Bool.not_eq_true'] at hq';obtain⟨⟨hc,hm⟩,hn⟩:=hq';have hc:o.call=none:=by simpa using hc
 unfold kJ qv;cases hg:gd o a with
 | none=>simp
 | some b=>
  cases b with
  | false=>simp
  | true=>
   simp only[hc];cases hr:(ex o.op a).run S (base+i) with
   | none=>
    simp only[Option.map_none];constructor
    ·intro h;exact(ZlC hn h).elim
    ·rintro⟨v,h,_⟩;cases h
   | some p=>
    obtain⟨v,S'⟩:=p
    have hS:S'=S:=by
     unfold Eff.run at hr;split at hr
     ·cases hr
     ·split at hr
      ·cases hr
      ·rename_i out hout
       obtain⟨q1,q2⟩:=ZgN hm hout;simp only[Option.some.injEq,Prod.mk.injEq] at hr;obtain⟨_,rfl⟩:=hr;rw[q1,q2,ZlY];rfl
    subst hS;simp
theorem Zqf{S':St}(hq:u6 o=true)(ha:∀t∈o.iL,a t=b t)(hS:∀j∈Fq o a,S'.g j=S.g j):qv base i o b S'=qv base i o a S:=by
 have hq':=hq;simp only[u6,Bool.and_eq_true,Bool.not_eq_true'] at hq';obtain⟨⟨hc,hm⟩,hn⟩:=hq';have hc:o.call=none:=by simpa using hc
 have he:ex o.op b=ex o.op a:=(Oh (fun t ht=>ha t (by simp only[aT.iL,hc,List.mem_append];exact .inr ht))).symm;unfold qv;rw[←Gq ha,he];cases hg:gd o a with
 | none=>rfl
 | some c=>
  cases c with
  | false=>rfl
  | true=>
   simp only;have hF:Fq o a=(ex o.op a).F:=by unfold Fq;rw[if_pos hq,hg]
   rw[hF] at hS;unfold Eff.run;rw[YR hS];cases(ex o.op a).F.mapM S.g with
   | none=>rfl
   | some bs=>
    simp only;cases(ex o.op a).k bs<;>rfl
theorem I7(h:zo o=true):u6 o=true:=by
 simp only[zo,Bool.and_eq_true] at h;obtain⟨⟨h1,h2⟩,h3⟩:=h;simp only[u6,Bool.and_eq_true,h2,true_and,Bool.not_eq_true'];cases ho:o.op<;>rw[ho] at h3<;>first | exact Bool.noConfusion h3 | exact⟨rfl,rfl⟩
theorem Zk5(h:zo o=true):Fq o a=[]:=by
 unfold Fq;rw[if_pos (I7 h)];simp only[zo,Bool.and_eq_true] at h;obtain⟨⟨h1,h2⟩,h3⟩:=h
 have hg:gd o a=some true:=by
  unfold gd;have:o.guard=none:=by simpa using h1
  rw[this]
 rw[hg];cases ho:o.op<;>rw[ho] at h3<;>first | exact Bool.noConfusion h3 | rfl
theorem MZ(h:zo o=true):qv base i o a S=some (EA o a):=by
 unfold qv EA;simp only[zo,Bool.and_eq_true] at h;obtain⟨⟨h1,h2⟩,h3⟩:=h
 have hg:gd o a=some true:=by
  unfold gd;have:o.guard=none:=by simpa using h1
  rw[this]
 rw[hg];cases ho:o.op<;>rw[ho] at h3<;>first | exact Bool.noConfusion h3 | (simp only[ex,Eff.oP,Option.map_some])
theorem Zqp(h:zo o=true)(ha:∀t∈o.iL,a t=b t):EA o b=EA o a:=by
 have h1:=MZ (base:=0) (i:=0) (S:=⟨0,fun _=>none⟩) (a:=a) h;have h2:=MZ (base:=0) (i:=0) (S:=⟨0,fun _=>none⟩) (a:=b) h;have h3:=Zqf (base:=0) (i:=0) (S:=⟨0,fun _=>none⟩) (S':=⟨0,fun _=>none⟩) (I7 h) ha (fun _ _=>rfl);rw[h1,h2] at h3;exact Option.some.inj h3
end
section
variable{P:Program}{base:Nat}
theorem Zg:∀(l:List lM) {T T':List (Nat×List Nat)} {K:AF→St→Prop} {a:AF} {S:St},(∀p∈T',p.2=[]∨p∈T)→lq P base l T K a S→lq P base l T' K a S
 | [],_,_,_,_,_,_,h=>h
 | (i,o,w)::l,T,T',K,a,S,hT,h=>by
  unfold lq at h ⊢;refine kJ.mono (fun v S' h'=>?_) (h.watch hT);refine Zg l (fun p hp=>?_) h';rcases List.mem_cons.mp hp with rfl | hp
  ·exact .inr (by simp)
  ·rcases hT p hp with h1 | h1
   ·exact .inl h1
   ·exact .inr (by simp[h1])
theorem ZU:∀(l:List lM) {T:List (Nat×List Nat)} {K K':AF→St→Prop} {a:AF} {S:St},(∀a S,K a S→K' a S)→lq P base l T K a S→lq P base l T K' a S
 | [],_,_,_,_,_,hk,h=>hk _ _ h
 | (i,o,w)::l,T,K,K',a,S,hk,h=>by
  unfold lq at h ⊢;exact kJ.mono (fun v S' h'=>ZU l hk h') h
def Ao(s t:lM):Bool:=Dq s.2.1 t.2.1 && (zo s.2.1 || zo t.2.1 || (u6 s.2.1 && u6 t.2.1) || (u6 s.2.1 && t.2.1.call.isSome && t.2.2.contains s.1))
theorem FE{a:AF}{d:Option Nat}{v:AV}{L:List Nat}(h:∀e,d=some e→e∉L):∀t∈L,a t=a.put d v t:=fun t ht=>(AF.put_eq (fun e he=>by intro h3;subst h3;exact h _ he ht)).symm
theorem Zkv{s t:lM}{l:List lM}{T:List (Nat×List Nat)}{K:AF→St→Prop}{a:AF}{S:St}(hb:Ao s t=true)(h:lq P base (s::t::l) T K a S):lq P base (t::s::l) T K a S:=by
 obtain⟨i,o,w⟩:=s;obtain⟨j,u,x⟩:=t;simp only[Ao,Bool.and_eq_true,Bool.or_eq_true] at hb;obtain⟨hsl,hor⟩:=hb;obtain⟨r1,r2,dd⟩:=Zy hsl;unfold lq at h ⊢;unfold lq at h ⊢;have hFu:∀v,Fq u (a.put o.dst v)=Fq u a:=fun v=>(ZoZ (FE r1)).symm
 have hFo:∀v,Fq o (a.put u.dst v)=Fq o a:=fun v=>(ZoZ (FE r2)).symm
 have perm:∀{b:AF} {S2:St},lq P base l ((j,Fq u a)::(i,Fq o a)::T) K b S2→lq P base l ((i,Fq o a)::(j,Fq u a)::T) K b S2:=
  fun h=>Zg l (fun p hp=>.inr (by simp only[List.mem_cons] at hp ⊢;rcases hp with h1 | h1 | h1<;>simp[h1])) h
 have key:u6 o=true→(∀b,kJ P base j u x ((i,Fq o a)::T) (fun r S'=>lq P base l ((j,Fq u a)::(i,Fq o a)::T) K ((a.put o.dst b).put u.dst r) S') a S→
   kJ P base j u x ((i,Fq o a)::T) (fun r S'=>(∀k∈Fq o a,S'.g k=S.g k)∧lq P base l ((j,Fq u a)::(i,Fq o a)::T) K ((a.put o.dst b).put u.dst r) S') a S)→
   kJ P base j u x T (fun v S'=>kJ P base i o w ((j,Fq u a)::T) (fun v_1 S'=>lq P base l ((i,Fq o (a.put u.dst v))::(j,Fq u a)::T) K ((a.put u.dst v).put o.dst v_1) S') (a.put u.dst v) S') a S:=by
  intro hq hkeep;obtain⟨v,hv,h2⟩:=(Fy hq).mp h;rw[hFu] at h2;have h3:=hkeep v (kJ.X7 (fun t ht=>(FE r1 t ht).symm) h2);refine kJ.mono (fun r S' hh=>?_) (h3.watch (T':=T) (fun p hp=>.inr (by simp[hp])));obtain⟨h4,h5⟩:=hh;refine(Fy hq).mpr ⟨v,?_,?_⟩
  ·rw[←hv]
   exact Zqf hq (FE r2) h4
  ·rw[hFo]
   rw[AF.put_comm (d:=u.dst) (e:=o.dst) (fun k hk=>fun e=>dd k e hk)];exact perm h5
 rcases hor with((h1 | h1) | ⟨h1,h2⟩) | ⟨⟨h1,h2⟩,h3⟩
 ·refine key (I7 h1) (fun b hh=>kJ.mono (fun r S' k=>⟨fun q hq=>?_,k⟩) hh)
  rw[Zk5 h1] at hq;simp at hq
 ·
  have hFz:Fq u a=[]:=Zk5 h1;refine(Fy (I7 h1)).mpr ⟨EA u a,MZ h1,?_⟩
  have h2:kJ P base i o w T (fun v S'=>lq P base l ((i,Fq o a)::(j,Fq u a)::T) K ((a.put u.dst (EA u a)).put o.dst v) S') a S:=by
   refine kJ.mono (fun v S' hh=>?_) h;obtain⟨v2,hv2,h3⟩:=(Fy (I7 h1)).mp hh;rw[MZ h1] at hv2;cases hv2;rw[Zqp h1 (FE r1),hFu] at h3;rw[AF.put_comm (d:=u.dst) (e:=o.dst) (fun k hk=>fun e=>dd k e hk)];exact perm h3
  have h3:=h2.X7 (b:=a.put u.dst (EA u a)) (FE r2);rw[hFo];refine h3.watch (fun p hp=>?_);rcases List.mem_cons.mp hp with rfl | hp
  ·exact .inl hFz
  ·exact .inr hp
 ·refine key h1 (fun b hh=>?_)
  obtain⟨v,k1,k2⟩:=(Fy h2).mp hh;exact(Fy h2).mpr ⟨v,k1,fun _ _=>rfl,k2⟩
 ·refine key h1 (fun b hh=>?_)
  have hx:i∈x:=by simpa using h3
  unfold kJ at hh ⊢;split at hh
  ·exact hh
  ·exact⟨fun _ _=>rfl,hh⟩
  ·split at hh
   ·split at hh
    ·refine hh.mono fun r S' k=>⟨k.1,?_,k.2⟩
     exact FN.mp k.1 (i,Fq o a) (by simp) hx
    ·exact hh.elim
   ·rename_i hc
    rw[hc] at h2;simp at h2
theorem Zf{x:lM}{l2:List lM}:∀{l1:List lM} {T:List (Nat×List Nat)} {K:AF→St→Prop} {a:AF} {S:St},(∀s∈l1,Ao s x=true)→lq P base (l1++x::l2) T K a S→lq P base (x::(l1++l2)) T K a S
 | [],_,_,_,_,_,h=>h
 | (i,o,w)::l1,T,K,a,S,hi,h=>by
  have h2:lq P base ((i,o,w)::x::(l1++l2)) T K a S:=by
   rw[List.cons_append] at h;unfold lq at h ⊢;exact kJ.mono (fun v S' hh=>Zf (l1:=l1) (fun q hq=>hi q (by simp[hq])) hh) h
  exact Zkv (hi _ (by simp)) h2
end
theorem Zka{P:Program}{n:Nat}{ops:Array Oper}{base i:Nat}{ao:aT}{w0:List Nat}{T:List (Nat×List Nat)}{R:AV→St→Prop}{a:AF}{S:St}(h:kJ P base i ao w0 T R a S){o:Oper}(ho:ops[i]? = some o)(hco:lC P n ops o=some ao)
  {E:Env} {w:World} {act:Act} (xu:jd P E.H) (hS:aU E S w) (hF:dR E n a act) (hρ:E.ρ (base+i)=none) (hlt:base+i < S.n) {K:Act→World→Prop} {Q:Exit→Act→World→Prop}
  (hK:∀v S' act' w' E',R v S'→aU E' S' w'→dR E' n (a.put ao.dst v) act'→jB E S w E' S' w'→S.n≤S'.n→(∀k,k < S.n→k≠base+i→E.ρ k=none→E'.ρ k=none)→K act' w'):wpOp P ops Q i K act w:=by
 obtain⟨hd,hdst,hgd,hor⟩:=Da hco;unfold wpOp;rw[ho];simp only;unfold kJ at h;split at h
 ·exact h.elim
 ·rename_i hg
  rw[xM hF hgd hg];simp only[Bool.false_eq_true,if_false];rw[←hdst];exact hK _ _ _ _ E h hS (hF.put (by rw[hdst];exact hd) Je) (.refl _ _ _) (Nat.le_refl _) (fun _ _ _ e=>e)
 ·rename_i hg
  rw[xM hF hgd hg];simp only[if_true];left;rcases hor with⟨p,hp1,hp2⟩ | ⟨hp1,hop⟩
  ·rw[hp1] at h
   obtain⟨G,xs⟩:=p;simp only at h;unfold AA at hp2;split at hp2
   ·rename_i g ys ts uO
    simp only[Option.bind_eq_some_iff,Option.map_eq_some_iff,Prod.mk.injEq] at hp2;obtain⟨G',hG,XS,yI,rfl,rfl⟩:=hp2;have rg:=bH hF hG;split at h
    ·rename_i f first cap yK
     rw[yK] at rg;generalize hev:act.eval g=gv at rg;cases rg with
     | aO _ _ _ fv cv hn hm hf hcc=>
      have hx:=Fe hF yI;have hargs:jl E (first++XS.map (·.ev a)++cap) (fv++ys.map act.eval++cv):=(jl.append ⟨hn,hf⟩ hx).append ⟨hm,hcc⟩;refine MH hd h xu hS hF hargs ?_ (fun r S2 act' w' E' k1 k2 k3 k4=>?_)
      ·simp only[execOp,uO,Sem.run_bind,CU act.eval g ys ts o.type hev,Result.andThen_ok,invoke]
       exact CW h.1 _ _
      ·exact hK r S2 act' w' E' k1.2 k2 (by rw[hdst];exact k3) k4.bL k4.jg (fun i hi _ e=>k4.low i hi e)
    ·exact h.elim
   ·cases hp2
  ·rw[hp1] at h
   simp only at h;split at h
   ·rename_i v S' hex
    have hok:=Gc (P:=P) (n:=n) (o:=o) hd hop hex;have hn:=Eff.LP hex;refine hok E w act hS hF hρ hlt _ _ fun act' w' E' k1 k2 k3 k4=>hK v S' act' w' E' h k1 (by rw[hdst];exact k2) k3 (by omega) (fun k _ hk e=>k4.2 k hk e)
   ·obtain⟨b,g1,g2⟩:=Nf hop h hF w
    unfold Oper.wp;rw[g2,Oper.upon_value];rw[←hdst];exact hK _ _ _ _ E g1 hS (hF.put (by rw[hdst];exact hd) (.v _ rfl)) (.refl _ _ _) (Nat.le_refl _) (fun _ _ _ e=>e)
theorem Zgj{P:Program}{n:Nat}{ops:Array Oper}{base:Nat}{Q:Exit→AF→St→Prop}{E0:Env}{S0:St}{w0:World}(hG0:jd P E0.H)(hb:S0.n≤base)
  (hon:∀(i:Nat) o,ops[i]? = some o→∀e∈o.after,Region.binds .any e=true→e.on < i) :
  ∀(fuel:Nat) (R:List lM) (T:List (Nat×List Nat)) (listed:Array Bool) (a:AF) (S:St),R.length=fuel→lq P base R T (fun a S=>Q .normal a S) a S→R.Pairwise (fun s t=>s.1 < t.1)→
   (∀i,i < ops.size→(listed.getD i true=false↔∃s∈R,s.1=i))→(∀s∈R,s.1 < ops.size)→listed.size=ops.size→UY ops listed→
   (∀s∈R,∃o,ops[s.1]? = some o∧lC P n ops o=some s.2.1)→(∀s∈R,∀t∈R,s.1 < t.1→Ord ops t.1 s.1∨Ao s t=true)→
   ∀E w act,aU E S w→dR E n a act→(∀s∈R,E.ρ (base+s.1)=none∧base+s.1 < S.n)→Ev E0 S0 w0 E S w→wpAny P .any ops (lD E0 S0 w0 n Q) fuel listed act w
 | 0,R,T,listed,a,S,hlen,hch,_,hmem,_,_,_,_,_,E,w,act,hS,hF,_,hE=>by
  have:R=[]:=List.eq_nil_of_length_eq_zero hlen;subst this;refine⟨?_,a,S,E,hch,hS,hF,hE⟩;refine List.eq_nil_iff_forall_not_mem.mpr (fun i hi=>?_);obtain⟨h1,h2,_⟩:=FD.mp hi;obtain⟨s,hs,_⟩:=(hmem i h1).mp h2;simp at hs
 | fuel+1,R,T,listed,a,S,hlen,hch,hsort,hmem,hlt,hsz,Kt,hops,Kw,E,w,act,hS,hF,hr,hE=>by
  refine⟨fun hnil=>?_,fun i hi=>?_⟩
  ·cases R with
   | nil=>simp at hlen
   | cons s R=>
    exfalso
    have KA:s.1∈Region.ready .any ops listed:=by
     obtain⟨o,ho,_⟩:=hops s (by simp);have hsi:=hlt s (by simp);refine FD.mpr ⟨hsi,(hmem s.1 hsi).mpr ⟨s,by simp,rfl⟩,o,ho,fun e he hbn=>?_⟩;have hlt2:=hon _ o ho e he hbn;cases hl:listed.getD e.on false with
     | true=>rfl
     | false=>
      have hl2:listed.getD e.on true=false:=by
       simp only[Array.getD_eq_getD_getElem?] at hl ⊢;rw[Array.getElem?_eq_getElem (by omega)] at hl ⊢;exact hl
      obtain⟨s',hs',e'⟩:=(hmem e.on (by omega)).mp hl2;rcases List.mem_cons.mp hs' with rfl | h3
      ·omega
      ·have:=List.rel_of_pairwise_cons hsort h3
       omega
    rw[hnil] at KA;simp at KA
  ·obtain⟨h1,h2,o,ho,hpre⟩:=FD.mp hi
   obtain⟨s,hs,rfl⟩:=(hmem i h1).mp h2;obtain⟨l1,l2,rfl⟩:=List.append_of_mem hs
   have Wm:∀q∈l1,Ao q s=true:=by
    intro q hq'
    have hqi:q.1 < s.1:=by
     have:=List.pairwise_append.mp hsort;exact this.2.2 q hq' s (by simp)
    rcases Kw q (by simp[hq']) s (by simp) hqi with h3 | h3
    ·exfalso
     have h4:=h3.listed Kt o ho hpre;have h5:=(hmem q.1 (hlt q (by simp[hq']))).mpr ⟨q,by simp[hq'],rfl⟩;simp only[Array.getD_eq_getD_getElem?] at h4 h5;rw[Array.getElem?_eq_getElem (by have:=hlt q (by simp[hq']);omega)] at h4 h5;simp at h4 h5;rw[h4] at h5;cases h5
    ·exact h3
   have hfr:=Zf Wm hch;obtain⟨si,so,sw⟩:=s;simp only at *;unfold lq at hfr;obtain⟨o',ho',hco⟩:=hops (si,so,sw) (by simp);obtain⟨r1,r2⟩:=hr (si,so,sw) (by simp)
   have Ww:(l1++l2).Pairwise (fun s t=>s.1 < t.1):=by
    have h6:=List.pairwise_append.mp hsort;refine List.pairwise_append.mpr ⟨h6.1,(List.pairwise_cons.mp h6.2.1).2,fun x hx y hy=>h6.2.2 x hx y (by simp[hy])⟩
   have hne:∀q∈l1++l2,q.1≠si:=by
    intro q hq';have h6:=List.pairwise_append.mp hsort;rcases List.mem_append.mp hq' with h7 | h7
    ·have:=h6.2.2 q h7 (si,so,sw) (by simp);simp only at this;omega
    ·have:=(List.pairwise_cons.mp h6.2.1).1 q h7;simp only at this;omega
   have hsub:∀q∈l1++l2,q∈l1++(si,so,sw)::l2:=by
    intro q hq';rcases List.mem_append.mp hq' with h7 | h7<;>simp[h7]
   refine Zka hfr ho' hco (hG0.le hE.bL.le) hS hF r1 r2 fun v S1 act' w' E' k0 k1 k2 k3 k4 k5=>?_
   refine Zgj hG0 hb hon fuel (l1++l2) _ (listed.setIfInBounds si true) _ _ (by simp at hlen ⊢;omega) k0 Ww ?_ (fun q hq'=>hlt q (hsub q hq')) (by simpa using hsz) ?_ (fun q hq'=>hops q (hsub q hq'))
    (fun q hq' t ht=>Kw q (hsub q hq') t (hsub t ht)) E' w' act' k1 k2 (fun q hq'=>?_) ⟨hE.bL.trans k3,by have:=hE.jg;omega,fun id hid e=>k5 id (by have:=hE.jg;omega) (by omega) (hE.low id hid e)⟩
   ·intro j hj
    simp only[Array.getD_eq_getD_getElem?,Array.getElem?_setIfInBounds];by_cases hjs:si=j
    ·subst hjs
     rw[if_pos rfl,if_pos (by omega)];simp only[Option.getD_some,Bool.true_eq_false,false_iff,not_exists,not_and];exact fun q hq'=>hne q hq'
    ·rw[if_neg hjs]
     have:=hmem j hj;simp only[Array.getD_eq_getD_getElem?] at this;rw[this];constructor
     ·rintro⟨q,hq',e⟩
      refine⟨q,?_,e⟩;rcases List.mem_append.mp hq' with h7 | h7
      ·simp[h7]
      ·rcases List.mem_cons.mp h7 with rfl | h8
       ·exact(hjs e).elim
       ·simp[h8]
     ·rintro⟨q,hq',e⟩;exact⟨q,hsub q hq',e⟩
   ·intro k o2 hk ho2 e he hbn
    simp only[Array.getD_eq_getD_getElem?,Array.getElem?_setIfInBounds] at hk ⊢;by_cases hks:si=k
    ·subst hks
     rw[ho] at ho2;cases ho2;have h8:=hpre e he hbn;simp only[Array.getD_eq_getD_getElem?] at h8;split
     ·rw[if_pos (by omega)];rfl
     ·exact h8
    ·rw[if_neg hks] at hk
     have h8:=Kt k o2 (by simpa[Array.getD_eq_getD_getElem?] using hk) ho2 e he hbn;simp only[Array.getD_eq_getD_getElem?] at h8;split
     ·rename_i h9
      split
      ·rfl
      ·rw[←h9,Array.getElem?_eq_none (by omega)] at h8;simp at h8
     ·exact h8
   ·obtain⟨q1,q2⟩:=hr q (hsub q hq')
    exact⟨k5 _ q2 (by have:=hne q hq';omega) q1,by omega⟩
def Nn(m:Nat)(t:lM):List lM→Bool
 | []=>true
 | s::prev=>(m.testBit s.1 || Ao s t) && Nn m t prev
def Gh:List Oper→List lM→List lM→List Nat→Nat→Bool
 | o::ops,s::os,prev,ms,i=>o.after.toList.all (fun e=>!Region.binds .any e || decide (e.on < i)) && Nn (wS ms o) s prev && Nat.beq s.1 i && Gh ops os (s::prev) (ms++[wS ms o]) (i+1)
 | [],[],_,_,_=>true
 | _,_,_,_,_=>false
def Du:List Oper→List aT→List lM→List Nat→Nat→List lM
 | o::ops,s::os,prev,ms,i=>(i,s,if s.call.isSome=true then (prev.filter fun p=>!(wS ms o).testBit p.1 && u6 p.2.1 && !zo p.2.1).map (·.1) else []) ::
   Du ops os ((i,s,[])::prev) (ms++[wS ms o]) (i+1)
 | _,_,_,_,_=>[]
theorem YW{m:Nat}{t:lM}:∀{prev:List lM},Nn m t prev=true→∀s∈prev,m.testBit s.1=true∨Ao s t=true
 | [],_,s,h=>by simp at h
 | x::prev,h,s,hs=>by
  simp only[Nn,Bool.and_eq_true,Bool.or_eq_true] at h;rcases List.mem_cons.mp hs with rfl | hs
  ·exact h.1
  ·exact YW h.2 s hs
theorem Zo{ops:Array Oper}:∀(l:List Oper) (os prev:List lM) (ms:List Nat) (i:Nat),ops.toList.drop i=l→ms.length=i→Df ops ms→Gh l os prev ms i=true→
  os.map (·.1)=List.range' i l.length∧(∀(t:Nat) o,i≤t→ops[t]? = some o→∀e∈o.after,Region.binds .any e=true→e.on < t)∧
   (∀t∈os,∀s∈prev,Ord ops t.1 s.1∨Ao s t=true)∧os.Pairwise (fun s t=>Ord ops t.1 s.1∨Ao s t=true)
 | [],os,prev,ms,i,hl,_,_,h=>by
  cases os with
  | cons s os=>simp[Gh] at h
  | nil=>
   refine⟨rfl,fun t o h1 h2=>?_,by simp,.nil⟩;have h3:=(Array.getElem?_eq_some_iff.mp h2).1;have h4:=List.drop_eq_nil_iff.mp hl;simp at h4;omega
 | o::l,os,prev,ms,i,hl,hms,hmo,h=>by
  cases os with
  | nil=>simp[Gh] at h
  | cons s os=>
   simp only[Gh,Bool.and_eq_true] at h;obtain⟨⟨⟨h1,h2⟩,h3⟩,h4⟩:=h;have hsi:s.1=i:=Nat.eq_of_beq_eq_true h3
   have hlt:i < ops.size:=by
    have:=congrArg List.length hl;simp at this;omega
   have ho:ops[i]? = some o:=by
    rw[List.drop_eq_getElem_cons (by simpa using hlt)] at hl;simp only[List.cons.injEq] at hl;rw[Array.getElem?_eq_getElem hlt,←hl.1];simp
   have hl2:ops.toList.drop (i+1)=l:=by
    rw[List.drop_eq_getElem_cons (by simpa using hlt)] at hl;simp only[List.cons.injEq] at hl;exact hl.2
   obtain⟨k1,k2,k3,k4⟩:=Zo l os (s::prev) (ms++[wS ms o]) (i+1) hl2 (by simp[hms]) (hmo.push (by rw[hms];exact ho)) h4;refine⟨by simp[k1,hsi,List.range'_succ],fun t o' ht hto e he hb=>?_,fun t ht q hq=>?_,List.pairwise_cons.mpr ⟨fun t ht=>k3 t ht s (by simp),k4⟩⟩
   ·by_cases hti:t=i
    ·subst hti
     rw[ho] at hto;cases hto;have:=(List.all_eq_true.mp h1) e (by simpa using he);simpa[hb] using this
    ·exact k2 t o' (by omega) hto e he hb
   ·rcases List.mem_cons.mp ht with rfl | ht
    ·rcases YW h2 q hq with h5 | h5
     ·left;rw[hsi];exact SC hmo ho _ h5
     ·exact .inr h5
    ·exact k3 t ht q (by simp[hq])
def Zqn(ops:Array Oper)(l:List lM):Bool:=Gh ops.toList l [] [] 0
theorem Zk1{P:Program}{n:Nat}{ops:Array Oper}{l:List lM}{id:Nat}{Q:Exit→AF→St→Prop}(hm:P.follows .mixedOrders=true)(hok:Zqn ops l=true)
  (hget:∀s∈l,∃o,ops[s.1]? = some o∧lC P n ops o=some s.2.1) {a:AF} {S:St}
  (h:lq P S.n l [] (fun a S=>Q .normal a S) a ⟨S.n+l.length,S.g⟩) {E:Env} {w:World} {act:Act} (hG:jd P E.H) (hS:aU E S w) (hF:dR E n a act):(Code.region id ops true).wp P (lD E S w n Q) act w:=by
 obtain⟨k1,k2,k3,k4⟩:=Zo (ops:=ops) ops.toList l [] [] 0 (by simp) rfl (fun i j h=>by simp at h) hok;have hlen:l.length=ops.size:=by have:=congrArg List.length k1;simpa using this
 have hi:∀k (hk:k < l.length),(l[k]).1=k:=by
  intro k hk;have h5:(l.map (·.1))[k]'(by simpa using hk)=(List.range' 0 ops.toList.length)[k]'(by simp;omega):=by simp only[k1]
  simpa using h5
 have hmem:∀s∈l,s.1 < ops.size:=by
  intro s hs;obtain⟨k,hk,e⟩:=List.mem_iff_getElem.mp hs;have:=hi k hk;rw[e] at this;omega
 refine wp_region_any hm ?_;refine Zgj (S0:=S) (base:=S.n) hG (Nat.le_refl _) (fun i o=>k2 i o (Nat.zero_le _)) ops.size l [] (Array.replicate ops.size false) a _ (by omega) h ?_ ?_ hmem (by simp) ?_ hget ?_ E _ act ((hS.drop S.g (fun _ _ e=>e) _ (by show S.n≤S.n+_;omega)).drew) hF ?_ ?_
 ·have h6:(l.map (·.1)).Pairwise (· < ·):=by rw[k1];exact List.pairwise_lt_range'
  exact List.pairwise_map.mp h6
 ·intro i hi'
  have:(Array.replicate ops.size false).getD i true=false:=by simp[Array.getD_eq_getD_getElem?,hi']
  simp only[this,true_iff];exact⟨l[i]'(by omega),List.getElem_mem _,hi i (by omega)⟩
 ·intro k o hk
  simp only[Array.getD_eq_getD_getElem?] at hk;by_cases hks:k < ops.size
  ·simp[hks] at hk
  ·simp[hks] at hk
 ·intro s hs t ht hlt
  obtain⟨k,hk,e1⟩:=List.mem_iff_getElem.mp hs;obtain⟨m,hm',e2⟩:=List.mem_iff_getElem.mp ht;have q1:=hi k hk;have q2:=hi m hm';rw[e1] at q1;rw[e2] at q2;have:=List.pairwise_iff_getElem.mp k4 k m hk hm' (by omega);rw[e1,e2] at this;exact this
 ·intro s hs
  have:=hmem s hs;exact⟨hS.fresh _ (by omega),by show S.n+s.1 < S.n+l.length;omega⟩
 ·exact⟨⟨rfl,rfl,rfl,Nat.le_refl _,fun _ _ _=>rfl,fun id l k hk hl=>.inr ⟨id,l,k,hk,hl,rfl⟩,Env.le_refl _,fun _ _ e=>.inl e⟩,by show S.n≤S.n+_;omega,fun _ _ e=>e⟩
def lH(P:Program)(f:FuncId)(args:List AV)(S:St)(K:AV→St→Prop)(X:Value→St→Prop):Prop:=
 qY P f∧∀E w vals,jd P E.H→aU E S w→jl E args vals→
  Calls P f vals w fun e w'=>∃S' E',aU E' S' w'∧Ev E S w E' S' w'∧((∃v r,e=.returned v∧K r S'∧aK E' r v)∨∃v,e=.panicked [{ v,recovered:=false }]∧X v S')
theorem lH.mono{P:Program}{f:FuncId}{args:List AV}{S:St}{K K':AV→St→Prop}{X X':Value→St→Prop}(h:lH P f args S K X)(hk:∀r S',K r S'→K' r S')(hx:∀v S',X v S'→X' v S'):lH P f args S K' X':=
 ⟨h.1,fun E w vals h0 h1 h2=>(h.2 E w vals h0 h1 h2).mono fun e w' ⟨S',E',a,b,c⟩=>⟨S',E',a,b,c.imp (fun⟨v,r,x,y,z⟩=>⟨v,r,x,hk _ _ y,z⟩) fun⟨v,x,y⟩=>⟨v,x,hx _ _ y⟩⟩⟩
theorem lH.Ew{P:Program}{f:FuncId}{args:List AV}{S:St}{K:AV→St→Prop}{X:Value→St→Prop}(h:aQ P f args S K):lH P f args S K X:=
 ⟨h.1,fun E w vals h0 h1 h2=>(h.2 E w vals h0 h1 h2).mono fun e w' ⟨v,r,S',E',a,b,c,d,f⟩=>⟨S',E',c,f,.inl ⟨v,r,a,b,d⟩⟩⟩
def pn(v:Value):Exit:=.panic [{ v,recovered:=false }]
def je(P:Program)(base:Nat)(p:Option aJ):List aT→Nat→(Exit→AF→St→Prop)→AF→St→Prop
 | [],_,Q,a,S=>match p with
  | none=>Q .normal a S
  | some x=>match x.ev a with
   | .v (.iface t y)=>Q (pn (.iface t y)) a S
   | _=>False
 | o::os,i,Q,a,S=>
  match gd o a with
  | none=>False
  | some false=>je P base p os (i+1) Q (a.put o.dst (.aL [])) S
  | some true=>match o.call with
   | some (G,xs)=>match G.ev a with
    | .aO f first cap=>lH P f (first++xs.map (·.ev a)++cap) S (fun r S'=>je P base p os (i+1) Q (a.put o.dst r) S') fun v S'=>Q (pn v) a S'
    | _=>False
   | none=>match (ex o.op a).run S (base+i) with
    | some (v,S')=>je P base p os (i+1) Q (a.put o.dst v) S'
    | none=>qF o.op a fun v=>je P base p os (i+1) Q (a.put o.dst v) S
theorem Jk{P:Program}{base:Nat}{p:Option aJ}:∀(os:List aT) (i:Nat) {Q Q':Exit→AF→St→Prop} {a:AF} {S:St},(∀e a S,Q e a S→Q' e a S)→je P base p os i Q a S→je P base p os i Q' a S
 | [],i,Q,Q',a,S,hk,h=>by
  cases p with
  | none=>exact hk _ _ _ h
  | some x=>
   simp only[je] at h ⊢;split at h
   ·exact hk _ _ _ h
   ·exact h.elim
 | o::os,i,Q,Q',a,S,hk,h=>by
  simp only[je] at h ⊢;split at h
  ·exact h.elim
  ·exact Jk os (i+1) hk h
  ·split at h
   ·split at h
    ·exact h.mono (fun r S' h'=>Jk os (i+1) hk h') fun v S' h'=>hk _ _ _ h'
    ·exact h.elim
   ·split at h
    ·exact Jk os (i+1) hk h
    ·exact Mw (fun v hv=>Jk os (i+1) hk hv) h
theorem Fu{P:Program}{base:Nat}{Q:Exit→AF→St→Prop}:∀(os:List aT) (i:Nat) {a:AF} {S:St},RG P base os i (fun a S=>Q .normal a S) a S→je P base none os i Q a S
 | [],i,a,S,h=>h
 | o::os,i,a,S,h=>by
  simp only[RG] at h;simp only[je];cases hg:gd o a with
  | none=>rw[hg] at h;exact h
  | some b=>
   rw[hg] at h;cases b with
   | false=>exact Fu os (i+1) h
   | true=>
    simp only at h ⊢;cases hc:o.call with
    | some p=>
     rw[hc] at h;obtain⟨G,xs⟩:=p;simp only at h ⊢;cases hG:G.ev a with
     | aO f first cap=>rw[hG] at h;exact .Ew (h.mono fun r S' h'=>Fu os (i+1) h')
     | _=>rw[hG] at h;exact h
    | none=>
     rw[hc] at h;simp only at h ⊢;cases hr:(ex o.op a).run S (base+i) with
     | some p=>rw[hr] at h;exact Fu os (i+1) h
     | none=>rw[hr] at h;exact Mw (fun v hv=>Fu os (i+1) hv) h
theorem Zhk{P:Program}{n:Nat}{o:Oper}{a:AF}{S:St}(hd:∀d,o.dst=some d→d < n){f:FuncId}{args:List AV}{K:AV→St→Prop}{X:Value→St→Prop}(h:lH P f args S K X)
  {E:Env} {w:World} {act:Act} (hG:jd P E.H) (hS:aU E S w) (hF:dR E n a act) {vals:Array Value} (hv:jl E args vals) (hrun:(execOp act.eval o).run P w=.ok (.enter f vals) w)
  {KK:Act→World→Prop} {Q:Exit→Act→World→Prop} (hK:∀r S' act' w' E',K r S'→aU E' S' w'→dR E' n (a.put o.dst r) act'→Ev E S w E' S' w'→KK act' w')
  (hX:∀v S' w' E',X v S'→aU E' S' w'→dR E' n a act→Ev E S w E' S' w'→Q (pn v) act w'):o.wp P act w KK Q:=by
 unfold Oper.wp;rw[hrun,Oper.upon_enter];refine(h.2 E w vals hG hS hv).mono ?_;rintro e w' ⟨S',E',hS',hev,⟨v,r,rfl,hk,hr⟩ | ⟨v,rfl,hx⟩⟩
 ·exact hK r S' _ w' E' hk hS' ((hF.mono hev.bL.le).put hd hr) hev
 ·exact hX v S' w' E' hx hS' (hF.mono hev.bL.le) hev
theorem SG{P:Program}{n:Nat}{ops:Array Oper}{base:Nat}{p:Option aJ}{Q:Exit→AF→St→Prop}{E0:Env}{S0:St}{w0:World}(hG0:jd P E0.H)(hb:S0.n≤base) :
  ∀(os:List aT) (i:Nat) (a:AF) (S:St),(∀k (hk:k < os.length),∃o,ops[i+k]? = some o∧lC P n ops o=some (os[k]))→
   (∀X,p=some X→∃o x,ops[i+os.length]? = some o∧o.op=.panic x∧aS x=some X∧o.guard=none)→je P base p os i Q a S→
   ∀E w act,aU E S w→dR E n a act→(∀k,i≤k→k < i+os.length→E.ρ (base+k)=none∧base+k < S.n)→Ev E0 S0 w0 E S w→
    wpOps P ops (lD E0 S0 w0 n Q) (List.range' i (os.length+p.toList.length)) act w
 | [],i,a,S,_,ht,h,E,w,act,hS,hF,_,hE=>by
  cases p with
  | none=>exact⟨a,S,E,h,hS,hF,hE⟩
  | some X=>
   obtain⟨o,x,ho,hop,hx,hg⟩:=ht X rfl;simp only[je] at h;simp only[List.length_nil,Nat.zero_add,Option.toList_some,List.length_cons,List.range'_succ,List.range'_zero,wpOps];simp only[List.length_nil,Nat.add_zero] at ho;rw[ho];simp only[Region.wanted,hg];split at h
   ·rename_i t y hxe
    have rx:=bH hF hx;rw[hxe] at rx;have e:=rx.iQ;rw[if_pos trivial];left;unfold Oper.wp
    have hrun:(execOp act.eval o).run P w=.halt (.panic (.iface t y)) w:=by
     simp only[execOp,hop,e,Instr.panic];rfl
    rw[hrun,Oper.upon_panic];exact⟨a,S,E,h,hS,hF,hE⟩
   ·exact h.elim
 | ao::os,i,a,S,hc,ht,h,E,w,act,hS,hF,hr,hE=>by
  obtain⟨o,ho,hco⟩:=hc 0 (by simp);simp only[Nat.add_zero,List.getElem_cons_zero] at ho hco;obtain⟨hd,hdst,hgd,hor⟩:=Da hco
  have hc':∀k (hk:k < os.length),∃o,ops[i+1+k]? = some o∧lC P n ops o=some (os[k]):=by
   intro k hk;obtain⟨o',h1,h2⟩:=hc (k+1) (by simpa using hk);exact⟨o',by rw[←h1];congr 1;omega,by simpa using h2⟩
  have ht':∀X,p=some X→∃o x,ops[i+1+os.length]? = some o∧o.op=.panic x∧aS x=some X∧o.guard=none:=by
   intro X hX;obtain⟨o',x,h1,h2⟩:=ht X hX;refine⟨o',x,?_,h2⟩;rw[←h1];congr 1;simp only[List.length_cons];omega
  have hr0:=hr i (Nat.le_refl _) (by simp);have hlen:(ao::os).length+p.toList.length=(os.length+p.toList.length)+1:=by simp only[List.length_cons];omega
  rw[hlen];simp only[List.range'_succ,wpOps,ho];simp only[je] at h;split at h
  ·exact h.elim
  ·rename_i hg
   rw[xM hF hgd hg];simp only[Bool.false_eq_true,if_false];rw[hdst] at h;exact SG hG0 hb os (i+1) _ S hc' ht' h E w _ hS (hF.put hd Je) (fun k h1 h2=>hr k (by omega) (by simp;omega)) hE
  ·rename_i hg
   rw[xM hF hgd hg];simp only[if_true];left;rw[hdst] at h
   have next:∀{r:AV} {S':St} {act':Act} {w':World} {E':Env},je P base p os (i+1) Q (a.put o.dst r) S'→aU E' S' w'→dR E' n (a.put o.dst r) act'→Ev E0 S0 w0 E' S' w'→
     (∀k,i < k→k < i+(os.length+1)→E'.ρ (base+k)=none∧base+k < S'.n)→wpOps P ops (lD E0 S0 w0 n Q) (List.range' (i+1) (os.length+p.toList.length)) act' w':=
    fun h1 h2 h3 h4 h5=>SG hG0 hb os (i+1) _ _ hc' ht' h1 _ _ _ h2 h3 (fun k a1 a2=>h5 k (by omega) (by omega)) h4
   have hcall:∀{f:FuncId} {args:List AV} {vals:Array Value},lH P f args S (fun r S'=>je P base p os (i+1) Q (a.put o.dst r) S') (fun v S'=>Q (pn v) a S')→jl E args vals→
     (execOp act.eval o).run P w=.ok (.enter f vals) w→o.wp P act w (wpOps P ops (lD E0 S0 w0 n Q) (List.range' (i+1) (os.length+p.toList.length))) (lD E0 S0 w0 n Q):=by
    intro f args vals h1 h2 h3;refine Zhk hd h1 (hG0.le hE.bL.le) hS hF h2 h3 (fun r S' act' w' E' k1 k2 k3 k4=>next k1 k2 k3 (hE.trans k4) fun k a1 a2=>?_) (fun v S' w' E' k1 k2 k3 k4=>⟨a,S',E',k1,k2,k3,hE.trans k4⟩);obtain⟨b1,b2⟩:=hr k (by omega) (by simp;omega);exact⟨k4.low _ b2 b1,Nat.lt_of_lt_of_le b2 k4.jg⟩
   rcases hor with⟨q,hp1,hp2⟩ | ⟨hp1,hop⟩
   ·
    rw[hp1] at h;obtain⟨G,xs⟩:=q;simp only at h;unfold AA at hp2;split at hp2
    ·rename_i g ys ts uO
     simp only[Option.bind_eq_some_iff,Option.map_eq_some_iff,Prod.mk.injEq] at hp2;obtain⟨G',hG,XS,yI,rfl,rfl⟩:=hp2;have rg:=bH hF hG;split at h
     ·rename_i f first cap yK
      rw[yK] at rg;generalize hev:act.eval g=gv at rg;cases rg with
      | aO _ _ _ fv cv hn hm hf hcc=>
       have hx:=Fe hF yI;have hargs:jl E (first++XS.map (·.ev a)++cap) (fv++ys.map act.eval++cv):=(jl.append ⟨hn,hf⟩ hx).append ⟨hm,hcc⟩;refine hcall h hargs ?_;simp only[execOp,uO,Sem.run_bind,CU act.eval g ys ts o.type hev,Result.andThen_ok,invoke];exact CW h.1 _ _
     ·exact h.elim
    ·cases hp2
   ·rw[hp1] at h
    simp only at h;split at h
    ·rename_i v S' hex
     have hok:=Gc (P:=P) (n:=n) (o:=o) hd hop hex;have hn:=Eff.LP hex;refine hok E w act hS hF hr0.1 hr0.2 _ _ fun act' w' E' k1 k2 k3 k4=>next h k1 k2 ⟨hE.bL.trans k3,by have:=hE.jg;omega,fun id hid e=>k4.2 id (by omega) (hE.low id hid e)⟩ fun k a1 a2=>?_
     ·obtain⟨b1,b2⟩:=hr k (by omega) (by simp;omega)
      exact⟨k4.2 _ (by omega) b1,by omega⟩
    ·obtain⟨b,g1,g2⟩:=Nf hop h hF w
     unfold Oper.wp;rw[g2,Oper.upon_value];exact next g1 hS (hF.put hd (.v _ rfl)) hE fun k a1 a2=>hr k (by omega) (by simp;omega)
inductive AC where
 | skip
 | reg (draw:Option (List (List Bool))) (os:List aT)
 | xC (l:List lM)
 | seq (x y:AC)
 | cond (c:aJ) (x y:AC)
 | block (id:Nat) (x:AC)
 | loop (x:AC)
 | exit (id:Nat)
 | ret
 | scp (x:AC)
 | kL (os:List aT) (p:Option aJ)
 | bad
abbrev sq(os:List aT)(x:AC):AC:=.seq (.reg none os) x
def Zqs:List Bool→List Bool
 | []=>[]
 | b::bs=>match b,Zqs bs with
  | false,[]=>[]
  | b,bs=>b::bs
def Zqt:List (List Bool)→List (List Bool)
 | []=>[]
 | b::bs=>match b,Zqt bs with
  | [],[]=>[]
  | b,bs=>b::bs
def ZrO:List Oper→List aT→List (Nat×aT)→List Nat→Nat→List (List Bool)
 | o::ops,s::os,prev,ms,i=>Zqs (prev.map fun p=>!(uZ p.2 && uZ s) && !(wS ms o).testBit p.1)::ZrO ops os ((i,s)::prev) (ms++[wS ms o]) (i+1)
 | _,_,_,_,_=>[]
def ZrT(ops:Array Oper)(os:List aT):List (List Bool):=Zqt (ZrO ops.toList os [] [] 0)
def BS(draw:Bool)(ops:Array Oper)(os:List aT):Option (Option (List (List Bool))×List aT):=
 if draw=true then (if NC ops os (ZrT ops os)=true then some (some (ZrT ops os),os) else none) else some (none,os)
def Am:Option (Option (List (List Bool))×List aT)→AC
 | some p=>.reg p.1 p.2
 | none=>.bad
def dL(R:Program→Nat→Bool→Array Oper→AC)(P:Program)(n:Nat):Code→Option AC
 | .skip=>some .skip
 | .region _ ops draw=>some (R P n draw ops)
 | .seq x y=>(dL R P n x).bind fun X=>(dL R P n y).map fun Y=>.seq X Y
 | .cond c x y=>(aS c).bind fun C=>(dL R P n x).bind fun X=>(dL R P n y).map fun Y=>.cond C X Y
 | .block id x=>(dL R P n x).map (.block id)
 | .loop x=>(dL R P n x).map .loop
 | .exit id=>some (.exit id)
 | .ret=>some .ret
 | .label _=>some .skip
 | .scope x=>(dL R P n x).map .scp
 | _=>some .bad
def tZ(P:Program)(n:Nat)(draw:Bool)(ops:Array Oper):AC:=Am ((ops.toList.mapM (lC P n ops)).bind (BS draw ops))
def comp(P:Program)(n:Nat)(c:Code):Option AC:=dL tZ P n c
def GI(P:Program)(n:Nat)(draw:Bool)(ops:Array Oper):AC:= if draw=true then (match ops.toList.mapM (lC P n ops) with | some os=>if Zqn ops (Du ops.toList os [] [] 0)=true then .xC (Du ops.toList os [] [] 0) else tZ P n draw ops | none=>tZ P n draw ops) else tZ P n draw ops
def NZ(P:Program)(n:Nat)(c:Code):Option AC:=dL GI P n c
def zn(P:Program)(n:Nat)(ops:Array Oper):List Oper→AC
 | []=>.bad
 | o::rest=>match o.op,o.guard with
  | .panic x,none=>match aS x,rest.reverse.mapM (lC P n ops) with
   | some X,some os=>.kL os (some X)
   | _,_=>.bad
  | _,_=>.bad
def kL(P:Program)(n:Nat)(draw:Bool)(ops:Array Oper):AC:= if draw=true then GI P n draw ops else match ops.toList.mapM (lC P n ops) with | some os=>if os.any (fun o=>o.call.isSome)=true then .kL os none else .reg none os | none=>zn P n ops ops.toList.reverse
def vS(P:Program)(n:Nat)(c:Code):Option AC:=dL kL P n c
def iW(K:AF→St→Prop)(Q:Exit→AF→St→Prop):Exit→AF→St→Prop
 | .normal,a,S=>K a S
 | e,a,S=>Q e a S
def kE(id:Nat)(Q:Exit→AF→St→Prop):Exit→AF→St→Prop
 | .exit id',a,S=>if id'=id then Q .normal a S else Q (.exit id') a S
 | e,a,S=>Q e a S
def vg(Q:Exit→AF→St→Prop):Exit→AF→St→Prop
 | .goto _,_,_=>False
 | e,a,S=>Q e a S
def AW(P:Program):AC→(Exit→AF→St→Prop)→AF→St→Prop
 | .skip,Q,a,S=>Q .normal a S
 | .reg none os,Q,a,S=>RG P S.n os 0 (fun a S=>Q .normal a S) a ⟨S.n+os.length,S.g⟩
 | .reg (some fr) os,Q,a,S=>RD P S.n os fr 0 [] (fun a S=>Q .normal a S) a ⟨S.n+os.length,S.g⟩
 | .xC l,Q,a,S=>lq P S.n l [] (fun a S=>Q .normal a S) a ⟨S.n+l.length,S.g⟩
 | .kL os p,Q,a,S=>je P S.n p os 0 Q a ⟨S.n+os.length,S.g⟩
 | .seq x y,Q,a,S=>AW P x (iW (AW P y Q) Q) a S
 | .cond c x y,Q,a,S=>match c.ev a with
  | .v (.bool b)=>if b=true then AW P x Q a S else AW P y Q a S
  | _=>False
 | .block id x,Q,a,S=>AW P x (kE id Q) a S
 | .loop x,Q,a,S=>∃I:Nat→AF→St→Prop,(∃m,I m a S)∧∀m a S,I m a S→AW P x (iW (fun a' S'=>∃m',m' < m∧I m' a' S') Q) a S
 | .exit id,Q,a,S=>Q (.exit id) a S
 | .ret,Q,a,S=>Q .ret a S
 | .scp x,Q,a,S=>AW P x (vg Q) a S
 | .bad,_,_,_=>False
theorem y8{α β:Type}{f:α→Option β}:∀{l:List α} {ys:List β},l.mapM f=some ys→ys.length=l.length∧∀k (hk:k < ys.length),∃x,l[k]? = some x∧f x=some (ys[k])
 | [],ys,h=>by simp at h;subst h;simp
 | x::l,ys,h=>by
  simp only[List.mapM_cons,Option.bind_eq_bind,Option.bind_eq_some_iff,Option.pure_def,Option.some.injEq] at h;obtain⟨y,hy,zs,hz,rfl⟩:=h;obtain⟨h1,h2⟩:=y8 hz;refine⟨by simp[h1],fun k hk=>?_⟩;cases k with
  | zero=>exact⟨x,rfl,hy⟩
  | succ k=>simpa using h2 k (by simpa using hk)
theorem aU.reserve{E:Env}{S:St}{w:World}(h:aU E S w)(m:Nat):aU E ⟨S.n+m,S.g⟩ w:=h.drop S.g (fun _ _ e=>e) _ (by omega)
theorem lD.mono{E0:Env}{S0:St}{w0:World}{n:Nat}{Q Q':Exit→AF→St→Prop}(hq:∀e a S,Q e a S→Q' e a S){e:Exit}{act:Act}{w:World}(k:lD E0 S0 w0 n Q e act w):lD E0 S0 w0 n Q' e act w:=
 let ⟨a,S,E,h1,h2⟩:=k;⟨a,S,E,hq _ _ _ h1,h2⟩
def Dt(P:Program)(n:Nat)(R:Program→Nat→Bool→Array Oper→AC):Prop:=
 ∀(id:Nat) (ops:Array Oper) (draw:Bool) (Q:Exit→AF→St→Prop) (a:AF) (S:St),AW P (R P n draw ops) Q a S→Hz P n (.region id ops draw) Q a S
theorem zW{P:Program}(hm:P.follows .mixedOrders=true){n:Nat}:Dt P n tZ:=by
 intro id ops dr Q a S h E w act hG hS hF;unfold tZ at h;cases hq:(ops.toList.mapM (lC P n ops)).bind (BS dr ops) with
 | none=>rw[hq] at h;simp only[Am,AW] at h
 | some p=>
  rw[hq] at h;simp only[Am] at h;simp only[Option.bind_eq_some_iff] at hq;obtain⟨ys,hy,hc⟩:=hq;obtain⟨h1,h2⟩:=y8 hy;have hlen:ys.length=ops.size:=by rw[h1];simp
  obtain⟨draw,os⟩:=p;unfold BS at hc;split at hc
  ·rename_i hdr
   subst hdr;split at hc
   ·rename_i hok
    simp only[Option.some.injEq,Prod.mk.injEq] at hc;obtain⟨rfl,rfl⟩:=hc;simp only[AW] at h;exact Zhu hm hy hok ⟨hlen,fun k hk=>by obtain⟨o,a1,a2⟩:=h2 k hk;exact⟨o,by simpa using a1,a2⟩⟩ h hG hS hF
   ·cases hc
  ·rename_i hdr
   simp only[Bool.not_eq_true] at hdr;subst hdr;simp only[Option.some.injEq,Prod.mk.injEq] at hc;obtain⟨rfl,rfl⟩:=hc;simp only[AW] at h;refine wp_region ?_
   have:=TA (P:=P) (n:=n) (ops:=ops) (base:=S.n) (E0:=E) (S0:=S) (w0:=w) hG (Nat.le_refl _) ys 0 a ⟨S.n+ys.length,S.g⟩ (fun k hk=>by
    obtain⟨o,a1,a2⟩:=h2 k hk;exact⟨o,by rw[Nat.zero_add];simpa using a1,a2⟩) h E w act (hS.drop S.g (fun _ _ e=>e) _ (by show S.n≤S.n+_;omega)) hF (fun k _ hk=>⟨hS.fresh _ (by omega),by show S.n+k < S.n+ys.length;omega⟩)
    ⟨⟨rfl,rfl,rfl,Nat.le_refl _,fun _ _ _=>rfl,fun id l k hk hl=>.inr ⟨id,l,k,hk,hl,rfl⟩,Env.le_refl _,fun _ _ e=>.inl e⟩,by show S.n≤S.n+_;omega,fun _ _ e=>e⟩
   rw[List.range_eq_range',←hlen];exact this
theorem Zk{ops:Array Oper}{os0:List aT}{f:Oper→Option aT}(hos:∀k (hk:k < os0.length),∃o,ops[k]? = some o∧f o=some os0[k]):∀(l:List Oper) (os:List aT) (prev:List lM) (ms:List Nat) (i:Nat),os0.drop i=os→∀s∈Du l os prev ms i,∃o,ops[s.1]? = some o∧f o=some s.2.1
 | [],os,prev,ms,i,_,s,hs=>by simp[Du] at hs
 | o::l,[],prev,ms,i,_,s,hs=>by simp[Du] at hs
 | o::l,x::os,prev,ms,i,hd,s,hs=>by
  have hi:i < os0.length:=by
   have:=congrArg List.length hd;simp at this;omega
  rw[List.drop_eq_getElem_cons hi] at hd;simp only[List.cons.injEq] at hd;simp only[Du,List.mem_cons] at hs;rcases hs with rfl | hs
  ·obtain⟨o',h1,h2⟩:=hos i hi
   exact⟨o',h1,by rw[h2,hd.1]⟩
  ·exact Zk hos l os _ _ (i+1) hd.2 s hs
theorem Ue{P:Program}(hm:P.follows .mixedOrders=true){n:Nat}:Dt P n GI:=by
 intro id ops dr Q a S h E w act hG hS hF;unfold GI at h;split at h
 ·rename_i hdr
  split at h
  ·rename_i os hos
   split at h
   ·rename_i hok
    subst hdr;obtain⟨h1,h2⟩:=y8 hos;simp only[AW] at h;exact Zk1 hm hok (Zk (fun k hk=>by obtain⟨o,a1,a2⟩:=h2 k hk;exact⟨o,by simpa using a1,a2⟩) _ _ _ _ 0 (by simp)) h hG hS hF
   ·exact zW hm id ops dr Q a S h E w act hG hS hF
  ·exact zW hm id ops dr Q a S h E w act hG hS hF
 ·exact zW hm id ops dr Q a S h E w act hG hS hF
theorem Jh{P:Program}{n id:Nat}{ops:Array Oper}{Q:Exit→AF→St→Prop}{a:AF}{S:St}{os:List aT}{p:Option aJ}(hc:∀k (hk:k < os.length),∃o,ops[k]? = some o∧lC P n ops o=some (os[k]))
  (ht:∀X,p=some X→∃o x,ops[os.length]? = some o∧o.op=.panic x∧aS x=some X∧o.guard=none) (hs:ops.size=os.length+p.toList.length)
  (h:je P S.n p os 0 Q a ⟨S.n+os.length,S.g⟩) {E:Env} {w:World} {act:Act} (hG:jd P E.H) (hS:aU E S w) (hF:dR E n a act):wpOps P ops (lD E S w n Q) (List.range ops.size) act w:=by
 rw[List.range_eq_range',hs]
 exact SG (P:=P) (n:=n) (ops:=ops) (base:=S.n) (E0:=E) (S0:=S) (w0:=w) hG (Nat.le_refl _) os 0 a ⟨S.n+os.length,S.g⟩ (fun k hk=>by rw[Nat.zero_add];exact hc k hk) (fun X hX=>by rw[Nat.zero_add];exact ht X hX) h E w act
  (hS.drop S.g (fun _ _ e=>e) _ (by show S.n≤S.n+_;omega)) hF (fun k _ hk=>⟨hS.fresh _ (by omega),by show S.n+k < S.n+os.length;omega⟩)
  ⟨⟨rfl,rfl,rfl,Nat.le_refl _,fun _ _ _=>rfl,fun id l k hk hl=>.inr ⟨id,l,k,hk,hl,rfl⟩,Env.le_refl _,fun _ _ e=>.inl e⟩,by show S.n≤S.n+_;omega,fun _ _ e=>e⟩
structure XIs(P:Program)(n:Nat)(ops:Array Oper)(os:List aT)(p:Option aJ):Prop where
 hc:∀k (hk:k < os.length),∃o,ops[k]? = some o∧lC P n ops o=some (os[k])
 ht:∀X,p=some X→∃o x,ops[os.length]? = some o∧o.op=.panic x∧aS x=some X∧o.guard=none
 hs:ops.size=os.length+p.toList.length
theorem Zt{P:Program}{n:Nat}{ops:Array Oper}{os:List aT}{p:Option aJ}(h:zn P n ops ops.toList.reverse=.kL os p):XIs P n ops os p:=by
 cases hr:ops.toList.reverse with
 | nil=>rw[hr] at h;simp[zn] at h
 | cons o rest=>
  rw[hr] at h;simp only[zn] at h;split at h
  ·rename_i x hop hg
   split at h
   ·rename_i X os' hX hos
    simp only[AC.kL.injEq] at h;obtain⟨rfl,rfl⟩:=h
    have hl:ops.toList=rest.reverse++[o]:=by
     have:=congrArg List.reverse hr;simpa using this
    obtain⟨h1,h2⟩:=y8 hos;have hget:∀k,ops[k]? = (rest.reverse++[o])[k]?:=fun k=>by rw[←hl,Array.getElem?_toList]
    refine⟨fun k hk=>?_,fun X' hX'=>?_,?_⟩
    ·obtain⟨o',a1,a2⟩:=h2 k hk
     refine⟨o',?_,a2⟩;rw[hget,List.getElem?_append_left (by omega)];exact a1
    ·cases hX'
     refine⟨o,x,?_,hop,hX,hg⟩;rw[hget,List.getElem?_append_right (by omega),h1];simp
    ·have:=congrArg List.length hl
     simp at this ⊢;rw[h1];simpa using this
   ·cases h
  ·cases h
theorem Zov{P:Program}(hm:P.follows .mixedOrders=true){n:Nat}:Dt P n kL:=by
 intro id ops dr Q a S h E w act hG hS hF;unfold kL at h;split at h
 ·rename_i hdr
  subst hdr;exact Ue hm id ops true Q a S h E w act hG hS hF
 ·rename_i hdr
  simp only[Bool.not_eq_true] at hdr;subst hdr;split at h
  ·rename_i os hos
   obtain⟨h1,h2⟩:=y8 hos;split at h
   ·simp only[AW] at h
    exact wp_region (Jh (id:=id) (p:=none) (fun k hk=>by obtain⟨o,a1,a2⟩:=h2 k hk;exact⟨o,by simpa using a1,a2⟩) (fun _ e=>by cases e) (by rw[h1];simp) h hG hS hF)
   ·refine zW hm id ops false Q a S ?_ E w act hG hS hF
    simp only[tZ,hos,Option.bind_some,BS,Bool.false_eq_true,if_false,Am];exact h
  ·cases hl:zn P n ops ops.toList.reverse with
   | kL os p=>
    rw[hl] at h;have x:=Zt hl;simp only[AW] at h;exact wp_region (Jh (id:=id) x.hc x.ht x.hs h hG hS hF)
   | bad=>rw[hl] at h;simp only[AW] at h
   | _=>
    exfalso;cases hr:ops.toList.reverse with
    | nil=>rw[hr] at hl;simp[zn] at hl
    | cons o rest=>
     rw[hr] at hl;simp only[zn] at hl;split at hl<;>(try split at hl)<;>cases hl
theorem Fh{R:Program→Nat→Bool→Array Oper→AC}{P:Program}{n id:Nat}{ops:Array Oper}{draw:Bool}{ac:AC}(h:dL R P n (.region id ops draw)=some ac):ac=R P n draw ops:=by
 simp only[dL,Option.some.injEq] at h;exact h.symm
theorem Sz{P:Program}(hm:P.follows .mixedOrders=true){n:Nat}{R:Program→Nat→Bool→Array Oper→AC}(hR:Dt P n R):∀(c:Code) (ac:AC),dL R P n c=some ac→∀(Q:Exit→AF→St→Prop) (a:AF) (S:St),AW P ac Q a S→Hz P n c Q a S:=by
 intro c;induction c with
 | skip=>
  intro ac hc Q a S h E w act hG hS hF;simp only[dL,Option.some.injEq] at hc;subst hc;exact wp_skip ⟨a,S,E,h,hS,hF,.refl _ _ _⟩
 | label l=>
  intro ac hc Q a S h E w act hG hS hF;simp only[dL,Option.some.injEq] at hc;subst hc;exact wp_label ⟨a,S,E,h,hS,hF,.refl _ _ _⟩
 | region id ops dr=>
  intro ac hc Q a S h;rw[Fh hc] at h;exact hR id ops dr Q a S h
 | seq c1 c2 dU ihy=>
  intro ac hc Q a S h E w act hG hS hF;simp only[dL,Option.map_eq_some_iff,Option.bind_eq_some_iff] at hc;obtain⟨X,hX,Y,hY,rfl⟩:=hc;simp only[AW] at h;refine wp_seq (wp_mono (dU X hX _ a S h E w act hG hS hF) fun e act' w' hp=>?_);obtain⟨a',S',E',q,s,r,ev⟩:=hp;cases e with
  | normal=>exact wp_mono (ihy Y hY Q a' S' q E' w' act' (hG.le ev.bL.le) s r) fun e iR w2 hp2=>hp2.trans ev
  | _=>exact⟨a',S',E',q,s,r,ev⟩
 | cond c0 c1 c2 dU ihy=>
  intro ac hc Q a S h E w act hG hS hF;simp only[dL,Option.map_eq_some_iff,Option.bind_eq_some_iff] at hc;obtain⟨C',hC,X,hX,Y,hY,rfl⟩:=hc;simp only[AW] at h;split at h
  ·rename_i b hb
   have r:=bH hF hC;rw[hb] at r;refine wp_cond (t:=b) r.iQ ?_;cases b with
   | true=>exact dU X hX Q a S (by simpa using h) E w act hG hS hF
   | false=>exact ihy Y hY Q a S (by simpa using h) E w act hG hS hF
  ·exact h.elim
 | block id' c1 dU=>
  intro ac hc Q a S h E w act hG hS hF;simp only[dL,Option.map_eq_some_iff] at hc;obtain⟨X,hX,rfl⟩:=hc;simp only[AW] at h;refine wp_block (wp_mono (dU X hX _ a S h E w act hG hS hF) fun e act' w' hp=>?_);obtain⟨a',S',E',q,s,r,ev⟩:=hp;cases e with
  | exit j=>
   simp only[kE] at q;simp only[Exit.inBlock];split at q
   ·rename_i hj;rw[if_pos hj];exact⟨a',S',E',q,s,r,ev⟩
   ·rename_i hj;rw[if_neg hj];exact⟨a',S',E',q,s,r,ev⟩
  | _=>exact⟨a',S',E',q,s,r,ev⟩
 | loop c1 dU=>
  intro ac hc Q a S h E w act hG hS hF;simp only[dL,Option.map_eq_some_iff] at hc;obtain⟨X,hX,rfl⟩:=hc;simp only[AW] at h;obtain⟨I,⟨m0,hI0⟩,KD⟩:=h;intro b k cs
  have key:∀m,∀a S E' w' act',jd P E'.H→I m a S→aU E' S w'→dR E' n a act'→Ev E (⟨S.n,S.g⟩:St) w' E' S w'∨True→
    ∃e a' w2,lD E' S w' n Q e a' w2∧Arrives P (lone (b.at act' (.code c1::.inLoop c1::k)) cs w') b k cs e a' w2:=by
   intro m;induction m using Nat.strongRecOn with
   | _ m ih=>
    intro a S E' w' act' hG' hI hS' hF' _;obtain⟨e,oH,w1,hp,harr⟩:=dU X hX _ a S (KD m a S hI) E' w' act' hG' hS' hF' b (.inLoop c1::k) cs;obtain⟨a1,S1,E1,q,s,r,ev⟩:=hp;cases e with
    | normal=>
     obtain⟨m',hlt,hI'⟩:=q;obtain⟨e2,iR,w2,hp2,Kn⟩:=ih m' hlt a1 S1 E1 w1 oH (hG'.le ev.bL.le) hI' s r (.inr trivial);exact⟨e2,iR,w2,hp2.trans ev,.of_steps (Steps.trans harr (.one step_inLoop)) Kn⟩
    | exit id=>exact⟨_,oH,w1,⟨a1,S1,E1,q,s,r,ev⟩,.pass (x:=.inLoop c1) rfl (fun _ _=>.inl (by simp)) harr⟩
    | goto l=>exact⟨_,oH,w1,⟨a1,S1,E1,q,s,r,ev⟩,.pass (x:=.inLoop c1) rfl (fun _ _=>.inl (by simp)) harr⟩
    | ret=>exact⟨_,oH,w1,⟨a1,S1,E1,q,s,r,ev⟩,.pass (x:=.inLoop c1) rfl (fun _ _=>.inl (by simp)) harr⟩
    | panic ch=>exact⟨_,oH,w1,⟨a1,S1,E1,q,s,r,ev⟩,.pass (x:=.inLoop c1) rfl (fun _ _=>.inl (by simp)) harr⟩
    | outgrown=>exact⟨_,oH,w1,⟨a1,S1,E1,q,s,r,ev⟩,.pass (x:=.inLoop c1) rfl (fun _ _=>.inl (by simp)) harr⟩
  obtain⟨e,a',w',hp,harr⟩:=key m0 a S E w act hG hI0 hS hF (.inr trivial);exact⟨e,a',w',hp,.of_steps (.one step_loop) harr⟩
 | exit id=>
  intro ac hc Q a S h E w act hG hS hF;simp only[dL,Option.some.injEq] at hc;subst hc;exact wp_exit ⟨a,S,E,h,hS,hF,.refl _ _ _⟩
 | ret=>
  intro ac hc Q a S h E w act hG hS hF;simp only[dL,Option.some.injEq] at hc;subst hc;exact wp_ret ⟨a,S,E,h,hS,hF,.refl _ _ _⟩
 | scope c1 dU=>
  intro ac hc Q a S h E w act hG hS hF;simp only[dL,Option.map_eq_some_iff] at hc;obtain⟨X,hX,rfl⟩:=hc;simp only[AW] at h;refine wp_scope_straight (wp_mono (dU X hX _ a S h E w act hG hS hF) fun e act' w' hp=>?_);obtain⟨a',S',E',q,s,r,ev⟩:=hp;cases e with
  | goto l=>exact q
  | _=>exact⟨a',S',E',q,s,r,ev⟩
 | _=>
  intro ac hc Q a S h;simp only[dL,Option.some.injEq] at hc;subst hc;simp only[AW] at h
theorem Tn{P:Program}(hm:P.follows .mixedOrders=true){n:Nat}(ac:AC)(c:Code)(h:comp P n c=some ac):∀(Q:Exit→AF→St→Prop) (a:AF) (S:St),AW P ac Q a S→Hz P n c Q a S:=Sz hm (zW hm) c ac h
theorem SI{P:Program}(hm:P.follows .mixedOrders=true){n:Nat}(ac:AC)(c:Code)(h:vS P n c=some ac):∀(Q:Exit→AF→St→Prop) (a:AF) (S:St),AW P ac Q a S→Hz P n c Q a S:=Sz hm (Zov hm) c ac h
theorem Zid{P:Program}(hm:P.follows .mixedOrders=true){n:Nat}(ac:AC)(c:Code)(h:NZ P n c=some ac):∀(Q:Exit→AF→St→Prop) (a:AF) (S:St),AW P ac Q a S→Hz P n c Q a S:=Sz hm (Ue hm) c ac h
theorem Jm{P:Program}{base:Nat}:∀(os:List aT) (i:Nat) {K K':AF→St→Prop} {a:AF} {S:St},(∀a S,K a S→K' a S)→RG P base os i K a S→RG P base os i K' a S
 | [],i,K,K',a,S,hk,h=>hk _ _ h
 | o::os,i,K,K',a,S,hk,h=>by
  simp only[RG] at h ⊢;split at h
  ·exact h.elim
  ·rename_i hg;exact Jm os (i+1) hk h
  ·rename_i hg
   split at h
   ·rename_i G xs hc
    split at h
    ·rename_i f first cap hG
     exact h.mono fun r S' h'=>Jm os (i+1) hk h'
    ·exact h.elim
   ·rename_i hc
    split at h
    ·rename_i v S' hr;exact Jm os (i+1) hk h
    ·exact Mw (fun v hv=>Jm os (i+1) hk hv) h
theorem M7{P:Program}{base:Nat}:∀(os:List aT) (fr:List (List Bool)) (i:Nat) (T:List (List Nat×List Nat)) {K K':AF→St→Prop} {a:AF} {S:St},(∀a S,K a S→K' a S)→RD P base os fr i T K a S→RD P base os fr i T K' a S
 | [],fr,i,T,K,K',a,S,hk,h=>hk _ _ h
 | o::os,fr,i,T,K,K',a,S,hk,h=>by
  simp only[RD] at h ⊢;split at h
  ·exact h.elim
  ·rename_i hg;exact M7 os _ (i+1) _ hk h
  ·rename_i hg
   split at h
   ·rename_i G xs hc
    split at h
    ·rename_i f first cap hG
     obtain⟨r,F,h1,h2,h3⟩:=h;exact⟨r,F,h1,h2,M7 os _ (i+1) _ hk h3⟩
    ·exact h.elim
   ·rename_i hc
    split at h
    ·rename_i v S' F W hr;exact⟨h.1,M7 os _ (i+1) _ hk h.2⟩
    ·exact h.elim
theorem xQ{P:Program}:∀(ac:AC) {Q Q':Exit→AF→St→Prop} {a:AF} {S:St},(∀e a S,Q e a S→Q' e a S)→AW P ac Q a S→AW P ac Q' a S:=by
 intro ac;induction ac with
 | skip=>intro Q Q' a S hq h;exact hq _ _ _ h
 | reg d os=>
  intro Q Q' a S hq h;cases d with
  | none=>exact Jm os 0 (fun a S h=>hq _ _ _ h) h
  | some fr=>exact M7 os fr 0 [] (fun a S h=>hq _ _ _ h) h
 | xC l=>
  intro Q Q' a S hq h;exact ZU l (fun a S h=>hq _ _ _ h) h
 | kL os p=>
  intro Q Q' a S hq h;exact Jk os 0 hq h
 | seq x y dU ihy=>
  intro Q Q' a S hq h;refine dU (Q:=iW (AW P y Q) Q) (fun e a S h=>?_) h;cases e with
  | normal=>exact ihy hq h
  | _=>exact hq _ _ _ h
 | cond c x y dU ihy=>
  intro Q Q' a S hq h;simp only[AW] at h ⊢;split at h
  ·rename_i b hb
   split at h
   ·rename_i hbt;rw[if_pos hbt];exact dU hq h
   ·rename_i hbt;rw[if_neg hbt];exact ihy hq h
  ·exact h.elim
 | block id x dU=>
  intro Q Q' a S hq h;refine dU (Q:=kE id Q) (fun e a S h=>?_) h;cases e with
  | exit j=>
   simp only[kE] at h ⊢;split at h
   ·rename_i hj;rw[if_pos hj];exact hq _ _ _ h
   ·rename_i hj;rw[if_neg hj];exact hq _ _ _ h
  | _=>exact hq _ _ _ h
 | loop x dU=>
  intro Q Q' a S hq h;obtain⟨I,h1,h2⟩:=h;refine⟨I,h1,fun m a S hi=>dU (fun e a S h=>?_) (h2 m a S hi)⟩;cases e with
  | normal=>exact h
  | _=>exact hq _ _ _ h
 | exit id=>intro Q Q' a S hq h;exact hq _ _ _ h
 | ret=>intro Q Q' a S hq h;exact hq _ _ _ h
 | scp x dU=>
  intro Q Q' a S hq h;refine dU (Q:=vg Q) (fun e a S h=>?_) h;cases e with
  | goto l=>exact h
  | _=>exact hq _ _ _ h
 | bad=>intro Q Q' a S hq h;exact h
theorem aQ.LB{P:Program}(hm:P.follows .mixedOrders=true){f:FuncId}{fn:Func}{c:Code}{ac:AC}{ts:List Nat}(hf:P.funcs[f]? = some fn)(hnm:(fn.name == "runtime.NumGoroutine")=false)(hb:fn.body=some c)
  (hc:comp P fn.ntmps c=some ac) (hr:fn.results=(ts.map ResultVar.tmp).toArray) {args:List AV} (hn:args.length≤fn.ntmps) {S:St} {K:AV→St→Prop} (h:AW P ac (bR ts K) (bC args) S):aQ P f args S K:=by
 refine⟨tJ hf hnm hb,fun E w vals hG hS hv=>?_⟩;refine calls_of_wp hf hb (wp_mono (Tn hm ac c hc _ _ _ h E w _ hG hS (yZ hv hn)) fun e act w' hp=>?_);obtain⟨a,S',E',q,s,r,ev⟩:=hp;have hrr:=I6 (P:=P) hr act.tmps w';cases e<;>simp only[bR] at q
 ·exact⟨r.defers,_,hrr,_,_,S',E',rfl,q,s,FH r ts,ev⟩
 ·exact⟨r.defers,_,hrr,_,_,S',E',rfl,q,s,FH r ts,ev⟩
theorem aM.LB{P:Program}(hm:P.follows .mixedOrders=true){f:FuncId}{fn:Func}{c:Code}{ac:AC}{ts:List Nat}(hf:P.funcs[f]? = some fn)(hnm:(fn.name == "runtime.NumGoroutine")=false)(hb:fn.body=some c)
  (hc:comp P fn.ntmps c=some ac) (hr:fn.results=(ts.map ResultVar.tmp).toArray) {args:List AV} (hn:args.length≤fn.ntmps) {r:AV} (h:AW P ac (bR ts fun r' S'=>Fz S'.g r' r) (bC args) S0):aM P f args r:=
 .uT (.LB hm hf hnm hb hc hr hn h)
def nK(Q:Exit→AF→St→Prop):AF→St→Prop:=fun a S=>Q .normal a S
def N7(P:Program)(base:Nat)(os:List aT)(i:Nat)(K:AF→St→Prop)(a:AF)(d:Option Nat):AV→St→Prop:=fun r S'=>RG P base os (i+1) K (a.put d r) S'
def Ho(P:Program)(base:Nat)(os:List aT)(i:Nat)(K:AF→St→Prop)(a:AF)(d:Option Nat)(op:jc)(S:St)(r:Option (AV×St)):Prop:=
 match r with
 | some (v,S')=>RG P base os (i+1) K (a.put d v) S'
 | none=>qF op a fun v=>RG P base os (i+1) K (a.put d v) S
def NQ(P:Program)(base:Nat)(os:List aT)(i:Nat)(K:AF→St→Prop)(a:AF)(S:St)(d:Option Nat)(f:AV)(args:List AV):Prop:=
 match f with
 | .aO f first cap=>aQ P f (first++args++cap) S (N7 P base os i K a d)
 | _=>False
def xq(P:Program)(base:Nat)(o:aT)(os:List aT)(i:Nat)(K:AF→St→Prop)(a:AF)(S:St)(g:AV)(want:Bool):Prop:=
 match g with
 | .v (.bool b)=>if b=want then RG P base (⟨o.dst,o.op,none,o.call⟩::os) i K a S else RG P base os (i+1) K (a.put o.dst (.aL [])) S
 | .aL []=>RG P base os (i+1) K (a.put o.dst (.aL [])) S
 | _=>False
def OJ(P:Program)(base:Nat)(os:List aT)(i:Nat)(T:List (List Nat×List Nat))(K:AF→St→Prop)(a:AF)(d:Option Nat)(r:Option (AV×St)):Prop:=
 match r with
 | some (v,S')=>RD P base os [] (i+1) T K (a.put d v) S'
 | none=>False
def OL(P:Program)(base:Nat)(os:List aT)(b:List Bool)(fr:List (List Bool))(i:Nat)(T:List (List Nat×List Nat))(K:AF→St→Prop)(a:AF)(d:Option Nat)(r:Option (AV×St×List Nat×List Nat)):Prop:=
 match r with
 | some (v,S',F,W)=>jV b T F W∧RD P base os fr (i+1) ((F,W)::T) K (a.put d v) S'
 | none=>False
def Nj(P:Program)(base:Nat)(os:List aT)(fr:List (List Bool))(i:Nat)(T:List (List Nat×List Nat))(K:AF→St→Prop)(a:AF)(S:St)(d:Option Nat)(f:AV)(args:List AV):Prop:=
 match f with
 | .aO f first cap=>∃r F,kI P f (first++args++cap) S F r∧jV (fr.headD []) T F []∧RD P base os fr.tail (i+1) (qo fr T F []) K (a.put d r) S
 | _=>False
def xk(P:Program)(base:Nat)(o:aT)(os:List aT)(fr:List (List Bool))(i:Nat)(T:List (List Nat×List Nat))(K:AF→St→Prop)(a:AF)(S:St)(g:AV)(want:Bool):Prop:=
 match g with
 | .v (.bool b)=>if b=want then RD P base (⟨o.dst,o.op,none,o.call⟩::os) fr i T K a S else RD P base os fr.tail (i+1) (qo fr T [] []) K (a.put o.dst (.aL [])) S
 | .aL []=>RD P base os fr.tail (i+1) (qo fr T [] []) K (a.put o.dst (.aL [])) S
 | _=>False
def Gp(P:Program)(x y:AC)(Q:Exit→AF→St→Prop)(a:AF)(S:St)(c:AV):Prop:=
 match c with
 | .v (.bool b)=>if b=true then AW P x Q a S else AW P y Q a S
 | _=>False
def vR(I:Nat→AF→St→Prop)(m:Nat):AF→St→Prop:=fun a S=>∃m',m' < m∧I m' a S
def dx(r:AV):AV→St→Prop:=fun r' S'=>Fz S'.g r' r
section
variable{P:Program}{Q:Exit→AF→St→Prop}{a:AF}{S:St}{K:AF→St→Prop}{base i:Nat}{os:List aT}{d:Option Nat}{op:jc}
theorem jY:AW P .skip Q a S=Q .normal a S:=by simp only[AW]
theorem jv(x y:AC):AW P (.seq x y) Q a S=AW P x (iW (AW P y Q) Q) a S:=by simp only[AW]
private theorem ZmS:AW P (.reg none os) Q a S=RG P S.n os 0 (nK Q) a ⟨S.n+os.length,S.g⟩:=rfl
theorem jk:AW P (.reg none os) Q a S=RG P S.n os 0 (nK Q) a ⟨S.n+os.length,S.g⟩:=by rw[ZmS]
private theorem Zkl (c:aJ) (x y:AC):AW P (.cond c x y) Q a S=Gp P x y Q a S (c.ev a):=rfl
theorem jG(c:aJ)(x y:AC):AW P (.cond c x y) Q a S=Gp P x y Q a S (c.ev a):=by rw[Zkl]
theorem jW(x y:AC):Gp P x y Q a S (.v (.bool true))=AW P x Q a S:=by simp[Gp]
theorem jN(x y:AC):Gp P x y Q a S (.v (.bool false))=AW P y Q a S:=by simp[Gp]
theorem jO(id:Nat)(x:AC):AW P (.block id x) Q a S=AW P x (kE id Q) a S:=by simp only[AW]
theorem jP(id:Nat):AW P (.exit id) Q a S=Q (.exit id) a S:=by simp only[AW]
theorem jI:AW P .ret Q a S=Q .ret a S:=by simp only[AW]
theorem kD{x:AC}(I:Nat→AF→St→Prop)(m:Nat)(h0:I m a S)(h:∀m a S,I m a S→AW P x (iW (vR I m) Q) a S):AW P (.loop x) Q a S:=⟨I,⟨m,h0⟩,h⟩
theorem kF(x:AC):AW P (.scp x) Q a S=AW P x (vg Q) a S:=by simp only[AW]
theorem fI:vg Q .normal a S=Q .normal a S:=by simp only[vg]
theorem gI:vg Q .ret a S=Q .ret a S:=by simp only[vg]
theorem gy(j:Nat):vg Q (.exit j) a S=Q (.exit j) a S:=by simp only[vg]
theorem bZ:iW K Q .normal a S=K a S:=by simp only[iW]
theorem gL:iW K Q .ret a S=Q .ret a S:=by simp only[iW]
theorem eu(j:Nat):iW K Q (.exit j) a S=Q (.exit j) a S:=by simp only[iW]
theorem fq(id:Nat):kE id Q .normal a S=Q .normal a S:=by simp only[kE]
theorem gH(id:Nat):kE id Q .ret a S=Q .ret a S:=by simp only[kE]
theorem d9(id j:Nat):kE id Q (.exit j) a S=if j=id then Q .normal a S else Q (.exit j) a S:=by simp only[kE]
theorem eT(ts:List Nat)(R:AV→St→Prop):bR ts R .ret a S=R (sG ts a) S:=by simp only[bR]
theorem gD(ts:List Nat)(R:AV→St→Prop):bR ts R .normal a S=R (sG ts a) S:=by simp only[bR]
theorem eB(t:Nat):sG [t] a=a t:=by simp only[sG]
theorem fO(t u:Nat):sG [t,u] a=.aL [a t,a u]:=by simp[sG]
theorem gG(t u x:Nat):sG [t,u,x] a=.aL [a t,a u,a x]:=by simp[sG]
theorem fM:sG [] a=.aL []:=by simp[sG]
theorem dG:RG P base [] i (nK Q) a S=Q .normal a S:=by simp only[RG,nK]
theorem dJ:RG P base (⟨d,op,none,none⟩::os) i K a S=Ho P base os i K a d op S ((ex op a).run S (base+i)):=by
 simp only[RG,gd,Ho];cases(ex op a).run S (base+i)<;>rfl
theorem dD(v:AV)(S':St):Ho P base os i K a d op S (some (v,S'))=RG P base os (i+1) K (a.put d v) S':=by simp only[Ho]
private theorem Zku (G:aJ) (xs:List aJ):RG P base (⟨d,op,none,some (G,xs)⟩::os) i K a S=NQ P base os i K a S d (G.ev a) (xs.map (·.ev a)):=rfl
theorem fC(G:aJ)(xs:List aJ):RG P base (⟨d,op,none,some (G,xs)⟩::os) i K a S=NQ P base os i K a S d (G.ev a) (xs.map (·.ev a)):=by rw[Zku]
theorem fB(f:FuncId)(first cap args:List AV):NQ P base os i K a S d (.aO f first cap) args=aQ P f (first++args++cap) S (N7 P base os i K a d):=by simp only[NQ]
theorem fu(r:AV):N7 P base os i K a d r S=RG P base os (i+1) K (a.put d r) S:=by simp only[N7]
theorem dZ(g:Nat)(want:Bool)(c:Option (aJ×List aJ)) :
  RG P base (⟨d,op,some (g,want),c⟩::os) i K a S=xq P base ⟨d,op,none,c⟩ os i K a S (a g) want:=by
 simp only[RG,gd,xq];cases h:a g with
 | v x=>
  cases x with
  | bool b=>
   simp only;cases hb:(b == want) with
   | true=>simp only[beq_iff_eq] at hb;rw[if_pos hb]
   | false=>simp only[beq_eq_false_iff_ne,ne_eq] at hb;rw[if_neg hb]
  | _=>rfl
 | aL vs=>cases vs<;>rfl
 | _=>rfl
theorem eX(c:Option (aJ×List aJ)):xq P base ⟨d,op,none,c⟩ os i K a S (.v (.bool true)) true=RG P base (⟨d,op,none,c⟩::os) i K a S:=by simp[xq]
theorem iq(c:Option (aJ×List aJ)):xq P base ⟨d,op,none,c⟩ os i K a S (.v (.bool false)) false=RG P base (⟨d,op,none,c⟩::os) i K a S:=by simp[xq]
theorem iy(want:Bool)(c:Option (aJ×List aJ)):xq P base ⟨d,op,none,c⟩ os i K a S (.aL []) want=RG P base os (i+1) K (a.put d (.aL [])) S:=by simp[xq]
theorem iw(c:Option (aJ×List aJ)):xq P base ⟨d,op,none,c⟩ os i K a S (.v (.bool true)) false=RG P base os (i+1) K (a.put d (.aL [])) S:=by simp[xq]
theorem fG(c:Option (aJ×List aJ)):xq P base ⟨d,op,none,c⟩ os i K a S (.v (.bool false)) true=RG P base os (i+1) K (a.put d (.aL [])) S:=by simp[xq]
theorem dh(o:Option AV)(S:St)(aA:Nat):(Eff.val o).runT S aA=o.map fun v=>(v,S,[],[]):=by
 cases o<;>simp[Eff.runT,Eff.val,St.dV,St.iG]
theorem dF(id:Nat)(k:aF→Option AV)(S:St)(aA:Nat):(Eff.rd id k).runT S aA=((S.g id).bind k).map fun v=>(v,S,[id],[]):=by
 cases h:S.g id with
 | none=>simp[Eff.runT,Eff.rd,h]
 | some b=>cases h2:k b<;>simp[Eff.runT,Eff.rd,h,h2,St.dV,St.iG]
theorem fD(id:Nat)(k:aF→Option aF)(S:St)(aA:Nat):(Eff.wr id k).runT S aA=((S.g id).bind k).map fun b=>(.junk,S.set id (some b),[id],[id]):=by
 cases h:S.g id with
 | none=>simp[Eff.runT,Eff.wr,h]
 | some b=>cases h2:k b<;>simp[Eff.runT,Eff.wr,h,h2,St.dV,St.iG]
theorem gu(o:Option (aF×(Nat→AV)))(S:St)(aA:Nat):(Eff.new o).runT S aA=o.map fun p=>(p.2 aA,S.set aA (some p.1),[],[aA]):=by
 cases o<;>simp[Eff.runT,Eff.new,St.dV,St.iG]
theorem iE(id:Nat)(k:aF→Option (aF×(Nat→AV)))(S:St)(aA:Nat) :
  (Eff.mv id k).runT S aA=((S.g id).bind k).map fun p=>(p.2 aA,(S.set id none).set aA (some p.1),[id],[id,aA]):=by
 cases h:S.g id with
 | none=>simp[Eff.runT,Eff.mv,h]
 | some b=>cases h2:k b<;>simp[Eff.runT,Eff.mv,h,h2,St.dV,St.iG]
private theorem Zkm (fr:List (List Bool)):AW P (.reg (some fr) os) Q a S=RD P S.n os fr 0 [] (nK Q) a ⟨S.n+os.length,S.g⟩:=rfl
theorem jX(fr:List (List Bool)):AW P (.reg (some fr) os) Q a S=RD P S.n os fr 0 [] (nK Q) a ⟨S.n+os.length,S.g⟩:=by rw[Zkm]
theorem gT(fr:List (List Bool))(T:List (List Nat×List Nat)):RD P base [] fr i T (nK Q) a S=Q .normal a S:=by simp only[RD,nK]
theorem gU(T:List (List Nat×List Nat)):RD P base (⟨d,op,none,none⟩::os) [] i T K a S=OJ P base os i T K a d ((ex op a).run S (base+i)):=by
 simp only[RD,gd,OJ,qo,List.headD_nil,List.tail_nil];simp only[Eff.runT,Eff.run];cases(ex op a).F.mapM S.g with
 | none=>rfl
 | some bs=>
  simp only;cases(ex op a).k bs with
  | none=>rfl
  | some o=>simp[jV]
theorem fJ(T:List (List Nat×List Nat))(v:AV)(S':St):OJ P base os i T K a d (some (v,S'))=RD P base os [] (i+1) T K (a.put d v) S':=by simp only[OJ]
theorem gV(b:List Bool)(fr:List (List Bool))(T:List (List Nat×List Nat)):RD P base (⟨d,op,none,none⟩::os) (b::fr) i T K a S=OL P base os b fr i T K a d ((ex op a).runT S (base+i)):=by
 simp only[RD,gd,OL,qo,List.headD_cons,List.tail_cons]
 all_goals (cases(ex op a).runT S (base+i)<;>rfl)
theorem fK(b:List Bool)(fr:List (List Bool))(T:List (List Nat×List Nat))(v:AV)(S':St)(F W:List Nat):OL P base os b fr i T K a d (some (v,S',F,W))=(jV b T F W∧RD P base os fr (i+1) ((F,W)::T) K (a.put d v) S'):=by simp only[OL]
private theorem Zks (G:aJ) (xs:List aJ) (fr:List (List Bool)) (T:List (List Nat×List Nat)):RD P base (⟨d,op,none,some (G,xs)⟩::os) fr i T K a S=Nj P base os fr i T K a S d (G.ev a) (xs.map (·.ev a)):=rfl
theorem iC(G:aJ)(xs:List aJ)(fr:List (List Bool))(T:List (List Nat×List Nat)):RD P base (⟨d,op,none,some (G,xs)⟩::os) fr i T K a S=Nj P base os fr i T K a S d (G.ev a) (xs.map (·.ev a)):=by rw[Zks]
theorem gJ(f:FuncId)(first cap args:List AV)(fr:List (List Bool))(T:List (List Nat×List Nat)) :
  Nj P base os fr i T K a S d (.aO f first cap) args=∃r F,kI P f (first++args++cap) S F r∧jV (fr.headD []) T F []∧RD P base os fr.tail (i+1) (qo fr T F []) K (a.put d r) S:=by simp only[Nj]
theorem fU(g:Nat)(want:Bool)(c:Option (aJ×List aJ))(fr:List (List Bool))(T:List (List Nat×List Nat)) :
  RD P base (⟨d,op,some (g,want),c⟩::os) fr i T K a S=xk P base ⟨d,op,none,c⟩ os fr i T K a S (a g) want:=by
 simp only[RD,gd,xk];cases h:a g with
 | v x=>
  cases x with
  | bool b=>
   simp only;cases hb:(b == want) with
   | true=>simp only[beq_iff_eq] at hb;rw[if_pos hb]
   | false=>simp only[beq_eq_false_iff_ne,ne_eq] at hb;rw[if_neg hb]
  | _=>rfl
 | aL vs=>cases vs<;>rfl
 | _=>rfl
theorem gZ(c:Option (aJ×List aJ))(fr:List (List Bool))(T:List (List Nat×List Nat)):xk P base ⟨d,op,none,c⟩ os fr i T K a S (.v (.bool true)) true=RD P base (⟨d,op,none,c⟩::os) fr i T K a S:=by simp[xk]
theorem gW(c:Option (aJ×List aJ))(fr:List (List Bool))(T:List (List Nat×List Nat)):xk P base ⟨d,op,none,c⟩ os fr i T K a S (.v (.bool false)) false=RD P base (⟨d,op,none,c⟩::os) fr i T K a S:=by simp[xk]
theorem ig(want:Bool)(c:Option (aJ×List aJ))(fr:List (List Bool))(T:List (List Nat×List Nat)):xk P base ⟨d,op,none,c⟩ os fr i T K a S (.aL []) want=RD P base os fr.tail (i+1) (qo fr T [] []) K (a.put d (.aL [])) S:=by simp[xk]
theorem gY(c:Option (aJ×List aJ))(fr:List (List Bool))(T:List (List Nat×List Nat)):xk P base ⟨d,op,none,c⟩ os fr i T K a S (.v (.bool true)) false=RD P base os fr.tail (i+1) (qo fr T [] []) K (a.put d (.aL [])) S:=by simp[xk]
theorem gX(c:Option (aJ×List aJ))(fr:List (List Bool))(T:List (List Nat×List Nat)):xk P base ⟨d,op,none,c⟩ os fr i T K a S (.v (.bool false)) true=RD P base os fr.tail (i+1) (qo fr T [] []) K (a.put d (.aL [])) S:=by simp[xk]
theorem iD(T:List (List Nat×List Nat))(F W:List Nat):qo [] T F W=T:=by simp only[qo]
theorem fZ(b:List Bool)(fr:List (List Bool))(T:List (List Nat×List Nat))(F W:List Nat):qo (b::fr) T F W=(F,W)::T:=by simp only[qo]
theorem iA(T:List (List Nat×List Nat))(F W:List Nat):jV [] T F W=True:=by simp only[jV]
theorem fP(b:List Bool)(F W:List Nat):jV b [] F W=True:=by cases b<;>simp only[jV]
theorem fQ(b:List Bool)(p:List Nat×List Nat)(T:List (List Nat×List Nat))(F W:List Nat):jV (true::b) (p::T) F W=(AZ p F W∧jV b T F W):=by simp only[jV]
theorem gM(b:List Bool)(p:List Nat×List Nat)(T:List (List Nat×List Nat))(F W:List Nat):jV (false::b) (p::T) F W=jV b T F W:=by simp only[jV]
theorem iB(G H F W:List Nat):AZ (G,H) F W=((∀j∈H,j∉F)∧(∀j∈W,j∉G)∧∀j∈H,j∉W):=by simp only[AZ]
theorem aj(j t:Nat)(x:AV):(AF.put a (some j) x) t=if t=j then x else a t:=by simp only[AF.put,bq]
theorem fA(x:AV):AF.put a none x=a:=by simp only[AF.put]
theorem cO(j:Nat):(aJ.t j).ev a=a j:=by simp only[aJ.ev]
theorem dO(x:AV):(aJ.c x).ev a=x:=by simp only[aJ.ev]
theorem bJ(x:AV)(xs:List AV):bC (x::xs) 0=x:=by simp[bC]
theorem bO(x:AV)(xs:List AV)(n:Nat):bC (x::xs) (n+1)=bC xs n:=by simp[bC]
theorem bE(j:Nat)(k:Option aF):(S.set j k).n=S.n:=by simp only[St.set]
theorem aD(j l:Nat)(k:Option aF):(S.set j k).g l=if l=j then k else S.g l:=by simp only[St.set,bq]
end
def ak(n:Int):AV:=.v (.int .i64 n)
def aG(b:Bool):AV:=.v (.bool b)
theorem dX(x:Value):(AV.v x).cells=[.v x]:=by simp only[AV.cells]
theorem eU(t:Bool)(xs:List AV):(AV.sl t xs).cells=[.sl t xs]:=by simp only[AV.cells]
theorem dn(xs:List AV):(AV.agg xs).cells=xs:=by simp only[AV.cells]
theorem gP(i j k:Nat):(AV.own i j k).cells=[.own i j k]:=by simp only[AV.cells]
theorem gQ(i j k:Nat):(AV.ptr i j k).cells=[.ptr i j k]:=by simp only[AV.cells]
theorem gN(f:FuncId)(a b:List AV):(AV.aO f a b).cells=[.aO f a b]:=by simp only[AV.cells]
theorem gK(x:AV)(c:Nat):(AV.bF x c).cells=[.bF x c]:=by simp only[AV.cells]
theorem fV(i:Nat):(AV.mp i).cells=[.mp i]:=by simp only[AV.cells]
theorem aZ(n:Int)(h:-9223372036854775808≤n∧n≤9223372036854775807):IntKind.i64.wrap n=n:=by
 rw[IntKind.wrap_i64];omega
def Is(P:Program)(f:FuncId)(ac:AC)(ts:List Nat)(n:Nat):Prop:=
 ∃fn c,P.funcs[f]? = some fn∧(fn.name == "runtime.NumGoroutine")=false∧fn.body=some c∧comp P fn.ntmps c=some ac∧fn.results=(ts.map ResultVar.tmp).toArray∧n≤fn.ntmps
theorem Is.uV{P:Program}(hm:P.follows .mixedOrders=true){f:FuncId}{ac:AC}{ts:List Nat}{n:Nat}(h:Is P f ac ts n){args:List AV}(hn:args.length=n){S:St}{K:AV→St→Prop}
  (hb:AW P ac (bR ts K) (bC args) S):aQ P f args S K:=by
 obtain⟨fn,c,h1,h2,h3,h4,h5,h6⟩:=h;exact .LB hm h1 h2 h3 h4 h5 (by omega) hb
theorem Is.pure{P:Program}(hm:P.follows .mixedOrders=true){f:FuncId}{ac:AC}{ts:List Nat}{n:Nat}(h:Is P f ac ts n){args:List AV}(hn:args.length=n){r:AV}
  (hb:AW P ac (bR ts (dx r)) (bC args) S0):aM P f args r:=
 .uT (h.uV hm hn hb)
def Ox(r:AV):AV→St→Prop:=fun r' S'=>jo S'.g r' r
theorem Sr{ts:List Nat}{K K':AV→St→Prop}(h:∀r S,K r S→K' r S){e:Exit}{a:AF}{S:St}(k:bR ts K e a S):bR ts K' e a S:=by
 cases e<;>simp only[bR] at k ⊢<;>first | exact h _ _ k | exact k
theorem Is.LM{P:Program}(hm:P.follows .mixedOrders=true){f:FuncId}{ac:AC}{ts:List Nat}{n:Nat}(h:Is P f ac ts n){args:List AV}(hn:args.length=n){r:AV}
  (hb:AW P ac (bR ts (Ox r)) (bC args) S0):rQ P f args r:=
 .uT (h.uV hm hn hb)
def iN(g:Nat→Option aF)(a b:List AV):Prop:=b.length=a.length∧∀j (h1:j < a.length) (h2:j < b.length),Fz g (a[j]) (b[j])
theorem iN.nil{g:Nat→Option aF}:iN g [] []:=⟨rfl,fun j h=>by simp at h⟩
theorem iN.cons{g:Nat→Option aF}{x y:AV}{a b:List AV}(h:Fz g x y)(k:iN g a b):iN g (x::a) (y::b):=by
 refine⟨by simp[k.1],fun j h1 h2=>?_⟩;cases j with
 | zero=>exact h
 | succ j=>exact k.2 j (by simpa using h1) (by simpa using h2)
theorem iN.closed{g:Nat→Option aF}{a:List AV}(h:∀x∈a,aV x):iN g a a:=⟨rfl,fun j h1 _=>.closed _ (h _ (List.getElem_mem h1))⟩
theorem aQ.looks{P:Program}{f:FuncId}{args args':List AV}{r:AV}(h:aM P f args' r){S:St}(hz:iN S.g args args')(hr:uH r){K:AV→St→Prop}(hk:K r S):aQ P f args S K:=
 .look h hz.1 hz.2 hr hk
def St.lose(S:St)(ids:List Nat):St:=⟨S.n,fun i=>if i∈ids then none else S.g i⟩
theorem aQ.gives{P:Program}{f:FuncId}{args args':List AV}{r:AV}(ids:List Nat)(h:aM P f args' r){S:St}(hz:iN (only ids S.g) args args')(hr:aV r){K:AV→St→Prop}(hk:K r (S.lose ids)):aQ P f args S K:=
 .IG h (only ids S.g) Dc (S.lose ids) rfl (fun i k e=>by simp only[St.lose] at e;split at e<;>first | cases e | exact e) hz.1 hz.2
  (.inr ⟨hr,fun i k e=>by simp only[only] at e;simp only[St.lose];split at e<;>simp_all⟩) hk
theorem Fz.box{g:Nat→Option aF}(id c es:Nat)(x z:AV)(hg:g id=some (.arr es [x]))(h:Fz g x z):Fz g (.ptr id 0 c) (.bF z c):=.ptr id 0 c es [x] z hg (Nat.zero_lt_one) h
theorem Fz.Q6{g:Nat→Option aF}{f:FuncId}{bs bs':List AV}(h:iN g bs bs'):Fz g (.aO f [] bs) (.aO f [] bs'):=.aO f [] bs [] bs' rfl h.1 (fun i h=>by simp at h) h.2
theorem Nk{S:St}(ids:List Nat)(i:Nat):(S.lose ids).g i=if i∈ids then none else S.g i:=by simp only[St.lose]
theorem BJ(F:List Nat)(g:Nat→Option aF)(i:Nat):only F g i=if i∈F then g i else none:=by simp only[only]
theorem aM.weak{P:Program}{f:FuncId}{args args':List AV}{r:AV}(h:aM P f args' r)(hl:args'.length=args.length)(hr:∀j (h1:j < args.length) (h2:j < args'.length) (E:Env) (v:Value),aK E (args[j]) v→aK E (args'[j]) v):aM P f args r:=
 ⟨h.1,fun H w vals hG hH hv=>h.2 H w vals hG hH ⟨by rw[hv.1,hl],fun j hj=>hr j (by omega) hj _ _ (hv.2 j (by omega))⟩⟩
def au(l:List Int):AV:=.sl false (l.map ak)
def bA(l:List Bool):AV:=.sl false (l.map aG)
def aN(l:List (List Int)):AV:=.sl false (l.map au)
theorem aX(n:Int):aV (ak n):=.v _
theorem cu(b:Bool):aV (aG b):=.v _
theorem CY{X:Type}{t:Bool}{enc:X→AV}(h:∀x,aV (enc x))(l:List X):aV (.sl t (l.map enc)):=.sl _ _ (by intro y hy;obtain⟨x,_,rfl⟩:=List.mem_map.mp hy;exact h x)
theorem bD(l:List Int):aV (au l):=CY aX l
theorem kR(l:List Bool):aV (bA l):=CY cu l
theorem jr(l:List (List Int)):aV (aN l):=CY bD l
theorem FW(b:Bool):uH (aG b):=.v _
theorem ZjK(n:Int):uH (ak n):=.v _
theorem iF(b:Bool)(S:St):dx (aG b) (.v (.bool b)) S:=.closed _ (.v _)
theorem vv(n:Int)(S:St):dx (ak n) (.v (.int .i64 n)) S:=.closed _ (.v _)
def Len{X:Type}(l:List X):Prop:=l.length≤140737488351232
theorem Yw{X:Type}(l:List X)(p:X→Bool)(i:Nat)(h:i < l.length):(l.take (i+1)).all p=((l.take i).all p && p l[i]):=by
 rw[List.take_add_one,List.getElem?_eq_getElem h,List.all_append];simp
theorem Yx{X:Type}(l:List X)(p:X→Bool)(i:Nat)(h:i < l.length):(l.take (i+1)).any p=((l.take i).any p || p l[i]):=by
 rw[List.take_add_one,List.getElem?_eq_getElem h,List.any_append];simp
theorem bB:∀y∈([]:List AV),aV y:=by simp
theorem aR{x:AV}{l:List AV}(h:aV x)(k:∀y∈l,aV y):∀y∈x::l,aV y:=by
 intro y hy;rcases List.mem_cons.mp hy with rfl | hy
 ·exact h
 ·exact k y hy
structure aB where
 signs:Int
 next:List (List Int)
 fin:List Bool
 deriving DecidableEq
def aH(d:aB):AV:=.agg [ak d.signs,aN d.next,bA d.fin]
theorem dW(d:aB):aV (aH d):=.agg _ (by
 intro y hy;simp only[List.mem_cons,List.not_mem_nil,or_false] at hy;rcases hy with rfl | rfl | rfl
 ·exact aX _
 ·exact jr _
 ·exact kR _)
structure lU(d:aB):Prop where
 next:Len d.next
 fin:Len d.fin
 rows:∀r∈d.next,Len r
 signs:-9223372036854775808≤d.signs∧d.signs≤9223372036854775807
def wT(d:aB)(r:List Int):Bool:=decide ((r.length:Int)=d.signs) && r.all fun t=>decide (0≤t) && decide (t < d.next.length)
def fE(d:aB):Bool:=decide (1≤d.signs) && decide (d.signs≤400) && decide (1≤d.next.length) && decide (d.next.length≤3000) && decide (d.fin.length=d.next.length) && d.next.all (wT d)
structure bg(d:aB):Prop where
 s1:1≤d.signs
 s2:d.signs≤400
 n1:1≤d.next.length
 n2:d.next.length≤3000
 fin:d.fin.length=d.next.length
 row:∀i (h:i < d.next.length),((d.next[i]).length:Int)=d.signs
 at_:∀i (h:i < d.next.length) j (k:j < (d.next[i]).length),0≤(d.next[i])[j]∧(d.next[i])[j] < d.next.length
theorem wQ(d:aB):fE d=true↔bg d:=by
 simp only[fE,Bool.and_eq_true,decide_eq_true_eq,List.all_eq_true,wT];constructor
 ·rintro⟨⟨⟨⟨⟨h1,h2⟩,h3⟩,h4⟩,h5⟩,h6⟩
  exact⟨h1,h2,h3,h4,h5,fun i h=>(h6 _ (List.getElem_mem h)).1,fun i h j k=>(h6 _ (List.getElem_mem h)).2 _ (List.getElem_mem k)⟩
 ·intro h
  refine⟨⟨⟨⟨⟨h.s1,h.s2⟩,h.n1⟩,h.n2⟩,h.fin⟩,fun r hr=>?_⟩;obtain⟨i,hi,rfl⟩:=List.mem_iff_getElem.mp hr;refine⟨h.row i hi,fun t ht=>?_⟩;obtain⟨j,hj,rfl⟩:=List.mem_iff_getElem.mp ht;exact h.at_ i hi j hj
def bN(d:aB)(a:Nat)(s:Int):Nat:=((d.next.getD a []).getD s.toNat 0).toNat
def nR(d:aB):Nat→List Int→Option Nat
 | a,[]=>some a
 | a,s::l=>if 0≤s∧s < d.signs then nR d (bN d a s) l else none
def sI(d:aB)(l:List Int):Option Nat:=if fE d=true then nR d 0 l else none
def tu:Option Nat→Int
 | some a=>a
 | none => -1
def lg(d:aB)(l:List Int):Bool:=match sI d l with
 | some a=>d.fin.getD a false
 | none=>false
theorem zX{d:aB}(h:bg d){a:Nat}(ha:a < d.next.length){s:Int}(h0:0≤s)(hs:s < d.signs) :
  ∃hj:s.toNat < (d.next[a]).length,(d.next[a])[s.toNat]=bN d a s∧bN d a s < d.next.length:=by
 have hr:=h.row a ha;have hj:s.toNat < (d.next[a]).length:=by omega
 have:=h.at_ a ha s.toNat hj
 have e:bN d a s=((d.next[a])[s.toNat]).toNat:=by
  simp[bN,List.getD_eq_getElem?_getD,List.getElem?_eq_getElem ha,List.getElem?_eq_getElem hj]
 exact⟨hj,by omega,by omega⟩
theorem YZ{d:aB}(h:bg d):∀(l:List Int) (a:Nat),a < d.next.length→∀b,nR d a l=some b→b < d.next.length
 | [],a,ha,b,e=>by simp[nR] at e;omega
 | s::l,a,ha,b,e=>by
  simp only[nR] at e;split at e
  ·rename_i hs
   exact YZ h l _ (zX h ha hs.1 hs.2).2.2 b e
  ·cases e
def yh:jc→Bool
 | .mv _ | .pick .. | .load .. | .bin .. | .un .. | .bV .. | .aI .. | .field .. | .len _ | .ext .. | .fH _=>true
 | _=>false
theorem Zl9{P:Program}{o:Op}{ao:jc}(h:cop P o=some ao)(hp:yh ao=true):rM o=true:=by
 cases o with
 | call c=>
  simp only[cop] at h;unfold NR at h;split at h
  ·rename_i x t
   rfl
  ·split at h
   ·simp only[Option.bind_eq_some_iff,Option.map_eq_some_iff] at h
    obtain⟨_,_,_,_,_,_,rfl⟩:=h;cases hp
   ·split at h
    ·simp only[Option.bind_eq_some_iff,Option.map_eq_some_iff] at h
     obtain⟨_,_,_,_,_,_,rfl⟩:=h;cases hp
    ·cases h
  all_goals first
   | (cases h;done)
   | (simp only[Option.bind_eq_some_iff,Option.map_eq_some_iff] at h;obtain⟨_,_,_,_,_,_,rfl⟩:=h;cases hp;done)
   | (simp only[Option.bind_eq_some_iff,Option.map_eq_some_iff] at h;obtain⟨_,_,_,_,rfl⟩:=h;cases hp;done)
   | (simp only[Option.bind_eq_some_iff,Option.map_eq_some_iff] at h;obtain⟨_,_,_,_,_,rfl⟩:=h;cases hp;done)
 | alloc t=>simp only[cop,Option.map_eq_some_iff] at h;obtain⟨_,_,rfl⟩:=h;cases hp
 | box t x=>simp only[cop,Option.bind_eq_some_iff,Option.map_eq_some_iff] at h;obtain⟨_,_,_,_,rfl⟩:=h;cases hp
 | store t p x=>simp only[cop,Option.bind_eq_some_iff,Option.map_eq_some_iff] at h;obtain⟨_,_,_,_,_,_,rfl⟩:=h;cases hp
 | build t ps=>
  simp only[cop,Option.bind_eq_some_iff] at h;obtain⟨qs,hq,hb⟩:=h;unfold Nw at hb;split at hb
  ·simp only[Option.bind_eq_some_iff,Option.map_eq_some_iff] at hb
   obtain⟨_,_,_,_,rfl⟩:=hb;cases hp
  ·cases hb
 | buildSlice t m ps=>simp only[cop,Option.bind_eq_some_iff,Option.map_eq_some_iff] at h;obtain⟨_,_,_,_,rfl⟩:=h;cases hp
 | makeSlice t l c=>simp only[cop,Option.bind_eq_some_iff,Option.map_eq_some_iff] at h;obtain⟨_,_,_,_,_,_,rfl⟩:=h;cases hp
 | slice t x lo hi mx=>
  cases mx with
  | some m=>simp[cop] at h
  | none=>
   simp only[cop,Option.bind_eq_some_iff] at h;obtain⟨X,hx,LO,hlo,HI,hhi,hb⟩:=h;unfold OC at hb;split at hb
   ·cases hb;cases hp
   ·simp only[Option.map_eq_some_iff] at hb
    obtain⟨_,_,rfl⟩:=hb;cases hp
   ·cases hb
 | makeFunc f a b=>
  cases f with
  | func f=>simp only[cop,Option.bind_eq_some_iff,Option.map_eq_some_iff] at h;obtain⟨_,_,_,_,rfl⟩:=h;cases hp
  | _=>simp[cop] at h
 | makeMap t r=>
  cases r with
  | some r=>simp[cop] at h
  | none=>simp only[cop,Option.some.injEq] at h;subst h;cases hp
 | lookup t m k ok=>simp only[cop,Option.bind_eq_some_iff,Option.map_eq_some_iff] at h;obtain⟨_,_,_,_,_,_,rfl⟩:=h;cases hp
 | mapUpdate t m k x=>simp only[cop,Ap,Option.bind_eq_some_iff,Option.map_eq_some_iff] at h;obtain⟨_,_,_,_,_,_,_,_,rfl⟩:=h;cases hp
 | insert t m k x=>simp only[cop,Ap,Option.bind_eq_some_iff,Option.map_eq_some_iff] at h;obtain⟨_,_,_,_,_,_,_,_,rfl⟩:=h;cases hp
 | makeInterface t x=>
  simp only[cop] at h;split at h
  ·simp only[Option.map_eq_some_iff] at h;obtain⟨_,_,rfl⟩:=h;cases hp
  ·cases h
 | typeAssert x xt t ok=>
  cases ok with
  | false=>simp[cop] at h
  | true=>
   simp only[cop] at h;split at h
   ·simp only[Option.bind_eq_some_iff,Option.map_eq_some_iff] at h;obtain⟨_,_,_,_,rfl⟩:=h;cases hp
   ·cases h
 | _=>first | rfl | (simp[cop] at h;done)
def SE:St:=⟨2,fun _=>none⟩
structure yQ(E:Env)(w:World):Prop where
 hH:jF E.H w
 fresh:∀id,1≤id→E.ρ id=none
theorem yQ.sim{E:Env}{w:World}(h:yQ E w):aU E SE w:=
 ⟨h.hH,fun i k e=>by simp[SE] at e,fun i j ki kj li lj e=>by simp[SE] at e,fun i hi=>h.fresh i (by have:2≤i:=hi;omega)⟩
def rP(P:Program)(E:Env)(f:FuncId)(args:List AV)(w:World)(K:AV→World→Prop):Prop:=
 qY P f∧∀vals,jl E args vals→Calls P f vals w fun e w'=>∃v r,e=.returned v∧aK E r v∧jF E.H w'∧K r w'
def WG(P:Program)(E:Env):List aT→(AF→World→Prop)→AF→World→Prop
 | [],K,a,w=>K a w
 | o::os,K,a,w=>o.guard=none∧match o.call with
  | some (G,xs)=>match G.ev a with
   | .aO f [] []=>rP P E f (xs.map (·.ev a)) w fun r w'=>WG P E os K (a.put o.dst r) w'
   | _=>False
  | none=>yh o.op=true∧match (ex o.op a).run SE 1 with
   | some (v,_)=>WG P E os K (a.put o.dst v) w
   | none=>False
def wV(K:AF→World→Prop)(Q:Exit→AF→World→Prop):Exit→AF→World→Prop
 | .normal,a,w=>K a w
 | e,a,w=>Q e a w
def BH(id:Nat)(Q:Exit→AF→World→Prop):Exit→AF→World→Prop
 | .exit id',a,w=>if id'=id then Q .normal a w else Q (.exit id') a w
 | e,a,w=>Q e a w
def jU(P:Program)(E:Env):AC→(Exit→AF→World→Prop)→AF→World→Prop
 | .skip,Q,a,w=>Q .normal a w
 | .reg none os,Q,a,w=>WG P E os (fun a w=>Q .normal a w) a w
 | .seq x y,Q,a,w=>jU P E x (wV (jU P E y Q) Q) a w
 | .cond c x y,Q,a,w=>match c.ev a with
  | .v (.bool b)=>if b=true then jU P E x Q a w else jU P E y Q a w
  | _=>False
 | .block id x,Q,a,w=>jU P E x (BH id Q) a w
 | .loop x,Q,a,w=>∃I:Nat→AF→World→Prop,(∃m,I m a w)∧∀m a w,I m a w→jU P E x (wV (fun a' w'=>∃m',m' < m∧I m' a' w') Q) a w
 | .exit id,Q,a,w=>Q (.exit id) a w
 | .ret,Q,a,w=>Q .ret a w
 | _,_,_,_=>False
def NY(E:Env)(n:Nat)(Q:Exit→AF→World→Prop):Exit→Act→World→Prop:=fun e act w=>∃a,Q e a w∧dR E n a act∧yQ E w
theorem Zh6{P:Program}{n:Nat}{ops:Array Oper}{E:Env}{Q:Exit→AF→World→Prop}:∀(os:List aT) (i:Nat) (a:AF) (w:World),(∀k (hk:k < os.length),∃o,ops[i+k]? = some o∧lC P n ops o=some (os[k]))→
  WG P E os (fun a w=>Q .normal a w) a w→∀act,yQ E w→dR E n a act→wpOps P ops (NY E n Q) (List.range' i os.length) act w
 | [],i,a,w,_,h,act,hE,hF=>⟨a,h,hF,hE⟩
 | ao::os,i,a,w,hc,h,act,hE,hF=>by
  obtain⟨o,ho,hco⟩:=hc 0 (by simp);simp only[Nat.add_zero,List.getElem_cons_zero] at ho hco;obtain⟨hd,hdst,hgd,hor⟩:=Da hco
  have hc':∀k (hk:k < os.length),∃o,ops[i+1+k]? = some o∧lC P n ops o=some (os[k]):=by
   intro k hk;obtain⟨o',h1,h2⟩:=hc (k+1) (by simpa using hk);exact⟨o',by rw[←h1];congr 1;omega,by simpa using h2⟩
  simp only[WG] at h;obtain⟨hgn,h⟩:=h
  have hgo:o.guard=none:=by
   rw[hgn] at hgd;unfold Ad at hgd;split at hgd
   ·assumption
   ·simp only[Option.map_eq_some_iff] at hgd
    obtain⟨_,_,e⟩:=hgd;cases e
  simp only[List.length_cons,List.range'_succ,wpOps,ho];simp only[Region.wanted,hgo,if_true];left;rw[hdst] at h
  have next:∀{r:AV} {act':Act} {w':World},WG P E os (fun a w=>Q .normal a w) (a.put o.dst r) w'→yQ E w'→dR E n (a.put o.dst r) act'→wpOps P ops (NY E n Q) (List.range' (i+1) os.length) act' w':=
   fun h1 h2 h3=>Zh6 os (i+1) _ _ hc' h1 _ h2 h3
  rcases hor with⟨q,hp1,hp2⟩ | ⟨hp1,hop⟩
  ·rw[hp1] at h
   obtain⟨G,xs⟩:=q;simp only at h;unfold AA at hp2;split at hp2
   ·rename_i g ys ts uO
    simp only[Option.bind_eq_some_iff,Option.map_eq_some_iff,Prod.mk.injEq] at hp2;obtain⟨G',hG,XS,yI,rfl,rfl⟩:=hp2;have rg:=bH hF hG;split at h
    ·rename_i f yK
     rw[yK] at rg;generalize hev:act.eval g=gv at rg;cases rg with
     | aO _ _ _ fv cv hn hm hf hcc=>
      have hfv:fv=#[]:=Array.eq_empty_of_size_eq_zero (by simpa using hn);have hcv:cv=#[]:=Array.eq_empty_of_size_eq_zero (by simpa using hm);subst hfv;subst hcv;have hx:=Fe hF yI;unfold Oper.wp
      have hrun:(execOp act.eval o).run P w=.ok (.enter f (ys.map act.eval)) w:=by
       simp only[execOp,uO,Sem.run_bind,CU act.eval g ys ts o.type hev,Result.andThen_ok,invoke];have:=CW h.1 (ys.map act.eval) w;simpa using this
      rw[hrun,Oper.upon_enter];refine(h.2 _ hx).mono ?_;rintro e w' ⟨v,r,rfl,hr,hH,hk⟩;exact next hk ⟨hH,hE.fresh⟩ (hF.put hd hr)
    ·exact h.elim
   ·cases hp2
  ·rw[hp1] at h
   simp only at h;obtain⟨hpa,h⟩:=h;split at h
   ·rename_i v S' hex
    have hok:=Gc (P:=P) (n:=n) (o:=o) (aA:=1) hd hop hex;refine hok E w act hE.sim hF (hE.fresh 1 (Nat.le_refl _)) (by show 1 < 2;omega) _ _ fun act' w' E' k1 k2 k3 k4=>?_
    obtain⟨e1,e2⟩:=k4.1 (Zl9 hop hpa);subst e1;subst e2;exact next h hE k2
   ·exact h.elim
theorem SK{P:Program}{n:Nat}{E:Env}:∀(c:Code) (ac:AC),comp P n c=some ac→∀(Q:Exit→AF→World→Prop) (a:AF) (w:World),jU P E ac Q a w→∀act,yQ E w→dR E n a act→c.wp P (NY E n Q) act w:=by
 intro c;induction c with
 | skip=>
  intro ac hc Q a w h act hE hF;simp only[comp,dL,Option.some.injEq] at hc;subst hc;exact wp_skip ⟨a,h,hF,hE⟩
 | label l=>
  intro ac hc Q a w h act hE hF;simp only[comp,dL,Option.some.injEq] at hc;subst hc;exact wp_label ⟨a,h,hF,hE⟩
 | region id ops dr=>
  intro ac hc Q a w h act hE hF;have e:=Fh (R:=tZ) hc;subst e;unfold tZ at h;cases hq:(ops.toList.mapM (lC P n ops)).bind (BS dr ops) with
  | none=>rw[hq] at h;simp only[Am,jU] at h
  | some p=>
   rw[hq] at h;simp only[Am] at h;simp only[Option.bind_eq_some_iff] at hq;obtain⟨ys,hy,hcr⟩:=hq;obtain⟨h1,h2⟩:=y8 hy;obtain⟨draw,os⟩:=p;unfold BS at hcr;split at hcr
   ·split at hcr
    ·simp only[Option.some.injEq,Prod.mk.injEq] at hcr
     obtain⟨rfl,rfl⟩:=hcr;simp only[jU] at h
    ·cases hcr
   ·rename_i hdr
    simp only[Bool.not_eq_true] at hdr;subst hdr;simp only[Option.some.injEq,Prod.mk.injEq] at hcr;obtain⟨rfl,rfl⟩:=hcr;simp only[jU] at h;refine wp_region ?_
    have:=Zh6 (P:=P) (n:=n) (ops:=ops) (Q:=Q) ys 0 a w (fun k hk=>by
     obtain⟨o,a1,a2⟩:=h2 k hk;exact⟨o,by rw[Nat.zero_add];simpa using a1,a2⟩) h act hE hF
    have hlen:ys.length=ops.size:=by rw[h1];simp
    rw[List.range_eq_range',←hlen];exact this
 | seq c1 c2 dU ihy=>
  intro ac hc Q a w h act hE hF;simp only[comp,dL,Option.map_eq_some_iff,Option.bind_eq_some_iff] at hc;obtain⟨X,hX,Y,hY,rfl⟩:=hc;simp only[jU] at h;refine wp_seq (wp_mono (dU X hX _ a w h act hE hF) fun e act' w' hp=>?_);obtain⟨a',q,r,s⟩:=hp;cases e with
  | normal=>exact ihy Y hY Q a' w' q act' s r
  | _=>exact⟨a',q,r,s⟩
 | cond c0 c1 c2 dU ihy=>
  intro ac hc Q a w h act hE hF;simp only[comp,dL,Option.map_eq_some_iff,Option.bind_eq_some_iff] at hc;obtain⟨C',hC,X,hX,Y,hY,rfl⟩:=hc;simp only[jU] at h;split at h
  ·rename_i b hb
   have r:=bH hF hC;rw[hb] at r;refine wp_cond (t:=b) r.iQ ?_;cases b with
   | true=>exact dU X hX Q a w (by simpa using h) act hE hF
   | false=>exact ihy Y hY Q a w (by simpa using h) act hE hF
  ·exact h.elim
 | block id' c1 dU=>
  intro ac hc Q a w h act hE hF;simp only[comp,dL,Option.map_eq_some_iff] at hc;obtain⟨X,hX,rfl⟩:=hc;simp only[jU] at h;refine wp_block (wp_mono (dU X hX _ a w h act hE hF) fun e act' w' hp=>?_);obtain⟨a',q,r,s⟩:=hp;cases e with
  | exit j=>
   simp only[BH] at q;simp only[Exit.inBlock];split at q
   ·rename_i hj;rw[if_pos hj];exact⟨a',q,r,s⟩
   ·rename_i hj;rw[if_neg hj];exact⟨a',q,r,s⟩
  | _=>exact⟨a',q,r,s⟩
 | loop c1 dU=>
  intro ac hc Q a w h act hE hF;simp only[comp,dL,Option.map_eq_some_iff] at hc;obtain⟨X,hX,rfl⟩:=hc;simp only[jU] at h;obtain⟨I,⟨m0,hI0⟩,KD⟩:=h;intro b k cs
  have key:∀m,∀a w' act',I m a w'→yQ E w'→dR E n a act'→
    ∃e a' w2,NY E n Q e a' w2∧Arrives P (lone (b.at act' (.code c1::.inLoop c1::k)) cs w') b k cs e a' w2:=by
   intro m;induction m using Nat.strongRecOn with
   | _ m ih=>
    intro a w' act' hI hE' hF';obtain⟨e,oH,w1,hp,harr⟩:=dU X hX _ a w' (KD m a w' hI) act' hE' hF' b (.inLoop c1::k) cs;obtain⟨a1,q,r,s⟩:=hp;cases e with
    | normal=>
     obtain⟨m',hlt,hI'⟩:=q;obtain⟨e2,iR,w2,hp2,Kn⟩:=ih m' hlt a1 w1 oH hI' s r;exact⟨e2,iR,w2,hp2,.of_steps (Steps.trans harr (.one step_inLoop)) Kn⟩
    | exit id=>exact⟨_,oH,w1,⟨a1,q,r,s⟩,.pass (x:=.inLoop c1) rfl (fun _ _=>.inl (by simp)) harr⟩
    | goto l=>exact⟨_,oH,w1,⟨a1,q,r,s⟩,.pass (x:=.inLoop c1) rfl (fun _ _=>.inl (by simp)) harr⟩
    | ret=>exact⟨_,oH,w1,⟨a1,q,r,s⟩,.pass (x:=.inLoop c1) rfl (fun _ _=>.inl (by simp)) harr⟩
    | panic ch=>exact⟨_,oH,w1,⟨a1,q,r,s⟩,.pass (x:=.inLoop c1) rfl (fun _ _=>.inl (by simp)) harr⟩
    | outgrown=>exact⟨_,oH,w1,⟨a1,q,r,s⟩,.pass (x:=.inLoop c1) rfl (fun _ _=>.inl (by simp)) harr⟩
  obtain⟨e,a',w',hp,harr⟩:=key m0 a w act hI0 hE hF;exact⟨e,a',w',hp,.of_steps (.one step_loop) harr⟩
 | exit id=>
  intro ac hc Q a w h act hE hF;simp only[comp,dL,Option.some.injEq] at hc;subst hc;exact wp_exit ⟨a,h,hF,hE⟩
 | ret=>
  intro ac hc Q a w h act hE hF;simp only[comp,dL,Option.some.injEq] at hc;subst hc;exact wp_ret ⟨a,h,hF,hE⟩
 | scope c1 dU=>
  intro ac hc Q a w h;simp only[comp,dL,Option.map_eq_some_iff] at hc;obtain⟨X,hX,rfl⟩:=hc;simp only[jU] at h
 | _=>
  intro ac hc Q a w h;simp only[comp,dL,Option.some.injEq] at hc;subst hc;simp only[jU] at h
structure zu(P:Program)(fw fb fs:FuncId)(T e:TypeId):Prop where
 cw:qY P fw
 cb:qY P fb
 cs:qY P fs
 w:∀(B b:Nat) (bs:List Value) (s:ByteArray) (w:World),Lib.IsBuilderF T e B b bs w→bs.length+s.size≤140737488355328→B≤w.heap.size→
  Calls P fw #[.pointer (some ⟨b,0,none⟩),.string s] w fun en w'=>en=.returned (.tuple #[.int .i64 s.size,.nilIface])∧Lib.IsBuilderF T e B b (bs++Lib.strCells s) w'∧Below B w w'
 b:∀(B b:Nat) (bs:List Value) (c:Int) (w:World),Lib.IsBuilderF T e B b bs w→bs.length+1≤140737488355328→B≤w.heap.size→
  Calls P fb #[.pointer (some ⟨b,0,none⟩),.int .u8 c] w fun en w'=>en=.returned .nilIface∧Lib.IsBuilderF T e B b (bs++[.int .u8 c]) w'∧Below B w w'
 s:∀(B b:Nat) (l:List UInt8) (w:World),Lib.IsBuilderF T e B b (Lib.byteCells l) w→B≤w.heap.size→
  Calls P fs #[.pointer (some ⟨b,0,none⟩)] w fun en w'=>en=.returned (.string ⟨l.toArray⟩)∧Below B w w'
structure Ba(P:Program)(fi:FuncId)(good:Int→Prop):Prop where
 c:qY P fi
 h:∀(H:Nat→Option (Array Value)) (n:Int) (w:World),jd P H→jF H w→good n→Calls P fi #[.int .i64 n] w fun en w'=>en=.returned (.string ⟨(Lib.itoa n).toArray⟩)∧Below w.heap.size w w'
def qh(l:List UInt8):AV:=.v (.string ⟨l.toArray⟩)
theorem Zk4(l:List UInt8):(⟨l.toArray⟩:ByteArray).size=l.length:=rfl
theorem Yr(l m:List UInt8):Lib.byteCells (l++m)=Lib.byteCells l++Lib.byteCells m:=by simp[Lib.byteCells]
theorem Yy(l:List UInt8):(Lib.byteCells l).length=l.length:=by simp[Lib.byteCells]
structure BE(E:Env)(B b:Nat):Prop where
 ρ:E.ρ 0=some ⟨b,0,2,1⟩
 H:∀c cs,E.H c=some cs→c < B
theorem BE.ptr{E:Env}{B b:Nat}(h:BE E B b){v:Value}(r:aK E (.ptr 0 0 0) v):v=.pointer (some ⟨b,0,none⟩):=by
 cases r with
 | ptr _ _ _ l hl=>
  rw[h.ρ] at hl;cases hl;rfl
theorem BE.keep{E:Env}{B b:Nat}(h:BE E B b){w w':World}(hH:jF E.H w)(hb:Below B w w'):jF E.H w':=by
 intro c cs e;obtain⟨el,fz,hw⟩:=hH c cs e;exact⟨el,fz,by rw[hb.block c (h.H c cs e)];exact hw⟩
theorem YH{E:Env}{x:AV}{vals:Array Value}(h:jl E [x] vals):∃v,vals=#[v]∧aK E x v:=by
 obtain⟨h1,h2⟩:=h;refine⟨vals.getD 0 undef,?_,h2 0 (by simp)⟩;apply Array.ext
 ·simpa using h1
 ·intro i h3 h4
  have:i=0:=by simp at h4;omega
  subst this;simp[Array.getD_eq_getD_getElem?,Array.getElem?_eq_getElem h3]
theorem YI{E:Env}{x y:AV}{vals:Array Value}(h:jl E [x,y] vals):∃v u,vals=#[v,u]∧aK E x v∧aK E y u:=by
 obtain⟨h1,h2⟩:=h;refine⟨vals.getD 0 undef,vals.getD 1 undef,?_,h2 0 (by simp),h2 1 (by simp)⟩;apply Array.ext
 ·simpa using h1
 ·intro i h3 h4
  have hi:i < 2:=by simpa using h4
  match i,hi with
  | 0,_=>simp[Array.getD_eq_getD_getElem?,Array.getElem?_eq_getElem h3]
  | 1,_=>simp[Array.getD_eq_getD_getElem?,Array.getElem?_eq_getElem h3]
structure uw(T e B b:Nat)(w0:World)(l:List UInt8)(w:World):Prop where
 is:Lib.IsBuilderF T e B b (Lib.byteCells l) w
 below:Below B w0 w
 room:B≤w.heap.size
theorem uw.kept{T e B b:Nat}{w0 w w':World}{l:List UInt8}(h:uw T e B b w0 l w)(hb:Below w.heap.size w w'):uw T e B b w0 l w':=by
 have O9:Below B w w':=⟨hb.os,hb.tape,hb.output,hb.size,fun k hk=>hb.block k (Nat.lt_of_lt_of_le hk h.room)⟩;have hgr:w.grownBy w' none:=⟨hb.os,hb.tape,hb.output,hb.size,fun k hk _=>hb.block k hk⟩
 have key:∀p,Lib.BuilderAtF T e B b p (Lib.byteCells l) w→Lib.BuilderAtF T e B b p (Lib.byteCells l) w':=by
  rintro p ⟨h1,v,h2,h3,h4⟩;refine⟨h1,v,?_,h3.kept hgr (by cases hv:v.ownBlock<;>simp),h4⟩;rw[hb.block b (Array.getElem?_eq_some_iff.mp h2).1];exact h2
 exact⟨h.is.elim (fun x=>.inl (key _ x)) (fun x=>.inr (key _ x)),h.below.trans O9,Nat.le_trans h.room hb.size⟩
theorem rP.str{P:Program}{fw fb fs:FuncId}{T e:TypeId}(k:zu P fw fb fs T e){E:Env}{B b:Nat}(hE:BE E B b){w0 w:World}{l m:List UInt8}(h:uw T e B b w0 l w)(hH:jF E.H w)(hl:l.length+m.length≤140737488355328)
  {K:AV→World→Prop} (hK:∀w',uw T e B b w0 (l++m) w'→jF E.H w'→K .junk w'):rP P E fw [.ptr 0 0 0,qh m] w K:=by
 refine⟨k.cw,fun vals hv=>?_⟩;obtain⟨v,u,rfl,r1,r2⟩:=YI hv;have e1:=hE.ptr r1;have e2:=r2.iQ;subst e1;subst e2;refine(k.w B b _ ⟨m.toArray⟩ w h.is (by rw[Yy,Zk4];exact hl) h.room).mono ?_;rintro en w' ⟨rfl,h1,h2⟩;exact⟨_,.junk,rfl,.junk _,hE.keep hH h2,hK w' ⟨by rw[Yr];exact h1,h.below.trans h2,Nat.le_trans h.room h2.size⟩ (hE.keep hH h2)⟩
theorem rP.byte{P:Program}{fw fb fs:FuncId}{T e:TypeId}(k:zu P fw fb fs T e){E:Env}{B b:Nat}(hE:BE E B b){w0 w:World}{l:List UInt8}{c:UInt8}(h:uw T e B b w0 l w)(hH:jF E.H w)(hl:l.length+1≤140737488355328)
  {K:AV→World→Prop} (hK:∀w',uw T e B b w0 (l++[c]) w'→jF E.H w'→K .junk w') {n:Int} (hc:n=(c.toNat:Int)):rP P E fb [.ptr 0 0 0,.v (.int .u8 n)] w K:=by
 refine⟨k.cb,fun vals hv=>?_⟩;obtain⟨v,u,rfl,r1,r2⟩:=YI hv;have e1:=hE.ptr r1;have e2:=r2.iQ;subst e1;subst e2;refine(k.b B b _ n w h.is (by rw[Yy];exact hl) h.room).mono ?_;rintro en w' ⟨rfl,h1,h2⟩;exact⟨_,.junk,rfl,.junk _,hE.keep hH h2,hK w' ⟨by rw[Yr];subst hc;exact h1,h.below.trans h2,Nat.le_trans h.room h2.size⟩ (hE.keep hH h2)⟩
theorem rP.string{P:Program}{fw fb fs:FuncId}{T e:TypeId}(k:zu P fw fb fs T e){E:Env}{B b:Nat}(hE:BE E B b){w0 w:World}{l:List UInt8}(h:uw T e B b w0 l w)(hH:jF E.H w)
  {K:AV→World→Prop} (hK:∀w',Below B w0 w'→K (qh l) w'):rP P E fs [.ptr 0 0 0] w K:=by
 refine⟨k.cs,fun vals hv=>?_⟩;obtain⟨v,rfl,r1⟩:=YH hv;have e1:=hE.ptr r1;subst e1;refine(k.s B b l w h.is h.room).mono ?_;rintro en w' ⟨rfl,h2⟩;exact⟨_,qh l,rfl,.v _ rfl,hE.keep hH h2,hK w' (h.below.trans h2)⟩
theorem rP.itoa{P:Program}{fi:FuncId}{good:Int→Prop}(k:Ba P fi good){E:Env}{T e B b:Nat}(hE:BE E B b){w0 w:World}{l:List UInt8}(h:uw T e B b w0 l w){n:Int}(hn:good n)(hG:jd P E.H)(hH:jF E.H w)
  {K:AV→World→Prop} (hK:∀w',uw T e B b w0 l w'→jF E.H w'→K (qh (Lib.itoa n)) w'):rP P E fi [ak n] w K:=by
 refine⟨k.c,fun vals hv=>?_⟩;obtain⟨v,rfl,r1⟩:=YH hv;have e1:=r1.iQ;subst e1;refine(k.h E.H n w hG hH hn).mono ?_;rintro en w' ⟨rfl,hb⟩;have O9:Below B w w':=⟨hb.os,hb.tape,hb.output,hb.size,fun k hk=>hb.block k (Nat.lt_of_lt_of_le hk h.room)⟩;exact⟨_,qh (Lib.itoa n),rfl,.v _ rfl,hE.keep hH O9,hK w' (h.kept hb) (hE.keep hH O9)⟩
theorem Mf{P:Program}{n:Nat}{c:Code}{X Y:AC}(h:comp P n c=some (.seq X Y)):∃x y,c=.seq x y∧comp P n x=some X∧comp P n y=some Y:=by
 cases c with
 | seq x y=>
  simp only[comp,dL,Option.map_eq_some_iff,Option.bind_eq_some_iff] at h;obtain⟨X',hX,Y',hY,e⟩:=h;simp only[AC.seq.injEq] at e;obtain⟨rfl,rfl⟩:=e;exact⟨x,y,rfl,hX,hY⟩
 | region id ops dr=>
  have e:=Fh (R:=tZ) h;unfold tZ Am at e;split at e<;>cases e
 | cond a x y=>
  simp only[comp,dL,Option.map_eq_some_iff,Option.bind_eq_some_iff] at h;obtain⟨_,_,_,_,_,_,e⟩:=h;cases e
 | block a x=>
  simp only[comp,dL,Option.map_eq_some_iff] at h;obtain⟨_,_,e⟩:=h;cases e
 | loop x=>
  simp only[comp,dL,Option.map_eq_some_iff] at h;obtain⟨_,_,e⟩:=h;cases e
 | scope x=>
  simp only[comp,dL,Option.map_eq_some_iff] at h;obtain⟨_,_,e⟩:=h;cases e
 | _=>simp only[comp,dL,Option.some.injEq,reduceCtorEq] at h
theorem Ze9{P:Program}{n:Nat}{c:Code}{os:List aT}(h:comp P n c=some (.reg none os)):∃id ops,c=.region id ops false∧ops.size=os.length∧∀k (hk:k < os.length),∃o,ops[k]? = some o∧lC P n ops o=some (os[k]):=by
 cases c with
 | region id ops dr=>
  have e:=Fh (R:=tZ) h;unfold tZ at e;cases hq:(ops.toList.mapM (lC P n ops)).bind (BS dr ops) with
  | none=>rw[hq] at e;cases e
  | some p=>
   rw[hq] at e;simp only[Am,AC.reg.injEq] at e;obtain⟨e1,rfl⟩:=e;simp only[Option.bind_eq_some_iff] at hq;obtain⟨ys,hy,hcr⟩:=hq;obtain⟨h1,h2⟩:=y8 hy;unfold BS at hcr;split at hcr
   ·split at hcr
    ·cases hcr;cases e1
    ·cases hcr
   ·rename_i hdr
    simp only[Bool.not_eq_true] at hdr;subst hdr;cases hcr;exact⟨id,ops,rfl,by rw[h1];simp,fun k hk=>by obtain⟨o,a1,a2⟩:=h2 k hk;exact⟨o,by simpa using a1,a2⟩⟩
 | seq x y=>
  simp only[comp,dL,Option.map_eq_some_iff,Option.bind_eq_some_iff] at h;obtain⟨_,_,_,_,e⟩:=h;cases e
 | cond a x y=>
  simp only[comp,dL,Option.map_eq_some_iff,Option.bind_eq_some_iff] at h;obtain⟨_,_,_,_,_,_,e⟩:=h;cases e
 | block a x=>
  simp only[comp,dL,Option.map_eq_some_iff] at h;obtain⟨_,_,e⟩:=h;cases e
 | loop x=>
  simp only[comp,dL,Option.map_eq_some_iff] at h;obtain⟨_,_,e⟩:=h;cases e
 | scope x=>
  simp only[comp,dL,Option.map_eq_some_iff] at h;obtain⟨_,_,e⟩:=h;cases e
 | _=>simp only[comp,dL,Option.some.injEq,reduceCtorEq] at h
def Di:Code→Option TypeId
 | .seq _ (.seq (.region _ ops _) _)=>match ops[0]? with
  | some o=>match o.op with
   | .alloc t=>some t
   | _=>none
  | none=>none
 | _=>none
def Gy:AV:=.agg [.v (.pointer none),.sl true []]
theorem Zjx{z:Value}(h:Al z=some Gy):z.cells=#[.pointer none,.slice none 0 0]:=by
 unfold Al at h;split at h
 ·rename_i cs
  simp only[Option.map_eq_some_iff,Gy,AV.agg.injEq] at h;obtain⟨l,h1,rfl⟩:=h;obtain⟨k1,_,k3⟩:=R9 (E:=⟨fun _=>none,fun _=>none⟩) h1;have hs:cs.size=2:=by simpa using k1.symm
  have r0:=(k3 0 (by simp)).iQ
  have hm:∃x y,cs.toList=[x,y]:=by
   have:cs.toList.length=2:=by simpa using hs
   match hcl:cs.toList,this with
   | [x,y],_=>exact⟨x,y,rfl⟩
  obtain⟨x,y,hxy⟩:=hm
  have hcs:cs=#[x,y]:=by
   apply Array.ext';simpa using hxy
  subst hcs;simp only[List.mapM_cons,List.mapM_nil,Option.bind_eq_bind,Option.bind_eq_some_iff,Option.pure_def,Option.some.injEq,List.cons.injEq] at h1;obtain⟨p,hp,q,⟨q2,hq,q3,⟨rfl⟩,rfl⟩,rfl,rfl,_⟩:=h1;have hx:x=.pointer none:=(Sw (E:=⟨fun _=>none,fun _=>none⟩) hp).1.iQ
  have hy:y=.slice none 0 0:=by
   unfold Dj at hq;split at hq
   ·rfl
   ·cases hq
   ·split at hq<;>cases hq
  rw[hx,hy];rfl
 ·unfold Dj at h
  split at h<;>simp[Gy] at h
theorem Zj{P:Program}{n d:Nat}{c:Code}(h:comp P n c=some (.reg none [⟨some d,.alloc Gy 2,none,none⟩])){a:AF}{act:Act}{w:World}{E:Env}(hF:dR E n a act)(hρ:∀i,E.ρ i=none)(hH:jF E.H w){T:TypeId}
  (hT:∀id ops,c=.region id ops false→∃o,ops[0]? = some o∧o.op=.alloc T) (e:TypeId) :
  c.wp P (fun ex act' w'=>ex=.normal∧w'=w.alloc (.cells #[.pointer none,.slice none 0 0] T)∧yQ ⟨fun i=>if i=0 then some ⟨w.heap.size,0,2,1⟩ else none,E.H⟩ w'∧
   dR ⟨fun i=>if i=0 then some ⟨w.heap.size,0,2,1⟩ else none,E.H⟩ n (a.put (some d) (.ptr 0 0 0)) act'∧uw T e w.heap.size w.heap.size w [] w') act w:=by
 obtain⟨id,ops,rfl,hs,hc⟩:=Ze9 h;obtain⟨o,ho,hco⟩:=hc 0 (by simp);simp only[List.getElem_cons_zero] at hco;obtain⟨hd,hdst,hgd,hor⟩:=Da hco;obtain⟨o',ho',hop'⟩:=hT _ _ rfl;rw[ho] at ho';cases ho'
 have hgo:o.guard=none:=by
  unfold Ad at hgd;split at hgd
  ·assumption
  ·simp only[Option.map_eq_some_iff] at hgd
   obtain⟨_,_,e⟩:=hgd;cases e
 simp only at hdst hgd hor;rcases hor with⟨p,hp,_⟩ | ⟨_,hop⟩
 ·cases hp
 rw[hop'] at hop;simp only[cop,Option.map_eq_some_iff,jc.alloc.injEq] at hop;obtain⟨p,hz,hp1,hp2⟩:=hop;obtain⟨i,zv,g1,g2,g3,g4,g5,g6,g7⟩:=Jc (x:=p.1) (m:=p.2) hz;rw[hp1] at g3;have hzc:=Zjx g3;have hsz:ops.size=1:=by simpa using hs
 refine wp_region ?_;rw[hsz];have hl:List.range 1=[0]:=rfl;rw[hl];simp only[wpOps,ho,Region.wanted,hgo,if_true];left;unfold Oper.wp
 have hrun:(execOp act.eval o).run P w=.ok (.value (.pointer (some ⟨w.heap.size,0,none⟩))) (w.alloc (.cells #[.pointer none,.slice none 0 0] T)):=by
  rw[←hzc];simp[execOp,hop',Instr.alloc,zeroValue,typeInfo,g1,g2,newVar,newRow]
 rw[hrun,Oper.upon_value];have hle:E.le ⟨fun i=>if i=0 then some ⟨w.heap.size,0,2,1⟩ else none,E.H⟩:=⟨fun i l e=>absurd e (by rw[hρ i];simp),fun _ _ e=>e⟩;have hbel:Below w.heap.size w (w.alloc (.cells #[.pointer none,.slice none 0 0] T)):=(Below.refl w.heap.size w).alloc (Nat.le_refl _) _;refine⟨trivial,rfl,⟨fun b cs e=>?_,fun id h1=>by simp only;rw[if_neg (by omega)]⟩,?_,⟨.inl ⟨Nat.le_refl _,.slice none 0 0,IW w _,World.ownsRowF_nil _ _ _ _,by simp[Value.ownBlock]⟩,hbel,hbel.size⟩⟩
 ·obtain⟨el,fz,hw⟩:=hH b cs e
  exact⟨el,fz,by rw[hbel.block b (Array.getElem?_eq_some_iff.mp hw).1];exact hw⟩
 ·rw[hdst]
  have hr:aK ⟨fun i=>if i=0 then some ⟨w.heap.size,0,2,1⟩ else none,E.H⟩ (.ptr 0 0 0) (.pointer (some ⟨w.heap.size,0,none⟩)):=by
   have:=aK.ptr (E:=⟨fun i=>if i=0 then some ⟨w.heap.size,0,2,1⟩ else none,E.H⟩) 0 0 0 ⟨w.heap.size,0,2,1⟩ rfl;simpa using this
  exact(hF.mono hle).put hd hr
theorem aM.P63{P:Program}{f:FuncId}{fn:Func}{c:Code}{x0:List aT}{d:Nat}{Y:AC}{t:Nat}{T e:TypeId}(hf:P.funcs[f]? = some fn)(hnm:(fn.name == "runtime.NumGoroutine")=false)(hb:fn.body=some c)
  (hc:comp P fn.ntmps c=some (.seq (.reg none x0) (sq [⟨some d,.alloc Gy 2,none,none⟩] Y))) (hT:Di c=some T) (hr:fn.results=([t].map ResultVar.tmp).toArray) {args:List AV} (hn:args.length≤fn.ntmps) {r:Value} (hrs:xX r=true)
  (h0:∀(Q:Exit→AF→World→Prop) E w,jU P E (.reg none x0) Q (bC args) w=Q .normal (x0.foldl (fun a o=>a.put o.dst (match o.op with | .mv x=>x.ev a | _=>.junk)) (bC args)) w)
  (h1:∀E B w w0,BE E B B→jd P E.H→jF E.H w→uw T e B B w0 [] w→jU P E Y (fun ex a w'=>(ex=.ret∨ex=.normal)∧a t=.v r∧Below B w0 w') ((x0.foldl (fun a o=>a.put o.dst (match o.op with | .mv x=>x.ev a | _=>.junk)) (bC args)).put (some d) (.ptr 0 0 0)) w):aM P f args (.v r):=by
 refine⟨tJ hf hnm hb,fun H w vals hG hH hv=>?_⟩;obtain⟨c0,c1,rfl,hc0,hc1⟩:=Mf hc;obtain⟨c2,c3,rfl,hc2,hc3⟩:=Mf hc1;have hF:=yZ hv hn;have hE0:yQ ⟨sJ,H⟩ w:=⟨hH,fun _ _=>rfl⟩;refine calls_of_wp hf hb (wp_seq (wp_mono (SK c0 _ hc0 (fun ex a w'=>ex=.normal∧a=x0.foldl (fun a o=>a.put o.dst (match o.op with | .mv x=>x.ev a | _=>.junk)) (bC args)∧w'=w) _ w (by rw[h0];exact⟨rfl,rfl,rfl⟩) _ hE0 hF) fun ex oH w1 hp=>?_));obtain⟨a1,⟨rfl,rfl,rfl⟩,hF1,hE1⟩:=hp;refine wp_seq (wp_mono (Zj (e:=e) hc2 hF1 (fun _=>rfl) hE1.hH (T:=T) (fun id ops e=>?_)) fun ex iR w2 hp=>?_)
 ·subst e
  simp only[Di] at hT;split at hT
  ·rename_i o ho
   refine⟨o,ho,?_⟩;split at hT
   ·rename_i t' ht
    cases hT;exact ht
   ·cases hT
  ·cases hT
 obtain⟨rfl,rfl,hE2,hF2,hB⟩:=hp;have hbe:BE ⟨fun i=>if i=0 then some ⟨w1.heap.size,0,2,1⟩ else none,H⟩ w1.heap.size w1.heap.size:=⟨rfl,fun c cs e=>by obtain⟨el,fz,hw⟩:=hH c cs e;exact(Array.getElem?_eq_some_iff.mp hw).1⟩;refine wp_mono (SK c3 _ hc3 _ _ _ (h1 _ _ _ w1 hbe hG hE2.hH hB) _ hE2 hF2) fun ex Eb w3 hp=>?_
 obtain⟨a3,⟨hex,hat,hbel⟩,Cc,V4⟩:=hp;have hres:=I6 (P:=P) hr Eb.tmps w3;have hrep:=FH Cc [t];simp only[sG,hat] at hrep;have hval:=hrep.iQ
 have fin:bodyPost P fn (fun e w'=>∃v H',e=.returned v∧(∀b cs,H b=some cs→H' b=some cs)∧(∀b cs,H' b=some cs→H b=some cs∨w1.heap.size≤b)∧jF H' w'∧aK ⟨sJ,H'⟩ (.v r) v∧Below w1.heap.size w1 w') .ret Eb w3:=
  ⟨Cc.defers,_,hres,_,H,rfl,fun _ _ e=>e,fun _ _ e=>.inl e,V4.hH,by rw[hval];exact .v _ hrs,hbel⟩
 rcases hex with rfl | rfl
 ·exact fin
 ·exact fin
end Go.Rf
