import Derived.Test.YtdmcjhnbmgmgoaaGreatDoorRfStl
import Derived.Recover
set_option linter.unusedVariables false
set_option linter.unusedSimpArgs false
set_option linter.unusedSectionVars false
namespace Go.Rf
open Go.RowKit
structure EvB(b:Nat)(E:Env)(S:St)(w:World)(E':Env)(S':St)(w':World):Prop where
 os:w'.os=w.os
 tape:w'.tape=w.tape
 output:w'.output=w.output
 size:w.heap.size≤w'.heap.size
 keep:∀k,k < w.heap.size→(∀id l B,S.g id=some B→E.ρ id=some l→l.b≠k)→w'.heap[k]? = w.heap[k]?
 grow:∀id l B,S'.g id=some B→E'.ρ id=some l→w.heap.size≤l.b∨∃jg l0 k0,S.g jg=some k0∧E.ρ jg=some l0∧l0.b=l.b
 leB:∀id l,id < b→E.ρ id=some l→E'.ρ id=some l
 Ep:∀k cs,E.H k=some cs→E'.H k=some cs
 hsub:∀k cs,E'.H k=some cs→E.H k=some cs∨w.heap.size≤k∨∃jg l0 k0,S.g jg=some k0∧E.ρ jg=some l0∧l0.b=k
 jP:b≤S'.n
 low:∀id,id < b→E.ρ id=none→E'.ρ id=none
theorem Ev.toB{b:Nat}{E E':Env}{S S':St}{w w':World}(h:Ev E S w E' S' w')(hb:b≤S.n):EvB b E S w E' S' w':=
 ⟨h.bX.os,h.bX.tape,h.bX.output,h.bX.size,h.bX.keep,h.bX.grow,fun id l _ e=>h.bX.le.1 id l e,h.bX.le.2,h.bX.hsub,Nat.le_trans hb h.jP,fun id hi e=>h.low id (Nat.lt_of_lt_of_le hi hb) e⟩
theorem EvB.ev{E E':Env}{S S':St}{w w':World}(h:EvB S.n E S w E' S' w')(hS:bf E S w):Ev E S w E' S' w':=by
 refine⟨⟨h.os,h.tape,h.output,h.size,h.keep,h.grow,⟨fun id l e=>h.leB id l ?_ e,h.Ep⟩,h.hsub⟩,h.jP,h.low⟩;rcases Nat.lt_or_ge id S.n with h1 | h1
 ·exact h1
 ·rw[hS.fresh id h1] at e;cases e
theorem EvB.refl{b:Nat}(E:Env)(S:St)(w:World)(hb:b≤S.n):EvB b E S w E S w:=(Ev.refl E S w).toB hb
theorem EvB.trans{b:Nat}{E1 E2 E3:Env}{S1 S2 S3:St}{w1 w2 w3:World}(h:EvB b E1 S1 w1 E2 S2 w2)(k:EvB b E2 S2 w2 E3 S3 w3):EvB b E1 S1 w1 E3 S3 w3:=by
 refine⟨k.os.trans h.os,k.tape.trans h.tape,k.output.trans h.output,Nat.le_trans h.size k.size,?_,?_,fun id l hi e=>k.leB id l hi (h.leB id l hi e),fun a cs e=>k.Ep a cs (h.Ep a cs e),?_,k.jP,fun id hi e=>k.low id hi (h.low id hi e)⟩
 ·intro b hb hn
  rw[k.keep b (Nat.lt_of_lt_of_le hb h.size) ?_,h.keep b hb hn];intro id l kk hk hl e;rcases h.grow id l kk hk hl with hge | ⟨jg,l0,k0,a1,a2,a3⟩
  ·omega
  ·exact hn jg l0 k0 a1 a2 (a3.trans e)
 ·intro id l kk hk hl
  rcases k.grow id l kk hk hl with hge | ⟨jg,l0,k0,a1,a2,a3⟩
  ·left;exact Nat.le_trans h.size hge
  ·rcases h.grow jg l0 k0 a1 a2 with hge | ⟨id1,l1,k1,b1,b2,b3⟩
   ·left;omega
   ·right;exact⟨id1,l1,k1,b1,b2,b3.trans a3⟩
 ·intro b cs e
  rcases k.hsub b cs e with e1 | hge | ⟨jg,l0,k0,a1,a2,a3⟩
  ·exact h.hsub b cs e1
  ·right;left;exact Nat.le_trans h.size hge
  ·rcases h.grow jg l0 k0 a1 a2 with hge | ⟨id1,l1,k1,b1,b2,b3⟩
   ·right;left;omega
   ·right;right;exact⟨id1,l1,k1,b1,b2,b3.trans a3⟩
def bR(b:Nat)(a:AF)(S:St)(a':AF)(S':St):Prop:=
 ∀(E:Env) (w:World) (act:Act) (n:Nat),b≤S.n→bf E S w→fu E n a act→∃E',bf E' S' w∧fu E' n a' act∧EvB b E S w E' S' w
theorem bR.refl{b:Nat}(a:AF)(S:St):bR b a S a S:=fun E w _ _ hb hS hF=>⟨E,hS,hF,.refl _ _ _ hb⟩
def Zsn(I:Nat→AF→St→Prop)(b m:Nat):AF→St→Prop:=fun a S=>∃m' a' S',m' < m∧bR b a S a' S'∧I m' a' S'
def bG(P:Program)(b:Nat):AC→(Exit→AF→St→Prop)→AF→St→Prop
 | .seq x y,Q,a,S=>bG P b x (jE (bG P b y Q) Q) a S
 | .cond c x y,Q,a,S=>match c.ev a with
  | .v (.bool t)=>if t=true then bG P b x Q a S else bG P b y Q a S
  | _=>False
 | .block id x,Q,a,S=>bG P b x (l7 id Q) a S
 | .loop x,Q,a,S=>∃I:Nat→AF→St→Prop,(∃m a0 OZ,bR b a S a0 OZ∧I m a0 OZ)∧∀m a S,I m a S→bG P b x (jE (Zsn I b m) Q) a S
 | .exit id,Q,a,S=>Q (.exit id) a S
 | .ret,Q,a,S=>Q .ret a S
 | .scp x,Q,a,S=>bG P b x (xk Q) a S
 | .skip,Q,a,S=>Q .normal a S
 | .reg d os,Q,a,S=>AW P (.reg d os) Q a S
 | .wR l,Q,a,S=>AW P (.wR l) Q a S
 | .mE os p,Q,a,S=>AW P (.mE os p) Q a S
 | .bad,_,_,_=>False
def FQ:AC→Bool
 | .reg .. | .wR .. | .mE .. | .bad=>true
 | _=>false
theorem Znj{P:Program}{b:Nat}{ac:AC}(h:FQ ac=true){Q:Exit→AF→St→Prop}{a:AF}{S:St}(k:bG P b ac Q a S):AW P ac Q a S:=by
 cases ac<;>simp only[FQ,Bool.false_eq_true] at h<;>simp only[bG] at k<;>first | exact k | exact k.elim
theorem BL{P:Program}{b:Nat}:∀(ac:AC) {Q Q':Exit→AF→St→Prop} {a:AF} {S:St},(∀e a S,Q e a S→Q' e a S)→bG P b ac Q a S→bG P b ac Q' a S:=by
 intro ac;induction ac with
 | skip=>intro Q Q' a S hq h;exact hq _ _ _ h
 | reg d os=>intro Q Q' a S hq h;exact BN _ hq h
 | wR l=>intro Q Q' a S hq h;exact BN _ hq h
 | mE os p=>intro Q Q' a S hq h;exact BN _ hq h
 | seq x y fA ihy=>
  intro Q Q' a S hq h;refine fA (Q:=jE (bG P b y Q) Q) (fun e a S h=>?_) h;cases e with
  | normal=>exact ihy hq h
  | _=>exact hq _ _ _ h
 | cond c x y fA ihy=>
  intro Q Q' a S hq h;simp only[bG] at h ⊢;split at h
  ·rename_i b hb
   split at h
   ·rename_i hbt;rw[if_pos hbt];exact fA hq h
   ·rename_i hbt;rw[if_neg hbt];exact ihy hq h
  ·exact h.elim
 | block id x fA=>
  intro Q Q' a S hq h;refine fA (Q:=l7 id Q) (fun e a S h=>?_) h;cases e with
  | exit j=>
   simp only[l7] at h ⊢;split at h
   ·rename_i hj;rw[if_pos hj];exact hq _ _ _ h
   ·rename_i hj;rw[if_neg hj];exact hq _ _ _ h
  | _=>exact hq _ _ _ h
 | loop x fA=>
  intro Q Q' a S hq h;obtain⟨I,h1,h2⟩:=h;refine⟨I,h1,fun m a S hi=>fA (fun e a S h=>?_) (h2 m a S hi)⟩;cases e with
  | normal=>exact h
  | _=>exact hq _ _ _ h
 | exit id=>intro Q Q' a S hq h;exact hq _ _ _ h
 | ret=>intro Q Q' a S hq h;exact hq _ _ _ h
 | scp x fA=>
  intro Q Q' a S hq h;refine fA (Q:=xk Q) (fun e a S h=>?_) h;cases e with
  | goto l=>exact h
  | _=>exact hq _ _ _ h
 | bad=>intro Q Q' a S hq h;exact h
theorem AW.toB{P:Program}{b:Nat}:∀(ac:AC) {Q:Exit→AF→St→Prop} {a:AF} {S:St},AW P ac Q a S→bG P b ac Q a S:=by
 intro ac;induction ac with
 | skip=>intro Q a S h;exact h
 | reg d os=>intro Q a S h;exact h
 | wR l=>intro Q a S h;exact h
 | mE os p=>intro Q a S h;exact h
 | seq x y fA ihy=>
  intro Q a S h
  have h1:AW P x (jE (bG P b y Q) Q) a S:=BN _ (fun e a S k=>by
   cases e with
   | normal=>exact ihy k
   | _=>exact k) h
  exact fA h1
 | cond c x y fA ihy=>
  intro Q a S h;simp only[AW] at h;simp only[bG];split at h
  ·rename_i t ht
   split at h
   ·rename_i hbt;simp only[ht,hbt,if_true];exact fA h
   ·rename_i hbt;simp only[ht,if_neg hbt];exact ihy h
  ·exact h.elim
 | block id x fA=>intro Q a S h;exact fA h
 | loop x fA=>
  intro Q a S h;obtain⟨I,⟨m,h1⟩,h2⟩:=h;refine⟨I,⟨m,a,S,.refl _ _,h1⟩,fun m a S hi=>fA (BN _ (fun e a S k=>?_) (h2 m a S hi))⟩;cases e with
  | normal=>obtain⟨m',k1,k2⟩:=k;exact⟨m',a,S,k1,.refl _ _,k2⟩
  | _=>exact k
 | exit id=>intro Q a S h;exact h
 | ret=>intro Q a S h;exact h
 | scp x fA=>intro Q a S h;exact fA h
 | bad=>intro Q a S h;exact h
def Mr(b:Nat)(E0:Env)(S0:St)(w0:World)(n:Nat)(Q:Exit→AF→St→Prop):Exit→Act→World→Prop:=
 fun e act w=>∃a S E,Q e a S∧bf E S w∧fu E n a act∧EvB b E0 S0 w0 E S w
def Zvm(P:Program)(b n:Nat)(c:Code)(Q:Exit→AF→St→Prop)(a:AF)(S:St):Prop:=
 ∀E w act,jI P E.H→b≤S.n→bf E S w→fu E n a act→c.wp P (Mr b E S w n Q) act w
theorem Mr.trans{b:Nat}{E0 E1:Env}{S0 S1:St}{w0 w1:World}{n:Nat}{Q:Exit→AF→St→Prop}{e:Exit}{act:Act}{w:World}(h:EvB b E0 S0 w0 E1 S1 w1)(k:Mr b E1 S1 w1 n Q e act w):Mr b E0 S0 w0 n Q e act w:=
 let ⟨a,S,E,h1,h2,h3,h4⟩:=k;⟨a,S,E,h1,h2,h3,h.trans h4⟩
theorem VR{P:Program}{n b:Nat}{R:Program→Nat→Bool→Array Oper→AC}(hR:FW P n R)(hL:∀d ops,FQ (R P n d ops)=true):∀(c:Code) (ac:AC),eF R P n c=some ac→∀(Q:Exit→AF→St→Prop) (a:AF) (S:St),bG P b ac Q a S→Zvm P b n c Q a S:=by
 intro c;induction c with
 | skip=>
  intro ac hc Q a S h E w act hG hb hS hF;simp only[eF,Option.some.injEq] at hc;subst hc;exact wp_skip ⟨a,S,E,h,hS,hF,.refl _ _ _ hb⟩
 | label l=>
  intro ac hc Q a S h E w act hG hb hS hF;simp only[eF,Option.some.injEq] at hc;subst hc;exact wp_label ⟨a,S,E,h,hS,hF,.refl _ _ _ hb⟩
 | region id ops dr=>
  intro ac hc Q a S h E w act hG hb hS hF;rw[Ij hc] at h;refine wp_mono (hR id ops dr Q a S (Znj (hL _ _) h) E w act hG hS hF) fun e act' w' hp=>?_
  obtain⟨a',S',E',q,s,r,ev⟩:=hp;exact⟨a',S',E',q,s,r,ev.toB hb⟩
 | seq c1 c2 fA ihy=>
  intro ac hc Q a S h E w act hG hb hS hF;simp only[eF,Option.map_eq_some_iff,Option.bind_eq_some_iff] at hc;obtain⟨X,hX,Y,hY,rfl⟩:=hc;simp only[bG] at h;refine wp_seq (wp_mono (fA X hX _ a S h E w act hG hb hS hF) fun e act' w' hp=>?_);obtain⟨a',S',E',q,s,r,ev⟩:=hp;cases e with
  | normal=>exact wp_mono (ihy Y hY Q a' S' q E' w' act' (hG.sub ev.Ep) ev.jP s r) fun e jq w2 hp2=>hp2.trans ev
  | _=>exact⟨a',S',E',q,s,r,ev⟩
 | cond c0 c1 c2 fA ihy=>
  intro ac hc Q a S h E w act hG hb hS hF;simp only[eF,Option.map_eq_some_iff,Option.bind_eq_some_iff] at hc;obtain⟨C',hC,X,hX,Y,hY,rfl⟩:=hc;simp only[bG] at h;split at h
  ·rename_i t ht
   have r:=bT hF hC;rw[ht] at r;refine wp_cond (t:=t) r.jl ?_;cases t with
   | true=>exact fA X hX Q a S (by simpa using h) E w act hG hb hS hF
   | false=>exact ihy Y hY Q a S (by simpa using h) E w act hG hb hS hF
  ·exact h.elim
 | block id' c1 fA=>
  intro ac hc Q a S h E w act hG hb hS hF;simp only[eF,Option.map_eq_some_iff] at hc;obtain⟨X,hX,rfl⟩:=hc;simp only[bG] at h;refine wp_block (wp_mono (fA X hX _ a S h E w act hG hb hS hF) fun e act' w' hp=>?_);obtain⟨a',S',E',q,s,r,ev⟩:=hp;cases e with
  | exit j=>
   simp only[l7] at q;simp only[Exit.inBlock];split at q
   ·rename_i hj;rw[if_pos hj];exact⟨a',S',E',q,s,r,ev⟩
   ·rename_i hj;rw[if_neg hj];exact⟨a',S',E',q,s,r,ev⟩
  | _=>exact⟨a',S',E',q,s,r,ev⟩
 | loop c1 fA=>
  intro ac hc Q a S h E w act hG hb hS hF;simp only[eF,Option.map_eq_some_iff] at hc;obtain⟨X,hX,rfl⟩:=hc;simp only[bG] at h;obtain⟨I,⟨m0,a0,OZ,habs,hI0⟩,Nv⟩:=h;obtain⟨TJ,hS0,JU,Na⟩:=habs E w act n hb hS hF;intro bk k cs
  have key:∀m,∀a S E' w' act',jI P E'.H→I m a S→b≤S.n→bf E' S w'→fu E' n a act'→
    ∃e a' w2,Mr b E' S w' n Q e a' w2∧Arrives P (lone (bk.at act' (.code c1::.inLoop c1::k)) cs w') bk k cs e a' w2:=by
   intro m;induction m using Nat.strongRecOn with
   | _ m ih=>
    intro a S E' w' act' hG' hI hb' hS' hF';obtain⟨e,qU,w1,hp,harr⟩:=fA X hX _ a S (Nv m a S hI) E' w' act' hG' hb' hS' hF' bk (.inLoop c1::k) cs;obtain⟨a1,S1,E1,q,s,r,ev⟩:=hp;cases e with
    | normal=>
     obtain⟨m',a2,S2,hlt,aaB,hI'⟩:=q;obtain⟨E2,s2,r2,xJ⟩:=aaB E1 w1 qU n ev.jP s r;obtain⟨e2,jq,w2,hp2,Nj⟩:=ih m' hlt a2 S2 E2 w1 qU (hG'.sub (ev.trans xJ).Ep) hI' xJ.jP s2 r2;exact⟨e2,jq,w2,hp2.trans (ev.trans xJ),.of_steps (Steps.trans harr (.one step_inLoop)) Nj⟩
    | exit id=>exact⟨_,qU,w1,⟨a1,S1,E1,q,s,r,ev⟩,.pass (x:=.inLoop c1) rfl (fun _ _=>.inl (by simp)) harr⟩
    | goto l=>exact⟨_,qU,w1,⟨a1,S1,E1,q,s,r,ev⟩,.pass (x:=.inLoop c1) rfl (fun _ _=>.inl (by simp)) harr⟩
    | ret=>exact⟨_,qU,w1,⟨a1,S1,E1,q,s,r,ev⟩,.pass (x:=.inLoop c1) rfl (fun _ _=>.inl (by simp)) harr⟩
    | panic ch=>exact⟨_,qU,w1,⟨a1,S1,E1,q,s,r,ev⟩,.pass (x:=.inLoop c1) rfl (fun _ _=>.inl (by simp)) harr⟩
    | outgrown=>exact⟨_,qU,w1,⟨a1,S1,E1,q,s,r,ev⟩,.pass (x:=.inLoop c1) rfl (fun _ _=>.inl (by simp)) harr⟩
  obtain⟨e,a',w',hp,harr⟩:=key m0 a0 OZ TJ w act (hG.sub Na.Ep) hI0 Na.jP hS0 JU;exact⟨e,a',w',hp.trans Na,.of_steps (.one step_loop) harr⟩
 | exit id=>
  intro ac hc Q a S h E w act hG hb hS hF;simp only[eF,Option.some.injEq] at hc;subst hc;exact wp_exit ⟨a,S,E,h,hS,hF,.refl _ _ _ hb⟩
 | ret=>
  intro ac hc Q a S h E w act hG hb hS hF;simp only[eF,Option.some.injEq] at hc;subst hc;exact wp_ret ⟨a,S,E,h,hS,hF,.refl _ _ _ hb⟩
 | scope c1 fA=>
  intro ac hc Q a S h E w act hG hb hS hF;simp only[eF,Option.map_eq_some_iff] at hc;obtain⟨X,hX,rfl⟩:=hc;simp only[bG] at h;refine wp_scope_straight (wp_mono (fA X hX _ a S h E w act hG hb hS hF) fun e act' w' hp=>?_);obtain⟨a',S',E',q,s,r,ev⟩:=hp;cases e with
  | goto l=>exact q
  | _=>exact⟨a',S',E',q,s,r,ev⟩
 | _=>
  intro ac hc Q a S h;simp only[eF,Option.some.injEq] at hc;subst hc;simp only[bG] at h
theorem Fg{P:Program}{n:Nat}(d:Bool)(ops:Array Oper):FQ (wm P n d ops)=true:=by
 unfold wm Cy;split<;>rfl
theorem ZlR{P:Program}{n:Nat}(d:Bool)(ops:Array Oper):FQ (JJ P n d ops)=true:=by
 unfold JJ;split
 ·split
  ·split
   ·rfl
   ·exact Fg _ _
  ·exact Fg _ _
 ·exact Fg _ _
def MP(b:Nat)(ts:List Nat)(K:AV→St→Prop):Exit→AF→St→Prop:=fun e a S=>∃a' S',bR b a S a' S'∧gG ts K e a' S'
def Js(b:Nat)(rs:List RV)(K:AV→St→Prop):Exit→AF→St→Prop:=fun e a S=>∃a' S',bR b a S a' S'∧bK rs K e a' S'
theorem Is.uR{P:Program}(hm:P.follows .mixedOrders=true){f:FuncId}{ac:AC}{ts:List Nat}{n:Nat}(h:Is P f ac ts n){args:List AV}(hn:args.length=n){S:St}{K:AV→St→Prop}
  (hb:bG P S.n ac (MP S.n ts K) (bP args) S):aQ P f args S K:=by
 obtain⟨fn,c,hf,hnm,hbd,hc,hr,h6⟩:=h;refine⟨vK hf hnm hbd,fun E w vals hG hS hv=>?_⟩;refine calls_of_wp hf hbd (wp_mono (VR (BS hm) Fg c ac hc _ _ _ hb E w _ hG (Nat.le_refl _) hS (AA hv (by omega))) fun e act w' hp=>?_);obtain⟨a1,S1,E1,⟨a,S',habs,q⟩,s1,r1,wO⟩:=hp;obtain⟨E',s,r,xJ⟩:=habs E1 w' act _ wO.jP s1 r1;have ev:=(wO.trans xJ).ev hS;have hrr:=Lj (P:=P) hr act.tmps w';cases e<;>simp only[gG] at q
 ·exact⟨r.defers,_,hrr,_,_,S',E',rfl,q,s,IJ r ts,ev⟩
 ·exact⟨r.defers,_,hrr,_,_,S',E',rfl,q,s,IJ r ts,ev⟩
theorem Is.sS{P:Program}(hm:P.follows .mixedOrders=true){f:FuncId}{ac:AC}{ts:List Nat}{n:Nat}(h:Is P f ac ts n){args:List AV}(hn:args.length=n){r:AV}
  (hb:bG P 0 ac (gG ts (iQ r)) (bP args) S0):aN P f args r:=
 .uQ (h.uR hm hn (BL _ (fun e a S k=>⟨a,S,.refl _ _,k⟩) hb))
theorem Is.UY{P:Program}(hm:P.follows .mixedOrders=true){f:FuncId}{ac:AC}{ts:List Nat}{n:Nat}(h:Is P f ac ts n){args:List AV}(hn:args.length=n){r:AV}
  (hb:bG P 0 ac (gG ts (JB r)) (bP args) S0):rW P f args r:=
 .uQ (h.uR hm hn (BL _ (fun e a S k=>⟨a,S,.refl _ _,k⟩) hb))
theorem VP{P:Program}{f:FuncId}{ac:AC}{rs:List RV}{n:Nat}{R:Program→Nat→Bool→Array Oper→AC}(hR:∀k,FW P k R)(hL:∀k d ops,FQ (R P k d ops)=true)
  (h:∃fn c,P.funcs[f]? = some fn∧(fn.name == "runtime.NumGoroutine")=false∧fn.body=some c∧eF R P fn.ntmps c=some ac∧fn.results.toList.mapM (vv P)=some rs∧n≤fn.ntmps) {args:List AV} (hn:args.length=n) {S:St} {K:AV→St→Prop}
  (hb:bG P S.n ac (Js S.n rs K) (bP args) S):aQ P f args S K:=by
 obtain⟨fn,c,hf,hnm,hbd,hc,hr,h6⟩:=h;refine⟨vK hf hnm hbd,fun E w vals hG hS hv=>?_⟩;refine calls_of_wp hf hbd (wp_mono (VR (hR _) (hL _) c ac hc _ _ _ hb E w _ hG (Nat.le_refl _) hS (AA hv (by omega))) fun e act w' hp=>?_);obtain⟨a1,S1,E1,⟨a,S',habs,q⟩,s1,r1,wO⟩:=hp;obtain⟨E',s,r,xJ⟩:=habs E1 w' act _ wO.jP s1 r1;have ev:=(wO.trans xJ).ev hS;cases e<;>simp only[bK] at q
 ·obtain⟨xs,q1,q2⟩:=q
  obtain⟨val,k1,k2⟩:=Aw (P:=P) (fn:=fn) s r hr q1;exact⟨r.defers,_,k1,_,_,S',E',rfl,q2,s,k2,ev⟩
 ·obtain⟨xs,q1,q2⟩:=q
  obtain⟨val,k1,k2⟩:=Aw (P:=P) (fn:=fn) s r hr q1;exact⟨r.defers,_,k1,_,_,S',E',rfl,q2,s,k2,ev⟩
theorem jS.uR{P:Program}(hm:P.follows .mixedOrders=true){f:FuncId}{ac:AC}{rs:List RV}{n:Nat}(h:jS P f ac rs n){args:List AV}(hn:args.length=n){S:St}{K:AV→St→Prop}
  (hb:bG P S.n ac (Js S.n rs K) (bP args) S):aQ P f args S K:=VP (fun _=>BS hm) (fun _=>Fg) h hn hb
theorem vJ.uR{P:Program}(hm:P.follows .mixedOrders=true){f:FuncId}{ac:AC}{rs:List RV}{n:Nat}(h:vJ P f ac rs n){args:List AV}(hn:args.length=n){S:St}{K:AV→St→Prop}
  (hb:bG P S.n ac (Js S.n rs K) (bP args) S):aQ P f args S K:=VP (fun _=>Xo hm) (fun _=>ZlR) h hn hb
theorem jS.sS{P:Program}(hm:P.follows .mixedOrders=true){f:FuncId}{ac:AC}{rs:List RV}{n:Nat}(h:jS P f ac rs n){args:List AV}(hn:args.length=n){r:AV}
  (hb:bG P 0 ac (bK rs (iQ r)) (bP args) S0):aN P f args r:=
 .uQ (h.uR hm hn (BL _ (fun e a S k=>⟨a,S,.refl _ _,k⟩) hb))
theorem vJ.sS{P:Program}(hm:P.follows .mixedOrders=true){f:FuncId}{ac:AC}{rs:List RV}{n:Nat}(h:vJ P f ac rs n){args:List AV}(hn:args.length=n){r:AV}
  (hb:bG P 0 ac (bK rs (iQ r)) (bP args) S0):aN P f args r:=
 .uQ (h.uR hm hn (BL _ (fun e a S k=>⟨a,S,.refl _ _,k⟩) hb))
theorem jS.UY{P:Program}(hm:P.follows .mixedOrders=true){f:FuncId}{ac:AC}{rs:List RV}{n:Nat}(h:jS P f ac rs n){args:List AV}(hn:args.length=n){r:AV}
  (hb:bG P 0 ac (bK rs (JB r)) (bP args) S0):rW P f args r:=
 .uQ (h.uR hm hn (BL _ (fun e a S k=>⟨a,S,.refl _ _,k⟩) hb))
theorem vJ.UY{P:Program}(hm:P.follows .mixedOrders=true){f:FuncId}{ac:AC}{rs:List RV}{n:Nat}(h:vJ P f ac rs n){args:List AV}(hn:args.length=n){r:AV}
  (hb:bG P 0 ac (bK rs (JB r)) (bP args) S0):rW P f args r:=
 .uQ (h.uR hm hn (BL _ (fun e a S k=>⟨a,S,.refl _ _,k⟩) hb))
inductive Wk:AV→AV→Prop
 | refl (x:AV):Wk x x
 | sl (t:Bool) (xs ys:List AV) (hl:ys.length=xs.length) (h:∀i (h1:i < xs.length) (h2:i < ys.length),Wk (xs[i]) (ys[i])):Wk (.sl t xs) (.sl false ys)
 | slt (t:Bool) (xs ys:List AV) (hl:ys.length=xs.length) (h:∀i (h1:i < xs.length) (h2:i < ys.length),Wk (xs[i]) (ys[i])):Wk (.sl t xs) (.sl t ys)
 | agg (cs ds:List AV) (hl:ds.length=cs.length) (h:∀i (h1:i < cs.length) (h2:i < ds.length),Wk (cs[i]) (ds[i])):Wk (.agg cs) (.agg ds)
theorem Wk.cells{x y:AV}(h:Wk x y):∀i (h1:i < x.cells.length) (h2:i < y.cells.length),Wk (x.cells[i]) (y.cells[i]):=by
 cases h with
 | refl x=>intro i h1 h2;exact .refl _
 | sl t xs ys hl h=>intro i h1 h2;simp only[AV.cells,List.length_cons,List.length_nil,Nat.zero_add,Nat.lt_one_iff] at h1;subst h1;exact .sl t xs ys hl h
 | slt t xs ys hl h=>intro i h1 h2;simp only[AV.cells,List.length_cons,List.length_nil,Nat.zero_add,Nat.lt_one_iff] at h1;subst h1;exact .slt t xs ys hl h
 | agg cs ds hl h=>exact h
def kU(a b:List AV):Prop:=b.length=a.length∧∀i (h1:i < a.length) (h2:i < b.length),Wk (a[i]) (b[i])
theorem kU.nil:kU [] []:=⟨rfl,fun i h=>by simp at h⟩
theorem kU.cons{x y:AV}{a b:List AV}(h:Wk x y)(k:kU a b):kU (x::a) (y::b):=by
 refine⟨by simp[k.1],fun i h1 h2=>?_⟩;cases i with
 | zero=>exact h
 | succ i=>exact k.2 i (by simpa using h1) (by simpa using h2)
theorem kU.refl(a:List AV):kU a a:=⟨rfl,fun _ _ _=>.refl _⟩
theorem Wk.sl'{t:Bool}{xs ys:List AV}(h:kU xs ys):Wk (.sl t xs) (.sl false ys):=.sl t xs ys h.1 h.2
theorem Wk.agg'{xs ys:List AV}(h:kU xs ys):Wk (.agg xs) (.agg ys):=.agg xs ys h.1 h.2
def Im(x y:AV):Prop:=∀E v,aL E x v→aL E y v
structure WkF(x y:AV):Prop where
 rep:Im x y
 len:y.cells.length=x.cells.length
 cell:∀i (h1:i < x.cells.length) (h2:i < y.cells.length),Im (x.cells[i]) (y.cells[i])
 atom:x.atom=true→y.atom=true
 P65:(∀z∈x.cells,z.atom=true)→∀z∈y.cells,z.atom=true
theorem Xu:∀{xs ys:List AV},ys.length=xs.length→(∀i (h1:i < xs.length) (h2:i < ys.length),WkF (xs[i]) (ys[i]))→
  (flat ys).length=(flat xs).length∧(∀k (h1:k < (flat xs).length) (h2:k < (flat ys).length),Im ((flat xs)[k]) ((flat ys)[k]))∧((∀z∈flat xs,z.atom=true)→∀z∈flat ys,z.atom=true)
 | [],[],_,_=>⟨rfl,fun k h1=>by simp[flat] at h1,fun _ z hz=>by simp[flat] at hz⟩
 | [],_::_,h,_=>by simp at h
 | _::_,[],h,_=>by simp at h
 | x::xs,y::ys,hl,h=>by
  obtain⟨i1,i2,i3⟩:=Xu (xs:=xs) (ys:=ys) (by simpa using hl) (fun i h1 h2=>h (i+1) (by simpa using h1) (by simpa using h2));have h0:=h 0 (by simp) (by simp);simp only[List.getElem_cons_zero] at h0;have e1:flat (x::xs)=x.cells++flat xs:=by simp[flat]
  have e2:flat (y::ys)=y.cells++flat ys:=by simp[flat]
  refine⟨by rw[e1,e2];simp[h0.len,i1],fun k h1 h2=>?_,fun hz z Ti=>?_⟩
  ·simp only[e1,e2] at h1 h2 ⊢
   by_cases hk:k < x.cells.length
   ·rw[List.getElem_append_left hk,List.getElem_append_left (by rw[h0.len];exact hk)]
    exact h0.cell k hk (by rw[h0.len];exact hk)
   ·rw[List.getElem_append_right (by omega),List.getElem_append_right (by rw[h0.len];omega)]
    simp only[h0.len];exact i2 _ _ _
  ·rw[e2] at Ti
   rw[e1] at hz;rcases List.mem_append.mp Ti with hm | hm
   ·exact h0.P65 (fun z hz'=>hz z (by simp[hz'])) z hm
   ·exact i3 (fun z hz'=>hz z (by simp[hz'])) z hm
theorem Wk.f{x y:AV}(h:Wk x y):WkF x y:=by
 induction h with
 | refl x=>exact⟨fun _ _ h=>h,rfl,fun _ _ _ _ _ h=>h,id,id⟩
 | sl t xs ys hl h ih=>
  obtain⟨f1,f2,f3⟩:=Xu hl ih
  have hrep:Im (.sl t xs) (.sl false ys):=by
   intro E v hr;cases hr with
   | sl0 _ A cap ht=>
    have:ys=[]:=List.eq_nil_of_length_eq_zero (by simpa using hl);subst this;exact .sl0 false A cap (by simp)
   | sl _ _ b o cap cs es f hne hb hes hcap ht hat hc hr=>
    have hcount:xs.length=ys.length:=hl.symm;rw[hcount];refine .sl false ys b o cap cs es f (by omega) hb (fun z hz=>?_) (by omega) (by simp) (f3 hat) (fun k hk=>hc k (by omega)) (fun k hk=>f2 k (by omega) hk E _ (hr k (by omega)));obtain⟨i,hi,rfl⟩:=List.mem_iff_getElem.mp hz;rw[(ih i (by omega) hi).len];exact hes _ (List.getElem_mem _)
  refine⟨hrep,rfl,fun i h1 h2=>?_,fun _=>rfl,fun _ z hz=>?_⟩
  ·simp only[AV.cells,List.length_cons,List.length_nil,Nat.zero_add,Nat.lt_one_iff] at h1
   subst h1;exact hrep
  ·simp[AV.cells] at hz;subst hz;rfl
 | slt t xs ys hl h ih=>
  obtain⟨f1,f2,f3⟩:=Xu hl ih
  have hrep:Im (.sl t xs) (.sl t ys):=by
   intro E v hr;cases hr with
   | sl0 _ A cap ht=>
    have:ys=[]:=List.eq_nil_of_length_eq_zero (by simpa using hl);subst this;exact .sl0 t A cap ht
   | sl _ _ b o cap cs es f hne hb hes hcap ht hat hc hr=>
    have hcount:xs.length=ys.length:=hl.symm;rw[hcount];refine .sl t ys b o cap cs es f (by omega) hb (fun z hz=>?_) (by omega) (fun e=>by rw[ht e];omega) (f3 hat) (fun k hk=>hc k (by omega)) (fun k hk=>f2 k (by omega) hk E _ (hr k (by omega)));obtain⟨i,hi,rfl⟩:=List.mem_iff_getElem.mp hz;rw[(ih i (by omega) hi).len];exact hes _ (List.getElem_mem _)
  refine⟨hrep,rfl,fun i h1 h2=>?_,fun _=>rfl,fun _ z hz=>?_⟩
  ·simp only[AV.cells,List.length_cons,List.length_nil,Nat.zero_add,Nat.lt_one_iff] at h1
   subst h1;exact hrep
  ·simp[AV.cells] at hz;subst hz;rfl
 | agg cs ds hl h ih=>
  refine⟨fun E v hr=>?_,hl,fun i h1 h2=>(ih i h1 h2).rep,fun e=>by simp[AV.atom] at e,fun hz z Ti=>?_⟩
  ·cases hr with
   | agg _ vs hn hat hr=>
    refine .agg ds vs (by omega) (fun z hz=>?_) (fun j hj=>(ih j (by omega) hj).rep E _ (hr j (by omega)));obtain⟨i,hi,rfl⟩:=List.mem_iff_getElem.mp hz;exact(ih i (by omega) hi).atom (hat _ (List.getElem_mem _))
  ·obtain⟨i,hi,rfl⟩:=List.mem_iff_getElem.mp Ti
   exact(ih i (by simp only[AV.cells] at hi ⊢;omega) hi).atom (hz _ (List.getElem_mem _))
theorem aN.wk{P:Program}{f:FuncId}{args args':List AV}{r:AV}(h:aN P f args' r)(hw:kU args args'):aN P f args r:=
 h.weak hw.1 (fun j h1 h2 E v hr=>(hw.2 j h1 h2).f.rep E v hr)
inductive bQ (gF:Nat→Option aF) (R:Nat→Nat→Prop):AV→AV→Prop
 | fz (x y:AV) (h:Fz gF x y):bQ gF R x y
 | wk (x y:AV) (hc:aY x) (h:Wk x y):bQ gF R x y
 | own (id j off len:Nat) (h:R j id):bQ gF R (.own id off len) (.own j off len)
 | ptr (id j ix c:Nat) (h:R j id):bQ gF R (.ptr id ix c) (.ptr j ix c)
 | mp (id j:Nat) (h:R j id):bQ gF R (.mp id) (.mp j)
 | agg (cs ds:List AV) (hl:ds.length=cs.length) (h:∀i (h1:i < cs.length) (h2:i < ds.length),bQ gF R (cs[i]) (ds[i])):bQ gF R (.agg cs) (.agg ds)
 | aM (cs ds:List AV) (hl:ds.length=cs.length) (h:∀i (h1:i < cs.length) (h2:i < ds.length),bQ gF R (cs[i]) (ds[i])):bQ gF R (.aM cs) (.aM ds)
 | aP (f:FuncId) (vw bs as' bs':List AV) (hl:as'.length=vw.length) (hm:bs'.length=bs.length) (h:∀i (h1:i < vw.length) (h2:i < as'.length),bQ gF R (vw[i]) (as'[i]))
   (k:∀i (h1:i < bs.length) (h2:i < bs'.length),bQ gF R (bs[i]) (bs'[i])):bQ gF R (.aP f vw bs) (.aP f as' bs')
def iZ(gF:Nat→Option aF)(R:Nat→Nat→Prop)(xs ys:List AV):Prop:=ys.length=xs.length∧∀i (h1:i < xs.length) (h2:i < ys.length),bQ gF R (xs[i]) (ys[i])
section
variable{gF:Nat→Option aF}{R:Nat→Nat→Prop}
theorem bQ.cells{x r:AV}(h:bQ gF R x r):r.cells.length=x.cells.length∧(x.atom=true→r.atom=true)∧∀i (h1:i < x.cells.length) (h2:i < r.cells.length),bQ gF R (x.cells[i]) (r.cells[i]):=by
 cases h with
 | fz _ _ h=>exact⟨h.cells.1,h.cells.2.1,fun i h1 h2=>.fz _ _ (h.cells.2.2 i h1 h2)⟩
 | wk _ _ hc h=>exact⟨h.f.len,h.f.atom,fun i h1 h2=>.wk _ _ (hc.cells _ (List.getElem_mem _)) (h.cells i h1 h2)⟩
 | own id j off len h=>exact⟨rfl,fun _=>rfl,fun i h1 h2=>by simp[AV.cells] at h1;subst h1;exact .own id j off len h⟩
 | ptr id j ix c h=>exact⟨rfl,fun _=>rfl,fun i h1 h2=>by simp[AV.cells] at h1;subst h1;exact .ptr id j ix c h⟩
 | mp id j h=>exact⟨rfl,fun _=>rfl,fun i h1 h2=>by simp[AV.cells] at h1;subst h1;exact .mp id j h⟩
 | agg cs ds hl h=>exact⟨hl,fun e=>by simp[AV.atom] at e,h⟩
 | aM cs ds hl h=>exact⟨rfl,fun e=>by simp[AV.atom] at e,fun i h1 h2=>by simp[AV.cells] at h1;subst h1;exact .aM cs ds hl h⟩
 | aP f vw bs as' bs' hl hm h k=>exact⟨rfl,fun _=>rfl,fun i h1 h2=>by simp[AV.cells] at h1;subst h1;exact .aP f vw bs as' bs' hl hm h k⟩
theorem ZiI:∀{xs zs:List AV},iZ gF R xs zs→(flat zs).length=(flat xs).length∧∀k (h1:k < (flat xs).length) (h2:k < (flat zs).length),bQ gF R ((flat xs)[k]) ((flat zs)[k])
 | [],[],_=>⟨rfl,fun k h1=>by simp[flat] at h1⟩
 | [],_::_,h=>by have:=h.1;simp at this
 | _::_,[],h=>by have:=h.1;simp at this
 | x::xs,z::zs,h=>by
  obtain⟨i1,i2⟩:=ZiI (xs:=xs) (zs:=zs) ⟨by simpa using h.1,fun i h1 h2=>h.2 (i+1) (by simpa using h1) (by simpa using h2)⟩;obtain⟨c1,_,c3⟩:=(h.2 0 (by simp) (by simp)).cells;simp only[List.getElem_cons_zero] at c1 c3;have e1:flat (x::xs)=x.cells++flat xs:=by simp[flat]
  have e2:flat (z::zs)=z.cells++flat zs:=by simp[flat]
  refine⟨by rw[e1,e2];simp[c1,i1],fun k h1 h2=>?_⟩;simp only[e1,e2] at h1 h2 ⊢;by_cases hk:k < x.cells.length
  ·rw[List.getElem_append_left hk,List.getElem_append_left (by omega)]
   exact c3 k hk (by omega)
  ·rw[List.getElem_append_right (by omega),List.getElem_append_right (by omega)]
   simp only[c1];exact i2 _ _ _
theorem bQ.rep{E:Env}{S:St}{w:World}(hS:bf E S w)(hg:∀i k,gF i=some k→S.g i=some k){E2:Env}(hH:∀b cs,E.H b=some cs→E2.H b=some cs)
  (hL:∀id es xs l,gF id=some (.arr es xs)→E.ρ id=some l→∀cs el fz,w.heap[l.b]? = some (.cells cs el fz)→E2.H l.b=some cs)
  (hR:∀j i l,R j i→E.ρ i=some l→E2.ρ j=some l):∀{x r:AV},bQ gF R x r→∀{v:Value},aL E x v→aL E2 r v:=by
 intro x r h;induction h with
 | fz x y h=>intro v hr;exact Fz.rep hS hg hH hL h hr
 | wk x y hc h=>intro v hr;exact h.f.rep _ _ (hr.closed hH hc)
 | own id j off len h=>
  intro v hr;cases hr with
  | own _ _ _ A cap l hl hlen hA=>exact .own j off len A cap l (hR _ _ _ h hl) hlen hA
 | ptr id j ix c h=>
  intro v hr;cases hr with
  | ptr _ _ _ l hl=>exact .ptr j ix c l (hR _ _ _ h hl)
 | mp id j h=>
  intro v hr;cases hr with
  | mp _ l hl=>exact .mp j l (hR _ _ _ h hl)
 | agg cs ds hl h ih=>
  intro v hr;cases hr with
  | agg _ vs hn hat hr=>
   refine .agg ds vs (by omega) (fun y hy=>?_) (fun j hj=>ih j (by omega) hj (hr j (by omega)));obtain⟨k,hk,e⟩:=List.mem_iff_getElem.mp hy;rw[←e];exact(h k (by omega) hk).cells.2.1 (hat _ (List.getElem_mem _))
 | aM cs ds hl h ih=>
  intro v hr;cases hr with
  | aM _ vs hn hr=>exact .aM ds vs (by omega) (fun j hj=>ih j (by omega) hj (hr j (by omega)))
 | aP f vw bs as' bs' hl hm h k ih1 ih2=>
  intro v hr;cases hr with
  | aP _ _ _ fv cv hn hm' hf hc=>exact .aP f as' bs' fv cv (by omega) (by omega) (fun j hj=>ih1 j (by omega) hj (hf j (by omega))) (fun j hj=>ih2 j (by omega) hj (hc j (by omega)))
end
inductive Gd (gF:Nat→Option aF) (R:Nat→Nat→Prop):aF→aF→Prop
 | arr (es:Nat) (xs ys:List AV) (h:iZ gF R xs ys):Gd gF R (.arr es xs) (.arr es ys)
 | map (es fs:List (AV×AV)) (hl:fs.length=es.length) (h:∀i (h1:i < es.length) (h2:i < fs.length),bQ gF R (es[i]).1 (fs[i]).1∧bQ gF R (es[i]).2 (fs[i]).2):Gd gF R (.map es) (.map fs)
theorem Gd.ok{gF:Nat→Option aF}{R:Nat→Nat→Prop}{E E2:Env}{w:World}{l:Loc}{k k':aF}(h:Gd gF R k k')(hrep:∀{x y:AV},bQ gF R x y→∀{v:Value},aL E x v→aL E2 y v)(hok:mJ E w l k):mJ E2 w l k':=by
 cases h with
 | arr es xs ys h=>
  obtain⟨h1,h2,h3,h4,cs,el,h5,h6,h7⟩:=hok;obtain⟨f1,f2⟩:=ZiI h;refine⟨h1,by rw[h.1];exact h2,fun y hy=>?_,fun y hy=>?_,cs,el,h5,h6,fun k hk=>?_⟩
  ·obtain⟨i,hi,rfl⟩:=List.mem_iff_getElem.mp hy
   have hi':i < xs.length:=by have:=h.1;omega
   rw[(h.2 i hi' hi).cells.1];exact h3 _ (List.getElem_mem hi')
  ·obtain⟨i,hi,rfl⟩:=List.mem_iff_getElem.mp hy
   have hi':i < (flat xs).length:=by omega
   exact(f2 i hi' hi).cells.2.1 (h4 _ (List.getElem_mem hi'))
  ·have hi':k < (flat xs).length:=by omega
   obtain⟨v,a,b⟩:=h7 k hi';exact⟨v,a,hrep (f2 k hi' hk) b⟩
 | map es fs hl h=>
  obtain⟨cs,clock,h1,h2,h3⟩:=hok;refine⟨cs,clock,h1,by omega,fun k hk=>?_⟩;obtain⟨e,a,b,c⟩:=h3 k (by omega);exact⟨e,a,hrep (h k (by omega) hk).1 b,hrep (h k (by omega) hk).2 c⟩
def bY:List (Nat×Option aF)→Nat→Option aF
 | [],_=>none
 | (j,b)::l,i=>if i=j then b else bY l i
def jk:List (Nat×AV)→AF
 | [],_=>.junk
 | (j,x)::l,t=>if t=j then x else jk l t
theorem kr(i:Nat):bY [] i=none:=by simp only[bY]
theorem jU(j:Nat)(b:Option aF)(l:List (Nat×Option aF))(i:Nat):bY ((j,b)::l) i=if i=j then b else bY l i:=by simp only[bY]
theorem jT(t:Nat):jk [] t=.junk:=by simp only[jk]
theorem jK(j:Nat)(x:AV)(l:List (Nat×AV))(t:Nat):jk ((j,x)::l) t=if t=j then x else jk l t:=by simp only[jk]
theorem Xk:∀{l:List (Nat×Option aF)} {i:Nat} {k:aF},bY l i=some k→(i,some k)∈l
 | [],i,k,h=>by simp[bY] at h
 | (j,b)::l,i,k,h=>by
  simp only[bY] at h;split at h
  ·rename_i e;subst e;subst h;simp
  ·exact List.mem_cons_of_mem _ (Xk h)
theorem ZhE:∀{l:List (Nat×AV)} {t:Nat},jk l t=.junk∨(t,jk l t)∈l
 | [],t=>.inl rfl
 | (j,x)::l,t=>by
  simp only[jk];split
  ·rename_i e;subst e;exact .inr (by simp)
  ·rcases ZhE (l:=l) (t:=t) with h | h
   ·exact .inl h
   ·exact .inr (List.mem_cons_of_mem _ h)
def JK(o:List (Nat×Nat))(b:Nat)(j i:Nat):Prop:=(j,i)∈o∨(j=i∧i < b)
structure OOk(o:List (Nat×Nat))(F:List Nat)(b N:Nat):Prop where
 a:∀p∈o,p.1 < N∧(p.1 < b→p.2=p.1)∧p.2∉F
 u:o.Pairwise fun p q=>p.1≠q.1∧p.2≠q.2
theorem IC:∀{o:List (Nat×Nat)} (hu:o.Pairwise fun p q=>p.1≠q.1∧p.2≠q.2) {j i:Nat},(j,i)∈o→o.lookup j=some i
 | [],_,j,i,h=>by simp at h
 | (j',i')::o,hu,j,i,h=>by
  rw[List.pairwise_cons] at hu;rw[List.lookup_cons];rcases List.mem_cons.mp h with h | h
  ·cases h;simp
  ·have hne:=(hu.1 _ h).1
   have hb:(j == j')=false:=by simpa using fun e=>hne e.symm
   rw[hb];exact IC hu.2 h
theorem Zdo:∀{o:List (Nat×Nat)} {j i:Nat},o.lookup j=some i→(j,i)∈o
 | [],j,i,h=>by simp at h
 | (j',i')::o,j,i,h=>by
  rw[List.lookup_cons] at h;split at h
  ·rename_i e;simp only[beq_iff_eq] at e;cases h;subst e;simp
  ·exact List.mem_cons_of_mem _ (Zdo h)
theorem Ztq{o:List (Nat×Nat)}(hu:o.Pairwise fun p q=>p.1≠q.1∧p.2≠q.2){j1 j2 i1 i2:Nat}(h1:(j1,i1)∈o)(h2:(j2,i2)∈o)(hne:j1≠j2):i1≠i2:=by
 induction o with
 | nil=>simp at h1
 | cons p o ih=>
  rw[List.pairwise_cons] at hu;rcases List.mem_cons.mp h1 with e1 | h1
  ·rcases List.mem_cons.mp h2 with e2 | h2
   ·rw[←e1] at e2;cases e2;exact(hne rfl).elim
   ·have:=(hu.1 _ h2).2;rw[←e1] at this;exact this
  ·rcases List.mem_cons.mp h2 with e2 | h2
   ·have:=(hu.1 _ h1).2;rw[←e2] at this;exact fun e=>this e.symm
   ·exact ih hu.2 h1 h2
def Bf(gF:Nat→Option aF)(R:Nat→Nat→Prop)(k:Option aF)(k':Option aF):Prop:=∀b',k'=some b'→∃b,k=some b∧Gd gF R b b'
theorem bR.of{b:Nat}{a:AF}{S:St}(o:List (Nat×Nat))(F:List Nat){A:List (Nat×AV)}{N:Nat}{G:List (Nat×Option aF)}(hb:b≤N)(ho:OOk o F b N)
  (hG:∀p∈G,p.2=none∨∃i,(p.1,i)∈o∧Bf (only F S.g) (JK o b) (S.g i) p.2) (hA:∀p∈A,bQ (only F S.g) (JK o b) (a p.1) p.2):bR b a S (jk A) ⟨N,bY G⟩:=by
 intro E w act n hbS hS hF;have hg:∀i k,only F S.g i=some k→S.g i=some k:=Fp
 let ρ':Nat→Option Loc:=fun j=>if j < b then E.ρ j else match o.lookup j with | some i=>E.ρ i | none=>none
 let E2:Env:=⟨ρ',sW E (only F S.g) w⟩
 have hR:∀j i l,JK o b j i→E.ρ i=some l→E2.ρ j=some l:=by
  intro j i l hji hl;show ρ' j=some l
  simp only[ρ'];rcases hji with h | ⟨rfl,h⟩
  ·split
   ·rename_i hj
    have e:i=j:=(ho.a _ h).2.1 hj;rw[e] at hl;exact hl
   ·rw[IC ho.u h];exact hl
  ·rw[if_pos h];exact hl
 have hH:∀b cs,E.H b=some cs→E2.H b=some cs:=fun b cs e=>BK e
 have hL:∀id es xs l,only F S.g id=some (.arr es xs)→E.ρ id=some l→∀cs el fz,w.heap[l.b]? = some (.cells cs el fz)→E2.H l.b=some cs:=by
  intro id es xs l hgi Ah cs el fz hw;obtain⟨l',a1,a2,_⟩:=hS.live id _ (hg _ _ hgi);rw[Ah] at a1;cases a1;exact Qd hgi Ah a2 hw
 have hrep:∀{x y:AV},bQ (only F S.g) (JK o b) x y→∀{v:Value},aL E x v→aL E2 y v:=fun h _ hv=>h.rep hS hg hH hL hR hv
 have hlive:∀j k',bY G j=some k'→∃i k,(j,i)∈o∧S.g i=some k∧Gd (only F S.g) (JK o b) k k':=by
  intro j k' h;rcases hG _ (Xk h) with h1 | ⟨i,h1,h2⟩
  ·simp at h1
  ·obtain⟨k,h3,h4⟩:=h2 k' rfl
   exact⟨i,k,h1,h3,h4⟩
 refine⟨E2,⟨fun k cs e=>?_,fun j k' e=>?_,fun j1 j2 k1 k2 l1 l2 e1 e2 hne r1 r2=>?_,fun j hj=>?_⟩,⟨hF.size,hF.defers,fun t=>?_⟩,⟨rfl,rfl,rfl,Nat.le_refl _,fun _ _ _=>rfl,fun j l k' e hl=>?_,fun id l hi e=>?_,hH,fun k cs e=>?_,hb,fun id hi e=>?_⟩⟩
 ·rcases Ay e with h1 | ⟨_,h1,_⟩
  ·exact hS.hH k cs h1
  ·exact h1
 ·obtain⟨i,k,h1,h2,h3⟩:=hlive j k' e
  obtain⟨l,a1,a2,a3⟩:=hS.live i k h2;refine⟨l,hR j i l (.inl h1) a1,?_,h3.ok hrep a3⟩;show sW E (only F S.g) w l.b=none
  cases e2:sW E (only F S.g) w l.b with
  | none=>rfl
  | some cs=>
   exfalso;rcases Ay e2 with h4 | ⟨_,_,i2,k2,l2,b1,b2,b3⟩
   ·rw[a2] at h4;cases h4
   ·by_cases hii:i2=i
    ·subst hii
     rw[DL] at b1;split at b1
     ·rename_i hf;exact(ho.a _ h1).2.2 hf
     ·cases b1
    ·exact hS.nL i2 i k2 k l2 l (hg _ _ b1) h2 hii b2 a1 b3
 ·obtain⟨i1,b1,p1,p2,_⟩:=hlive j1 k1 e1
  obtain⟨i2,b2,q1,q2,_⟩:=hlive j2 k2 e2;obtain⟨m1,a1,_⟩:=hS.live i1 b1 p2;obtain⟨m2,a2,_⟩:=hS.live i2 b2 q2;have c1:=hR j1 i1 m1 (.inl p1) a1;have c2:=hR j2 i2 m2 (.inl q1) a2;rw[c1] at r1;cases r1;rw[c2] at r2;cases r2;exact hS.nL i1 i2 b1 b2 _ _ p2 q2 (Ztq ho.u p1 q1 hne) a1 a2
 ·have hj:N≤j:=hj
  show ρ' j=none
  simp only[ρ'];rw[if_neg (by omega)];cases e:o.lookup j with
  | none=>rfl
  | some i=>have:=(ho.a _ (Zdo e)).1;simp only at this;omega
 ·rcases ZhE (l:=A) (t:=t) with h | h
  ·rw[h];exact .junk _
  ·exact hrep (hA _ h) (hF.at_ t)
 ·obtain⟨i,k,h1,h2,h3⟩:=hlive j k' e
  have hl:E2.ρ j=some l:=hl;obtain⟨l0,a1,_⟩:=hS.live i k h2;have:=hR j i l0 (.inl h1) a1;rw[this] at hl;cases hl;exact .inr ⟨i,_,k,h2,a1,rfl⟩
 ·show ρ' id=some l
  simp only[ρ'];rw[if_pos hi];exact e
 ·rcases Ay e with h1 | ⟨_,_,i2,k2,l2,b1,b2,b3⟩
  ·exact .inl h1
  ·exact .inr (.inr ⟨i2,l2,k2,hg _ _ b1,b2,b3⟩)
 ·show ρ' id=none
  simp only[ρ'];rw[if_pos hi];exact e
structure lq(g:Nat→Option aF)(n:Nat)(av:List Nat)(vs:List AV)(ls:List (List AV)):Prop where
 len:vs.length=ls.length
 row:∀t (h:t < vs.length) (h':t < ls.length),Vec g vs[t] 1 (ls[t])
 sep:vs.Pairwise (fun a b=>∀i∈a.ids,i∉b.ids)
 out:∀v∈vs,∀i∈v.ids,i < n∧i∉av
theorem lq.nil{g:Nat→Option aF}{n:Nat}{av:List Nat}:lq g n av [] []:=⟨rfl,fun t h=>by simp at h,.nil,by simp⟩
theorem lq.cons{g:Nat→Option aF}{n:Nat}{av:List Nat}{vs:List AV}{ls:List (List AV)}{v:AV}{l:List AV}(hv:Vec g v 1 l)(ho:∀i∈v.ids,i < n∧i∉av)(hs:∀w∈vs,∀i∈v.ids,i∉w.ids)(h:lq g n av vs ls) :
  lq g n av (v::vs) (l::ls):=by
 refine⟨by simp[h.len],fun t h1 h2=>?_,List.pairwise_cons.mpr ⟨hs,h.sep⟩,fun w hw=>?_⟩
 ·cases t with
  | zero=>exact hv
  | succ t=>exact h.row t (by simpa using h1) (by simpa using h2)
 ·rcases List.mem_cons.mp hw with rfl | hw
  ·exact ho
  ·exact h.out w hw
theorem lq.head{g:Nat→Option aF}{n:Nat}{av:List Nat}{vs:List AV}{ls:List (List AV)}{v:AV}{l:List AV}(h:lq g n av (v::vs) (l::ls)) :
  Vec g v 1 l∧(∀i∈v.ids,i < n∧i∉av)∧(∀w∈vs,∀i∈v.ids,i∉w.ids)∧lq g n av vs ls:=by
 have hp:=List.pairwise_cons.mp h.sep;refine⟨h.row 0 (by simp) (by simp),h.out v (by simp),hp.1,by have:=h.len;simpa using this,fun t h1 h2=>?_,hp.2,fun w hw=>h.out w (by simp[hw])⟩;exact h.row (t+1) (by simpa using h1) (by simpa using h2)
theorem lq.frame{g g':Nat→Option aF}{n n':Nat}{av:List Nat}{vs:List AV}{ls:List (List AV)}(h:lq g n av vs ls)(hn:n≤n')(hg:∀v∈vs,∀i∈v.ids,g' i=g i):lq g' n' av vs ls:=
 ⟨h.len,fun t h1 h2=>(h.row t h1 h2).frame (fun i hi=>hg _ (List.getElem_mem h1) i hi),h.sep,fun v hv i hi=>⟨Nat.lt_of_lt_of_le (h.out v hv i hi).1 hn,(h.out v hv i hi).2⟩⟩
theorem lq.snoc{g:Nat→Option aF}{n:Nat}{av:List Nat}{vs:List AV}{ls:List (List AV)}{v:AV}{l:List AV}(h:lq g n av vs ls)(hv:Vec g v 1 l)(ho:∀i∈v.ids,i < n∧i∉av)(hs:∀w∈vs,∀i∈w.ids,i∉v.ids) :
  lq g n av (vs++[v]) (ls++[l]):=by
 refine⟨by simp[h.len],fun t h1 h2=>?_,?_,fun w hw=>?_⟩
 ·by_cases ht:t < vs.length
  ·have ht2:t < ls.length:=by rw[←h.len];exact ht
   rw[List.getElem_append_left ht,List.getElem_append_left ht2];exact h.row t ht ht2
  ·have e:t=vs.length:=by simp at h1;omega
   have e2:t=ls.length:=by rw[←h.len];exact e
   rw[List.getElem_append_right (by omega),List.getElem_append_right (by omega)];simp[e,←h.len];exact hv
 ·rw[List.pairwise_append]
  exact⟨h.sep,by simp,fun a ha b hb=>by simp at hb;subst hb;exact hs a ha⟩
 ·rcases List.mem_append.mp hw with hw | hw
  ·exact h.out w hw
  ·simp at hw;subst hw;exact ho
theorem Vec.K7{g:Nat→Option aF}{n:Nat}{v:AV}{es:Nat}{xs:List AV}{aC:Nat}{x:AV}{aB:Nat}(h:Vec g v es xs)(hes:∀z∈xs,z.cells.length=es)(hx:x.cells.length=es)(hok:dF aB xs.length 1) :
  (kP es aB v (.sl true [x])).runT ⟨n,g⟩ aC=some (.own aC 0 (xs.length+1),(St.without ⟨n,g⟩ v).set aC (some (.arr es (xs++[x]))),v.ids,v.ids++[aC]):=by
 rcases h with⟨rfl,rfl⟩ | ⟨id,off,ys,rfl,h1,h2,h3⟩
 ·simp only[List.length_nil] at hok
  simp[kP,Eff.runT,AV.kF,mq,hx,hok,St.without,St.fD,St.iU,AV.ids]
 ·have hl:off+xs.length=ys.length:=by rw[←h3];simp;omega
  simp[kP,Eff.runT,AV.kF,mq,hx,hok,St.without,St.fD,St.iU,h1,hl,h3,AV.ids]
theorem Vec.fzL{g:Nat→Option aF}{v:AV}{es:Nat}{xs zs:List AV}(h:Vec g v es xs)(hl:zs.length=xs.length)(hz:∀i (h1:i < xs.length) (h2:i < zs.length),Fz g (xs[i]) (zs[i])):Fz g v (.sl false zs):=by
 rcases h with⟨rfl,h0⟩ | ⟨id,off,ys,rfl,h1,h2,h3⟩
 ·subst h0
  have:zs=[]:=List.eq_nil_of_length_eq_zero hl;subst this;exact .loose true [] (.sl _ _ (by simp))
 ·have hle:off+xs.length=ys.length:=by rw[←h3];simp;omega
  have ht:(ys.drop off).take xs.length=xs:=by rw[h3,List.take_length]
  refine .own id off _ es ys zs h1 (by omega) hl (fun i k1 k2=>?_);simp only[ht] at k1 ⊢;exact hz i k1 k2
def rX(ds:List Deferred)(a:Act):Act:={ a with defers:=a.defers++ds }
theorem IK(ds:List Deferred)(a:Act)(d:Option Tmp)(v:Value):(rX ds a).put d v=rX ds (a.put d v):=by cases d<;>rfl
theorem ZeU(ds:List Deferred)(a:Act):(rX ds a).eval=a.eval:=by
 funext x;cases x<;>rfl
theorem Zpf{P:Program}{o:Oper}{ds:List Deferred}{a:Act}{next next':Act→World→Prop}{Q Q':Exit→Act→World→Prop}(hn:∀a w,next a w→next' (rX ds a) w)(hq:∀e a w,Q e a w→Q' e (rX ds a) w) :
  ∀(r:Result Next),o.upon P a next Q r→o.upon P (rX ds a) next' Q' r:=by
 intro r h;unfold Oper.upon at h ⊢;split at h
 ·rw[IK];exact hn _ _ h
 ·rw[IK];exact hn _ _ h
 ·rename_i d w'
  have:=hn _ _ h;rw[←IK] at this;exact this
 ·refine h.mono fun e w' h2=>?_
  cases e with
  | returned v=>simp only at h2 ⊢;rw[IK];exact hn _ _ h2
  | panicked ch=>exact hq _ _ _ h2
  | outgrown=>obtain⟨a',w2,h3⟩:=h2;exact⟨_,_,hq _ _ _ h3⟩
 ·refine h.mono fun v w' h2=>?_
  rw[IK];exact hn _ _ h2
 ·exact hq _ _ _ h
 ·exact h.elim
theorem PU{P:Program}{ops:Array Oper}{ds:List Deferred}{Q Q':Exit→Act→World→Prop}(hq:∀e a w,Q e a w→Q' e (rX ds a) w):∀(l:List Nat) (a:Act) (w:World),wpOps P ops Q l a w→wpOps P ops Q' l (rX ds a) w
 | [],a,w,h=>hq _ _ _ h
 | i::l,a,w,h=>by
  simp only[wpOps] at h ⊢;split
  ·rename_i ho
   rw[ho] at h;exact PU hq l a w h
  ·rename_i o ho
   rw[ho] at h;simp only at h;have ht:(rX ds a).tmps=a.tmps:=rfl;rw[ht];split at h
   ·rename_i hw
    rw[if_pos hw];rcases h with h | ⟨h1,a',w',h2⟩
    ·left
     unfold Oper.wp at h ⊢;rw[ZeU];exact Zpf (fun a w h=>PU hq l a w h) hq _ h
    ·right
     refine⟨?_,_,_,hq _ _ _ h2⟩;unfold Oper.asks at h1 ⊢;rw[ZeU];exact h1
   ·rename_i hw
    rw[if_neg hw,IK];exact PU hq l _ w h
theorem ZjR{P:Program}(hm:P.follows .mixedOrders=true){n:Nat}{ops:Array Oper}{Q:Exit→AF→St→Prop}{a:AF}{S:St}(h:AW P (mE P n false ops) Q a S){E:Env}{w:World}{act:Act}(hG:jI P E.H)(hS:bf E S w)(hF:fu E n a act) :
  wpOps P ops (nZ E S w n Q) (List.range ops.size) act w:=by
 unfold mE at h;rw[if_neg (by simp)] at h;split at h
 ·rename_i os hos
  obtain⟨h1,h2⟩:=AB hos
  have hget:∀k (hk:k < os.length),∃o,ops[k]? = some o∧nW P n ops o=some (os[k]):=fun k hk=>by
   obtain⟨o,a1,a2⟩:=h2 k hk;exact⟨o,by simpa using a1,a2⟩
  split at h
  ·simp only[AW] at h
   exact LK (id:=0) (p:=none) hget (fun _ e=>by cases e) (by rw[h1];simp) h hG hS hF
  ·simp only[AW] at h
   exact LK (id:=0) (p:=none) hget (fun _ e=>by cases e) (by rw[h1];simp) (Iu _ _ h) hG hS hF
 ·cases hl:A8 P n ops ops.toList.reverse with
  | mE os p=>
   rw[hl] at h;have x:=ZfV hl;simp only[AW] at h;exact LK (id:=0) x.hc x.ht x.hs h hG hS hF
  | bad=>rw[hl] at h;simp only[AW] at h
  | _=>
   exfalso;cases hr:ops.toList.reverse with
   | nil=>rw[hr] at hl;simp[A8] at hl
   | cons o rest=>
    rw[hr] at hl;simp only[A8] at hl;split at hl<;>(try split at hl)<;>cases hl
def Ea:Code→Bool
 | .region _ _ d=>!d
 | .seq a b=>Ea a && Ea b
 | .ret | .skip=>true
 | _=>false
theorem Zqt{P:Program}(hm:P.follows .mixedOrders=true){n:Nat}(ds:List Deferred):∀(c:Code) (ac:AC),xW P n c=some ac→Ea c=true→∀(Q:Exit→AF→St→Prop) (a:AF) (S:St),AW P ac Q a S→∀E w act,jI P E.H→bf E S w→fu E n a act→
  c.wp P (fun e act' w'=>∃M4,act'=rX ds M4∧nZ E S w n Q e M4 w') (rX ds act) w:=by
 intro c;induction c with
 | skip=>
  intro ac hc hs Q a S h E w act hG hS hF;simp only[xW,eF,Option.some.injEq] at hc;subst hc;exact wp_skip ⟨act,rfl,a,S,E,h,hS,hF,.refl _ _ _⟩
 | ret=>
  intro ac hc hs Q a S h E w act hG hS hF;simp only[xW,eF,Option.some.injEq] at hc;subst hc;exact wp_ret ⟨act,rfl,a,S,E,h,hS,hF,.refl _ _ _⟩
 | region id ops dr=>
  intro ac hc hs Q a S h E w act hG hS hF;have e:=Ij (R:=mE) hc;subst e;simp only[Ea,Bool.not_eq_true'] at hs;subst hs;exact wp_region (PU (fun e a w hp=>⟨a,rfl,hp⟩) _ _ _ (ZjR hm h hG hS hF))
 | seq x y fA ihy=>
  intro ac hc hs Q a S h E w act hG hS hF;simp only[xW,eF,Option.map_eq_some_iff,Option.bind_eq_some_iff] at hc;obtain⟨X,hX,Y,hY,rfl⟩:=hc;simp only[Ea,Bool.and_eq_true] at hs;simp only[AW] at h;refine wp_seq (wp_mono (fA X hX hs.1 _ a S h E w act hG hS hF) fun e act' w' hp=>?_);obtain⟨M4,rfl,a',S',E',q,s,r,ev⟩:=hp;cases e with
  | normal=>
   exact wp_mono (ihy Y hY hs.2 Q a' S' q E' w' M4 (hG.le ev.bX.le) s r) fun e jq w2 ⟨Gt,e3,hp2⟩=>⟨Gt,e3,hp2.trans ev⟩
  | _=>exact⟨M4,rfl,a',S',E',q,s,r,ev⟩
 | _=>intro ac hc hs;simp[Ea] at hs
def QJ:Code→Option (Nat×Nat×Code)
 | .seq (.region _ ⟨[⟨some d,.call ⟨.builtin .recover,⟨[]⟩,_⟩,_,_,_,none⟩,⟨some e,.assign (.tmp d'),_,_,_,none⟩]⟩ false) rest=>if d'=d then some (d,e,rest) else none
 | _=>none
def F5(P:Program)(f:FuncId):Option (Nat×Nat×AC×Nat):=
 match P.funcs[f]? with
 | none=>none
 | some fn=>match fn.body with
  | none=>none
  | some c=>if (fn.name == "runtime.NumGoroutine")=false∧fn.results=#[] then match QJ c with
   | none=>none
   | some (d,e,rest)=>if d < fn.ntmps∧e < fn.ntmps then (comp P fn.ntmps rest).map fun ac=>(d,e,ac,fn.ntmps) else none
   else none
theorem ZjQ{c:Code}{d e:Nat}{rest:Code}(h:QJ c=some (d,e,rest)):∃id o p,c=.seq (.region id #[o,p] false) rest∧(∃ts,o.op=.call ⟨.builtin .recover,#[],ts⟩)∧o.guard=none∧o.dst=some d∧p.op=.assign (.tmp d)∧p.guard=none∧p.dst=some e:=by
 unfold QJ at h;split at h
 ·split at h
  ·rename_i hd
   cases h;subst hd;exact⟨_,_,_,rfl,⟨_,rfl⟩,rfl,rfl,rfl,rfl,rfl⟩
  ·cases h
 ·cases h
theorem ZfT{P:Program}{f:FuncId}{d e n:Nat}{ac:AC}(h:F5 P f=some (d,e,ac,n)):∃fn c rest,P.funcs[f]? = some fn∧(fn.name == "runtime.NumGoroutine")=false∧fn.body=some c∧fn.results=#[]∧QJ c=some (d,e,rest)∧d < n∧e < n∧comp P n rest=some ac∧fn.ntmps=n:=by
 unfold F5 at h;split at h
 ·cases h
 ·rename_i fn hf
  split at h
  ·cases h
  ·rename_i c hc
   split at h
   ·rename_i hcond
    split at h
    ·cases h
    ·rename_i d' e' rest hr
     split at h
     ·rename_i hlt
      simp only[Option.map_eq_some_iff,Prod.mk.injEq] at h;obtain⟨ac',h1,rfl,rfl,rfl,rfl⟩:=h;exact⟨fn,c,rest,hf,hcond.1,hc,hcond.2,hr,hlt.1,hlt.2,h1,rfl⟩
     ·cases h
   ·cases h
def vk:FrameMode→Value×FrameMode
 | .panicking [{ v,recovered:=false,goexit:=false }]=>(v,.panicking [{ v,recovered:=true }])
 | u=>(.nilIface,u)
theorem ZtJ{P:Program}(hm:P.follows .mixedOrders=true){f:FuncId}{d e n:Nat}{ac:AC}(h:F5 P f=some (d,e,ac,n)){args:List AV}(hn:args.length≤n){S:St}{u:FrameMode}(hu:u=.returning∨∃v,u=.panicking [{ v,recovered:=false }])(hs:zG (vk u).1=true){K:St→Prop}
  (hb:AW P ac (fun ex a S'=>(ex=.normal∨ex=.ret)∧K S') (((bP args).put (some d) (.v (vk u).1)).put (some e) (.v (vk u).1)) S) :
  ∀E w vals,jI P E.H→bf E S w→kC E args vals→CallsD P f vals u w fun en u2 w'=>∃S' E' v,en=.returned v∧u2=(vk u).2∧K S'∧bf E' S' w'∧Ev E S w E' S' w':=by
 intro E w vals hG hS hv;obtain⟨fn,c,rest,hf,hnm,hbd,hres,hinv,hd,he,hac,rfl⟩:=ZfT h;obtain⟨id,o,p,rfl,⟨ts,ho⟩,hog,hod,hp,hpg,Ze⟩:=ZjQ hinv;refine callsD_of_wpS hf hbd fun c₀ cs hc=>?_
 have JU:=AA hv hn;have hF1:=(JU.put (dst:=some d) (by intro d' e';cases e';exact hd) (.v (vk u).1 hs)).put (dst:=some e) (by intro d' e';cases e';exact he) (.v (vk u).1 hs)
 have hrun:∀(act:Act) (w:World),(execOp act.eval o).run P w=.ok .recover w:=by
  intro act w;simp only[execOp,ho,resolve,invoke,Sem.run_bind];rfl
 have hrec:∀{Q:Exit→Act→List Frame→World→Prop} {act:Act} {w:World},Q .normal ((act.put (some d) (vk u).1).put (some e) (vk u).1) ({ c₀ with mode:=(vk u).2 }::cs) w→d < act.tmps.size→wpOpsS P #[o,p] Q (List.range 2) act (c₀::cs) w:=by
  intro Q act w hq hsz;have hl:List.range 2=[0,1]:=rfl;have g0:(#[o,p]:Array Oper)[0]? = some o:=rfl;have g1:(#[o,p]:Array Oper)[1]? = some p:=rfl
  have abh:∀(v:Value) (w:World),(execOp (act.put (some d) v).eval p).run P w=.ok (.value v) w:=by
   intro v w;simp only[execOp,hp]
   have:(act.put (some d) v).eval (.tmp d)=v:=by
    simp[Act.put,Act.eval,hsz]
   rw[this];rfl
  have fin:∀(v:Value) (cs':List Frame),Q .normal ((act.put (some d) v).put (some e) v) cs' w→wpOpsS P #[o,p] Q [1] (act.put o.dst v) cs' w:=by
   intro v cs' hq';rw[hod];simp only[wpOpsS,g1,Region.wanted,hpg,if_true,abh];rw[Oper.upon_value,Ze];exact hq'
  rw[hl];unfold wpOpsS;simp only[g0,Region.wanted,hog,if_true,hrun];rcases hu with rfl | ⟨v,rfl⟩
  ·have hr:recoverD (c₀::cs)=none:=by simp only[recoverD,hc]
   rw[hr];have hcc:({ c₀ with mode:=.returning }:Frame)=c₀:=by rw[←hc]
   simp only[vk,hcc] at hq;exact fin _ _ hq
  ·have hr:recoverD (c₀::cs)=some (v,{ c₀ with mode:=.panicking [{ v,recovered:=true }] }::cs):=by simp only[recoverD,hc]
   rw[hr];exact fin _ _ hq
 refine wpS_seq (wpS_region (hrec ?_ ?_))
 ·show(Code.wpS P rest _ _ _ _)
  refine wpS_of_wp (wp_mono (Wv hm ac rest hac _ _ _ hb E w _ hG hS hF1) fun ex act' w' hpost=>?_);obtain⟨a',S',E',⟨hex,hk⟩,hS',hF',hev⟩:=hpost;have hrs:=Lj (P:=P) (fn:=fn) (ts:=[]) (by simpa using hres) act'.tmps w';rcases hex with rfl | rfl
  ·exact⟨hF'.defers,_,rfl,_,hrs,S',E',_,rfl,rfl,hk,hS',hev⟩
  ·exact⟨hF'.defers,_,rfl,_,hrs,S',E',_,rfl,rfl,hk,hS',hev⟩
 ·have:=JU.size
  rw[this];exact hd
structure M1 where
 a0:AC
 ag:AC
 d:Nat
 g:FuncId
 x:Nat
 y:Nat
 ar:AC
 nt:Nat
 rs:List RV
def Qz:Code→Option (Code×Code×Nat×FuncId×Nat×Nat×Code)
 | .seq c0 (.seq cg (.seq (.region _ ⟨[⟨some d,.makeFunc (.func g) ⟨[]⟩ ⟨[.tmp x,.tmp y]⟩,_,_,_,none⟩,⟨none,.defer ⟨.value (.tmp d'),⟨[]⟩,_⟩,_,_,_,none⟩]⟩ false) rest))=>if d=d' then some (c0,cg,d,g,x,y,rest) else none
 | _=>none
def JI(P:Program)(f:FuncId):Option M1:=
 match P.funcs[f]? with
 | none=>none
 | some fn=>match fn.body with
  | none=>none
  | some c=>if (fn.name == "runtime.NumGoroutine")=false then match Qz c with
   | none=>none
   | some (c0,cg,d,g,x,y,rest)=>if d < fn.ntmps∧Ea rest=true then
     (xW P fn.ntmps c0).bind fun A0=>(xW P fn.ntmps cg).bind fun AG=>(xW P fn.ntmps rest).bind fun AR=>(fn.results.toList.mapM (vv P)).map fun rs=>⟨A0,AG,d,g,x,y,AR,fn.ntmps,rs⟩
    else none
   else none
theorem Zjs{c c0 cg rest:Code}{d x y:Nat}{g:FuncId}(h:Qz c=some (c0,cg,d,g,x,y,rest)):∃id o p,c=.seq c0 (.seq cg (.seq (.region id #[o,p] false) rest))∧o.op=.makeFunc (.func g) #[] #[.tmp x,.tmp y]∧o.guard=none∧o.dst=some d∧
  (∃ts,p.op=.defer ⟨.value (.tmp d),#[],ts⟩)∧p.guard=none∧p.dst=none:=by
 unfold Qz at h;split at h
 ·split at h
  ·rename_i hd
   cases h;subst hd;exact⟨_,_,_,rfl,rfl,rfl,rfl,⟨_,rfl⟩,rfl,rfl⟩
  ·cases h
 ·cases h
theorem Ztd{P:Program}{f:FuncId}{m:M1}(h:JI P f=some m):∃fn c c0 cg rest,P.funcs[f]? = some fn∧(fn.name == "runtime.NumGoroutine")=false∧fn.body=some c∧Qz c=some (c0,cg,m.d,m.g,m.x,m.y,rest)∧m.d < fn.ntmps∧Ea rest=true∧
  xW P fn.ntmps c0=some m.a0∧xW P fn.ntmps cg=some m.ag∧xW P fn.ntmps rest=some m.ar∧fn.results.toList.mapM (vv P)=some m.rs∧fn.ntmps=m.nt:=by
 unfold JI at h;split at h
 ·cases h
 ·rename_i fn hf
  split at h
  ·cases h
  ·rename_i c hc
   split at h
   ·rename_i hnm
    split at h
    ·cases h
    ·rename_i c0 cg d g x y rest hd
     split at h
     ·rename_i hcond
      simp only[Option.bind_eq_some_iff,Option.map_eq_some_iff] at h;obtain⟨A0,h0,AG,h1,AR,h2,rs,h3,rfl⟩:=h;exact⟨fn,c,c0,cg,rest,hf,hnm,hc,hd,hcond.1,hcond.2,h0,h1,h2,h3,rfl⟩
     ·cases h
   ·cases h
def He(P:Program)(x9:AC)(dr er:Nat)(rs:List RV)(cap:List AV)(K:AV→St→Prop)(u:FrameMode)(a':AF)(S':St):Prop:=
 AW P x9 (fun ex _ S2=>(ex=.normal∨ex=.ret)∧∃xs,bV a' S2.g rs=some xs∧K (cK xs) S2) (((bP cap).put (some dr) (.v (vk u).1)).put (some er) (.v (vk u).1)) S'
def Q8(P:Program)(x9:AC)(dr er:Nat)(rs:List RV)(cap:List AV)(K:AV→St→Prop):Exit→AF→St→Prop:=fun e a' S'=>
 match e with
 | .ret=>He P x9 dr er rs cap K .returning a' S'
 | .normal=>He P x9 dr er rs cap K .returning a' S'
 | .panic ch=>∃v,ch=[{ v,recovered:=false }]∧zG v=true∧He P x9 dr er rs cap K (.panicking [{ v,recovered:=false }]) a' S'
 | _=>False
def JC(P:Program)(m:M1)(x9:AC)(dr er:Nat)(K:AV→St→Prop):Exit→AF→St→Prop:=fun e a S=>
 match e with
 | .ret=>∃xs,bV a S.g m.rs=some xs∧K (cK xs) S
 | .normal=>AW P m.ar (Q8 P x9 dr er m.rs [a m.x,a m.y] K) (a.put (some m.d) (.aP m.g [] [a m.x,a m.y])) S
 | _=>False
def RU(P:Program)(m:M1)(x9:AC)(dr er:Nat)(K:AV→St→Prop):Exit→AF→St→Prop:=fun e a S=>
 match e with
 | .normal=>AW P m.ag (JC P m x9 dr er K) a S
 | _=>False
theorem ZnW{P:Program}(hm:P.follows .mixedOrders=true){f:FuncId}{m:M1}(h:JI P f=some m){dr er nr:Nat}{x9:AC}(h':F5 P m.g=some (dr,er,x9,nr))(hnr:2≤nr){args:List AV}(hn:args.length≤m.nt){S:St}{K:AV→St→Prop}
  (hb:AW P m.a0 (RU P m x9 dr er K) (bP args) S):aQ P f args S K:=by
 obtain⟨fn,c,c0,cg,rest,hf,hnm,hbd,hinv,hd,hstr,hc0,hcg,hcr,hrs,hnt⟩:=Ztd h;obtain⟨id,o,p,rfl,ho,hog,hod,⟨ts,hp⟩,hpg,Ze⟩:=Zjs hinv;refine⟨vK hf hnm hbd,fun E w vals hG hS hv=>?_⟩;rw[←hnt] at hn;refine calls_of_wp_defers hf hbd (wp_seq (wp_mono (VU hm m.a0 c0 hc0 _ _ _ hb E w _ hG hS (AA hv hn)) fun e act w1 hp1=>?_));obtain⟨a1,S1,E1,q1,hS1,hF1,wO⟩:=hp1;cases e<;>simp only[RU] at q1;refine wp_seq (wp_mono (VU hm m.ag cg hcg _ _ _ q1 E1 w1 act (hG.le wO.bX.le) hS1 hF1) fun e jq w2 hp2=>?_);obtain⟨a2,S2,E2,q2,hS2,hF2,xJ⟩:=hp2;cases e<;>simp only[JC] at q2
 case ret=>
  obtain⟨xs,hx,hk⟩:=q2;obtain⟨val,k1,k2⟩:=Aw (P:=P) (fn:=fn) hS2 hF2 hrs hx;show Leaves P fn jq.tmps _ jq.defers .returning w2
  rw[hF2.defers];exact⟨val,k1,val,_,S2,E2,rfl,hk,hS2,k2,wO.trans xJ⟩
 case normal=>
  have rx:aL E2 (a2 m.x) (jq.eval (.tmp m.x)):=hF2.at_ m.x
  have ry:aL E2 (a2 m.y) (jq.eval (.tmp m.y)):=hF2.at_ m.y
  have Af:aL E2 (.aP m.g [] [a2 m.x,a2 m.y]) (.func (.func m.g) #[] #[jq.eval (.tmp m.x),jq.eval (.tmp m.y)]):=by
   refine .aP m.g [] [a2 m.x,a2 m.y] #[] #[jq.eval (.tmp m.x),jq.eval (.tmp m.y)] rfl rfl (fun j hj=>by simp at hj) (fun j hj=>?_)
   match j,hj with
   | 0,_=>exact rx
   | 1,_=>exact ry
  have Ei:=hF2.put (dst:=some m.d) (by intro d' e';cases e';exact hd) Af
  let D:Deferred:={ target:=.fn (.func m.g) #[jq.eval (.tmp m.x),jq.eval (.tmp m.y)],args:=#[] }
  have abf:(execOp jq.eval o).run P w2=.ok (.value (.func (.func m.g) #[] #[jq.eval (.tmp m.x),jq.eval (.tmp m.y)])) w2:=by
   simp[execOp,ho,Instr.makeFunc]
  have hsz:=hF2.size
  have abg:(execOp (jq.put (some m.d) (.func (.func m.g) #[] #[jq.eval (.tmp m.x),jq.eval (.tmp m.y)])).eval p).run P w2=.ok (.defer D) w2:=by
   have he:(jq.put (some m.d) (.func (.func m.g) #[] #[jq.eval (.tmp m.x),jq.eval (.tmp m.y)])).eval (.tmp m.d)=.func (.func m.g) #[] #[jq.eval (.tmp m.x),jq.eval (.tmp m.y)]:=by
    have:m.d < jq.tmps.size:=by rw[hsz];exact hd
    simp[Act.put,Act.eval,this]
   simp only[execOp,hp,Sem.run_bind,ER _ _ _ _ _ he,Result.andThen_ok];simp[D]
  refine wp_seq (wp_region ?_);have hl:List.range (#[o,p]:Array Oper).size=[0,1]:=rfl;have g0:(#[o,p]:Array Oper)[0]? = some o:=rfl;have g1:(#[o,p]:Array Oper)[1]? = some p:=rfl;rw[hl];simp only[wpOps,g0,g1,Region.wanted,hog,hpg,if_true];left;unfold Oper.wp;rw[abf,Oper.upon_value,hod];left;rw[abg,Oper.upon_defer,Ze]
  have hact:({ (jq.put (some m.d) (.func (.func m.g) #[] #[jq.eval (.tmp m.x),jq.eval (.tmp m.y)])) with defers:=D::(jq.put (some m.d) (.func (.func m.g) #[] #[jq.eval (.tmp m.x),jq.eval (.tmp m.y)])).defers }:Act).put none undef=rX [D] (jq.put (some m.d) (.func (.func m.g) #[] #[jq.eval (.tmp m.x),jq.eval (.tmp m.y)])):=by
   have:=Ei.defers;simp only[Act.put,rX] at this ⊢;rw[this];rfl
  rw[hact];show Code.wp P rest _ _ _
  refine wp_mono (Zqt hm [D] rest m.ar hcr hstr _ _ _ q2 E2 w2 _ (hG.le (wO.trans xJ).bX.le) hS2 Ei) fun e abt w4 hp4=>?_
  obtain⟨Ab,rfl,a5,S5,E5,q5,hS5,hF5,SA⟩:=hp4
  have hcap:kC E5 [a2 m.x,a2 m.y] (#[]++#[jq.eval (.tmp m.x),jq.eval (.tmp m.y)]):=by
   refine⟨rfl,fun j hj=>?_⟩
   match j,hj with
   | 0,_=>exact rx.mono SA.bX.le
   | 1,_=>exact ry.mono SA.bX.le
  obtain⟨fr,cr,abK,hfr,ab3,aaG,_⟩:=ZfT h';have aaL:tO P m.g:=vK hfr ab3 aaG
  have aaV:(invoke D.target D.args).run P w4=.ok (.enter m.g (#[]++#[jq.eval (.tmp m.x),jq.eval (.tmp m.y)])) w4:=by
   simp only[invoke];exact ES aaL _ _
  have hdef:(rX [D] Ab).defers=[D]:=by
   simp only[rX,hF5.defers,List.nil_append]
  have fin:∀(u:FrameMode),(u=.returning∨∃v,u=.panicking [{ v,recovered:=false }])→settle (vk u).2=.returning→zG (vk u).1=true→He P x9 dr er m.rs [a2 m.x,a2 m.y] K u a5 S5→
    Leaves P fn Ab.tmps (fun e w'=>∃v r S' E',e=.returned v∧K r S'∧bf E' S' w'∧aL E' r v∧Ev E S w E' S' w') [D] u w4:=by
   intro u hu hset hsc hq;refine⟨by rcases hu with rfl | ⟨v,rfl⟩<;>simp,_,_,_,_,rfl,aaV,?_⟩;refine(ZtJ hm h' (by simp;omega) hu hsc hq E5 w4 _ (hG.le ((wO.trans xJ).trans SA).bX.le) hS5 hcap).mono ?_;rintro en u2 w6 ⟨S6,E6,v6,rfl,rfl,⟨xs,hx,hk⟩,hS6,ev6⟩;obtain⟨val,k1,k2⟩:=Aw (P:=P) (fn:=fn) hS6 (hF5.mono ev6.bX.le) hrs hx;show Leaves P fn Ab.tmps _ [] (settle (vk u).2) w6
   rw[hset];exact⟨val,k1,val,_,S6,E6,rfl,hk,hS6,k2,((wO.trans xJ).trans SA).trans ev6⟩
  have Zh:(rX [D] Ab).tmps=Ab.tmps:=rfl;cases e<;>simp only[Q8] at q5
  case normal=>
   show Leaves P fn (rX [D] Ab).tmps _ (rX [D] Ab).defers .returning w4
   rw[hdef,Zh];exact fin _ (.inl rfl) rfl rfl q5
  case ret=>
   show Leaves P fn (rX [D] Ab).tmps _ (rX [D] Ab).defers .returning w4
   rw[hdef,Zh];exact fin _ (.inl rfl) rfl rfl q5
  case panic ch=>
   obtain⟨v,rfl,hsc,hq⟩:=q5;show Leaves P fn (rX [D] Ab).tmps _ (rX [D] Ab).defers (.panicking _) w4
   rw[hdef,Zh];exact fin _ (.inr ⟨v,rfl⟩) rfl hsc hq
def Tt(P:Program)(base:Nat)(l:List mQ)(i:Nat)(d:Option Nat)(op:jA)(T:List (Nat×List Nat))(K:AF→St→Prop)(a:AF)(S:St):Option (AV×St)→Prop
 | some (v,S')=>jD P base l ((i,Fq ⟨d,op,none,none⟩ a)::T) K (a.put d v) S'
 | none=>sJ op a fun v=>jD P base l ((i,Fq ⟨d,op,none,none⟩ a)::T) K (a.put d v) S
def XY(P:Program)(base:Nat)(l:List mQ)(i:Nat)(o:aZ)(w:List Nat)(T:List (Nat×List Nat))(K:AF→St→Prop)(a:AF)(S:St)(args:List AV):AV→Prop
 | .aP f first cap=>aQ P f (first++args++cap) S fun r S'=>xE w S.g S'.g T∧jD P base l ((i,[])::T) K (a.put o.dst r) S'
 | _=>False
section
variable{P:Program}{Q:Exit→AF→St→Prop}{a:AF}{S:St}{K:AF→St→Prop}{base i:Nat}{l:List mQ}{d:Option Nat}{op:jA}{T:List (Nat×List Nat)}{w:List Nat}
private theorem Znh:AW P (.wR l) Q a S=jD P S.n l [] (nK Q) a ⟨S.n+l.length,S.g⟩:=rfl
theorem Zq2:AW P (.wR l) Q a S=jD P S.n l [] (nK Q) a ⟨S.n+l.length,S.g⟩:=by rw[Znh]
theorem Zqa:jD P base [] T (nK Q) a S=Q .normal a S:=by simp only[jD,nK]
theorem XC:jD P base ((i,⟨d,op,none,none⟩,w)::l) T K a S=Tt P base l i d op T K a S ((ex op a).run S (base+i)):=by
 simp only[jD,lS,gd,Tt];cases(ex op a).run S (base+i)<;>rfl
theorem WU(v:AV)(S':St):Tt P base l i d op T K a S (some (v,S'))=jD P base l ((i,Fq ⟨d,op,none,none⟩ a)::T) K (a.put d v) S':=by simp only[Tt]
theorem Zhz(G:aJ)(xs:List aJ):jD P base ((i,⟨d,op,none,some (G,xs)⟩,w)::l) T K a S=XY P base l i ⟨d,op,none,some (G,xs)⟩ w T K a S (xs.map (·.ev a)) (G.ev a):=by
 have hF:Fq ⟨d,op,none,some (G,xs)⟩ a=[]:=by unfold Fq;rw[if_neg (by simp[vX])]
 simp only[jD,lS,gd,hF];cases G.ev a<;>rfl
theorem Zf4(f:FuncId)(first cap args:List AV)(o:aZ):XY P base l i o w T K a S args (.aP f first cap)=aQ P f (first++args++cap) S (fun r S'=>xE w S.g S'.g T∧jD P base l ((i,[])::T) K (a.put o.dst r) S'):=by simp only[XY]
theorem Zq6(k:Option Nat)(p:aJ)(id ix c:Nat)(h:p.ev a=.ptr id ix c):Fq ⟨d,.load k p,none,none⟩ a=[id]:=by
 unfold Fq;rw[if_pos (by simp[vX,MZ,Rp])];simp[gd,ex,h,bW,Eff.rd]
end
end Go.Rf
namespace Go.Rf
def Z8Y:AC:= (sq [ro 2 (.box 3 (.t 0)),ro 4 (.mv (.c (.v (.bool false))))] (sq [rF 7 1 2,rL 8 7,ro 9 (.len (.t 8)),rF 10 2 2,rL 11 10,ro 12 (.len (.t 11)),ro 13 (.bin .add (.t 9) (.t 12)),rm 5 13] (.seq (sq [ro 6 (.mv (ci 0))] (.block 0 (.loop (.seq (sq [rm 14 6,rF 15 1 2,rL 16 15,ro 17 (.len (.t 16)),ro 18 (.bin .lss (.t 14) (.t 17)),rm 19 18,rg 20 19 true (.mv (.t 5)),rg 21 19 true (.mv (.t 1)),rg 22 19 true (.bin .leq (.t 20) (.t 21)),ro 23 (.pick (.t 19) (.t 22) (.c (.v (.bool false))))] (.cond (.t 23) .skip (.exit 0))) (.seq (.block 1 (.reg none [rm 26 5,rF 27 1 2,rL 28 27,rm 29 6,ro 30 (.aI 1 (.t 28) (.t 29)),rL 31 30,ro 32 (.len (.t 31)),ro 33 (.bin .add (.t 26) (.t 32)),rm 5 33])) (.reg none [rm 24 6,ro 25 (.bin .add (.t 24) (ci 1)),rm 6 25])))))) (sq [rm 34 5,rm 35 1,ro 36 (.bin .gtr (.t 34) (.t 35)),rm 4 36] .ret))))
structure Gr where
 next:List (List Int)
 fin:List Bool
def Gr.n(g:Gr):Nat:=g.next.length
def Gr.edge(g:Gr)(s t:Nat):Prop:=∃row,g.next[s]? = some row∧(t:Int)∈row
def Gr.uy(g:Gr)(s:Nat):Bool:=g.fin.getD s false
structure MN(g:Gr):Prop where
 fin:g.fin.length=g.next.length
 n:g.next.length≤9000
 rows:∀r∈g.next,r.length≤400
 at_:∀r∈g.next,∀t∈r,t = -1∨(0≤t∧t < g.next.length)
def rd(l:List Int)(s:Nat):Int:=l.getD s (-1)
theorem QI{l:List Int}{k:Nat}(hk:k < l.length)(x:Int)(s:Nat):rd (l.set k x) s=if s=k then x else rd l s:=by
 unfold rd;simp only[List.getD_eq_getElem?_getD,List.getElem?_set];by_cases h:k=s
 ·subst h;simp[hk]
 ·rw[if_neg h,if_neg (Ne.symm h)]
def tH(l:List Int):Nat:=l.countP (fun x=>decide (0≤x))
theorem WC{l:List Int}{k:Nat}(hk:k < l.length)(h:rd l k < 0){x:Int}(hx:0≤x):tH (l.set k x)=tH l+1:=by
 have e:l[k]=rd l k:=by simp[rd,List.getD_eq_getElem?_getD,List.getElem?_eq_getElem hk]
 unfold tH;rw[List.countP_set hk];have h1:decide (0≤l[k])=false:=by simp;omega
 simp[h1,hx]
theorem LW(l:List Int):tH l≤l.length:=List.countP_le_length
structure uW(g:Gr)(fs:List Int):Prop where
 len:fs.length=g.n
 val:∀s,s < g.n → -1≤rd fs s
 lt:∀s,s < g.n→rd fs s < g.n
 zero:∀s,s < g.n→(rd fs s=0↔g.uy s=true)
 pre:∀s,s < g.n→0 < rd fs s→∃t,t < g.n∧g.edge s t∧rd fs t=rd fs s - 1
 TA:∀s t,s < g.n→t < g.n→g.edge s t→0≤rd fs t→0≤rd fs s∧rd fs s≤rd fs t+1
structure uO(g:Gr)(far:List Int)(q:List Nat):Prop where
 len:far.length=g.n
 val:∀s,s < g.n → -1≤rd far s
 zero:∀s,s < g.n→(rd far s=0↔g.uy s=true)
 pre:∀s,s < g.n→0 < rd far s→∃t,t < g.n∧g.edge s t∧rd far t=rd far s - 1
 qa:∀s∈q,s < g.n∧0≤rd far s
 sorted:q.Pairwise (fun a b=>rd far a≤rd far b)
 top:∀h t,q=h::t→∀s,s < g.n→rd far s≤rd far h+1
 done:∀u,u < g.n→0≤rd far u→u∉q→∀s,s < g.n→g.edge s u→0≤rd far s∧rd far s≤rd far u+1
 cnt:∀s,s < g.n→0≤rd far s→rd far s < tH far
theorem uO.assign{g:Gr}{far:List Int}{h:Nat}{q:List Nat}(b:uO g far (h::q)){s:Nat}(hs:s < g.n)(he:g.edge s h)(hu:rd far s = -1):uO g (far.set s (rd far h+1)) (h::q++[s]):=by
 have hl:s < far.length:=by rw[b.len];exact hs
 obtain⟨hh,hh0⟩:=b.qa h (by simp);have hr:=fun k=>QI hl (rd far h+1) k
 have hnq:s∉h::q:=fun hm=>by have:=(b.qa s hm).2;omega
 have old:∀u,u < g.n→0≤rd far u→rd (far.set s (rd far h+1)) u=rd far u:=by
  intro u hu1 hu2;rw[hr,if_neg];intro e;subst e;omega
 have hsame:∀u∈h::q,rd (far.set s (rd far h+1)) u=rd far u:=fun u hu1=>old u (b.qa u hu1).1 (b.qa u hu1).2
 refine⟨by rw[List.length_set];exact b.len,fun u hu1=>?_,fun u hu1=>?_,fun u hu1 hp=>?_,fun u hm=>?_,?_,fun h' t' e u hu1=>?_,fun u hu1 h0 hn p hp hep=>?_,fun u hu1 h0=>?_⟩
 ·rw[hr];split
  ·omega
  ·exact b.val u hu1
 ·rw[hr];split
  ·rename_i e;subst e
   have:=b.zero u hu1;constructor
   ·intro h1;omega
   ·intro h1;have:=this.mpr h1;omega
  ·exact b.zero u hu1
 ·by_cases e:u=s
  ·subst e
   refine⟨h,hh,he,?_⟩;rw[hsame h (by simp),hr,if_pos rfl];omega
  ·rw[hr,if_neg e] at hp
   obtain⟨t,t1,t2,t3⟩:=b.pre u hu1 hp;refine⟨t,t1,t2,?_⟩;rw[old t t1 (by omega),hr,if_neg e];exact t3
 ·rcases List.mem_append.mp hm with hm | hm
  ·have:=b.qa u hm;rw[hsame u hm];exact this
  ·simp at hm;subst hm;refine⟨hs,?_⟩;rw[hr,if_pos rfl];omega
 ·rw[List.pairwise_append]
  refine⟨?_,by simp,fun x hx y hy=>?_⟩
  ·refine List.Pairwise.imp_of_mem (fun {a c} ha hc hac=>?_) b.sorted
   rw[hsame a ha,hsame c hc];exact hac
  ·simp at hy;subst hy
   rw[hsame x hx,hr,if_pos rfl];exact b.top h q rfl x (b.qa x hx).1
 ·simp only[List.cons_append,List.cons.injEq] at e
  obtain⟨rfl,_⟩:=e;rw[hsame h (by simp),hr];split
  ·omega
  ·exact b.top h q rfl u hu1
 ·have Nz:u≠s:=fun e=>hn (by subst e;simp)
  rw[hr,if_neg Nz] at h0;have hnu:u∉h::q:=fun hm=>hn (List.mem_append_left _ hm)
  obtain⟨d1,d2⟩:=b.done u hu1 h0 hnu p hp hep;rw[old p hp d1,hr,if_neg Nz];exact⟨d1,d2⟩
 ·rw[WC hl (by omega) (by omega)]
  rw[hr] at h0 ⊢;have hc:=b.cnt h hh hh0;split
  ·omega
  ·rename_i e
   rw[if_neg e] at h0;have:=b.cnt u hu1 h0;omega
theorem uO.pop{g:Gr}{far:List Int}{h:Nat}{q:List Nat}(b:uO g far (h::q))(hp:∀s,s < g.n→g.edge s h→0≤rd far s):uO g far q:=by
 have hsort:=List.pairwise_cons.mp b.sorted;refine⟨b.len,b.val,b.zero,b.pre,fun s hs=>b.qa s (by simp[hs]),hsort.2,fun h' t' e s hs=>?_,fun u hu h0 hn s hs he=>?_,b.cnt⟩
 ·have h1:=b.top h q rfl s hs
  have h2:=hsort.1 h' (by rw[e];simp);omega
 ·by_cases hh:u=h
  ·subst hh
   exact⟨hp s hs he,b.top u q rfl s hs⟩
  ·exact b.done u hu h0 (by simp[hh,hn]) s hs he
theorem uO.ok{g:Gr}{far:List Int}(b:uO g far []):uW g far:=by
 refine⟨b.len,b.val,fun s hs=>?_,b.zero,b.pre,fun s t hs ht he h0=>b.done t ht h0 (by simp) s hs he⟩;have hc:=LW far;have hl:=b.len;by_cases h0:0≤rd far s
 ·have:=b.cnt s hs h0;omega
 ·omega
theorem uW.uniq{g:Gr}{a b:List Int}(ha:uW g a)(hb:uW g b):a=b:=by
 have half:∀{a b:List Int},uW g a→uW g b→∀(k:Nat) s,s < g.n→rd a s=k→0≤rd b s∧rd b s≤k:=by
  intro a b ha hb k;induction k with
  | zero=>
   intro s hs e;have:=(hb.zero s hs).mpr ((ha.zero s hs).mp (by simpa using e));omega
  | succ k ih=>
   intro s hs e;obtain⟨t,t1,t2,t3⟩:=ha.pre s hs (by omega);obtain⟨i1,i2⟩:=ih t t1 (by omega);have:=hb.TA s t hs t1 t2 i1;omega
 have key:∀s,s < g.n→rd a s=rd b s:=by
  intro s hs;have va:=ha.val s hs;have vb:=hb.val s hs;by_cases h1:0≤rd a s
  ·have h2:=half ha hb (rd a s).toNat s hs (by omega)
   have h3:=half hb ha (rd b s).toNat s hs (by omega);omega
  ·by_cases h2:0≤rd b s
   ·have h3:=half hb ha (rd b s).toNat s hs (by omega)
    omega
   ·omega
 refine List.ext_getElem (by rw[ha.len,hb.len]) fun i h1 h2=>?_
 have:=key i (by rw[←ha.len];exact h1);simpa[rd,List.getD_eq_getElem?_getD,List.getElem?_eq_getElem h1,List.getElem?_eq_getElem h2] using this
theorem uO.run{g:Gr}:∀(m k:Nat) {far:List Int} {q:List Nat},g.n - tH far=m→q.length=k→uO g far q→∃fs,uW g fs:=by
 intro m;induction m using Nat.strongRecOn with
 | _ m ihm=>
  intro k;induction k with
  | zero=>
   intro far q _ hq b;have:q=[]:=List.eq_nil_of_length_eq_zero hq;subst this;exact⟨far,b.ok⟩
  | succ k ihk=>
   intro far q hm hq b;cases q with
   | nil=>simp at hq
   | cons h q=>
    by_cases hx:∃s,s < g.n∧g.edge s h∧rd far s = -1
    ·obtain⟨s,hs,he,hu⟩:=hx
     have hl:s < far.length:=by rw[b.len];exact hs
     have hh0:=(b.qa h (by simp)).2;have hc:=WC hl (by omega) (x:=rd far h+1) (by omega);have hle:=LW (far.set s (rd far h+1));have hlen:=b.len;rw[List.length_set] at hle;exact ihm (g.n - tH (far.set s (rd far h+1))) (by omega) _ rfl rfl (b.assign hs he hu)
    ·refine ihk hm (by simpa using hq) (b.pop fun s hs he=>?_)
     have hv:=b.val s hs;by_cases h1:rd far s = -1
     ·exact(hx ⟨s,hs,he,h1⟩).elim
     ·omega
structure Jt(g:Gr)(far:List Int)(q:List Nat):Prop where
 len:far.length=g.n
 val:∀s,s < g.n→rd far s=if g.uy s=true then 0 else -1
 q:∀s,s∈q↔s < g.n∧g.uy s=true
theorem Jt.bfs{g:Gr}{far:List Int}{q:List Nat}(h:Jt g far q)(hc:∀s,s < g.n→g.uy s=true→0 < tH far):uO g far q:=by
 have hz:∀s,s < g.n→0≤rd far s→g.uy s=true∧rd far s=0:=by
  intro s hs h0;have:=h.val s hs;split at this
  ·exact⟨by assumption,this⟩
  ·omega
 refine⟨h.len,fun s hs=>?_,fun s hs=>?_,fun s hs h0=>?_,fun s hm=>?_,?_,fun a t e s hs=>?_,fun u hu h0 hn=>?_,fun s hs h0=>?_⟩
 ·rw[h.val s hs];split<;>omega
 ·rw[h.val s hs];split<;>simp_all
 ·have:=(hz s hs (by omega)).2;omega
 ·obtain⟨h1,h2⟩:=(h.q s).mp hm
  refine⟨h1,?_⟩;rw[h.val s h1,if_pos h2];exact Int.le_refl _
 ·refine List.Pairwise.imp_of_mem (R:=fun _ _=>True) (fun {a b} ha hb _=>?_) (List.pairwise_of_forall (fun _ _=>trivial))
  obtain⟨a1,a2⟩:=(h.q a).mp ha;obtain⟨b1,b2⟩:=(h.q b).mp hb;rw[h.val a a1,h.val b b1,if_pos a2,if_pos b2];exact Int.le_refl _
 ·obtain⟨a1,a2⟩:=(h.q a).mp (by rw[e];simp)
  rw[h.val a a1,if_pos a2,h.val s hs];split<;>omega
 ·exact(hn ((h.q u).mpr ⟨hu,(hz u hu h0).1⟩)).elim
 ·have:=hz s hs h0
  have:=hc s hs this.1;omega
theorem Zo1{l:List Int}{s:Nat}(hs:s < l.length)(h:0≤rd l s):0 < tH l:=by
 have e:l[s]=rd l s:=by simp[rd,List.getD_eq_getElem?_getD,List.getElem?_eq_getElem hs]
 refine List.countP_pos_iff.mpr ⟨l[s],List.getElem_mem hs,by rw[e];simpa using h⟩
theorem Jt.P6c{g:Gr}{far:List Int}{q:List Nat}(h:Jt g far q):uO g far q:=
 h.bfs fun s hs he=>Zo1 (s:=s) (by rw[h.len];exact hs) (by rw[h.val s hs,if_pos he];exact Int.le_refl _)
theorem ZpE(g:Gr):∃fs,uW g fs:=by
 have h:Jt g ((List.range g.n).map fun s=>if g.uy s=true then (0:Int) else -1) ((List.range g.n).filter g.uy):=
  ⟨by simp,fun s hs=>by simp[rd,List.getD_eq_getElem?_getD,hs],fun s=>by simp[List.mem_filter]⟩
 exact h.P6c.run _ _ rfl rfl
noncomputable def sG(g:Gr):List Int:=(ZpE g).choose
theorem Ql(g:Gr):uW g (sG g):=(ZpE g).choose_spec
theorem Zlk{g:Gr}{fs:List Int}(h:uW g fs):sG g=fs:=(Ql g).uniq h
end Go.Rf
namespace Go.Rf
open Go.RowKit
def yB(a b:aD)(i k:Nat):Prop:=∀l,Vl a l→jy a (runT a i l)=jy b (runT b k l)
theorem yB.step{a b:aD}{i k:Nat}(h:yB a b i k){s:Int}(h0:0≤s)(hs:s < a.signs):yB a b (bO a i s) (bO b k s):=fun l hl=>by
 have:=h (s::l) (fun x hx=>by
  rcases List.mem_cons.mp hx with rfl | hx
  ·exact⟨h0,hs⟩
  ·exact hl x hx)
 exact this
theorem yB.eqv{a b:aD}{i k i' k':Nat}(hs:a.signs=b.signs)(h:yB a b i k)(h':yB a b i' k'):rY a i i'↔rY b k k':=by
 constructor
 ·intro he l hl
  have hl':Vl a l:=fun x hx=>by rw[hs];exact hl x hx
  rw[←h l hl',←h' l hl'];exact he l hl'
 ·intro he l hl
  have hl':Vl b l:=fun x hx=>by rw[←hs];exact hl x hx
  rw[h l hl,h' l hl];exact he l hl'
theorem Zfv:∀{xs ys:List Int} {x y:Int},xs.length=ys.length→(∀j (h1:j < xs.length) (h2:j < ys.length),xs[j]=x↔ys[j]=y)→(x∈xs↔y∈ys)∧xs.idxOf x=ys.idxOf y
 | [],[],_,_,_,_=>by simp
 | [],_::_,_,_,h,_=>by simp at h
 | _::_,[],_,_,h,_=>by simp at h
 | p::xs,q::ys,x,y,hl,h=>by
  obtain⟨i1,i2⟩:=Zfv (xs:=xs) (ys:=ys) (x:=x) (y:=y) (by simpa using hl) (fun j h1 h2=>by
   have:=h (j+1) (by simpa using h1) (by simpa using h2);simpa using this)
  have h0:=h 0 (by simp) (by simp);simp only[List.getElem_cons_zero] at h0;constructor
  ·simp only[List.mem_cons,i1]
   exact⟨fun e=>e.elim (fun e=>.inl (h0.mp e.symm).symm) .inr,fun e=>e.elim (fun e=>.inl (h0.mpr e.symm).symm) .inr⟩
  ·rw[List.idxOf_cons,List.idxOf_cons,i2]
   by_cases e:p=x
   ·have e2:=h0.mp e
    rw[beq_iff_eq.mpr e,beq_iff_eq.mpr e2]
   ·have e2:¬q=y:=fun e2=>e (h0.mpr e2)
    rw[beq_eq_false_iff_ne.mpr e,beq_eq_false_iff_ne.mpr e2]
structure La(a b:aD)(L M:List Nat):Prop where
 len:L.length=M.length
 at_:∀j (h1:j < L.length) (h2:j < M.length),L[j] < a.next.length∧M[j] < b.next.length∧yB a b L[j] M[j]
theorem ZrH{a b:aD}(hs:a.signs=b.signs){ca cb:List Int}(Ca:Cz a ca)(Cb:Cz b cb){L M:List Nat}(h:La a b L M){t u:Nat}(ht:t < a.next.length)(hu:u < b.next.length)(he:yB a b t u) :
  (sI ca L t).2=(sI cb M u).2∧La a b (sI ca L t).1 (sI cb M u).1:=by
 obtain⟨i1,i2⟩:=Zfv (xs:=L.map (jB ca)) (ys:=M.map (jB cb)) (x:=jB ca t) (y:=jB cb u) (by simpa using h.len) (fun j h1 h2=>by
  simp only[List.length_map] at h1 h2;simp only[List.getElem_map];obtain⟨k1,k2,k3⟩:=h.at_ j h1 h2
  exact((Ca.eq _ _ k1 ht).trans (k3.eqv hs he)).trans (Cb.eq _ _ k2 hu).symm)
 unfold sI;by_cases hm:jB ca t∈L.map (jB ca)
 ·rw[if_pos hm,if_pos (i1.mp hm)]
  exact⟨i2,h⟩
 ·rw[if_neg hm,if_neg (fun e=>hm (i1.mpr e))]
  refine⟨h.len,by simp[h.len],fun j h1 h2=>?_⟩;by_cases hj:j < L.length
  ·have hj2:j < M.length:=by rw[←h.len];exact hj
   rw[List.getElem_append_left hj,List.getElem_append_left hj2];exact h.at_ j hj hj2
  ·simp only[List.length_append,List.length_singleton] at h1 h2
   have hjL:j=L.length:=by omega
   subst hjL;have hl:=h.len;rw[List.getElem_append_right (by omega),List.getElem_append_right (by omega)];simp only[List.getElem_singleton];exact⟨ht,hu,he⟩
theorem Zmo{a b:aD}(hs:a.signs=b.signs){ca cb:List Int}(Ca:Cz a ca)(Cb:Cz b cb){L M:List Nat}(h:La a b L M){t u:Nat→Nat}:∀k:Nat,(∀s,s < k→t s < a.next.length∧u s < b.next.length∧yB a b (t s) (u s))→
  (nY ca t k L).2=(nY cb u k M).2∧La a b (nY ca t k L).1 (nY cb u k M).1
 | 0,_=>⟨rfl,h⟩
 | k+1,hk=>by
  obtain⟨i1,i2⟩:=Zmo hs Ca Cb h (t:=t) (u:=u) k (fun s hs=>hk s (by omega));obtain⟨h1,h2,h3⟩:=hk k (by omega);obtain⟨j1,j2⟩:=ZrH hs Ca Cb i2 h1 h2 h3;simp only[nY];exact⟨by rw[i1,j1],j2⟩
theorem ZpV{a b:aD}(Ra:bD a)(Rb:bD b)(hs:a.signs=b.signs){ca cb:List Int}(Ca:Cz a ca)(Cb:Cz b cb)(h0:yB a b 0 0):∀i,(jH a ca i).2=(jH b cb i).2∧La a b (jH a ca i).1 (jH b cb i).1
 | 0=>by
  refine⟨rfl,rfl,fun j h1 h2=>?_⟩;have hj:j=0:=by simp[jH] at h1;omega
  subst hj;exact⟨by have:=Ra.n1;simp[jH];omega,by have:=Rb.n1;simp[jH];omega,h0⟩
 | i+1=>by
  obtain⟨i1,i2⟩:=ZpV Ra Rb hs Ca Cb h0 i;have hl:=i2.len;simp only[jH,ND];by_cases hi:i < (jH a ca i).1.length
  ·have hi2:i < (jH b cb i).1.length:=by omega
   rw[List.getElem?_eq_getElem hi,List.getElem?_eq_getElem hi2];simp only;obtain⟨k1,k2,k3⟩:=i2.at_ i hi hi2
   obtain⟨r1,r2⟩:=Zmo hs Ca Cb i2 (t:=fun s=>bO a ((jH a ca i).1[i]) s) (u:=fun s=>bO b ((jH b cb i).1[i]) s) a.signs.toNat (fun s hs2=>
    ⟨xg Ra k1 (by omega) (by omega),xg Rb k2 (by omega) (by omega),k3.step (by omega) (by omega)⟩)
   have hf:jy a ((jH a ca i).1[i])=jy b ((jH b cb i).1[i]):=k3 [] (fun s hs=>by simp at hs);have e1:(jH a ca i).2.1=(jH b cb i).2.1:=by rw[i1]
   have e2:(jH a ca i).2.2=(jH b cb i).2.2:=by rw[i1]
   rw[←hs];exact⟨by rw[r1,hf,e1,e2],r2⟩
  ·rw[List.getElem?_eq_none (by omega),List.getElem?_eq_none (by omega)]
   exact⟨i1,i2⟩
theorem Zta{a b:aD}(Ra:bD a)(Rb:bD b)(hs:a.signs=b.signs)(h0:yB a b 0 0):nU a=nU b:=by
 have P:=ZpV Ra Rb hs (Pn Ra) (Pn Rb) h0;obtain⟨k,e1,e2,e3,_⟩:=Ik Ra;obtain⟨m,f1,f2,f3,_⟩:=Ik Rb
 have hkm:k=m:=by
  rcases Nat.lt_trichotomy k m with h | h | h
  ·have:=f3 k h
   have hl:=(P k).2.len;rw[←e1] at hl;omega
  ·exact h
  ·have:=e3 m h
   have hl:=(P m).2.len;rw[←f1] at hl;omega
 subst hkm;have:(mI a).2=(mI b).2:=by rw[e1,f1];exact(P k).1
 unfold nU;rw[hs,this]
theorem Zfy{d:aD}(R:bD d):yB (nU d) d 0 0:=by
 obtain⟨k,h1,h2,h3,o⟩:=Ik R;intro l hl;obtain⟨q',_,_,h⟩:=(PK R).2.2 l 0 0 o.zero hl;exact h
theorem ZjD{d:aD}(R:bD d):nU (nU d)=nU d:=Zta (PK R).1 R rfl (Zfy R)
theorem ZoA{d:aD}(R:bD d):(nU d).next.length≤d.next.length:=by
 obtain⟨k,h1,h2,h3,o⟩:=Ik R;rw[(PK R).2.1];exact o.len
end Go.Rf
namespace Go.Rf
attribute [local simp] kZ kN kW lH lK lI lM kY lN lG lF dO iA fI gI ig fH gJ iq gX gT gY eY gN gZ gM eB eD gQ iJ iG iI iH iK fV fK fG dY fZ gu gy fO fP iL iw gP iE iB iD iC iF iM gV fQ fE fF fJ fU dx dL eZ gW iN ex au cu dM dX bM bU aG bB dV eX dR fM gL gK iy gU bL dw dz dZ d9 gD dS bA bW dA dJ dD fq eu eU eO eT dW dn dU dQ dP bq AV.solid S0 aj aH
def wJ(a b:Int):Int:=if a < b then -1 else if b < a then 1 else 0
def Tx:List Int→Int
 | []=>0
 | x::l=>if x≠0 then x else Tx l
def u6:List Int→List Int→Int
 | [],[]=>0
 | [],_::_ => -1
 | _::_,[]=>1
 | x::a,y::b=>if wJ x y≠0 then wJ x y else u6 a b
def Zkz(a b:List Int):Bool:=decide (Tx [wJ a.length b.length,u6 a b] < 0)
def Zjj:AC:= (.block 0 (.loop (.seq (sq [rm 6 5,rm 7 0,ro 8 (.len (.t 7)),ro 9 (.bin .lss (.t 6) (.t 8)),rm 10 9,rg 11 10 true (.mv (.t 0)),rg 12 10 true (.mv (.t 5)),rg 13 10 true (.aI 1 (.t 11) (.t 12)),rg 14 10 true (.load none (.t 13)),rg 15 10 true (.mv (.t 1)),rg 16 10 true (.bin .lss (.t 14) (.t 15)),ro 17 (.pick (.t 10) (.t 16) (.c (.v (.bool false))))] (.cond (.t 17) .skip (.exit 0))) (.block 1 (.reg none [rm 18 5,ro 19 (.bin .add (.t 18) (ci 1)),rm 5 19])))))
def Zjk:AC:= (.seq (.reg (some [[],[],[],[],[],[true],[false,true],[],[true,false,false,true],[false,true,false,false,true],[false,false,true,false,false,true]]) [ro 33 (.cO 1 0 (.v (.int .i64 0)) []),rm 34 0,rm 35 5,ro 36 (.slc 1 (.t 34) none (some (.t 35))),ro 37 (.app 1 8 (.t 33) (.t 36)),rm 38 1,ro 39 (.cO 1 1 (.v (.int .i64 0)) [(0,(.t 38))]),ro 40 (.app 1 8 (.t 37) (.t 39)),rm 41 0,rm 42 5,ro 43 (.slc 1 (.t 41) (some (.t 42)) none),ro 44 (.app 1 8 (.t 40) (.t 43)),rm 4 44]) .ret)
def Z6V:AC:= (sq [ro 4 (.mv (.c (.sl true [])))] (sq [ro 5 (.mv (ci 0))] (.seq Zjj (.seq (sq [rm 20 5,rm 21 0,ro 22 (.len (.t 21)),ro 23 (.bin .lss (.t 20) (.t 22)),rm 24 23,rg 25 24 true (.mv (.t 0)),rg 26 24 true (.mv (.t 5)),rg 27 24 true (.aI 1 (.t 25) (.t 26)),rg 28 24 true (.load none (.t 27)),rg 29 24 true (.mv (.t 1)),rg 30 24 true (.bin .eql (.t 28) (.t 29)),ro 31 (.pick (.t 24) (.t 30) (.c (.v (.bool false))))] (.cond (.t 31) (sq [rm 32 0,rm 4 32] .ret) .skip)) Zjk))))
structure Rg where
 low:Int
 high:Int
deriving DecidableEq
def Zv8(r:Rg):AV:=.agg [aj r.low,aj r.high]
def Ct(l:List Rg):AV:=.sl false (l.map Zv8)
theorem Zo0(r:Rg):aY (Zv8 r):=.agg _ (by
 intro y hy;simp only[List.mem_cons,List.not_mem_nil,or_false] at hy;rcases hy with rfl | rfl<;>exact aW _)
theorem Zl0(l:List Rg):aY (Ct l):=EX Zo0 l
def Aa:List Int→Int→List Int
 | [],n=>[n]
 | x::l,n=>if x < n then x::Aa l n else if x=n then x::l else n::x::l
def Iv(g:Nat→Option aF)(v:AV)(l:List Int):Prop:=(∃t,v=.sl t (l.map aj))∨Vec g v 1 (l.map aj)
theorem Iv.frame{g g':Nat→Option aF}{v:AV}{l:List Int}(h:Iv g v l)(hs:∀i∈v.ids,g' i=g i):Iv g' v l:=by
 rcases h with h | h
 ·exact .inl h
 ·exact .inr (h.frame hs)
theorem Iv.fz{g:Nat→Option aF}{v:AV}{l:List Int}(h:Iv g v l):Fz g v (aA l):=by
 rcases h with⟨t,rfl⟩ | h
 ·exact .loose t _ (EX aW l)
 ·exact h.fz aW
theorem Iv.only{g:Nat→Option aF}{v:AV}{l:List Int}(h:Iv g v l):Iv (only v.ids g) v l:=h.frame (fun i hi=>by rw[DL,if_pos hi])
def Ld:AC:= (sq [ro 4 (.mv (ci 0))] (.seq (sq [rm 6 0,ro 7 (.len (.t 6)),ro 8 (.mv (ci 0))] (.block 0 (.loop (sq [ro 9 (.bin .lss (.t 8) (.t 7))] (.seq (.cond (.t 9) .skip (.exit 0)) (.seq (.block 1 (sq [rm 10 8,rm 5 10] (sq [rm 11 1,rm 12 0,rm 13 5,ro 14 (.aI 1 (.t 12) (.t 13)),rL 15 14,⟨(some 16),.mv (.c .junk),none,(some ((.t 11),[(.t 15)]))⟩] (.cond (.t 16) (sq [rm 17 5,rm 4 17] .ret) .skip)))) (.reg none [ro 18 (.bin .add (.t 8) (ci 1)),rm 8 18]))))))) (sq [ro 4 (.mv (ci (-1)))] .ret)))
def O4(P3O:FuncId):AC:= (sq [ro 4 (.mv (.c (.v (.bool false))))] (sq [rm 5 0,rm 6 1,rk 7 P3O [(.t 5),(.t 6)],ro 8 (.bin .geq (.t 7) (ci 0)),rm 4 8] .ret))
def sH{X:Type}(p:X→Bool)(l:List X):Int:=if l.any p=true then (l.findIdx p:Int) else -1
def Zvy{X:Type}(enc:X→AV)(l:List X)(p:X→Bool)(g:FuncId)(cap:List AV)(m:Nat)(f:AF)(S:St):Prop:=
 ∃i:Nat,i≤l.length∧m=l.length - i∧f 8=aj i∧f 7=aj l.length∧f 0=.sl false (l.map enc)∧f 1=.aP g [] cap∧∀k (h:k < l.length),k < i→p l[k]=false
theorem U6{P:Program}{X:Type}{enc:X→AV}{l:List X}{p:X→Bool}{g:FuncId}{cap:List AV}(hl:Len l)(he:∀x,(enc x).cells=[enc x])(hcl:∀x,aY (enc x))(hcap:∀y∈cap,aY y)
  (hp:∀x∈l,aN P g (enc x::cap) (aH (p x))):AW P Ld (gG [4] (iQ (aj (sH p l)))) (bP [.sl false (l.map enc),.aP g [] cap]) S0:=by
 unfold Len at hl;simp[Ld];refine vT (Zvy enc l p g cap) l.length ?_ ?_
 ·refine⟨0,by omega,by omega,?_,?_,?_,?_,by omega⟩<;>simp[au,bM,bU,aj]
 ·rintro m f S ⟨i,hi,rfl,e8,e7,e0,e1,hq⟩
  by_cases hlt:i < l.length
  ·simp[e8,e7,e0,e1,hlt,he]
   refine aQ.pure (hp _ (List.getElem_mem hlt)) (aK (hcl _) hcap) (dN _) ?_;cases hb:p l[i] with
   | true=>
    have hi2:sH p l=i:=by
     have h1:l.any p=true:=List.any_eq_true.mpr ⟨_,List.getElem_mem hlt,hb⟩;have h2:l.findIdx p=i:=(List.findIdx_eq hlt).mpr ⟨hb,fun j hj=>hq j (by omega) hj⟩;simp[sH,h1,h2]
    simp[hi2];exact Cm _ _
   | false=>
    simp[e8];rw[bI _ (by omega)];refine⟨l.length - (i+1),by omega,i+1,by omega,rfl,?_,?_,?_,?_,fun k h hk=>?_⟩
    ·simp[au,aj]
    ·simp[au,e7]
    ·simp[au,e0]
    ·simp[au,e1]
    ·by_cases hki:k=i
     ·subst hki;exact hb
     ·exact hq k h (by omega)
  ·have hi2:sH p l = -1:=by
    have h1:l.any p=false:=by
     rw[List.any_eq_false];intro x hx;obtain⟨k,hk,rfl⟩:=List.mem_iff_getElem.mp hx;rw[hq k hk (by omega)];simp
    simp[sH,h1]
   simp[e8,e7,hlt,hi2];exact Cm _ _
theorem Zca{X:Type}(p:X→Bool)(l:List X):decide (0≤sH p l)=l.any p:=by
 unfold sH;cases h:l.any p with
 | true=>simp
 | false=>simp
theorem Z5u{P:Program}{X:Type}{enc:X→AV}{l:List X}{p:X→Bool}{g:FuncId}{cap:List AV}(hcl:∀x,aY (enc x))(hcap:∀y∈cap,aY y){fi:FuncId}
  (hf:aN P fi [.sl false (l.map enc),.aP g [] cap] (aj (sH p l))):AW P (O4 fi) (gG [4] (iQ (aH (l.any p)))) (bP [.sl false (l.map enc),.aP g [] cap]) S0:=by
 simp[O4];refine aQ.pure hf (aK (EX hcl l) (aK (.aP _ _ _ aU hcap) aU)) (aW _) ?_;simp;rw[←Zca p l];exact jF _ _
end Go.Rf
namespace Go.Rf
open Go.RowKit
attribute [local simp] kZ kN kW lH lK lI lM kY lN lG lF dO iA fI gI ig fH gJ iq gX gT gY eY gN gZ gM eB eD gQ iJ iG iI iH iK fV fK fG dY fZ gu gy fO fP iL iw gP iE iB iD iC iF iM gV fQ fE fF fJ fU dx dL eZ gW iN ex au cu dM dX bM bU aG bB dV eX dR fM gL gK iy gU bL dw dz dZ d9 gD dS bA bW dA dJ dD fq eu eU eO eT dW dn dU dQ dP bq AV.solid S0 aj aH
theorem aQ.bump{P:Program}{f:FuncId}{args:List AV}{S:St}{K:AV→St→Prop}(h:aQ P f args S fun r S'=>∃m,K r ⟨S'.n+m,S'.g⟩):aQ P f args S K:=by
 refine⟨h.1,fun E w vals hG hS hv=>(h.2 E w vals hG hS hv).mono ?_⟩;rintro e w' ⟨v,r,S',E',rfl,⟨m,hk⟩,hS',hr,hev⟩;refine⟨v,r,⟨S'.n+m,S'.g⟩,E',rfl,hk,hS'.reserve m,hr,?_⟩;exact⟨⟨hev.bX.os,hev.bX.tape,hev.bX.output,hev.bX.size,hev.bX.keep,fun id l k hk hl=>hev.bX.grow id l k hk hl,hev.bX.le,hev.bX.hsub⟩,Nat.le_trans hev.jP (Nat.le_add_right _ _),hev.low⟩
def ET(es aB:Nat)(z:AV):AC:= (sq [ro 2 (.mv (.c (.sl true [])))] (.seq (sq [rm 3 0,ro 4 (.Es true false (.t 3))] (.cond (.t 4) (sq [ro 2 (.mv (.c (.sl true [])))] .ret) .skip)) (sq [ro 5 (.cO es 0 z []),rm 6 0,ro 7 (.app es aB (.t 5) (.t 6)),rm 2 7] .ret)))
def rU(es aB:Nat)(z:AV):AC:= (sq [ro 2 (.mv (.c (.sl true [])))] (sq [rm 3 0,ro 4 (.mv (.c (.v (.bool false))))] (sq [ro 5 (.cO es 0 z []),rm 6 0,ro 7 (.app es aB (.t 5) (.t 6)),rm 2 7] .ret)))
theorem P8{P:Program}{base:Nat}{os:List aZ}{i:Nat}{K:AF→St→Prop}{a:AF}{d:Option Nat}{op:jA}{S:St}:J9 P base os i K a d op S none=sJ op a fun v=>RG P base os (i+1) K (a.put d v) S:=by simp only[J9]
theorem ZgU(neg t:Bool)(x:AV)(xs:List AV):sV true neg (.sl t (x::xs))=some (.v (.bool neg)):=by simp only[sV]
theorem Zjw(neg t:Bool):sV true neg (.sl t [])=none:=by simp only[sV]
theorem Zjx(neg:Bool)(id off n:Nat):sV true neg (.own id off (n+1))=some (.v (.bool neg)):=by simp only[sV]
theorem ZgV(neg:Bool)(id off:Nat):sV true neg (.own id off 0)=none:=by simp only[sV]
theorem ZlY{es id off:Nat}{bs:List aF}{ys:List AV}(h:mq es bs (.own id off 0)=some ys):ys=[]:=by
 simp only[mq] at h;split at h
 ·split at h
  ·simp at h;exact h
  ·cases h
 ·cases h
theorem Vt(es:Nat)(z:AV):dw es 0 z []=some (.sl true []):=by simp[dw,dz]
theorem Zhu{P:Program}(hm:P.follows .mixedOrders=true){f:FuncId}{es aB:Nat}{z:AV}(h:Is P f (ET es aB z) [2] 1):wT P f (rU es aB z) [.t 2] 1:=by
 intro args S K hn hb
 obtain⟨x,rfl⟩:∃x,args=[x]:=by
  match args,hn with
  | [x],_=>exact⟨x,rfl⟩
 refine aQ.bump (h.wV hm rfl ?_)
 have hb1:AW P (rU es aB z) (gG [2] fun r S'=>∃m,K r ⟨S'.n+m,S'.g⟩) (bP [x]) S:=by
  refine BN _ (fun e a S' h=>?_) hb;cases e<;>simp only[bK,gG] at h ⊢
  all_goals
   obtain⟨xs,h1,h2⟩:=h;simp[bV,RV.ev] at h1;subst h1;simp only[eY];exact⟨0,h2⟩
 have key:∀y:AV,(∀n aC v S',(kP es aB (.sl true []) y).run ⟨n,S.g⟩ aC=some (v,S')→v=.sl true []∧S'=⟨n,S.g⟩)→AW P (rU es aB z) (bK [.t 2] K) (bP [y]) S→∃m,K (.sl true []) ⟨S.n+4+m,S.g⟩:=by
  intro y hy h;simp[rU] at h;generalize hq:(kP es aB (.sl true []) y).run _ _=q at h;cases q with
  | none=>simp[P8,sJ] at h
  | some p=>
   obtain⟨v,S'⟩:=p;obtain⟨rfl,rfl⟩:=hy _ _ _ _ hq;simp at h;obtain⟨xs,h1,h2⟩:=h;simp[bV,RV.ev,au] at h1;subst h1;exact⟨3,by simpa[cK,Nat.add_assoc] using h2⟩
 clear hn;cases x with
 | sl t ys=>
  cases ys with
  | nil=>
   obtain⟨m,hk⟩:=key (.sl t []) (fun n aC v S' h=>by
    by_cases ha:dF aB 0 0<;>simp[kP,mq,AV.kF,Eff.run,St.fD,St.iU,ha] at h;exact⟨h.1.symm,h.2.symm⟩) hb
   simp[rU] at hb1;simp[ET,Zjw,P8,sJ,P6];exact⟨hb1,m,hk⟩
  | cons y ys=>
   simp[rU] at hb1;simp[ET,ZgU];exact hb1
 | own id off len=>
  cases len with
  | zero=>
   obtain⟨m,hk⟩:=key (.own id off 0) (fun n aC v S' h=>by
    simp only[kP,Eff.run] at h;split at h
    ·cases h
    ·rename_i bs hbs
     cases hl:mq es bs (.own id off 0) with
     | none=>rw[hl] at h;simp at h
     | some ys=>
      rw[hl] at h;have h0:ys=[]:=ZlY hl;subst h0;by_cases ha:dF aB 0 0<;>simp[AV.kF,St.fD,St.iU,ha] at h;exact⟨h.1.symm,h.2.symm⟩) hb
   simp[rU] at hb1;simp[ET,ZgV,P8,sJ,P6];exact⟨hb1,m,hk⟩
  | succ m=>
   simp[rU] at hb1;simp[ET,Zjx];exact hb1
 | _=>
  exfalso;simp[rU] at hb1;simp[kP,mq,AV.kF,Eff.run,P8,sJ] at hb1
end Go.Rf
namespace Go.Rf
attribute [local simp] kZ kN kW lH lK lI lM kY lN lG lF dO iA fI gI ig fH gJ iq gX gT gY eY gN gZ gM eB eD gQ iJ iG iI iH iK fV fK fG dY fZ gu gy fO fP iL iw gP iE iB iD iC iF iM gV fQ fE fF fJ fU dx dL eZ gW iN ex au cu dM dX bM bU aG bB dV eX dR fM gL gK iy gU bL dw dz dZ d9 gD dS bA bW dA dJ dD fq eu eU eO eT dW dn dU dQ dP bq AV.solid S0 aj aH
def Z9i:AC:= (sq [ro 4 (.mv (.c (.v (.bool false))))] (.seq (sq [rm 6 0,ro 7 (.len (.t 6)),rm 8 1,ro 9 (.len (.t 8)),ro 10 (.bin .neq (.t 7) (.t 9))] (.cond (.t 10) (sq [ro 4 (.mv (.c (.v (.bool false))))] .ret) .skip)) (.seq (sq [ro 5 (.mv (ci 0))] (.block 0 (.loop (.seq (sq [rm 11 5,rm 12 0,ro 13 (.len (.t 12)),ro 14 (.bin .lss (.t 11) (.t 13))] (.cond (.t 14) .skip (.exit 0))) (.seq (.block 1 (.seq (.reg (some []) [rm 17 0,rm 18 5,ro 19 (.aI 1 (.t 17) (.t 18)),rL 20 19,rm 21 1,rm 22 5,ro 23 (.aI 1 (.t 21) (.t 22)),rL 24 23,ro 25 (.bin .neq (.t 20) (.t 24))]) (.cond (.t 25) (sq [ro 4 (.mv (.c (.v (.bool false))))] .ret) .skip))) (.reg none [rm 15 5,ro 16 (.bin .add (.t 15) (ci 1)),rm 5 16])))))) (sq [ro 4 (.mv (.c (.v (.bool true))))] .ret))))
end Go.Rf
namespace Go.Rf
open Go.RowKit
attribute [local simp] kZ kN kW lH lK lI lM kY lN lG lF dO iA fI gI ig fH gJ iq gX gT gY eY gN gZ gM eB eD gQ iJ iG iI iH iK fV fK fG dY fZ gu gy fO fP iL iw gP iE iB iD iC iF iM gV fQ fE fF fJ fU dx dL eZ gW iN ex au cu dM dX bM bU aG bB dV eX dR fM gL gK iy gU bL dw dz dZ d9 gD dS bA bW dA dJ dD fq eu eU eO eT dW dn dU dQ dP bq AV.solid S0 aj aH
def Vb(yA yw zm:FuncId):AC:= (.loop (sq [ro 9 (.bin .lss (.t 8) (.t 7))] (.seq (.cond (.t 9) .skip (.exit 0)) (.seq (.block 1 (sq [ro 10 (.aI 1 (.t 6) (.t 8)),rL 11 10,rm 5 11] (sq [rm 12 5,rk 13 yA [(.t 12)],rk 14 yw [(.t 3),(.t 13)]] (.reg none [rk 15 zm [(.t 3),(.c (.v (.int .u8 32)))]])))) (.reg none [ro 16 (.bin .add (.t 8) (ci 1)),rm 8 16])))))
def Z8m(yA yw zm EF:FuncId):AC:= (.seq (sq [rm 6 0,ro 7 (.len (.t 6)),ro 8 (.mv (ci 0))] (.block 0 (Vb yA yw zm))) (sq [rk 17 EF [(.t 3)],rm 2 17] .ret))
def Zd1(yA yw zm EF:FuncId):AC:= (sq [ro 2 (.mv (.c (.v (.string ⟨#[]⟩))))] (sq [ro 3 (.alloc (.agg [(.v (.pointer none)),(.sl true [])]) 2)] (Z8m yA yw zm EF)))
def jQ(l:List Int):List UInt8:=l.flatMap fun n=>Lib.itoa n++[32]
def AO(P:Program)(f:FuncId)(T:TypeId):Prop:=((P.funcs[f]?).bind (·.body)).bind FC=some T
theorem ZjV{l:List Int}{j:Nat}(h:j < l.length):jQ (l.take (j+1))=jQ (l.take j)++(Lib.itoa l[j]++[32]):=by
 have:=List.take_succ_eq_append_getElem h;unfold jQ;rw[this,List.flatMap_append];simp only[List.flatMap_cons,List.flatMap_nil,List.append_nil]
theorem Zpe(l:List Int)(j:Nat):(jQ (l.take j)).length≤(jQ l).length:=by
 have e:jQ l=jQ (l.take j)++jQ (l.drop j):=by
  unfold jQ;rw[←List.flatMap_append,List.take_append_drop]
 rw[e,List.length_append];omega
structure U2(T e B:Nat)(w0:World)(l:List Int)(m:Nat)(a:AF)(w:World)(j:Nat):Prop where
 hj:j≤l.length
 hm:m=l.length - j
 e3:a 3=.ptr 0 0 0
 e6:a 6=aA l
 e7:a 7=aj l.length
 e8:a 8=aj j
 bl:wD T e B B w0 (jQ (l.take j)) w
 ok:True
def Zut(T e B:Nat)(w0:World)(H:Nat→Option (Array Value))(l:List Int)(m:Nat)(a:AF)(w:World):Prop:=kT H w∧∃j,U2 T e B w0 l m a w j
theorem Zb8{P:Program}{fi fw fb fs:FuncId}{T e:TypeId}{good:Int→Prop}(k:Bc P fw fb fs T e)(hi:Da P fi good){l:List Int}(hg:∀n∈l,good n)(hl:(jQ l).length≤140737488355328)(hlen:l.length < 4611686018427387904)
  {E:Env} {B:Nat} {w0:World} (hE:BE E B B) (y7:jI P E.H) {Q:Exit→AF→World→Prop} (hQ:∀a w,U2 T e B w0 l 0 a w l.length→kT E.H w→Q (.exit 0) a w) {a:AF} {w:World} (h:U2 T e B w0 l l.length a w 0) (hH:kT E.H w) :
  lV P E (Vb fi fw fb) Q a w:=by
 unfold Vb;unfold lV;refine⟨Zut T e B w0 E.H l,⟨l.length,hH,0,h⟩,?_⟩;rintro m a w ⟨hH,j,hI⟩;by_cases hj:j < l.length
 ·have h1:(j:Int) < l.length:=by omega
  have hget:(l.map aj)[j]? = some (aj l[j]):=by simp[hj]
  have hw:IntKind.i64.wrap ((j:Int)+1)=j+1:=bI _ (by omega);have ht:=ZjV hj;have hle:=Zpe l (j+1);rw[ht] at hle;simp only[List.length_append,List.length_cons,List.length_nil] at hle;simp[lV,WG,yK,DJ,zS,Eff.rR,hI.e3,hI.e6,hI.e7,hI.e8,aA,h1,hget];refine tX.itoa hi hE hI.bl (hg _ (List.getElem_mem hj)) y7 hH fun w9 b9 Ni=>?_
  refine tX.str k hE b9 Ni (by omega) fun w1 b1 hH1=>?_
  refine tX.byte k hE b1 hH1 (by rw[List.length_append];omega) (fun w2 b2 hH2=>?_) (c:=32) rfl;refine⟨l.length - (j+1),by have:=hI.hm;omega,hH2,j+1,⟨by omega,rfl,?_,?_,?_,?_,?_,trivial⟩⟩
  ·simp[AF.put,bF,hI.e3]
  ·simp[AF.put,bF,hI.e6]
  ·simp[AF.put,bF,hI.e7]
  ·simp[AF.put,bF,hw,aj]
  ·rw[ht,←List.append_assoc];exact b2
 ·have hj2:j=l.length:=by have:=hI.hj;omega
  subst hj2;have h1:¬((l.length:Int) < l.length):=by omega
  simp[lV,WG,yK,zS,Eff.rR,hI.e7,hI.e8,h1];refine hQ _ _ ⟨Nat.le_refl _,by omega,?_,?_,?_,?_,hI.bl,trivial⟩ hH
  ·simp[AF.put,bF,hI.e3]
  ·simp[AF.put,bF,hI.e6]
  ·simp[AF.put,bF,hI.e7]
  ·simp[AF.put,bF,hI.e8]
theorem Ze7{P:Program}(hm:P.follows .mixedOrders=true){f fi fw fb fs:FuncId}{T e:TypeId}{good:Int→Prop}(h:Is P f (Zd1 fi fw fb fs) [2] 1)(hT:AO P f T)(k:Bc P fw fb fs T e)(hi:Da P fi good){l:List Int}
  (hg:∀n∈l,good n) (hl:(jQ l).length≤140737488355328) (hlen:l.length < 4611686018427387904):aN P f [aA l] (.v (.string ⟨(jQ l).toArray⟩)):=by
 obtain⟨fn,c,hf,hnm,hb,hc,hr,hn⟩:=h
 have hT':FC c=some T:=by
  unfold AO at hT;rw[hf] at hT;simpa[hb] using hT
 refine aN.P5X (T:=T) (e:=e) (args:=[aA l]) hf hnm hb hc hT' hr hn rfl (fun Q E w=>?_) (fun E B w w0 hE y7 hH hB=>?_)
 ·simp[lV,WG,zS,Eff.rR,List.foldl]
 ·unfold Z8m
  simp[lV,WG,yK,zS,Eff.rR,List.foldl,aA];refine Zb8 k hi hg hl hlen (w0:=w0) hE y7 (fun a w' hI Y0=>?_) ⟨Nat.zero_le _,by omega,?_,?_,?_,?_,?_,trivial⟩ hH
  ·simp[yK,DJ,hI.e3]
   have hbl:=hI.bl;rw[List.take_length] at hbl;refine tX.string k hE hbl Y0 fun w2 h2=>?_
   simp[sF,h2]
  ·simp[AF.put,bF]
  ·simp[AF.put,bF,aA]
  ·simp[AF.put,bF,aj]
  ·simp[AF.put,bF,aj]
  ·simpa[jQ] using hB
end Go.Rf
namespace Go.Rf
attribute [local simp] kZ kN kW lH lK lI lM kY lN lG lF dO iA fI gI ig fH gJ iq gX gT gY eY gN gZ gM eB eD gQ iJ iG iI iH iK fV fK fG dY fZ gu gy fO fP iL iw gP iE iB iD iC iF iM gV fQ fE fF fJ fU dx dL eZ gW iN ex au cu dM dX bM bU aG bB dV eX dR fM gL gK iy gU bL dw dz dZ d9 gD dS bA bW dA dJ dD fq eu eU eO eT dW dn dU dQ dP bq AV.solid S0 aj aH
def Pb:AC:= (sq [ro 2 (.mv (.c (.v (.bool false))))] (sq [rm 3 0,ro 4 (.bin .lss (.t 3) (ci 0)),rm 5 4,rg 6 5 false (.mv (.t 0)),rg 7 5 false (.bin .gtr (.t 6) (ci 1048576)),ro 8 (.pick (.t 5) (.c (.v (.bool true))) (.t 7)),rm 2 8] .ret))
def Z93:AC:= (sq [ro 4 (.mv (.c (.sl true [])))] (.seq (sq [rm 8 1,ro 9 (.bin .lss (.t 8) (ci 1)),rm 10 9,rg 11 10 false (.mv (.t 1)),rg 12 10 false (.mv (.t 0)),rg 13 10 false (.len (.t 12)),rg 14 10 false (.bin .geq (.t 11) (.t 13)),ro 15 (.pick (.t 10) (.c (.v (.bool true))) (.t 14))] (.cond (.t 15) (sq [ro 4 (.mv (.c (.sl true [])))] .ret) .skip)) (sq [ro 5 (.mv (.c (.sl true [])))] (.seq (sq [ro 6 (.mv (ci 0))] (.block 0 (.loop (.seq (sq [rm 16 6,rm 17 0,ro 18 (.len (.t 17)),ro 19 (.bin .lss (.t 16) (.t 18))] (.cond (.t 19) .skip (.exit 0))) (.seq (.block 1 (.seq (sq [rm 22 0,rm 23 6,ro 24 (.aI 1 (.t 22) (.t 23)),rL 25 24,ro 26 (.bin .lss (.t 25) (ci 0)),rm 27 26,rg 28 27 false (.mv (.t 0)),rg 29 27 false (.mv (.t 6)),rg 30 27 false (.aI 1 (.t 28) (.t 29)),rg 31 27 false (.load none (.t 30)),rg 32 27 false (.bin .gtr (.t 31) (ci 1048576)),ro 33 (.pick (.t 27) (.c (.v (.bool true))) (.t 32))] (.cond (.t 33) (sq [ro 4 (.mv (.c (.sl true [])))] .ret) .skip)) (sq [rm 34 0,rm 35 6,ro 36 (.aI 1 (.t 34) (.t 35)),rL 37 36,ro 38 (.bin .mul (ci 2) (.t 37)),rm 7 38] (.seq (sq [rm 39 6,rm 40 1,ro 41 (.bin .eql (.t 39) (.t 40))] (.cond (.t 41) (.reg none [rm 42 7,ro 43 (.bin .add (.t 42) (ci 1)),rm 7 43]) .skip)) (.reg none [rm 44 5,rm 45 7,ro 46 (.cO 1 1 (.v (.int .i64 0)) [(0,(.t 45))]),ro 47 (.app 1 8 (.t 44) (.t 46)),rm 5 47]))))) (.reg none [rm 20 6,ro 21 (.bin .add (.t 20) (ci 1)),rm 6 21])))))) (sq [rm 48 5,rm 4 48] .ret)))))
def Ii(P4w Kr:FuncId):AC:= (sq [ro 4 (.mv (.c (.sl true [])))] (sq [ro 5 (.mv (.c (.aP P4w [] [])))] (.seq (sq [rm 9 1,ro 10 (.bin .lss (.t 9) (ci 1)),rm 11 10,rg 12 11 false (.mv (.t 1)),rg 13 11 false (.mv (.t 0)),rg 14 11 false (.len (.t 13)),rg 15 11 false (.bin .geq (.t 12) (.t 14)),ro 16 (.pick (.t 11) (.c (.v (.bool true))) (.t 15)),rm 17 16,rg 18 17 false (.mv (.t 0)),rg 19 17 false (.mv (.t 5)),rl 20 17 false Kr [(.t 18),(.t 19)],ro 21 (.pick (.t 17) (.c (.v (.bool true))) (.t 20))] (.cond (.t 21) (sq [ro 4 (.mv (.c (.sl true [])))] .ret) .skip)) (sq [ro 6 (.mv (.c (.sl true [])))] (.seq (sq [rm 22 0,ro 23 (.len (.t 22)),ro 24 (.mv (ci 0))] (.block 0 (.loop (sq [ro 25 (.bin .lss (.t 24) (.t 23))] (.seq (.cond (.t 25) .skip (.exit 0)) (.seq (.block 1 (sq [rm 26 24,ro 27 (.aI 1 (.t 22) (.t 24)),rL 28 27,rm 7 26,rm 8 28] (sq [rm 29 6,rm 30 8,ro 31 (.bin .mul (ci 2) (.t 30)),ro 32 (.cO 1 1 (.v (.int .i64 0)) [(0,(.t 31))]),ro 33 (.app 1 8 (.t 29) (.t 32)),rm 6 33] (sq [rm 34 7,rm 35 1,ro 36 (.bin .eql (.t 34) (.t 35))] (.cond (.t 36) (.reg none [rm 37 6,rm 38 7,ro 39 (.aI 1 (.t 37) (.t 38)),rL 40 39,ro 41 (.bin .add (.t 40) (ci 1)),ro 42 (.aI 1 (.t 37) (.t 38)),rn (.store 1 (.t 42) (.t 41))]) .skip))))) (.reg none [ro 43 (.bin .add (.t 24) (ci 1)),rm 24 43]))))))) (sq [rm 44 6,rm 4 44] .ret))))))
def vg(s:Int):Bool:=decide (s < 0) || decide (1048576 < s)
theorem Z7w(P:Program)(s:Int):AW P Pb (gG [2] (iQ (aH (vg s)))) (bP [aj s]) S0:=by
 by_cases h1:s < 0
 ·simp[Pb,h1,vg]
  exact jF true _
 ·simp[Pb,h1,vg]
  exact jF _ _
def iT(place:Int)(i:Nat):Int:=if (i:Int)=place then 1 else 0
def fB(place:Int):Nat→List Int→List Int
 | _,[]=>[]
 | i,s::l=>(2*s+iT place i)::fB place (i+1) l
theorem uD(place:Int):∀(l:List Int) (i:Nat),(fB place i l).length=l.length
 | [],_=>rfl
 | s::l,i=>by simp[fB,uD place l]
theorem Zj6(place:Int)(s:Int):∀(l:List Int) (i:Nat),fB place i (l++[s])=fB place i l++[2*s+iT place (i+l.length)]
 | [],i=>by simp[fB]
 | t::l,i=>by
  simp only[List.cons_append,fB,Zj6 place s l];simp;congr 1;omega
def jd(signs:List Int)(place:Int):List Int:=
 if 1≤place∧place < signs.length∧signs.any vg=false then fB place 0 signs else []
theorem Zn6(place:Int)(l:List Int)(i:Nat)(h:i < l.length):fB place 0 (l.take (i+1))=fB place 0 (l.take i)++[2*l[i]+iT place i]:=by
 rw[List.take_add_one,List.getElem?_eq_getElem h];simp only[Option.toList_some];rw[Zj6];simp;congr 1;omega
def wrJ(signs:List Int)(place:Int)(m:Nat)(f:AF)(S:St):Prop:=
 ∃i:Nat,i≤signs.length∧m=signs.length - i∧f 24=aj i∧f 23=aj signs.length∧f 22=aA signs∧f 1=aj place∧Vec S.g (f 6) 1 ((fB place 0 (signs.take i)).map aj)
theorem Z87{P:Program}{f1 fc:FuncId}(signs:List Int)(place:Int)(hl:signs.length≤1000000)
  (hc:aN P fc [aA signs,.aP f1 [] []] (aH (signs.any vg))):AW P (Ii f1 fc) (gG [4] (JB (aA (jd signs place)))) (bP [aA signs,aj place]) S0:=by
 by_cases h1:place < 1
 ·have hr:jd signs place=[]:=by rw[jd,if_neg (by omega)]
  simp[Ii,aA,h1,hr];exact .nil true false (by simp)
 by_cases h2:(signs.length:Int)≤place
 ·have hr:jd signs place=[]:=by rw[jd,if_neg (by omega)]
  simp[Ii,aA,h1,h2,hr];exact .nil true false (by simp)
 simp[Ii,aA,h1,h2];refine aQ.pure hc (aK (aS signs) (aK (.aP _ _ _ aU aU) aU)) (dN _) ?_;cases hany:signs.any vg with
 | true=>
  have hr:jd signs place=[]:=by rw[jd,if_neg (by simp[hany])]
  simp[hr];exact .nil true false (by simp)
 | false=>
  have hr:jd signs place=fB place 0 signs:=by rw[jd,if_pos ⟨by omega,by omega,hany⟩]
  simp[hr];refine vT (wrJ signs place) signs.length ?_ ?_
  ·refine⟨0,by omega,by omega,?_,?_,?_,?_,?_⟩<;>simp[au,bM,bU,aj,aA,fB]
   exact .nil
  ·rintro m f S ⟨i,hi,rfl,e24,e23,e22,e1,hv⟩
   by_cases hlt:i < signs.length
   ·have hok:vg signs[i]=false:=by
     rw[List.any_eq_false] at hany;simpa using hany _ (List.getElem_mem hlt)
    have hb:0≤signs[i]∧signs[i]≤1048576:=by simp[vg] at hok;omega
    have hlen:(fB place 0 (signs.take i)).length=i:=by rw[uD];simp;omega
    have happ:=fun(n aC:Nat) (x:AV) (hx:x.cells.length=1)=>Vec.app (n:=n) (aC:=aC) (aB:=8) hv (BQ _) hx (FD (by rw[List.length_map,hlen];omega))
    have hnx:∀(v:Int) (S':St) (id:Nat),2*signs[i]+iT place i=v→Vec (((St.without S' (f 6)).set id (some (.arr 1 ((fB place 0 (signs.take i)).map aj++[aj v])))).g) (.own id 0 (i+1)) 1 ((fB place 0 (signs.take (i+1))).map aj):=by
     intro v S' id hv';refine .mk' ?_ ?_
     ·rw[Zn6 _ _ _ hlt,hv'];simp[aG]
     ·simp[uD];omega
    simp[e24,e23,e22,aA,hlt];rw[happ _ _ _ (by simp[AV.cells]),bI _ (by omega)];by_cases h5:(i:Int)=place
    ·have GI:((i:Int) == place)=true:=by simpa using h5
     have hat:((fB place 0 (signs.take i)).map aj++[AV.v (.int .i64 (2*signs[i]))])[i]? = some (AV.v (.int .i64 (2*signs[i]))):=by
      rw[List.getElem?_append_right (by simp[hlen])];simp[hlen]
     have hlt1:(i:Int) < i+1:=by omega
     simp[e24,e1,GI,hlen,hlt1];rw[bI _ (by omega),bI _ (by omega)];refine⟨signs.length - (i+1),by omega,i+1,by omega,rfl,?_,?_,?_,?_,?_⟩
     ·simp[au,h5,aj]
     ·simp[au,e23,aj]
     ·simp[au,e22,aA]
     ·simp[au,e1]
     ·simp only[au]
      simp only[Nat.reduceEqDiff,if_false,if_true];refine .mk' ?_ ?_
      ·rw[Zn6 _ _ _ hlt];simp[aG,iT,h5,aj]
      ·simp[uD];omega
    ·have GI:((i:Int) == place)=false:=by simpa using h5
     simp[e24,e1,GI];rw[bI _ (by omega)];refine⟨signs.length - (i+1),by omega,i+1,by omega,rfl,?_,?_,?_,?_,?_⟩
     ·simp[au,aj]
     ·simp[au,e23,aj]
     ·simp[au,e22,aA]
     ·simp[au,e1]
     ·simp only[au]
      simp only[Nat.reduceEqDiff,if_false,if_true];have:=hnx (2*signs[i]) ⟨S.n+1+5+6,S.g⟩ (S.n+1+5+4) (by simp[iT,h5]);rw[hlen];exact this
   ·have hin:i=signs.length:=by omega
    subst hin;rw[List.take_of_length_le (Nat.le_refl _)] at hv;simp[e24,e23];exact hv.Nc
theorem Zco{P:Program}{f1 fc:FuncId}(signs:List Int)(place:Int)(hl:signs.length≤1000000)
  (hc:aN P fc [aA signs,.aP f1 [] []] (aH (signs.any vg))):AW P (Ii f1 fc) (gG [4] (iQ (aA (jd signs place)))) (bP [aA signs,aj place]) S0:=
 BN _ (fun e a S h=>Zkj (fun r S h=>h.fz) h) (Z87 signs place hl hc)
def O1(P3J:FuncId):AC:= (sq [ro 2 (.box 3 (.t 0)),ro 4 (.mv (.c (.v (.bool false))))] (sq [ro 6 (.load (some 3) (.t 2)),rm 7 1,rk 8 P3J [(.t 6),(.t 7)],rm 5 8] (sq [rm 9 5,ro 10 (.bin .geq (.t 9) (ci 0)),rm 11 10,rg 12 11 true (.cZ 2 (.t 2)),rg 13 11 true (.load none (.t 12)),rg 14 11 true (.mv (.t 5)),rg 15 11 true (.aI 1 (.t 13) (.t 14)),rg 16 11 true (.load none (.t 15)),ro 17 (.pick (.t 11) (.t 16) (.c (.v (.bool false)))),rm 4 17] .ret)))
def Z9T(Ap:FuncId):AC:= (sq [ro 2 (.box 3 (.t 0)),ro 4 (.mv (ci 0))] (.seq (sq [ro 7 (.load (some 3) (.t 2)),rk 8 Ap [(.t 7)],ro 9 (.un .not (.t 8))] (.cond (.t 9) (sq [ro 4 (.mv (ci (-1)))] .ret) .skip)) (sq [ro 5 (.mv (ci 0))] (.seq (sq [ro 6 (.mv (ci 0))] (.block 0 (.loop (.seq (sq [rm 10 6,rm 11 1,ro 12 (.len (.t 11)),ro 13 (.bin .lss (.t 10) (.t 12))] (.cond (.t 13) .skip (.exit 0))) (.seq (.block 1 (.seq (.seq (.reg (some []) [rm 16 1,rm 17 6,ro 18 (.aI 1 (.t 16) (.t 17)),rL 19 18,ro 20 (.bin .lss (.t 19) (ci 0)),rm 21 20,rg 22 21 false (.mv (.t 1)),rg 23 21 false (.mv (.t 6)),rg 24 21 false (.aI 1 (.t 22) (.t 23)),rg 25 21 false (.load none (.t 24)),rg 26 21 false (.cZ 0 (.t 2)),rg 27 21 false (.load none (.t 26)),rg 28 21 false (.bin .geq (.t 25) (.t 27)),ro 29 (.pick (.t 21) (.c (.v (.bool true))) (.t 28))]) (.cond (.t 29) (sq [ro 4 (.mv (ci (-1)))] .ret) .skip)) (.reg (some []) [rF 30 1 2,rL 31 30,rm 32 5,ro 33 (.aI 1 (.t 31) (.t 32)),rL 34 33,rm 35 1,rm 36 6,ro 37 (.aI 1 (.t 35) (.t 36)),rL 38 37,ro 39 (.aI 1 (.t 34) (.t 38)),rL 40 39,rm 5 40]))) (.reg none [rm 14 6,ro 15 (.bin .add (.t 14) (ci 1)),rm 6 15])))))) (sq [rm 41 5,rm 4 41] .ret)))))
def VZ(Dj:FuncId):AC:= (sq [ro 2 (.box 3 (.t 0)),ro 4 (.mv (ci 0))] (.seq (sq [ro 8 (.load (some 3) (.t 2)),rk 9 Dj [(.t 8)],ro 10 (.un .not (.t 9))] (.cond (.t 10) (sq [ro 4 (.mv (ci (-1)))] .ret) .skip)) (sq [ro 5 (.mv (ci 0))] (.seq (sq [rm 11 1,ro 12 (.len (.t 11)),ro 13 (.mv (ci 0))] (.block 0 (.loop (sq [ro 14 (.bin .lss (.t 13) (.t 12))] (.seq (.cond (.t 14) .skip (.exit 0)) (.seq (.block 1 (sq [ro 15 (.aI 1 (.t 11) (.t 13)),rL 16 15,rm 7 16] (.seq (sq [rm 17 7,ro 18 (.bin .lss (.t 17) (ci 0)),rm 19 18,rg 20 19 false (.mv (.t 7)),rg 21 19 false (.cZ 0 (.t 2)),rg 22 19 false (.load none (.t 21)),rg 23 19 false (.bin .geq (.t 20) (.t 22)),ro 24 (.pick (.t 19) (.c (.v (.bool true))) (.t 23))] (.cond (.t 24) (sq [ro 4 (.mv (ci (-1)))] .ret) .skip)) (.reg none [rF 25 1 2,rL 26 25,rm 27 5,ro 28 (.aI 1 (.t 26) (.t 27)),rL 29 28,rm 30 7,ro 31 (.aI 1 (.t 29) (.t 30)),rL 32 31,rm 5 32])))) (.reg none [ro 33 (.bin .add (.t 13) (ci 1)),rm 13 33]))))))) (sq [rm 34 5,rm 4 34] .ret)))))
def ZvB(d:aD)(l:List Int)(m:Nat)(f:AF)(S:St):Prop:=
 ∃i a:Nat,i≤l.length∧m=l.length - i∧a < d.next.length∧f 13=aj i∧f 12=aj l.length∧f 11=aA l∧f 5=aj a∧f 2=.ptr 0 0 0∧S.g 0=some (.arr 3 [aT d])∧sj d 0 l=sj d a (l.drop i)
theorem Zff{P:Program}{fr:FuncId}(d:aD)(l:List Int)(hl:Len l)(hr:aN P fr [aT d] (aH (lg d))) :
  AW P (VZ fr) (gG [4] (iQ (aj (Bl (xH d l))))) (bP [aT d,aA l]) S0:=by
 unfold Len at hl;simp[VZ,aT,aX,iY];refine aQ.pure hr (aK (iV d) aU) (dN _) ?_;cases hrd:lg d with
 | false=>
  have hres:Bl (xH d l) = -1:=by simp[xH,hrd,Bl]
  simp[hres];exact Cm _ _
 | true=>
  have R:=(xP d).mp hrd;have hn:=R.n1;have hres:xH d l=sj d 0 l:=by simp[xH,hrd]
  rw[hres];simp[aA];refine vT (ZvB d l) l.length ?_ ?_
  ·refine⟨0,0,by omega,by omega,by omega,?_,?_,?_,?_,?_,?_,by simp⟩<;>simp[au,aj,aA,aT,aX,iY,aG]
  ·rintro m f S ⟨i,a,hi,rfl,ha,e13,e12,e11,e5,e2,eg,hq⟩
   by_cases hlt:i < l.length
   ·rw[List.drop_eq_getElem_cons hlt,sj] at hq
    by_cases h0:l[i] < 0
    ·rw[if_neg (by omega)] at hq
     simp[e13,e12,e11,aA,hlt,h0,hq,Bl];exact Cm _ _
    by_cases hs:d.signs≤l[i]
    ·rw[if_neg (by omega)] at hq
     simp[e13,e12,e11,e2,eg,aA,aT,aX,iY,hlt,h0,hs,hq,Bl];exact Cm _ _
    rw[if_pos (by omega)] at hq;obtain⟨hj,hst,hsl⟩:=Dx R ha (s:=l[i]) (by omega) (by omega);have h0':0≤l[i]:=by omega
    simp[e13,e12,e11,e5,e2,eg,aA,aT,aX,iY,hlt,h0,hs,ha,hj,hst,h0'];rw[bI _ (by omega)];refine⟨l.length - (i+1),by omega,i+1,bO d a l[i],by omega,rfl,hsl,?_,?_,?_,?_,?_,?_,hq⟩<;>simp[au,e12,e11,e2,eg,aj,aA,aT,aX,iY]
   ·rw[List.drop_of_length_le (by omega),sj] at hq
    simp[e13,e12,e5,hlt,hq,Bl];exact Cm _ _
theorem Z7b{P:Program}{fr:FuncId}(d:aD)(l:List Int)(hr:aN P fr [aT d,aA l] (aj (Bl (xH d l)))) :
  AW P (O1 fr) (gG [4] (iQ (aH (mM d l)))) (bP [aT d,aA l]) S0:=by
 simp[O1,aT,aX,iY];refine aQ.pure hr (aK (iV d) (aK (aS l) aU)) (aW _) ?_;cases hrd:xH d l with
 | none=>
  simp[Bl,mM,hrd];exact jF _ _
 | some b=>
  have hb:b < d.fin.length:=by
   unfold xH at hrd;split at hrd
   ·rename_i h
    have R:=(xP d).mp h;have:=Zdy R l 0 (by have:=R.n1;omega) b hrd;have:=R.fin;omega
   ·cases hrd
  have hf:mM d l=d.fin[b]:=by simp[mM,hrd,List.getD_eq_getElem?_getD,List.getElem?_eq_getElem hb]
  simp[Bl,hb,hf];exact jF _ _
def Wy:AC:= (.block 2 (.loop (sq [ro 47 (.bin .lss (.t 46) (.t 45))] (.seq (.cond (.t 47) .skip (.exit 2)) (.seq (.block 3 (sq [ro 48 (.aI 1 (.t 44) (.t 46)),rL 49 48,rm 9 49] (sq [rm 50 9,ro 51 (.bin .neq (.t 50) (ci (-1)))] (.cond (.t 51) (.reg none [rm 52 4,rm 53 9,rm 54 4,rm 55 9,ro 56 (.aI 1 (.t 54) (.t 55)),rL 57 56,rm 58 6,ro 59 (.cO 1 1 (.v (.int .i64 0)) [(0,(.t 58))]),ro 60 (.app 1 8 (.t 57) (.t 59)),ro 61 (.aI 1 (.t 52) (.t 53)),rn (.store 1 (.t 61) (.t 60))]) .skip)))) (.reg none [ro 62 (.bin .add (.t 46) (ci 1)),rm 46 62]))))))
def VK:AC:= (.block 6 (.loop (sq [ro 78 (.bin .lss (.t 77) (.t 76))] (.seq (.cond (.t 78) .skip (.exit 6)) (.seq (.block 7 (sq [ro 79 (.aI 1 (.t 75) (.t 77)),rL 80 79,rm 12 80] (sq [rm 81 3,rm 82 12,ro 83 (.aI 1 (.t 81) (.t 82)),rL 84 83,ro 85 (.bin .eql (.t 84) (ci (-1)))] (.cond (.t 85) (sq [rm 86 3,rm 87 12,rm 88 3,rm 89 10,ro 90 (.aI 1 (.t 88) (.t 89)),rL 91 90,ro 92 (.bin .add (.t 91) (ci 1)),ro 93 (.aI 1 (.t 86) (.t 87)),rn (.store 1 (.t 93) (.t 92))] (.reg none [rm 94 5,rm 95 12,ro 96 (.cO 1 1 (.v (.int .i64 0)) [(0,(.t 95))]),ro 97 (.app 1 8 (.t 94) (.t 96)),rm 5 97])) .skip)))) (.reg none [ro 98 (.bin .add (.t 77) (ci 1)),rm 77 98]))))))
def VL:AC:= (.seq (.block 4 (.loop (.seq (sq [rm 64 5,ro 65 (.len (.t 64)),ro 66 (.bin .gtr (.t 65) (ci 0))] (.cond (.t 66) .skip (.exit 4))) (.seq (.block 5 (sq [rm 69 5,ro 70 (.aI 1 (.t 69) (ci 0)),rL 71 70,rm 10 71] (sq [rm 72 4,rm 73 10,ro 74 (.aI 1 (.t 72) (.t 73)),rL 75 74,ro 76 (.len (.t 75)),ro 77 (.mv (ci 0))] VK))) (.reg none [rm 67 5,ro 68 (.slc 1 (.t 67) (some (ci 1)) none),rm 5 68]))))) (sq [rm 99 3,rm 2 99] .ret))
def Vh:AC:= (sq [ro 1 (.box 2 (.t 0)),ro 2 (.mv (.c (.sl true [])))] (sq [rF 13 0 1,rL 14 13,ro 15 (.len (.t 14)),ro 16 (.wB 1 8 (.v (.int .i64 0)) (.t 15) (.t 15)),rm 3 16] (sq [rF 17 0 1,rL 18 17,ro 19 (.len (.t 18)),ro 20 (.wB 1 24 (.sl true []) (.t 19) (.t 19)),rm 4 20] (sq [ro 5 (.mv (.c (.sl true [])))] (.seq (sq [rF 21 0 1,rL 22 21,ro 23 (.len (.t 22)),ro 24 (.mv (ci 0))] (.block 0 (.loop (sq [ro 25 (.bin .lss (.t 24) (.t 23))] (.seq (.cond (.t 25) .skip (.exit 0)) (.seq (.block 1 (sq [rm 26 24,ro 27 (.aI 1 (.t 22) (.t 24)),rL 28 27,rm 6 26,rm 7 28] (sq [rm 29 3,rm 30 6,ro 31 (.aI 1 (.t 29) (.t 30)),rn (.store 1 (.t 31) (ci (-1)))] (.seq (sq [rF 32 1 1,rL 33 32,rm 34 6,ro 35 (.aI 1 (.t 33) (.t 34)),rL 36 35] (.cond (.t 36) (sq [rm 37 3,rm 38 6,ro 39 (.aI 1 (.t 37) (.t 38)),rn (.store 1 (.t 39) (ci 0))] (.reg none [rm 40 5,rm 41 6,ro 42 (.cO 1 1 (.v (.int .i64 0)) [(0,(.t 41))]),ro 43 (.app 1 8 (.t 40) (.t 42)),rm 5 43])) .skip)) (sq [rm 44 7,ro 45 (.len (.t 44)),ro 46 (.mv (ci 0))] Wy))))) (.reg none [ro 63 (.bin .add (.t 24) (ci 1)),rm 24 63]))))))) VL)))))
def xC(g:Gr):AV:=.agg [aX g.next,iY g.fin]
structure B1(g:Gr)(k i j:Nat)(far wl:List Int)(back:List (List Int)):Prop where
 fl:far.length=g.n
 fv:∀u,u < k→rd far u=if g.uy u=true then 0 else -1
 wv:wl=((List.range k).filter g.uy).map Int.ofNat
 bl:back.length=g.n
 bs:∀t x,t < g.n→x∈back.getD t []→∃s,s < g.n∧x=(s:Int)∧g.edge s t
 bc:∀s t,t < g.n→s < i→g.edge s t→(s:Int)∈back.getD t []
 bj:∀t l,t < g.n→g.next[i]? = some l→(t:Int)∈l.take j→(i:Int)∈back.getD t []
 bn:∀t,t < g.n→(back.getD t []).length≤400*i+j
structure U1(g:Gr)(f:AF)(S:St)(far wl:List Int)(back:List (List Int)):Prop where
 s1:f 1=.ptr 0 0 0
 s3:f 3=.own 5 0 g.n
 s4:f 4=.own 10 0 g.n
 g0:S.g 0=some (.arr 2 [xC g])
 g5:S.g 5=some (.arr 1 (far.map aj))
 rows:∃bv,S.g 10=some (.arr 1 bv)∧Rows S.g S.n [0,5,10] (f 5::bv) (wl::back)
 n:12≤S.n
def ZuF(g:Gr)(m:Nat)(f:AF)(S:St):Prop:=
 ∃i far wl back,i≤g.n∧m=g.n - i∧f 24=aj i∧f 23=aj g.n∧f 22=aX g.next∧B1 g i i 0 far wl back∧U1 g f S far wl back
def ZsX(g:Gr)(i:Nat)(row far wl:List Int)(m:Nat)(f:AF)(S:St):Prop:=
 ∃j back,j≤row.length∧m=row.length - j∧f 46=aj j∧f 45=aj row.length∧f 44=aA row∧f 6=aj i∧f 24=aj i∧f 23=aj g.n∧f 22=aX g.next∧B1 g (i+1) i j far wl back∧U1 g f S far wl back
theorem ZpF{P:Program}{g:Gr}(ok:MN g){i:Nat}{row far wl:List Int}{back:List (List Int)}(hr:g.next[i]? = some row){f:AF}{S:St}{Q:Exit→AF→St→Prop}
  (h0:ZsX g i row far wl row.length f S)
  (hq:∀f' S' JM,f' 24=aj i→f' 23=aj g.n→f' 22=aX g.next→B1 g (i+1) i row.length far wl JM→U1 g f' S' far wl JM→Q .normal f' S'):AW P Wy Q f S:=by
 simp[Wy];refine vT (ZsX g i row far wl) row.length h0 ?_;rintro m f S ⟨j,back,hj,rfl,e46,e45,e44,e6,e24,e23,e22,b,st⟩;by_cases hlt:j < row.length
 ·by_cases ht:row[j] = -1
  ·have hc:(row[j] != -1)=false:=by simp[ht]
   simp[e46,e45,e44,aA,hlt,hc];have hrl:row.length≤400:=ok.rows _ (List.mem_of_getElem? hr);rw[bI _ (by omega)];refine⟨row.length - (j+1),by omega,j+1,back,by omega,rfl,?_,?_,?_,?_,?_,?_,?_,?_,?_⟩
   ·simp[au,aj]
   ·simp[au,e45,aj]
   ·simp[au,e44,aA]
   ·simp[au,e6,aj]
   ·simp[au,e24,aj]
   ·simp[au,e23,aj]
   ·simp[au,e22]
   ·refine⟨b.fl,b.fv,b.wv,b.bl,b.bs,b.bc,fun t l ht2 hl2 hm=>?_,fun t ht2=>by have:=b.bn t ht2;omega⟩
    rw[hr] at hl2;cases hl2;rw[List.take_add_one,List.getElem?_eq_getElem hlt] at hm;simp only[Option.toList_some,List.mem_append,List.mem_singleton] at hm;rcases hm with hm | hm
    ·exact b.bj t row ht2 hr hm
    ·omega
   ·exact⟨by simp[au,st.s1],by simp[au,st.s3],by simp[au,st.s4],st.g0,st.g5,by
     obtain⟨bv,h1,h2⟩:=st.rows;exact⟨bv,h1,by simpa[au] using h2.frame (by show S.n≤_;omega) (fun _ _ _=>rfl)⟩,by have:=st.n;simp;omega⟩
  ·have hc:(row[j] != -1)=true:=by simp[ht]
   have hrl:row.length≤400:=ok.rows _ (List.mem_of_getElem? hr)
   have htb:0≤row[j]∧row[j] < g.n:=by
    rcases ok.at_ row (List.mem_of_getElem? hr) row[j] (List.getElem_mem hlt) with h | h
    ·exact(ht h).elim
    ·exact h
   obtain⟨bv,h10,rows⟩:=st.rows;have hbl:=b.bl;have hvl:bv.length=g.n:=by have:=rows.len;simp at this;omega
   have htn:(row[j]).toNat < bv.length:=by omega
   have Ny:(row[j]).toNat < back.length:=by omega
   have hv:Vec S.g bv[(row[j]).toNat] 1 ((back[(row[j]).toNat]).map aj):=rows.row ((row[j]).toNat+1) (by simpa using htn) (by simpa using Ny)
   have hcell:(bv[(row[j]).toNat]).cells=[bv[(row[j]).toNat]]:=by
    rcases hv with⟨e,_⟩ | ⟨_,_,_,e,_⟩<;>rw[e]<;>rfl
   have hbn:(back[(row[j]).toNat]).length≤400*i+j:=by
    have:=b.bn (row[j]).toNat (by omega);simpa[List.getD_eq_getElem?_getD,List.getElem?_eq_getElem Ny] using this
   have hi9:i < 9000:=by
    have:=(List.getElem?_eq_some_iff.mp hr).1;have:=ok.n;omega
   have happ:=fun(n aC:Nat) (x:AV) (hx:x.cells.length=1)=>Vec.app (n:=n) (aC:=aC) (aB:=8) hv (BQ _) hx (FD (by rw[List.length_map];omega))
   simp[e46,e45,e44,e6,st.s4,aA,hlt,hc,htb.1,htb.2,h10,hvl,hcell];rw[happ _ _ _ (by simp[AV.cells])]
   have JX:∀(m aC:Nat) (bk:Option aF) (k:Nat),k∈[0,5,10]→12≤aC→((St.without ⟨m,S.g⟩ bv[(row[j]).toNat]).set aC bk).g k=S.g k:=by
    intro m aC bk k hk SS;exact rows.av (t:=(row[j]).toNat+1) (by simpa using htn) bk hk (by intro e;subst e;simp at hk;omega)
   have aby:=fun(m aC:Nat) (bk:Option aF) (SS:12≤aC)=>(JX m aC bk 10 (by simp) SS).trans h10
   have hsn:=st.n
   have hw:∀(m:Nat),(St.without ⟨m,S.g⟩ bv[(row[j]).toNat]).g 10=some (.arr 1 bv):=by
    intro m;rw[mU 10 (fun h6=>(rows.out _ (by simp) 10 h6).2 (by simp))];exact h10
   simp[e46,htb.1,htb.2,hvl,hcell,hw];rw[bI _ (by omega)]
   have hgd:∀t,(back.set (row[j]).toNat (back[(row[j]).toNat]++[(i:Int)])).getD t []=if t=(row[j]).toNat then back[(row[j]).toNat]++[(i:Int)] else back.getD t []:=by
    intro t;simp only[List.getD_eq_getElem?_getD,List.getElem?_set];by_cases h:(row[j]).toNat=t
    ·subst h;simp[Ny]
    ·rw[if_neg h,if_neg (Ne.symm h)]
   have hgt:back.getD (row[j]).toNat []=back[(row[j]).toNat]:=by simp[List.getD_eq_getElem?_getD,List.getElem?_eq_getElem Ny]
   refine⟨row.length - (j+1),by omega,j+1,back.set (row[j]).toNat (back[(row[j]).toNat]++[(i:Int)]),by omega,rfl,?_,?_,?_,?_,?_,?_,?_,?_,?_⟩
   ·simp[au,aj]
   ·simp[au,e45,aj]
   ·simp[au,e44,aA]
   ·simp[au,e6,aj]
   ·simp[au,e24,aj]
   ·simp[au,e23,aj]
   ·simp[au,e22]
   ·refine⟨b.fl,b.fv,b.wv,by simpa using b.bl,fun t x ht2 hx=>?_,fun s t ht2 hs he=>?_,fun t l ht2 hl2 hm=>?_,fun t ht2=>?_⟩
    ·rw[hgd] at hx
     split at hx
     ·rename_i e;subst e
      rcases List.mem_append.mp hx with hx | hx
      ·exact b.bs _ x ht2 (by rw[hgt];exact hx)
      ·simp at hx
       exact⟨i,(List.getElem?_eq_some_iff.mp hr).1,hx,row,hr,by rw[Int.toNat_of_nonneg htb.1];exact List.getElem_mem hlt⟩
     ·exact b.bs t x ht2 hx
    ·have:=b.bc s t ht2 hs he
     rw[hgd];split
     ·rename_i e;subst e;rw[hgt] at this;exact List.mem_append_left _ this
     ·exact this
    ·rw[hr] at hl2;cases hl2
     rw[hgd];by_cases e:t=(row[j]).toNat
     ·rw[if_pos e];simp
     ·rw[if_neg e]
      rw[List.take_add_one,List.getElem?_eq_getElem hlt] at hm;simp only[Option.toList_some,List.mem_append,List.mem_singleton] at hm;rcases hm with hm | hm
      ·exact b.bj t row ht2 hr hm
      ·omega
    ·have:=b.bn t ht2
     rw[hgd];split
     ·simp;omega
     ·omega
   ·refine⟨by simp[au,st.s1],by simp[au,st.s3],by simp[au,st.s4],?_,?_,⟨bv.set (row[j]).toNat (.own (S.n+1+3+2+8) 0 ((back[(row[j]).toNat]).length+1)),by simp[aG],?_⟩,by simp[sU]⟩
    ·have:=JX (S.n+1+3+2+11) (S.n+1+3+2+8) (some (aF.arr 1 (List.map aj back[(row[j]).toNat]++[AV.v (Value.int IntKind.i64 i)]))) 0 (by simp) (by omega)
     simp only[aG] at this ⊢;simpa using this.trans st.g0
    ·have:=JX (S.n+1+3+2+11) (S.n+1+3+2+8) (some (aF.arr 1 (List.map aj back[(row[j]).toNat]++[AV.v (Value.int IntKind.i64 i)]))) 5 (by simp) (by omega)
     simp only[aG] at this ⊢;simpa using this.trans st.g5
    ·have h2:=rows.app (t:=(row[j]).toNat+1) (m:=S.n+1+3+2+11) (aC:=S.n+1+3+2+8) (by simpa using htn) (by simpa using Ny) (i:Int) (by omega) (by omega) (by simp)
     have h3:=h2.frame (n':=S.n+1+3+2+11+2) (g':=fun k=>if k=10 then some (aF.arr 1 (bv.set (row[j]).toNat (.own (S.n+1+3+2+8) 0 ((back[(row[j]).toNat]).length+1)))) else ((St.without ⟨S.n+1+3+2+11,S.g⟩ bv[(row[j]).toNat]).set (S.n+1+3+2+8) (some (aF.arr 1 (List.map aj back[(row[j]).toNat]++[aj i])))).g k) (by omega) (fun k _ hk=>by
      rw[if_neg (by intro e;subst e;simp at hk)];rfl)
     simp only[au,sU];simp only[Nat.reduceEqDiff,if_false];exact h3
 ·have:j=row.length:=by omega
  subst this;simp[e46,e45];refine hq _ _ back ?_ ?_ ?_ b ?_
  ·simp[au,e24,aj]
  ·simp[au,e23,aj]
  ·simp[au,e22]
  ·exact⟨by simp[au,st.s1],by simp[au,st.s3],by simp[au,st.s4],st.g0,st.g5,by
    obtain⟨bv,h1,h2⟩:=st.rows;exact⟨bv,h1,by simpa[au] using h2.frame (by show S.n≤_;omega) (fun _ _ _=>rfl)⟩,by have:=st.n;simp;omega⟩
theorem B1.next{g:Gr}{k i:Nat}{row far wl:List Int}{back:List (List Int)}(b:B1 g k i row.length far wl back)(hr:g.next[i]? = some row)(hl:row.length≤400):B1 g k (i+1) 0 far wl back:=by
 refine⟨b.fl,b.fv,b.wv,b.bl,b.bs,fun s t ht hs he=>?_,by simp,fun t ht=>by have:=b.bn t ht;omega⟩;by_cases h:s=i
 ·subst h
  obtain⟨r,h1,h2⟩:=he;rw[hr] at h1;cases h1;exact b.bj t row ht hr (by rw[List.take_of_length_le (Nat.le_refl _)];exact h2)
 ·exact b.bc s t ht (by omega) he
structure Zpl(g:Gr)(back:List (List Int)):Prop where
 bl:back.length=g.n
 bs:∀t x,t < g.n→x∈back.getD t []→∃s,s < g.n∧x=(s:Int)∧g.edge s t
 bc:∀s t,s < g.n→t < g.n→g.edge s t→(s:Int)∈back.getD t []
 bn:∀t,t < g.n→(back.getD t []).length≤4000000
structure Lc(g:Gr)(back:List (List Int))(bv:List AV)(f:AF)(S:St)(far:List Int)(q:List Nat):Prop where
 s3:f 3=.own 5 0 g.n
 s4:f 4=.own 10 0 g.n
 g5:S.g 5=some (.arr 1 (far.map aj))
 g10:S.g 10=some (.arr 1 bv)
 rows:Rows S.g S.n [0,5,10] (f 5::bv) (q.map Int.ofNat::back)
 n:12≤S.n
def X6(g:Gr)(back:List (List Int))(bv:List AV)(m:Nat)(f:AF)(S:St):Prop:=
 ∃far q,uO g far q∧m=2*(g.n - tH far)+q.length∧m≤3*g.n∧Lc g back bv f S far q
def ZsY(g:Gr)(back:List (List Int))(bv:List AV)(h:Nat)(row:List Int)(M k:Nat)(f:AF)(S:St):Prop:=
 ∃j far q,j≤row.length∧k=row.length - j∧f 77=aj j∧f 76=aj row.length∧f 10=aj h∧bv[h]? = some (f 75)∧uO g far (h::q)∧2*(g.n - tH far)+q.length+1≤M∧
  (∀x∈row.take j,0≤rd far x.toNat)∧Lc g back bv f S far (h::q)
theorem Jk{l:List Int}{s:Nat}(h:s < l.length):l[s]=rd l s:=by simp[rd,List.getD_eq_getElem?_getD,List.getElem?_eq_getElem h]
theorem Zi6{P:Program}{g:Gr}(ok:MN g){back:List (List Int)}{bv:List AV}(bo:Zpl g back){h:Nat}{row:List Int}{M:Nat}(hh:h < g.n)(hr:back[h]? = some row)(hM:M≤3*g.n){f:AF}{S:St}{Q:Exit→AF→St→Prop}
  (h0:ZsY g back bv h row M row.length f S)
  (hq:∀f' S' far q,uO g far (h::q)→2*(g.n - tH far)+q.length+1≤M→(∀x∈row,0≤rd far x.toNat)→Lc g back bv f' S' far (h::q)→Q .normal f' S'):AW P VK Q f S:=by
 have hn:=ok.n;have hgn:g.n=g.next.length:=rfl
 have hrow:back.getD h []=row:=by simp[List.getD_eq_getElem?_getD,hr]
 have hrl:row.length≤4000000:=by have:=bo.bn h hh;rw[hrow] at this;exact this
 simp[VK];refine vT (ZsY g back bv h row M) row.length h0 ?_;rintro m f S ⟨j,far,q,hj,rfl,Sy,M9,e10,YR,b,JV,hdone,⟨s3,s4,g5,g10,rows,sn⟩⟩;have hfl:=b.len;by_cases hlt:j < row.length
 ·obtain⟨s,hs,hx,aaQ⟩:=bo.bs h row[j] hh (by rw[hrow];exact List.getElem_mem hlt)
  have Y4:bv.length=g.n:=by have:=rows.len;have:=bo.bl;simp at *;omega
  have hb1:h < bv.length:=by omega
  have hb2:h < back.length:=by rw[bo.bl];exact hh
  have Zi:Vec S.g (f 75) 1 (row.map aj):=by
   have h1:=rows.row (h+1) (by simp;omega) (by simp;omega)
   have h2:(f 5::bv)[h+1]'(by simp;omega)=f 75:=by
    rw[List.getElem_cons_succ];exact(List.getElem?_eq_some_iff.mp YR).2
   have h3:((h::q).map Int.ofNat::back)[h+1]'(by simp;omega)=row:=by
    rw[List.getElem_cons_succ];exact(List.getElem?_eq_some_iff.mp hr).2
   rw[h2,h3] at h1;exact h1
  obtain⟨id,off,ys,aa0,Ag,hoff,hdrop⟩:∃id off ys,f 75=.own id off row.length∧S.g id=some (.arr 1 ys)∧off≤ys.length∧ys.drop off=row.map aj:=by
   rcases Zi with⟨_,he⟩ | ⟨id,off,ys,h1,h2,h3,h4⟩
   ·have:row=[]:=by simpa using he
    subst this;simp at hlt
   ·exact⟨id,off,ys,by simpa using h1,h2,h3,h4⟩
  have hys:off+row.length=ys.length:=by have:=congrArg List.length hdrop;simp at this;omega
  have NA:off+row.length≤ys.length:=by omega
  have hget:ys[off+j]? = some (aj row[j]):=by
   have:(ys.drop off)[j]? = some (aj row[j]):=by rw[hdrop];simp[List.getElem?_eq_getElem hlt]
   rwa[List.getElem?_drop] at this
  rw[hx] at hget;simp only[aj] at hget;have hsf:s < far.length:=by omega
  have hhf:h < far.length:=by omega
  have hsI:(s:Int) < g.n:=by omega
  have GK:(h:Int) < g.n:=by omega
  obtain⟨hqa,hqb⟩:=b.qa h (by simp);have hqc:=b.cnt h hqa hqb;have hcl:=LW far;have hfh:=Jk hhf;have hgs:far[s]? = some far[s]:=List.getElem?_eq_getElem hsf;have hgh:far[h]? = some far[h]:=List.getElem?_eq_getElem hhf;by_cases hu:far[s] = -1
  ·have hc:(far[s] == -1)=true:=by simp[hu]
   have hw:IntKind.i64.wrap (far[h]+1)=far[h]+1:=bI _ (by omega);have hv0:Vec S.g (f 5) 1 (((h::q).map Int.ofNat).map aj):=rows.row 0 (by simp) (by simp);have hout:∀k∈[0,5,10],k∉(f 5).ids:=fun k hk h6=>(rows.out (f 5) (by simp) k h6).2 hk
   simp[Sy,M9,e10,hlt,aa0,Ag,NA,hget,s3,g5,hsI,GK,hfl,hgs,hgh,hc,hw];rw[Vec.app (xs:=((h::q).map Int.ofNat).map aj) (hv0.frame (fun k hk=>?_)) (BQ _) (by simp[AV.cells]) (FD (by simp;omega))]
   ·simp[Sy]
    rw[bI _ (by omega)];have hset:∀x,rd (far.set s (rd far h+1)) x=if x=s then rd far h+1 else rd far x:=fun x=>QI hsf _ x
    have hrs:rd far s = -1:=by rw[←Jk hsf];exact hu
    have hcs:=WC hsf (by omega) (x:=rd far h+1) (by omega);have aaO:=LW (far.set s (rd far h+1));rw[List.length_set] at aaO;refine⟨row.length - (j+1),by omega,j+1,far.set s (rd far h+1),q++[s],by omega,rfl,?_,?_,?_,?_,?_,?_,?_,?_⟩
    ·simp[au,aj]
    ·simp[au,M9,aj]
    ·simp[au,e10,aj]
    ·simp[au,YR]
    ·exact b.assign hs aaQ hrs
    ·rw[hcs,List.length_append];simp only[List.length_singleton];omega
    ·intro x hxm
     rw[hset];rw[List.take_add_one,List.getElem?_eq_getElem hlt] at hxm;simp only[Option.toList_some,List.mem_append,List.mem_singleton] at hxm;rcases hxm with hxm | hxm
     ·split
      ·omega
      ·exact hdone x hxm
     ·rw[if_pos (by omega)];omega
    ·have hwo:∀(n1 n2 k:Nat) (b1:Option aF),k≠5→(St.without ⟨n1,(St.set ⟨n2,S.g⟩ 5 b1).g⟩ (f 5)).g k=(St.without ⟨n1,S.g⟩ (f 5)).g k:=by
      intro n1 n2 k b1 hk;cases f 5<;>simp[St.without,aG,hk]
     refine⟨by simp[au,s3],by simp[au,s4],?_,?_,?_,by simp[sU]⟩
     ·simp only[aG]
      rw[if_neg (by omega),mU 5 (hout 5 (by simp))];simp[aG,List.map_set,aj,hfh]
     ·simp only[aG]
      rw[if_neg (by omega),mU 10 (hout 10 (by simp))];simp[aG,g10]
     ·have r2:=rows.app (t:=0) (m:=S.n+1+3+5+9+5) (aC:=S.n+1+3+5+9+3) (by simp) (by simp) (s:Int) (by omega) (by omega) (by simp)
      have r3:=r2.frame (n':=S.n+1+3+5+9+5+2) (g':=fun k=>if k=S.n+1+3+5+9+3 then some (aF.arr 1 (AV.v (Value.int IntKind.i64 ↑h)::(List.map (aj ∘ Int.ofNat) q++[AV.v (Value.int IntKind.i64 ↑s)]))) else (St.without ⟨S.n+1+3+5+9+5,(St.set ⟨S.n+1+3+5+9,S.g⟩ 5 (some (aF.arr 1 ((List.map aj far).set s (AV.v (Value.int IntKind.i64 (far[h]+1))))))).g⟩ (f 5)).g k) (by omega) (fun k _ hk=>by
       simp only[aG];by_cases hkn:k=S.n+1+3+5+9+3
       ·rw[if_pos hkn,if_pos hkn];simp[aj]
       ·rw[if_neg hkn,if_neg hkn,hwo _ _ _ _ (by simp at hk;omega)];rfl)
      simp only[au,sU];simp only[Nat.reduceEqDiff,if_false,if_true];have e1:(f 5::bv).set 0 (AV.own (S.n+1+3+5+9+3) 0 (((h::q).map Int.ofNat::back)[0].length+1))=AV.own (S.n+1+3+5+9+3) 0 (q.length+1+1)::bv:=by simp
      have e2:((h::q).map Int.ofNat::back).set 0 (((h::q).map Int.ofNat::back)[0]++[(s:Int)])=(h::(q++[s])).map Int.ofNat::back:=by simp
      rw[e1,e2] at r3;exact r3
   ·rw[aG,if_neg (by intro e;subst e;exact hout 5 (by simp) hk)]
  ·have hc:(far[s] == -1)=false:=by simp[hu]
   simp[Sy,M9,hlt,aa0,Ag,NA,hget,s3,g5,hsI,hfl,hgs,hc];rw[bI _ (by omega)];refine⟨row.length - (j+1),by omega,j+1,far,q,by omega,rfl,?_,?_,?_,?_,b,JV,?_,?_⟩
   ·simp[au,aj]
   ·simp[au,M9,aj]
   ·simp[au,e10,aj]
   ·simp[au,YR]
   ·intro x hxm
    rw[List.take_add_one,List.getElem?_eq_getElem hlt] at hxm;simp only[Option.toList_some,List.mem_append,List.mem_singleton] at hxm;rcases hxm with hxm | hxm
    ·exact hdone x hxm
    ·have e:x.toNat=s:=by omega
     have hv:=b.val s hs;rw[←Jk hsf] at hv;rw[e,←Jk hsf];omega
   ·refine⟨by simp[au,s3],by simp[au,s4],g5,g10,?_,by simp;omega⟩
    simpa[au] using rows.frame (by show S.n≤_;omega) (fun _ _ _=>rfl)
 ·have:j=row.length:=by omega
  subst this;simp[Sy,M9];refine hq _ _ far q b JV (fun x hx=>hdone x (by rw[List.take_length];exact hx)) ?_;refine⟨by simp[au,s3],by simp[au,s4],g5,g10,?_,by simp;omega⟩;simpa[au] using rows.frame (by show S.n≤_;omega) (fun _ _ _=>rfl)
theorem Zom{P:Program}{g:Gr}(ok:MN g){back:List (List Int)}{bv:List AV}{far:List Int}{q:List Nat}(bo:Zpl g back)(hb:uO g far q)(J2:q.length≤g.n){f:AF}{S:St}(st:Lc g back bv f S far q) :
  AW P VL (gG [2] (iQ (aA (sG g)))) f S:=by
 have hn:=ok.n;have hgn:g.n=g.next.length:=rfl
 simp[VL];have hcl:=LW far;have hfl:=hb.len;refine vT (X6 g back bv) (2*(g.n - tH far)+q.length) ⟨far,q,hb,rfl,by omega,st⟩ ?_;rintro m f S ⟨far,q,b,rfl,hm,⟨s3,s4,g5,g10,rows,sn⟩⟩;have hfl:=b.len;have hv0:Vec S.g (f 5) 1 ((q.map Int.ofNat).map aj):=rows.row 0 (by simp) (by simp);cases q with
 | nil=>
  rcases hv0 with⟨e5,_⟩ | ⟨id,off,ys,e5,Ag,hoff,hdrop⟩
  ·simp[e5,s3]
   rw[Zlk b.ok];exact(Vec.mk' (xs:=far.map aj) g5 (by simp[hfl])).fz (enc:=aj) (l:=far) aW
  ·have e5':f 5=.own id off 0:=by simpa using e5
   simp[e5',s3];rw[Zlk b.ok];exact(Vec.mk' (xs:=far.map aj) g5 (by simp[hfl])).fz (enc:=aj) (l:=far) aW
 | cons h q=>
  obtain⟨id,off,ys,e5,Ag,hoff,hdrop⟩:∃id off ys,f 5=.own id off (q.length+1)∧S.g id=some (.arr 1 ys)∧off≤ys.length∧ys.drop off=((h::q).map Int.ofNat).map aj:=by
   rcases hv0 with⟨_,he⟩ | ⟨id,off,ys,h1,h2,h3,h4⟩
   ·simp at he
   ·exact⟨id,off,ys,by simpa using h1,h2,h3,h4⟩
  have hys:off+(q.length+1)=ys.length:=by have:=congrArg List.length hdrop;simp at this;omega
  have NA:off+(q.length+1)≤ys.length:=by omega
  have hget:ys[off]? = some (.v (.int .i64 h)):=by
   have:(ys.drop off)[0]? = some (aj h):=by rw[hdrop];simp
   rw[List.getElem?_drop] at this;simpa[aj] using this
  have hh:h < g.n:=(b.qa h (by simp)).1;have GK:(h:Int) < g.n:=by omega
  have Y4:bv.length=g.n:=by have:=rows.len;have:=bo.bl;simp at *;omega
  have hb1:h < bv.length:=by omega
  have hb2:h < back.length:=by rw[bo.bl];exact hh
  have aac:bv[h]? = some bv[h]:=List.getElem?_eq_getElem hb1;have hpos:(0:Int) < (q.length:Int)+1:=by omega
  have Zi:Vec S.g bv[h] 1 ((back[h]).map aj):=rows.row (h+1) (by simpa using hb1) (by simpa using hb2);have hrb:back[h]? = some back[h]:=List.getElem?_eq_getElem hb2
  have fin:∀(f':AF) (S':St) (far':List Int) (q':List Nat),uO g far' (h::q')→2*(g.n - tH far')+q'.length+1≤2*(g.n - tH far)+(q.length+1)→(∀x∈back[h],0≤rd far' x.toNat)→Lc g back bv f' S' far' (h::q')→
    l7 5 (jE (AW P (.reg none [⟨(some 67),.mv (.t 5),none,none⟩,⟨(some 68),.slc 1 (.t 67) (some (ci 1)) none,none,none⟩,⟨(some 5),.mv (.t 68),none,none⟩]) (jE (zN (X6 g back bv) (2*(g.n - tH far)+(q.length+1))) (l7 4 (jE (AW P (sq [⟨(some 99),.mv (.t 3),none,none⟩,⟨(some 2),.mv (.t 99),none,none⟩] .ret) (gG [2] (iQ (aA (sG g))))) (gG [2] (iQ (aA (sG g)))))))) (jE (zN (X6 g back bv) (2*(g.n - tH far)+(q.length+1))) (l7 4 (jE (AW P (sq [⟨(some 99),.mv (.t 3),none,none⟩,⟨(some 2),.mv (.t 99),none,none⟩] .ret) (gG [2] (iQ (aA (sG g))))) (gG [2] (iQ (aA (sG g)))))))) .normal f' S':=by
   rintro f' S' far' q' b' hM' hdone ⟨t3,t4,h5,h10,rows',tn⟩;have hv0:Vec S'.g (f' 5) 1 (((h::q').map Int.ofNat).map aj):=rows'.row 0 (by simp) (by simp)
   obtain⟨id,off,ys,e5,Ag,hoff,hdrop⟩:∃id off ys,f' 5=.own id off (q'.length+1)∧S'.g id=some (.arr 1 ys)∧off≤ys.length∧ys.drop off=((h::q').map Int.ofNat).map aj:=by
    rcases hv0 with⟨_,he⟩ | ⟨id,off,ys,h1,h2,h3,h4⟩
    ·simp at he
    ·exact⟨id,off,ys,by simpa using h1,h2,h3,h4⟩
   have hys:off+(q'.length+1)=ys.length:=by have:=congrArg List.length hdrop;simp at this;omega
   simp[e5,xD,bnd,Ag];refine⟨2*(g.n - tH far')+q'.length,by omega,far',q',b'.pop fun s hs he=>?_,rfl,by simp at hm;omega,⟨by simp[au,t3],by simp[au,t4],h5,h10,?_,by simp;omega⟩⟩
   ·have:=bo.bc s h hs hh he
    simp only[List.getD_eq_getElem?_getD,hrb,Option.getD_some] at this;simpa using hdone _ this
   ·have hid:=rows'.out (f' 5) (by simp) id (by rw[e5];simp[AV.ids])
    have r2:=rows'.upd (t:=0) (by simp) (g':=S'.g) (n':=S'.n+3) (v:=.own id (off+1) q'.length) (l:=q'.map Int.ofNat) (.inr ⟨id,off+1,ys,by simp,Ag,by omega,by rw[←List.drop_drop,hdrop];simp⟩) (by omega) (fun i hi=>by
     simp only[AV.ids,List.mem_singleton] at hi;subst hi;exact⟨by omega,hid.2,.inl (by show _∈(f' 5).ids;rw[e5];simp[AV.ids])⟩) (fun i _ _ _=>rfl)
    simpa[au] using r2
  rcases Zi with⟨eb,he⟩ | ⟨id2,off2,ys2,eb,hg2,ho2,hd2⟩
  ·have he':back[h]=[]:=by simpa using he
   have hl0:back[h].length=0:=by rw[he'];rfl
   simp[e5,Ag,NA,hget,s4,g10,GK,Y4,eb,hpos,hh];refine Zi6 ok bo hh hrb (M:=2*(g.n - tH far)+(q.length+1)) (by simp at hm;omega) ⟨0,far,q,by omega,by omega,?_,?_,?_,?_,b,by omega,by simp,⟨?_,?_,g5,g10,?_,by simp⟩⟩ fin
   ·simp[au,aj]
   ·simp[au,aj,hl0]
   ·simp[au,aj]
   ·simp[au,aac,eb]
   ·simp[au,s3]
   ·simp[au,s4]
   ·have:=rows.frame (n':=S.n+3+4+6) (g':=S.g) (by omega) (fun k _ hk=>rfl)
    simpa[au] using this
  ·simp[e5,Ag,NA,hget,s4,g10,GK,Y4,eb,hpos,hh]
   refine Zi6 ok bo hh hrb (M:=2*(g.n - tH far)+(q.length+1)) (by simp at hm;omega) ⟨0,far,q,by omega,by omega,?_,?_,?_,?_,b,by omega,by simp,⟨?_,?_,g5,g10,?_,by simp⟩⟩ fin
   ·simp[au,aj]
   ·simp[au,aj]
   ·simp[au,aj]
   ·simp[au,aac,eb]
   ·simp[au,s3]
   ·simp[au,s4]
   ·have:=rows.frame (n':=S.n+3+4+6) (g':=S.g) (by omega) (fun k _ hk=>rfl)
    simpa[au] using this
theorem Z9z(P:Program)(g:Gr)(ok:MN g):AW P Vh (gG [2] (iQ (aA (sG g)))) (bP [xC g]) S0:=by
 have h1:=ok.n;have hn:g.n=g.next.length:=rfl
 have q1:(g.next.length:Int)≤9223372036854775807:=by omega
 have q2:8*(g.next.length:Int)≤281474976710656:=by omega
 have q3:24*(g.next.length:Int)≤281474976710656:=by omega
 simp[Vh,xC,aX,iY,DW,q1,q2,q3];refine vT (ZuF g) g.n ?_ ?_
 ·refine⟨0,List.replicate g.n 0,[],List.replicate g.n [],by omega,by omega,?_,?_,?_,?_,?_⟩
  ·simp[au,aj]
  ·simp[au,aj,hn]
  ·simp[au,aX]
  ·refine⟨by simp,by omega,by simp,by simp,?_,by omega,by simp,?_⟩
   ·intro t x ht hx
    simp[List.getD_eq_getElem?_getD,ht] at hx
   ·intro t ht
    simp[List.getD_eq_getElem?_getD,ht]
  ·refine⟨by simp[au],by simp[au,hn],by simp[au,hn],?_,?_,⟨List.replicate g.n (.sl true []),?_,?_⟩,by simp⟩
   ·simp[aG,xC,aX,iY]
   ·simp[aG,aj,hn]
   ·simp[aG,hn]
   ·simp only[au]
    simp only[Nat.reduceEqDiff,if_false,if_true];exact Rows.init (g.n+1)
 ·rintro m f S ⟨i,far,wl,back,hi,rfl,e24,e23,e22,b,st⟩
  obtain⟨s1,s3,s4,g0,g5,⟨bv,g10,rows⟩,sn⟩:=st;have hfl:=b.fl;have abx:=ok.fin;by_cases hlt:i < g.n
  ·have hlt2:i < g.next.length:=hlt
   have hlf:i < g.fin.length:=by omega
   have aa6:i < far.length:=by omega
   have vD:(i:Int) < g.n:=by omega
   have hend:g.uy i=g.fin[i]:=by simp[Gr.uy,List.getD_eq_getElem?_getD,List.getElem?_eq_getElem hlf]
   cases hb:g.fin[i] with
   | true=>
    simp[e24,e23,e22,s1,s3,g0,g5,aX,xC,iY,hlt,hlt2,hlf,vD,hfl,hb,aA];have hfin:g.uy i=true:=by rw[hend];exact hb
    have hv0:Vec S.g (f 5) 1 (wl.map aj):=rows.row 0 (by simp) (by simp)
    have hwl:wl.length≤i:=by
     rw[b.wv,List.length_map];exact Nat.le_trans (List.length_filter_le _ _) (by simp)
    rw[Vec.app (xs:=wl.map aj) (hv0.frame (fun k hk=>?_)) (BQ _) (by simp[AV.cells]) (FD (by rw[List.length_map];omega))]
    ·simp
     have r2:=rows.app (t:=0) (m:=S.n+1+5+4+5+4+5) (aC:=S.n+1+5+4+5+4+3) (by simp) (by simp) (i:Int) (by omega) (by omega) (by simp);have hout:∀k∈[0,5,10],k∉(f 5).ids:=fun k hk h6=>(rows.out (f 5) (by simp) k h6).2 hk
     refine ZpF ok (row:=g.next[i]) (far:=far.set i 0) (wl:=wl++[(i:Int)]) (back:=back) (List.getElem?_eq_getElem hlt2) ⟨0,back,by omega,by omega,?_,?_,?_,?_,?_,?_,?_,?_,?_⟩ ?_
     ·simp[au,aj]
     ·simp[au,aj]
     ·simp[au,aA]
     ·simp[au,aj]
     ·simp[au,e24,aj]
     ·simp[au,e23,aj]
     ·simp[au,e22,aX]
     ·refine⟨by simpa using hfl,fun u hu=>?_,?_,b.bl,b.bs,b.bc,by simp,b.bn⟩
      ·rw[QI aa6]
       split
       ·rename_i e;subst e;rw[hfin];rfl
       ·exact b.fv u (by omega)
      ·rw[List.range_succ,List.filter_append,List.map_append,←b.wv];simp[hfin]
     ·have hwo:∀(n1 n2 n3 k:Nat) (b1 b2:Option aF),k≠5→(St.without ⟨n1,(St.set ⟨n2,(St.set ⟨n3,S.g⟩ 5 b1).g⟩ 5 b2).g⟩ (f 5)).g k=(St.without ⟨n1,S.g⟩ (f 5)).g k:=by
       intro n1 n2 n3 k b1 b2 hk;cases f 5<;>simp[St.without,aG,hk]
      refine⟨by simp[au,s1],by simp[au,s3],by simp[au,s4],?_,?_,⟨bv,?_,?_⟩,by simp[sU]⟩
      ·simp only[aG]
       rw[if_neg (by omega),mU 0 (hout 0 (by simp))];simp[aG,g0]
      ·simp only[aG]
       rw[if_neg (by omega),mU 5 (hout 5 (by simp))];simp[aG,List.map_set,aj]
      ·simp only[aG]
       rw[if_neg (by omega),mU 10 (hout 10 (by simp))];simp[aG,g10]
      ·have r3:=r2.frame (n':=S.n+1+5+4+5+4+5+3) (g':=fun k=>if k=S.n+1+5+4+5+4+3 then some (aF.arr 1 (List.map aj wl++[AV.v (Value.int IntKind.i64 ↑i)])) else (St.without ⟨S.n+1+5+4+5+4+5,(St.set ⟨S.n+1+5+4+5+4,(St.set ⟨S.n+1+5+4,S.g⟩ 5 (some (aF.arr 1 ((List.map aj far).set i (AV.v (Value.int IntKind.i64 (-1))))))).g⟩ 5 (some (aF.arr 1 ((List.map aj far).set i (AV.v (Value.int IntKind.i64 0)))))).g⟩ (f 5)).g k) (by omega) (fun k _ hk=>by
        simp only[aG];by_cases hkn:k=S.n+1+5+4+5+4+3
        ·rw[if_pos hkn,if_pos hkn];simp[aj]
        ·rw[if_neg hkn,if_neg hkn,hwo _ _ _ _ _ _ (by simp at hk;omega)];rfl)
       simp only[au,sU];simp only[Nat.reduceEqDiff,if_false,if_true];have e1:(f 5::bv).set 0 (AV.own (S.n+1+5+4+5+4+3) 0 ((wl::back)[0].length+1))=AV.own (S.n+1+5+4+5+4+3) 0 (wl.length+1)::bv:=by simp
       have e2:(wl::back).set 0 ((wl::back)[0]++[(i:Int)])=(wl++[(i:Int)])::back:=by simp
       rw[e1,e2] at r3
       first | exact r3 | simpa using r3
     ·intro f' S' JM k24 k23 k22 b' st'
      simp[k24];rw[bI _ (by omega)];have hrow:(g.next[i]).length≤400:=ok.rows _ (List.getElem_mem hlt2);refine⟨g.n - (i+1),by omega,i+1,far.set i 0,wl++[(i:Int)],JM,by omega,rfl,?_,?_,?_,b'.next (List.getElem?_eq_getElem hlt2) hrow,?_⟩
      ·simp[au,aj]
      ·simp[au,k23]
      ·simp[au,k22]
      ·obtain⟨t1,t3,t4,h0,h5,⟨YO,YV,rows'⟩,tn⟩:=st'
       refine⟨by simp[au,t1],by simp[au,t3],by simp[au,t4],h0,h5,⟨YO,YV,?_⟩,by simp;omega⟩;simpa[au] using rows'.frame (n':=S'.n+2) (by omega) (fun k _ hk=>rfl)
    ·simp only[aG]
     have hk5:k≠5:=by intro e;subst e;exact(rows.out (f 5) (by simp) 5 hk).2 (by simp)
     simp[hk5]
   | false=>
    simp[e24,e23,e22,s1,s3,g0,g5,aX,xC,iY,hlt,hlt2,hlf,vD,hfl,hb,aA];have hfin:g.uy i=false:=by rw[hend];exact hb
    refine ZpF ok (row:=g.next[i]) (far:=far.set i (-1)) (wl:=wl) (back:=back) (List.getElem?_eq_getElem hlt2) ⟨0,back,by omega,by omega,?_,?_,?_,?_,?_,?_,?_,?_,?_⟩ ?_
    ·simp[au,aj]
    ·simp[au,aj]
    ·simp[au,aA]
    ·simp[au,aj]
    ·simp[au,e24,aj]
    ·simp[au,e23,aj]
    ·simp[au,e22,aX]
    ·refine⟨by simpa using hfl,fun u hu=>?_,?_,b.bl,b.bs,b.bc,by simp,b.bn⟩
     ·rw[QI aa6]
      split
      ·rename_i e;subst e;rw[hfin];rfl
      ·exact b.fv u (by omega)
     ·rw[List.range_succ,List.filter_append,List.map_append,←b.wv];simp[hfin]
    ·refine⟨by simp[au,s1],by simp[au,s3],by simp[au,s4],by simp[aG,g0],by simp[aG,aj,List.map_set],⟨bv,by simp[aG,g10],?_⟩,by simp⟩
     simpa[au] using rows.frame (n':=S.n+1+5+4+5+3) (by omega) (fun k _ hk=>by simp only[aG];rw[if_neg (by intro e;subst e;simp at hk)])
    ·intro f' S' JM k24 k23 k22 b' st'
     simp[k24];rw[bI _ (by omega)];have hrow:(g.next[i]).length≤400:=ok.rows _ (List.getElem_mem hlt2);refine⟨g.n - (i+1),by omega,i+1,far.set i (-1),wl,JM,by omega,rfl,?_,?_,?_,b'.next (List.getElem?_eq_getElem hlt2) hrow,?_⟩
     ·simp[au,aj]
     ·simp[au,k23]
     ·simp[au,k22]
     ·obtain⟨t1,t3,t4,h0,h5,⟨YO,YV,rows'⟩,tn⟩:=st'
      refine⟨by simp[au,t1],by simp[au,t3],by simp[au,t4],h0,h5,⟨YO,YV,?_⟩,by simp;omega⟩;simpa[au] using rows'.frame (n':=S'.n+2) (by omega) (fun k _ hk=>rfl)
  ·have hin:i=g.n:=by omega
   subst hin;simp[e24,e23];refine Zom ok (back:=back) (bv:=bv) (far:=far) (q:=(List.range g.n).filter g.uy) ⟨b.bl,b.bs,fun s t hs ht he=>b.bc s t ht hs he,fun t ht=>?_⟩ ?_ ?_ ⟨?_,?_,g5,g10,?_,?_⟩
   ·have:=b.bn t ht;omega
   ·refine Jt.P6c ⟨hfl,fun s hs=>b.fv s hs,fun s=>by simp[List.mem_filter]⟩
   ·exact Nat.le_trans (List.length_filter_le _ _) (by simp)
   ·simp[au,s3]
   ·simp[au,s4]
   ·have:=rows.frame (n':=S.n+1) (g':=S.g) (by omega) (fun k _ hk=>rfl)
    rw[b.wv] at this;simpa[au] using this
   ·simp;omega
theorem Zf8(g:Gr):aY (xC g):=.agg _ (by
 intro y hy;simp only[List.mem_cons,List.not_mem_nil,or_false] at hy;rcases hy with rfl | rfl
 ·exact jo _
 ·exact jL _)
def Ph:AC:= (sq [ro 3 (.mv (.c (.v (.bool false))))] (sq [rm 4 0,ro 5 (.bin .lss (.t 4) (ci 0)),rm 6 5,rg 7 6 false (.mv (.t 0)),rg 8 6 false (.load none (.t 1)),rg 9 6 false (.bin .geq (.t 7) (.t 8)),ro 10 (.pick (.t 6) (.c (.v (.bool true))) (.t 9)),rm 3 10] .ret))
def Pj(Kr:FuncId):AC:= (sq [ro 4 (.mv (.c (.v (.bool false))))] (sq [rm 5 0,ro 6 (.len (.t 5)),rF 7 0 1,rL 8 7,ro 9 (.bin .neq (.t 6) (.t 8)),rm 10 9,rg 11 10 false (.mv (.t 0)),rg 12 10 false (.load none (.t 2)),rl 13 10 false Kr [(.t 11),(.t 12)],ro 14 (.pick (.t 10) (.c (.v (.bool true))) (.t 13)),rm 4 14] .ret))
def Dk(P4D P4E P1D:FuncId):AC:= (sq [ro 1 (.box 3 (.t 0)),ro 2 (.mv (.c (.v (.bool false))))] (sq [rF 5 1 1,rL 6 5,ro 7 (.len (.t 6)),ro 3 (.alloc (.v (.int .i64 0)) 1),rn (.store 1 (.t 3) (.t 7))] (.seq (sq [rF 8 0 1,rL 9 8,ro 10 (.bin .lss (.t 9) (ci 1)),rm 11 10,rg 12 11 false (.cZ 0 (.t 1)),rg 13 11 false (.load none (.t 12)),rg 14 11 false (.bin .gtr (.t 13) (ci 400)),ro 15 (.pick (.t 11) (.c (.v (.bool true))) (.t 14)),rm 16 15,rg 17 16 false (.load none (.t 3)),rg 18 16 false (.bin .eql (.t 17) (ci 0)),ro 19 (.pick (.t 16) (.c (.v (.bool true))) (.t 18)),rm 20 19,rg 21 20 false (.load none (.t 3)),rg 22 20 false (.bin .gtr (.t 21) (ci 3000)),ro 23 (.pick (.t 20) (.c (.v (.bool true))) (.t 22)),rm 24 23,rg 25 24 false (.cZ 2 (.t 1)),rg 26 24 false (.load none (.t 25)),rg 27 24 false (.len (.t 26)),rg 28 24 false (.load none (.t 3)),rg 29 24 false (.bin .neq (.t 27) (.t 28)),ro 30 (.pick (.t 24) (.c (.v (.bool true))) (.t 29))] (.cond (.t 30) (sq [ro 2 (.mv (.c (.v (.bool false))))] .ret) .skip)) (sq [ro 31 (.Ak P4D [] [(.t 3)]),ro 4 (.alloc (.v .nilFunc) 1),rn (.store 1 (.t 4) (.t 31))] (sq [rF 32 1 1,rL 33 32,ro 34 (.Ak P4E [] [(.t 1),(.t 4)]),rk 35 P1D [(.t 33),(.t 34)],ro 36 (.un .not (.t 35)),rm 2 36] .ret)))))
def Gj(k:Nat)(t:Int):Bool:=decide (t < 0) || decide ((k:Int)≤t)
theorem Zb6(P:Program)(t:Int)(k:Nat):AW P Ph (gG [3] (iQ (aH (Gj k t)))) (bP [aj t,.bJ (aj k) 0]) S0:=by
 by_cases h1:t < 0
 ·simp[Ph,h1,Gj]
  exact jF true _
 ·simp[Ph,h1,Gj]
  exact jF _ _
def Ck(d:aD)(r:List Int):Bool:=((r.length:Int) != d.signs) || r.any (Gj d.next.length)
theorem Zb7{P:Program}{f1 fc:FuncId}(d:aD)(r:List Int)(hc:aN P fc [aA r,.aP f1 [] [.bJ (aj d.next.length) 0]] (aH (r.any (Gj d.next.length)))) :
  AW P (Pj fc) (gG [4] (iQ (aH (Ck d r)))) (bP [aA r,.bJ (aT d) 0,.bJ (.aP f1 [] [.bJ (aj d.next.length) 0]) 0]) S0:=by
 cases h1:((r.length:Int) != d.signs) with
 | true=>
  simp[Pj,aA,aT,h1,Ck];exact jF true _
 | false=>
  simp[Pj,aA,aT,h1,Ck];refine aQ.pure hc (aK (aS r) (aK (.aP _ _ _ aU (aK (.bJ _ _ (aW _)) aU)) aU)) (dN _) ?_;simp;exact jF _ _
theorem ZmC(d:aD)(r:List Int):ME d r=!Ck d r:=by
 unfold ME Ck;rw[Bool.not_or,List.not_any_eq_all_not];congr 1
 ·by_cases h:(r.length:Int)=d.signs<;>simp[h]
 ·congr 1;funext t
  unfold Gj;by_cases h1:t < 0<;>by_cases h2:(d.next.length:Int)≤t<;>simp[h1,h2]<;>omega
theorem ZcI{P:Program}{f1 f2 fc:FuncId}(d:aD)(ok:rP d)
  (hc:aN P fc [aX d.next,.aP f2 [] [.bJ (aT d) 0,.bJ (.aP f1 [] [.bJ (aj d.next.length) 0]) 0]] (aH (d.next.any (Ck d)))) :
  AW P (Dk f1 f2 fc) (gG [2] (iQ (aH (lg d)))) (bP [aT d]) S0:=by
 have k1:=ok.next
 have k2:=ok.fin;have k3:=ok.signs;unfold Len at k1 k2;by_cases h1:d.signs < 1
 ·have hr:lg d=false:=by simp[lg];omega
  simp[Dk,aT,aX,iY,h1,hr];exact jF false _
 by_cases h2:400 < d.signs
 ·have hr:lg d=false:=by simp[lg];omega
  simp[Dk,aT,aX,iY,h1,h2,hr];exact jF false _
 by_cases h3:(d.next.length:Int)=0
 ·have hr:lg d=false:=by simp[lg];omega
  have hc:((d.next.length:Int) == 0)=true:=by simp[h3]
  simp[Dk,aT,aX,iY,h1,h2,hc,hr];exact jF false _
 have hc3:((d.next.length:Int) == 0)=false:=by simpa using h3
 by_cases h4:(3000:Int) < d.next.length
 ·have hr:lg d=false:=by simp[lg];omega
  simp[Dk,aT,aX,iY,h1,h2,hc3,h4,hr];exact jF false _
 by_cases h5:d.fin.length=d.next.length
 ·have GI:((d.fin.length:Int) != d.next.length)=false:=by simp[h5]
  have hr:lg d=!d.next.any (Ck d):=by
   rw[List.not_any_eq_all_not];have:d.next.all (ME d)=d.next.all (fun r=>!Ck d r):=by congr 1;funext r;exact ZmC d r
   rw[lg,this];have a1:decide (1≤d.signs)=true:=by simp;omega
   have a2:decide (d.signs≤400)=true:=by simp;omega
   have a3:decide (1≤d.next.length)=true:=by simp;omega
   have a4:decide (d.next.length≤3000)=true:=by simp;omega
   simp[a1,a2,a3,a4,h5]
  simp[Dk,aT,aX,iY,h1,h2,hc3,h4,GI];refine aQ.looks hc (fC.cons (.closed _ (jo _)) (fC.cons (.OU (fC.cons (.box _ _ 3 (aT d) _ ?_ (.closed _ (iV d))) (fC.cons (.box _ _ 1 (.aP f1 [] [.ptr 5 0 0]) _ ?_ (.OU (fC.cons (.box _ _ 1 (aj d.next.length) _ ?_ (.closed _ (aW _))) fC.nil))) fC.nil))) fC.nil)) (L9 _) ?_
  ·simp[aG,aT,aX,iY,aj]
  ·simp[aG]
  ·simp[aG,aj]
  ·simp[hr]
   exact jF _ _
 ·have hr:lg d=false:=by simp[lg];omega
  have GI:((d.fin.length:Int) != d.next.length)=true:=by simp;omega
  simp[Dk,aT,aX,iY,h1,h2,hc3,h4,GI,hr];exact jF false _
def Z90:AC:= (sq [ro 1 (.box 3 (.t 0)),ro 2 (.mv (.c (.v (.bool false))))] (sq [rF 6 1 1,rL 7 6,ro 8 (.len (.t 7)),rm 3 8] (.seq (sq [rF 9 0 1,rL 10 9,ro 11 (.bin .lss (.t 10) (ci 1)),rm 12 11,rg 13 12 false (.cZ 0 (.t 1)),rg 14 12 false (.load none (.t 13)),rg 15 12 false (.bin .gtr (.t 14) (ci 400)),ro 16 (.pick (.t 12) (.c (.v (.bool true))) (.t 15)),rm 17 16,rg 18 17 false (.mv (.t 3)),rg 19 17 false (.bin .lss (.t 18) (ci 1)),ro 20 (.pick (.t 17) (.c (.v (.bool true))) (.t 19)),rm 21 20,rg 22 21 false (.mv (.t 3)),rg 23 21 false (.bin .gtr (.t 22) (ci 3000)),ro 24 (.pick (.t 21) (.c (.v (.bool true))) (.t 23)),rm 25 24,rg 26 25 false (.cZ 2 (.t 1)),rg 27 25 false (.load none (.t 26)),rg 28 25 false (.len (.t 27)),rg 29 25 false (.mv (.t 3)),rg 30 25 false (.bin .neq (.t 28) (.t 29)),ro 31 (.pick (.t 25) (.c (.v (.bool true))) (.t 30))] (.cond (.t 31) (sq [ro 2 (.mv (.c (.v (.bool false))))] .ret) .skip)) (.seq (sq [ro 4 (.mv (ci 0))] (.block 0 (.loop (.seq (sq [rm 32 4,rm 33 3,ro 34 (.bin .lss (.t 32) (.t 33))] (.cond (.t 34) .skip (.exit 0))) (.seq (.block 1 (.seq (.seq (.reg (some []) [rF 37 1 1,rL 38 37,rm 39 4,ro 40 (.aI 1 (.t 38) (.t 39)),rL 41 40,ro 42 (.len (.t 41)),rF 43 0 1,rL 44 43,ro 45 (.bin .neq (.t 42) (.t 44))]) (.cond (.t 45) (sq [ro 2 (.mv (.c (.v (.bool false))))] .ret) .skip)) (sq [ro 5 (.mv (ci 0))] (.block 2 (.loop (.seq (sq [rm 46 5,rF 47 0 1,rL 48 47,ro 49 (.bin .lss (.t 46) (.t 48))] (.cond (.t 49) .skip (.exit 2))) (.seq (.block 3 (sq [rF 52 1 1,rL 53 52,rm 54 4,ro 55 (.aI 1 (.t 53) (.t 54)),rL 56 55,rm 57 5,ro 58 (.aI 1 (.t 56) (.t 57)),rL 59 58,ro 60 (.bin .lss (.t 59) (ci 0)),rm 61 60,rg 62 61 false (.cZ 1 (.t 1)),rg 63 61 false (.load none (.t 62)),rg 64 61 false (.mv (.t 4)),rg 65 61 false (.aI 1 (.t 63) (.t 64)),rg 66 61 false (.load none (.t 65)),rg 67 61 false (.mv (.t 5)),rg 68 61 false (.aI 1 (.t 66) (.t 67)),rg 69 61 false (.load none (.t 68)),rg 70 61 false (.mv (.t 3)),rg 71 61 false (.bin .geq (.t 69) (.t 70)),ro 72 (.pick (.t 61) (.c (.v (.bool true))) (.t 71))] (.cond (.t 72) (sq [ro 2 (.mv (.c (.v (.bool false))))] .ret) .skip))) (.reg none [rm 50 5,ro 51 (.bin .add (.t 50) (ci 1)),rm 5 51])))))))) (.reg none [rm 35 4,ro 36 (.bin .add (.t 35) (ci 1)),rm 4 36])))))) (sq [ro 2 (.mv (.c (.v (.bool true))))] .ret)))))
end Go.Rf
namespace Go.Rf
theorem WS{n x:Int}:∀{l:List Int},x∈Aa l n↔x=n∨x∈l
 | []=>by simp[Aa]
 | y::l=>by
  simp only[Aa];split
  ·rw[List.mem_cons,WS,List.mem_cons]
   constructor
   ·rintro(h | h | h)<;>simp[h]
   ·rintro(h | h | h)<;>simp[h]
  ·split
   ·rename_i h;subst h
    constructor
    ·intro h;exact .inr h
    ·rintro(h | h)
     ·rw[h];exact List.mem_cons_self ..
     ·exact h
   ·rw[List.mem_cons]
theorem Zcu{n:Int}:∀{l:List Int},l.Pairwise (· < ·)→(Aa l n).Pairwise (· < ·)
 | [],_=>by simp[Aa]
 | x::l,h=>by
  obtain⟨h1,h2⟩:=List.pairwise_cons.mp h;simp only[Aa];split
  ·rename_i hx
   refine List.pairwise_cons.mpr ⟨fun y hy=>?_,Zcu h2⟩;rcases WS.mp hy with h3 | h3
   ·omega
   ·exact h1 y h3
  ·split
   ·exact h
   ·refine List.pairwise_cons.mpr ⟨fun y hy=>?_,h⟩
    rcases List.mem_cons.mp hy with h3 | h3
    ·omega
    ·have:=h1 y h3;omega
end Go.Rf
