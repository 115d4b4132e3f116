import Derived.Test.YtdmcjhnbmgmgoaaGreatDoorRfStl
import Derived.Recover
import Derived.Lib.SlicesCompact
import Derived.Lib.RowBridge
set_option linter.unusedVariables false
set_option linter.unusedSimpArgs false
set_option linter.unusedSectionVars false
namespace Go.Rf
open Go.RowKit
structure EvB(b:Nat)(E:Env)(S:St)(w:World)(E':Env)(S':St)(w':World):Prop where
 os:w'.os=w.os
 tape:w'.tape=w.tape
 output:w'.output=w.output
 size:w.heap.size≤w'.heap.size
 keep:∀k,k < w.heap.size→(∀id l B,S.g id=some B→E.ρ id=some l→l.b≠k)→w'.heap[k]? = w.heap[k]?
 grow:∀id l B,S'.g id=some B→E'.ρ id=some l→w.heap.size≤l.b∨∃jv l0 k0,S.g jv=some k0∧E.ρ jv=some l0∧l0.b=l.b
 leB:∀id l,id < b→E.ρ id=some l→E'.ρ id=some l
 EJ:∀k cs,E.H k=some cs→E'.H k=some cs
 hsub:∀k cs,E'.H k=some cs→E.H k=some cs∨w.heap.size≤k∨∃jv l0 k0,S.g jv=some k0∧E.ρ jv=some l0∧l0.b=k
 jW:b≤S'.n
 low:∀id,id < b→E.ρ id=none→E'.ρ id=none
theorem Ev.toB{b:Nat}{E E':Env}{S S':St}{w w':World}(h:Ev E S w E' S' w')(hb:b≤S.n):EvB b E S w E' S' w':=
 ⟨h.bU.os,h.bU.tape,h.bU.output,h.bU.size,h.bU.keep,h.bU.grow,fun id l _ e=>h.bU.le.1 id l e,h.bU.le.2,h.bU.hsub,Nat.le_trans hb h.jW,fun id hi e=>h.low id (Nat.lt_of_lt_of_le hi hb) e⟩
theorem EvB.ev{E E':Env}{S S':St}{w w':World}(h:EvB S.n E S w E' S' w')(hS:bf E S w):Ev E S w E' S' w':=by
 refine⟨⟨h.os,h.tape,h.output,h.size,h.keep,h.grow,⟨fun id l e=>h.leB id l ?_ e,h.EJ⟩,h.hsub⟩,h.jW,h.low⟩;rcases Nat.lt_or_ge id S.n with h1 | h1
 ·exact h1
 ·rw[hS.fresh id h1] at e;cases e
theorem EvB.refl{b:Nat}(E:Env)(S:St)(w:World)(hb:b≤S.n):EvB b E S w E S w:=(Ev.refl E S w).toB hb
theorem EvB.trans{b:Nat}{E1 E2 E3:Env}{S1 S2 S3:St}{w1 w2 w3:World}(h:EvB b E1 S1 w1 E2 S2 w2)(k:EvB b E2 S2 w2 E3 S3 w3):EvB b E1 S1 w1 E3 S3 w3:=by
 refine⟨k.os.trans h.os,k.tape.trans h.tape,k.output.trans h.output,Nat.le_trans h.size k.size,?_,?_,fun id l hi e=>k.leB id l hi (h.leB id l hi e),fun a cs e=>k.EJ a cs (h.EJ a cs e),?_,k.jW,fun id hi e=>k.low id hi (h.low id hi e)⟩
 ·intro b hb hn
  rw[k.keep b (Nat.lt_of_lt_of_le hb h.size) ?_,h.keep b hb hn];intro id l kk hk hl e;rcases h.grow id l kk hk hl with hge | ⟨jv,l0,k0,a1,a2,a3⟩
  ·omega
  ·exact hn jv l0 k0 a1 a2 (a3.trans e)
 ·intro id l kk hk hl
  rcases k.grow id l kk hk hl with hge | ⟨jv,l0,k0,a1,a2,a3⟩
  ·left;exact Nat.le_trans h.size hge
  ·rcases h.grow jv l0 k0 a1 a2 with hge | ⟨id1,l1,k1,b1,b2,b3⟩
   ·left;omega
   ·right;exact⟨id1,l1,k1,b1,b2,b3.trans a3⟩
 ·intro b cs e
  rcases k.hsub b cs e with e1 | hge | ⟨jv,l0,k0,a1,a2,a3⟩
  ·exact h.hsub b cs e1
  ·right;left;exact Nat.le_trans h.size hge
  ·rcases h.grow jv l0 k0 a1 a2 with hge | ⟨id1,l1,k1,b1,b2,b3⟩
   ·right;left;omega
   ·right;right;exact⟨id1,l1,k1,b1,b2,b3.trans a3⟩
def aX(b:Nat)(a:AF)(S:St)(a':AF)(S':St):Prop:=
 ∀(E:Env) (w:World) (act:Act) (n:Nat),b≤S.n→bf E S w→eu E n a act→∃E',bf E' S' w∧eu E' n a' act∧EvB b E S w E' S' w
theorem aX.refl{b:Nat}(a:AF)(S:St):aX b a S a S:=fun E w _ _ hb hS hF=>⟨E,hS,hF,.refl _ _ _ hb⟩
def Zss(I:Nat→AF→St→Prop)(b m:Nat):AF→St→Prop:=fun a S=>∃m' a' S',m' < m∧aX b a S a' S'∧I m' a' S'
def bq(P:Program)(b:Nat):AC→(Exit→AF→St→Prop)→AF→St→Prop
 | .seq x y,Q,a,S=>bq P b x (nR (bq P b y Q) Q) a S
 | .cond c x y,Q,a,S=>match c.ev a with
  | .v (.bool t)=>if t=true then bq P b x Q a S else bq P b y Q a S
  | _=>False
 | .block id x,Q,a,S=>bq P b x (uo id Q) a S
 | .loop x,Q,a,S=>∃I:Nat→AF→St→Prop,(∃m a0 Pp,aX b a S a0 Pp∧I m a0 Pp)∧∀m a S,I m a S→bq P b x (nR (Zss I b m) Q) a S
 | .exit id,Q,a,S=>Q (.exit id) a S
 | .ret,Q,a,S=>Q .ret a S
 | .scp x,Q,a,S=>bq P b x (yt Q) a S
 | .skip,Q,a,S=>Q .normal a S
 | .reg d os,Q,a,S=>AW P (.reg d os) Q a S
 | .xk l,Q,a,S=>AW P (.xk l) Q a S
 | .lU os p,Q,a,S=>AW P (.lU os p) Q a S
 | .bad,_,_,_=>False
def F7:AC→Bool
 | .reg .. | .xk .. | .lU .. | .bad=>true
 | _=>false
theorem Zny{P:Program}{b:Nat}{ac:AC}(h:F7 ac=true){Q:Exit→AF→St→Prop}{a:AF}{S:St}(k:bq P b ac Q a S):AW P ac Q a S:=by
 cases ac<;>simp only[F7,Bool.false_eq_true] at h<;>simp only[bq] at k<;>first | exact k | exact k.elim
theorem Jb{P:Program}{b:Nat}:∀(ac:AC) {Q Q':Exit→AF→St→Prop} {a:AF} {S:St},(∀e a S,Q e a S→Q' e a S)→bq P b ac Q a S→bq P b ac Q' a S:=by
 intro ac;induction ac with
 | skip=>intro Q Q' a S hq h;exact hq _ _ _ h
 | reg d os=>intro Q Q' a S hq h;exact Cu _ hq h
 | xk l=>intro Q Q' a S hq h;exact Cu _ hq h
 | lU os p=>intro Q Q' a S hq h;exact Cu _ hq h
 | seq x y eD ihy=>
  intro Q Q' a S hq h;refine eD (Q:=nR (bq P b y Q) Q) (fun e a S h=>?_) h;cases e with
  | normal=>exact ihy hq h
  | _=>exact hq _ _ _ h
 | cond c x y eD ihy=>
  intro Q Q' a S hq h;simp only[bq] at h ⊢;split at h
  ·rename_i b hb
   split at h
   ·rename_i hbt;rw[if_pos hbt];exact eD hq h
   ·rename_i hbt;rw[if_neg hbt];exact ihy hq h
  ·exact h.elim
 | block id x eD=>
  intro Q Q' a S hq h;refine eD (Q:=uo id Q) (fun e a S h=>?_) h;cases e with
  | exit j=>
   simp only[uo] at h ⊢;split at h
   ·rename_i hj;rw[if_pos hj];exact hq _ _ _ h
   ·rename_i hj;rw[if_neg hj];exact hq _ _ _ h
  | _=>exact hq _ _ _ h
 | loop x eD=>
  intro Q Q' a S hq h;obtain⟨I,h1,h2⟩:=h;refine⟨I,h1,fun m a S hi=>eD (fun e a S h=>?_) (h2 m a S hi)⟩;cases e with
  | normal=>exact h
  | _=>exact hq _ _ _ h
 | exit id=>intro Q Q' a S hq h;exact hq _ _ _ h
 | ret=>intro Q Q' a S hq h;exact hq _ _ _ h
 | scp x eD=>
  intro Q Q' a S hq h;refine eD (Q:=yt Q) (fun e a S h=>?_) h;cases e with
  | goto l=>exact h
  | _=>exact hq _ _ _ h
 | bad=>intro Q Q' a S hq h;exact h
theorem AW.toB{P:Program}{b:Nat}:∀(ac:AC) {Q:Exit→AF→St→Prop} {a:AF} {S:St},AW P ac Q a S→bq P b ac Q a S:=by
 intro ac;induction ac with
 | skip=>intro Q a S h;exact h
 | reg d os=>intro Q a S h;exact h
 | xk l=>intro Q a S h;exact h
 | lU os p=>intro Q a S h;exact h
 | seq x y eD ihy=>
  intro Q a S h
  have h1:AW P x (nR (bq P b y Q) Q) a S:=Cu _ (fun e a S k=>by
   cases e with
   | normal=>exact ihy k
   | _=>exact k) h
  exact eD h1
 | cond c x y eD ihy=>
  intro Q a S h;simp only[AW] at h;simp only[bq];split at h
  ·rename_i t ht
   split at h
   ·rename_i hbt;simp only[ht,hbt,if_true];exact eD h
   ·rename_i hbt;simp only[ht,if_neg hbt];exact ihy h
  ·exact h.elim
 | block id x eD=>intro Q a S h;exact eD h
 | loop x eD=>
  intro Q a S h;obtain⟨I,⟨m,h1⟩,h2⟩:=h;refine⟨I,⟨m,a,S,.refl _ _,h1⟩,fun m a S hi=>eD (Cu _ (fun e a S k=>?_) (h2 m a S hi))⟩;cases e with
  | normal=>obtain⟨m',k1,k2⟩:=k;exact⟨m',a,S,k1,.refl _ _,k2⟩
  | _=>exact k
 | exit id=>intro Q a S h;exact h
 | ret=>intro Q a S h;exact h
 | scp x eD=>intro Q a S h;exact eD h
 | bad=>intro Q a S h;exact h
def MU(b:Nat)(E0:Env)(S0:St)(w0:World)(n:Nat)(Q:Exit→AF→St→Prop):Exit→Act→World→Prop:=
 fun e act w=>∃a S E,Q e a S∧bf E S w∧eu E n a act∧EvB b E0 S0 w0 E S w
def ZvG(P:Program)(b n:Nat)(c:Code)(Q:Exit→AF→St→Prop)(a:AF)(S:St):Prop:=
 ∀E w act,jO P E.H→b≤S.n→bf E S w→eu E n a act→c.wp P (MU b E S w n Q) act w
theorem MU.trans{b:Nat}{E0 E1:Env}{S0 S1:St}{w0 w1:World}{n:Nat}{Q:Exit→AF→St→Prop}{e:Exit}{act:Act}{w:World}(h:EvB b E0 S0 w0 E1 S1 w1)(k:MU b E1 S1 w1 n Q e act w):MU b E0 S0 w0 n Q e act w:=
 let ⟨a,S,E,h1,h2,h3,h4⟩:=k;⟨a,S,E,h1,h2,h3,h.trans h4⟩
theorem V6{P:Program}{n b:Nat}{R:Program→Nat→Bool→Array Oper→AC}(hR:Gf P n R)(hL:∀d ops,F7 (R P n d ops)=true):∀(c:Code) (ac:AC),dQ R P n c=some ac→∀(Q:Exit→AF→St→Prop) (a:AF) (S:St),bq P b ac Q a S→ZvG P b n c Q a S:=by
 intro c;induction c with
 | skip=>
  intro ac hc Q a S h E w act hG hb hS hF;simp only[dQ,Option.some.injEq] at hc;subst hc;exact wp_skip ⟨a,S,E,h,hS,hF,.refl _ _ _ hb⟩
 | label l=>
  intro ac hc Q a S h E w act hG hb hS hF;simp only[dQ,Option.some.injEq] at hc;subst hc;exact wp_label ⟨a,S,E,h,hS,hF,.refl _ _ _ hb⟩
 | region id ops dr=>
  intro ac hc Q a S h E w act hG hb hS hF;rw[IE hc] at h;refine wp_mono (hR id ops dr Q a S (Zny (hL _ _) h) E w act hG hS hF) fun e act' w' hp=>?_
  obtain⟨a',S',E',q,s,r,ev⟩:=hp;exact⟨a',S',E',q,s,r,ev.toB hb⟩
 | seq c1 c2 eD ihy=>
  intro ac hc Q a S h E w act hG hb hS hF;simp only[dQ,Option.map_eq_some_iff,Option.bind_eq_some_iff] at hc;obtain⟨X,hX,Y,hY,rfl⟩:=hc;simp only[bq] at h;refine wp_seq (wp_mono (eD X hX _ a S h E w act hG hb hS hF) fun e act' w' hp=>?_);obtain⟨a',S',E',q,s,r,ev⟩:=hp;cases e with
  | normal=>exact wp_mono (ihy Y hY Q a' S' q E' w' act' (hG.sub ev.EJ) ev.jW s r) fun e jF w2 hp2=>hp2.trans ev
  | _=>exact⟨a',S',E',q,s,r,ev⟩
 | cond c0 c1 c2 eD ihy=>
  intro ac hc Q a S h E w act hG hb hS hF;simp only[dQ,Option.map_eq_some_iff,Option.bind_eq_some_iff] at hc;obtain⟨C',hC,X,hX,Y,hY,rfl⟩:=hc;simp only[bq] at h;split at h
  ·rename_i t ht
   have r:=bQ hF hC;rw[ht] at r;refine wp_cond (t:=t) r.jC ?_;cases t with
   | true=>exact eD X hX Q a S (by simpa using h) E w act hG hb hS hF
   | false=>exact ihy Y hY Q a S (by simpa using h) E w act hG hb hS hF
  ·exact h.elim
 | block id' c1 eD=>
  intro ac hc Q a S h E w act hG hb hS hF;simp only[dQ,Option.map_eq_some_iff] at hc;obtain⟨X,hX,rfl⟩:=hc;simp only[bq] at h;refine wp_block (wp_mono (eD X hX _ a S h E w act hG hb hS hF) fun e act' w' hp=>?_);obtain⟨a',S',E',q,s,r,ev⟩:=hp;cases e with
  | exit j=>
   simp only[uo] at q;simp only[Exit.inBlock];split at q
   ·rename_i hj;rw[if_pos hj];exact⟨a',S',E',q,s,r,ev⟩
   ·rename_i hj;rw[if_neg hj];exact⟨a',S',E',q,s,r,ev⟩
  | _=>exact⟨a',S',E',q,s,r,ev⟩
 | loop c1 eD=>
  intro ac hc Q a S h E w act hG hb hS hF;simp only[dQ,Option.map_eq_some_iff] at hc;obtain⟨X,hX,rfl⟩:=hc;simp only[bq] at h;obtain⟨I,⟨m0,a0,Pp,habs,hI0⟩,NZ⟩:=h;obtain⟨TV,hS0,Ke,NG⟩:=habs E w act n hb hS hF;intro bk k cs
  have key:∀m,∀a S E' w' act',jO P E'.H→I m a S→b≤S.n→bf E' S w'→eu E' n a act'→
    ∃e a' w2,MU b E' S w' n Q e a' w2∧Arrives P (lone (bk.at act' (.code c1::.inLoop c1::k)) cs w') bk k cs e a' w2:=by
   intro m;induction m using Nat.strongRecOn with
   | _ m ih=>
    intro a S E' w' act' hG' hI hb' hS' hF';obtain⟨e,qP,w1,hp,harr⟩:=eD X hX _ a S (NZ m a S hI) E' w' act' hG' hb' hS' hF' bk (.inLoop c1::k) cs;obtain⟨a1,S1,E1,q,s,r,ev⟩:=hp;cases e with
    | normal=>
     obtain⟨m',a2,S2,hlt,aau,hI'⟩:=q;obtain⟨E2,s2,r2,xU⟩:=aau E1 w1 qP n ev.jW s r;obtain⟨e2,jF,w2,hp2,NQ⟩:=ih m' hlt a2 S2 E2 w1 qP (hG'.sub (ev.trans xU).EJ) hI' xU.jW s2 r2;exact⟨e2,jF,w2,hp2.trans (ev.trans xU),.of_steps (Steps.trans harr (.one step_inLoop)) NQ⟩
    | exit id=>exact⟨_,qP,w1,⟨a1,S1,E1,q,s,r,ev⟩,.pass (x:=.inLoop c1) rfl (fun _ _=>.inl (by simp)) harr⟩
    | goto l=>exact⟨_,qP,w1,⟨a1,S1,E1,q,s,r,ev⟩,.pass (x:=.inLoop c1) rfl (fun _ _=>.inl (by simp)) harr⟩
    | ret=>exact⟨_,qP,w1,⟨a1,S1,E1,q,s,r,ev⟩,.pass (x:=.inLoop c1) rfl (fun _ _=>.inl (by simp)) harr⟩
    | panic ch=>exact⟨_,qP,w1,⟨a1,S1,E1,q,s,r,ev⟩,.pass (x:=.inLoop c1) rfl (fun _ _=>.inl (by simp)) harr⟩
    | outgrown=>exact⟨_,qP,w1,⟨a1,S1,E1,q,s,r,ev⟩,.pass (x:=.inLoop c1) rfl (fun _ _=>.inl (by simp)) harr⟩
  obtain⟨e,a',w',hp,harr⟩:=key m0 a0 Pp TV w act (hG.sub NG.EJ) hI0 NG.jW hS0 Ke;exact⟨e,a',w',hp.trans NG,.of_steps (.one step_loop) harr⟩
 | exit id=>
  intro ac hc Q a S h E w act hG hb hS hF;simp only[dQ,Option.some.injEq] at hc;subst hc;exact wp_exit ⟨a,S,E,h,hS,hF,.refl _ _ _ hb⟩
 | ret=>
  intro ac hc Q a S h E w act hG hb hS hF;simp only[dQ,Option.some.injEq] at hc;subst hc;exact wp_ret ⟨a,S,E,h,hS,hF,.refl _ _ _ hb⟩
 | scope c1 eD=>
  intro ac hc Q a S h E w act hG hb hS hF;simp only[dQ,Option.map_eq_some_iff] at hc;obtain⟨X,hX,rfl⟩:=hc;simp only[bq] at h;refine wp_scope_straight (wp_mono (eD X hX _ a S h E w act hG hb hS hF) fun e act' w' hp=>?_);obtain⟨a',S',E',q,s,r,ev⟩:=hp;cases e with
  | goto l=>exact q
  | _=>exact⟨a',S',E',q,s,r,ev⟩
 | _=>
  intro ac hc Q a S h;simp only[dQ,Option.some.injEq] at hc;subst hc;simp only[bq] at h
theorem FJ{P:Program}{n:Nat}(d:Bool)(ops:Array Oper):F7 (wB P n d ops)=true:=by
 unfold wB Da;split<;>rfl
theorem Zm9{P:Program}{n:Nat}(d:Bool)(ops:Array Oper):F7 (J3 P n d ops)=true:=by
 unfold J3;split
 ·split
  ·split
   ·rfl
   ·exact FJ _ _
  ·exact FJ _ _
 ·exact FJ _ _
def Ni(b:Nat)(ts:List Nat)(K:AV→St→Prop):Exit→AF→St→Prop:=fun e a S=>∃a' S',aX b a S a' S'∧dw ts K e a' S'
def JG(b:Nat)(rs:List RV)(K:AV→St→Prop):Exit→AF→St→Prop:=fun e a S=>∃a' S',aX b a S a' S'∧bL rs K e a' S'
theorem Is.wM{P:Program}(hm:P.follows .mixedOrders=true){f:FuncId}{ac:AC}{ts:List Nat}{n:Nat}(h:Is P f ac ts n){args:List AV}(hn:args.length=n){S:St}{K:AV→St→Prop}
  (hb:bq P S.n ac (Ni S.n ts K) (bF args) S):aN P f args S K:=by
 obtain⟨fn,c,hf,hnm,hbd,hc,hr,h6⟩:=h;refine⟨vR hf hnm hbd,fun E w vals hG hS hv=>?_⟩;refine calls_of_wp hf hbd (wp_mono (V6 (Cx hm) FJ c ac hc _ _ _ hb E w _ hG (Nat.le_refl _) hS (Bo hv (by omega))) fun e act w' hp=>?_);obtain⟨a1,S1,E1,⟨a,S',habs,q⟩,s1,r1,wV⟩:=hp;obtain⟨E',s,r,xU⟩:=habs E1 w' act _ wV.jW s1 r1;have ev:=(wV.trans xU).ev hS;have hrr:=LP (P:=P) hr act.tmps w';cases e<;>simp only[dw] at q
 ·exact⟨r.defers,_,hrr,_,_,S',E',rfl,q,s,I5 r ts,ev⟩
 ·exact⟨r.defers,_,hrr,_,_,S',E',rfl,q,s,I5 r ts,ev⟩
theorem Is.lV{P:Program}(hm:P.follows .mixedOrders=true){f:FuncId}{ac:AC}{ts:List Nat}{n:Nat}(h:Is P f ac ts n){args:List AV}(hn:args.length=n){r:AV}
  (hb:bq P 0 ac (dw ts (dM r)) (bF args) S0):aJ P f args r:=
 .xC (h.wM hm hn (Jb _ (fun e a S k=>⟨a,S,.refl _ _,k⟩) hb))
theorem VZ{P:Program}{f:FuncId}{ac:AC}{rs:List RV}{n:Nat}{R:Program→Nat→Bool→Array Oper→AC}(hR:∀k,Gf P k R)(hL:∀k d ops,F7 (R P k d ops)=true)
  (h:∃fn c,P.funcs[f]? = some fn∧(fn.name == "runtime.NumGoroutine")=false∧fn.body=some c∧dQ R P fn.ntmps c=some ac∧fn.results.toList.mapM (vI P)=some rs∧n≤fn.ntmps) {args:List AV} (hn:args.length=n) {S:St} {K:AV→St→Prop}
  (hb:bq P S.n ac (JG S.n rs K) (bF args) S):aN P f args S K:=by
 obtain⟨fn,c,hf,hnm,hbd,hc,hr,h6⟩:=h;refine⟨vR hf hnm hbd,fun E w vals hG hS hv=>?_⟩;refine calls_of_wp hf hbd (wp_mono (V6 (hR _) (hL _) c ac hc _ _ _ hb E w _ hG (Nat.le_refl _) hS (Bo hv (by omega))) fun e act w' hp=>?_);obtain⟨a1,S1,E1,⟨a,S',habs,q⟩,s1,r1,wV⟩:=hp;obtain⟨E',s,r,xU⟩:=habs E1 w' act _ wV.jW s1 r1;have ev:=(wV.trans xU).ev hS;cases e<;>simp only[bL] at q
 ·obtain⟨xs,q1,q2⟩:=q
  obtain⟨val,k1,k2⟩:=Bg (P:=P) (fn:=fn) s r hr q1;exact⟨r.defers,_,k1,_,_,S',E',rfl,q2,s,k2,ev⟩
 ·obtain⟨xs,q1,q2⟩:=q
  obtain⟨val,k1,k2⟩:=Bg (P:=P) (fn:=fn) s r hr q1;exact⟨r.defers,_,k1,_,_,S',E',rfl,q2,s,k2,ev⟩
theorem kS.wM{P:Program}(hm:P.follows .mixedOrders=true){f:FuncId}{ac:AC}{rs:List RV}{n:Nat}(h:kS P f ac rs n){args:List AV}(hn:args.length=n){S:St}{K:AV→St→Prop}
  (hb:bq P S.n ac (JG S.n rs K) (bF args) S):aN P f args S K:=VZ (fun _=>Cx hm) (fun _=>FJ) h hn hb
theorem xA.wM{P:Program}(hm:P.follows .mixedOrders=true){f:FuncId}{ac:AC}{rs:List RV}{n:Nat}(h:xA P f ac rs n){args:List AV}(hn:args.length=n){S:St}{K:AV→St→Prop}
  (hb:bq P S.n ac (JG S.n rs K) (bF args) S):aN P f args S K:=VZ (fun _=>Xp hm) (fun _=>Zm9) h hn hb
theorem kS.lV{P:Program}(hm:P.follows .mixedOrders=true){f:FuncId}{ac:AC}{rs:List RV}{n:Nat}(h:kS P f ac rs n){args:List AV}(hn:args.length=n){r:AV}
  (hb:bq P 0 ac (bL rs (dM r)) (bF args) S0):aJ P f args r:=
 .xC (h.wM hm hn (Jb _ (fun e a S k=>⟨a,S,.refl _ _,k⟩) hb))
theorem xA.lV{P:Program}(hm:P.follows .mixedOrders=true){f:FuncId}{ac:AC}{rs:List RV}{n:Nat}(h:xA P f ac rs n){args:List AV}(hn:args.length=n){r:AV}
  (hb:bq P 0 ac (bL rs (dM r)) (bF args) S0):aJ P f args r:=
 .xC (h.wM hm hn (Jb _ (fun e a S k=>⟨a,S,.refl _ _,k⟩) hb))
inductive Wk:AV→AV→Prop
 | refl (x:AV):Wk x x
 | sl (t:Bool) (xs ys:List AV) (hl:ys.length=xs.length) (h:∀i (h1:i < xs.length) (h2:i < ys.length),Wk (xs[i]) (ys[i])):Wk (.sl t xs) (.sl false ys)
 | slt (t:Bool) (xs ys:List AV) (hl:ys.length=xs.length) (h:∀i (h1:i < xs.length) (h2:i < ys.length),Wk (xs[i]) (ys[i])):Wk (.sl t xs) (.sl t ys)
 | agg (cs ds:List AV) (hl:ds.length=cs.length) (h:∀i (h1:i < cs.length) (h2:i < ds.length),Wk (cs[i]) (ds[i])):Wk (.agg cs) (.agg ds)
theorem Wk.cells{x y:AV}(h:Wk x y):∀i (h1:i < x.cells.length) (h2:i < y.cells.length),Wk (x.cells[i]) (y.cells[i]):=by
 cases h with
 | refl x=>intro i h1 h2;exact .refl _
 | sl t xs ys hl h=>intro i h1 h2;simp only[AV.cells,List.length_cons,List.length_nil,Nat.zero_add,Nat.lt_one_iff] at h1;subst h1;exact .sl t xs ys hl h
 | slt t xs ys hl h=>intro i h1 h2;simp only[AV.cells,List.length_cons,List.length_nil,Nat.zero_add,Nat.lt_one_iff] at h1;subst h1;exact .slt t xs ys hl h
 | agg cs ds hl h=>exact h
def kY(a b:List AV):Prop:=b.length=a.length∧∀i (h1:i < a.length) (h2:i < b.length),Wk (a[i]) (b[i])
theorem kY.nil:kY [] []:=⟨rfl,fun i h=>by simp at h⟩
theorem kY.cons{x y:AV}{a b:List AV}(h:Wk x y)(k:kY a b):kY (x::a) (y::b):=by
 refine⟨by simp[k.1],fun i h1 h2=>?_⟩;cases i with
 | zero=>exact h
 | succ i=>exact k.2 i (by simpa using h1) (by simpa using h2)
theorem kY.refl(a:List AV):kY a a:=⟨rfl,fun _ _ _=>.refl _⟩
theorem Wk.sl'{t:Bool}{xs ys:List AV}(h:kY xs ys):Wk (.sl t xs) (.sl false ys):=.sl t xs ys h.1 h.2
theorem Wk.agg'{xs ys:List AV}(h:kY xs ys):Wk (.agg xs) (.agg ys):=.agg xs ys h.1 h.2
def Im(x y:AV):Prop:=∀E v,aK E x v→aK E y v
structure WkF(x y:AV):Prop where
 rep:Im x y
 len:y.cells.length=x.cells.length
 cell:∀i (h1:i < x.cells.length) (h2:i < y.cells.length),Im (x.cells[i]) (y.cells[i])
 atom:x.atom=true→y.atom=true
 P6d:(∀z∈x.cells,z.atom=true)→∀z∈y.cells,z.atom=true
theorem Xu:∀{xs ys:List AV},ys.length=xs.length→(∀i (h1:i < xs.length) (h2:i < ys.length),WkF (xs[i]) (ys[i]))→
  (flat ys).length=(flat xs).length∧(∀k (h1:k < (flat xs).length) (h2:k < (flat ys).length),Im ((flat xs)[k]) ((flat ys)[k]))∧((∀z∈flat xs,z.atom=true)→∀z∈flat ys,z.atom=true)
 | [],[],_,_=>⟨rfl,fun k h1=>by simp[flat] at h1,fun _ z hz=>by simp[flat] at hz⟩
 | [],_::_,h,_=>by simp at h
 | _::_,[],h,_=>by simp at h
 | x::xs,y::ys,hl,h=>by
  obtain⟨i1,i2,i3⟩:=Xu (xs:=xs) (ys:=ys) (by simpa using hl) (fun i h1 h2=>h (i+1) (by simpa using h1) (by simpa using h2));have h0:=h 0 (by simp) (by simp);simp only[List.getElem_cons_zero] at h0;have e1:flat (x::xs)=x.cells++flat xs:=by simp[flat]
  have e2:flat (y::ys)=y.cells++flat ys:=by simp[flat]
  refine⟨by rw[e1,e2];simp[h0.len,i1],fun k h1 h2=>?_,fun hz z Tx=>?_⟩
  ·simp only[e1,e2] at h1 h2 ⊢
   by_cases hk:k < x.cells.length
   ·rw[List.getElem_append_left hk,List.getElem_append_left (by rw[h0.len];exact hk)]
    exact h0.cell k hk (by rw[h0.len];exact hk)
   ·rw[List.getElem_append_right (by omega),List.getElem_append_right (by rw[h0.len];omega)]
    simp only[h0.len];exact i2 _ _ _
  ·rw[e2] at Tx
   rw[e1] at hz;rcases List.mem_append.mp Tx with hm | hm
   ·exact h0.P6d (fun z hz'=>hz z (by simp[hz'])) z hm
   ·exact i3 (fun z hz'=>hz z (by simp[hz'])) z hm
theorem Wk.f{x y:AV}(h:Wk x y):WkF x y:=by
 induction h with
 | refl x=>exact⟨fun _ _ h=>h,rfl,fun _ _ _ _ _ h=>h,id,id⟩
 | sl t xs ys hl h ih=>
  obtain⟨f1,f2,f3⟩:=Xu hl ih
  have hrep:Im (.sl t xs) (.sl false ys):=by
   intro E v hr;cases hr with
   | sl0 _ A cap ht=>
    have:ys=[]:=List.eq_nil_of_length_eq_zero (by simpa using hl);subst this;exact .sl0 false A cap (by simp)
   | sl _ _ b o cap cs es f hne hb hes hcap ht hat hc hr=>
    have hcount:xs.length=ys.length:=hl.symm;rw[hcount];refine .sl false ys b o cap cs es f (by omega) hb (fun z hz=>?_) (by omega) (by simp) (f3 hat) (fun k hk=>hc k (by omega)) (fun k hk=>f2 k (by omega) hk E _ (hr k (by omega)));obtain⟨i,hi,rfl⟩:=List.mem_iff_getElem.mp hz;rw[(ih i (by omega) hi).len];exact hes _ (List.getElem_mem _)
  refine⟨hrep,rfl,fun i h1 h2=>?_,fun _=>rfl,fun _ z hz=>?_⟩
  ·simp only[AV.cells,List.length_cons,List.length_nil,Nat.zero_add,Nat.lt_one_iff] at h1
   subst h1;exact hrep
  ·simp[AV.cells] at hz;subst hz;rfl
 | slt t xs ys hl h ih=>
  obtain⟨f1,f2,f3⟩:=Xu hl ih
  have hrep:Im (.sl t xs) (.sl t ys):=by
   intro E v hr;cases hr with
   | sl0 _ A cap ht=>
    have:ys=[]:=List.eq_nil_of_length_eq_zero (by simpa using hl);subst this;exact .sl0 t A cap ht
   | sl _ _ b o cap cs es f hne hb hes hcap ht hat hc hr=>
    have hcount:xs.length=ys.length:=hl.symm;rw[hcount];refine .sl t ys b o cap cs es f (by omega) hb (fun z hz=>?_) (by omega) (fun e=>by rw[ht e];omega) (f3 hat) (fun k hk=>hc k (by omega)) (fun k hk=>f2 k (by omega) hk E _ (hr k (by omega)));obtain⟨i,hi,rfl⟩:=List.mem_iff_getElem.mp hz;rw[(ih i (by omega) hi).len];exact hes _ (List.getElem_mem _)
  refine⟨hrep,rfl,fun i h1 h2=>?_,fun _=>rfl,fun _ z hz=>?_⟩
  ·simp only[AV.cells,List.length_cons,List.length_nil,Nat.zero_add,Nat.lt_one_iff] at h1
   subst h1;exact hrep
  ·simp[AV.cells] at hz;subst hz;rfl
 | agg cs ds hl h ih=>
  refine⟨fun E v hr=>?_,hl,fun i h1 h2=>(ih i h1 h2).rep,fun e=>by simp[AV.atom] at e,fun hz z Tx=>?_⟩
  ·cases hr with
   | agg _ vs hn hat hr=>
    refine .agg ds vs (by omega) (fun z hz=>?_) (fun j hj=>(ih j (by omega) hj).rep E _ (hr j (by omega)));obtain⟨i,hi,rfl⟩:=List.mem_iff_getElem.mp hz;exact(ih i (by omega) hi).atom (hat _ (List.getElem_mem _))
  ·obtain⟨i,hi,rfl⟩:=List.mem_iff_getElem.mp Tx
   exact(ih i (by simp only[AV.cells] at hi ⊢;omega) hi).atom (hz _ (List.getElem_mem _))
theorem aJ.wk{P:Program}{f:FuncId}{args args':List AV}{r:AV}(h:aJ P f args' r)(hw:kY args args'):aJ P f args r:=
 h.weak hw.1 (fun j h1 h2 E v hr=>(hw.2 j h1 h2).f.rep E v hr)
inductive bW (gF:Nat→Option aB) (R:Nat→Nat→Prop):AV→AV→Prop
 | fz (x y:AV) (h:Fz gF x y):bW gF R x y
 | wk (x y:AV) (hc:aY x) (h:Wk x y):bW gF R x y
 | own (id j off len:Nat) (h:R j id):bW gF R (.own id off len) (.own j off len)
 | ptr (id j ix c:Nat) (h:R j id):bW gF R (.ptr id ix c) (.ptr j ix c)
 | mp (id j:Nat) (h:R j id):bW gF R (.mp id) (.mp j)
 | agg (cs ds:List AV) (hl:ds.length=cs.length) (h:∀i (h1:i < cs.length) (h2:i < ds.length),bW gF R (cs[i]) (ds[i])):bW gF R (.agg cs) (.agg ds)
 | aO (cs ds:List AV) (hl:ds.length=cs.length) (h:∀i (h1:i < cs.length) (h2:i < ds.length),bW gF R (cs[i]) (ds[i])):bW gF R (.aO cs) (.aO ds)
 | aP (f:FuncId) (vJ bs as' bs':List AV) (hl:as'.length=vJ.length) (hm:bs'.length=bs.length) (h:∀i (h1:i < vJ.length) (h2:i < as'.length),bW gF R (vJ[i]) (as'[i]))
   (k:∀i (h1:i < bs.length) (h2:i < bs'.length),bW gF R (bs[i]) (bs'[i])):bW gF R (.aP f vJ bs) (.aP f as' bs')
def gL(gF:Nat→Option aB)(R:Nat→Nat→Prop)(xs ys:List AV):Prop:=ys.length=xs.length∧∀i (h1:i < xs.length) (h2:i < ys.length),bW gF R (xs[i]) (ys[i])
section
variable{gF:Nat→Option aB}{R:Nat→Nat→Prop}
theorem bW.cells{x r:AV}(h:bW gF R x r):r.cells.length=x.cells.length∧(x.atom=true→r.atom=true)∧∀i (h1:i < x.cells.length) (h2:i < r.cells.length),bW gF R (x.cells[i]) (r.cells[i]):=by
 cases h with
 | fz _ _ h=>exact⟨h.cells.1,h.cells.2.1,fun i h1 h2=>.fz _ _ (h.cells.2.2 i h1 h2)⟩
 | wk _ _ hc h=>exact⟨h.f.len,h.f.atom,fun i h1 h2=>.wk _ _ (hc.cells _ (List.getElem_mem _)) (h.cells i h1 h2)⟩
 | own id j off len h=>exact⟨rfl,fun _=>rfl,fun i h1 h2=>by simp[AV.cells] at h1;subst h1;exact .own id j off len h⟩
 | ptr id j ix c h=>exact⟨rfl,fun _=>rfl,fun i h1 h2=>by simp[AV.cells] at h1;subst h1;exact .ptr id j ix c h⟩
 | mp id j h=>exact⟨rfl,fun _=>rfl,fun i h1 h2=>by simp[AV.cells] at h1;subst h1;exact .mp id j h⟩
 | agg cs ds hl h=>exact⟨hl,fun e=>by simp[AV.atom] at e,h⟩
 | aO cs ds hl h=>exact⟨rfl,fun e=>by simp[AV.atom] at e,fun i h1 h2=>by simp[AV.cells] at h1;subst h1;exact .aO cs ds hl h⟩
 | aP f vJ bs as' bs' hl hm h k=>exact⟨rfl,fun _=>rfl,fun i h1 h2=>by simp[AV.cells] at h1;subst h1;exact .aP f vJ bs as' bs' hl hm h k⟩
theorem ZiC:∀{xs zs:List AV},gL gF R xs zs→(flat zs).length=(flat xs).length∧∀k (h1:k < (flat xs).length) (h2:k < (flat zs).length),bW gF R ((flat xs)[k]) ((flat zs)[k])
 | [],[],_=>⟨rfl,fun k h1=>by simp[flat] at h1⟩
 | [],_::_,h=>by have:=h.1;simp at this
 | _::_,[],h=>by have:=h.1;simp at this
 | x::xs,z::zs,h=>by
  obtain⟨i1,i2⟩:=ZiC (xs:=xs) (zs:=zs) ⟨by simpa using h.1,fun i h1 h2=>h.2 (i+1) (by simpa using h1) (by simpa using h2)⟩;obtain⟨c1,_,c3⟩:=(h.2 0 (by simp) (by simp)).cells;simp only[List.getElem_cons_zero] at c1 c3;have e1:flat (x::xs)=x.cells++flat xs:=by simp[flat]
  have e2:flat (z::zs)=z.cells++flat zs:=by simp[flat]
  refine⟨by rw[e1,e2];simp[c1,i1],fun k h1 h2=>?_⟩;simp only[e1,e2] at h1 h2 ⊢;by_cases hk:k < x.cells.length
  ·rw[List.getElem_append_left hk,List.getElem_append_left (by omega)]
   exact c3 k hk (by omega)
  ·rw[List.getElem_append_right (by omega),List.getElem_append_right (by omega)]
   simp only[c1];exact i2 _ _ _
theorem bW.rep{E:Env}{S:St}{w:World}(hS:bf E S w)(hg:∀i k,gF i=some k→S.g i=some k){E2:Env}(hH:∀b cs,E.H b=some cs→E2.H b=some cs)
  (hL:∀id es xs l,gF id=some (.arr es xs)→E.ρ id=some l→∀cs el fz,w.heap[l.b]? = some (.cells cs el fz)→E2.H l.b=some cs)
  (hR:∀j i l,R j i→E.ρ i=some l→E2.ρ j=some l):∀{x r:AV},bW gF R x r→∀{v:Value},aK E x v→aK E2 r v:=by
 intro x r h;induction h with
 | fz x y h=>intro v hr;exact Fz.rep hS hg hH hL h hr
 | wk x y hc h=>intro v hr;exact h.f.rep _ _ (hr.closed hH hc)
 | own id j off len h=>
  intro v hr;cases hr with
  | own _ _ _ A cap l hl hlen hA=>exact .own j off len A cap l (hR _ _ _ h hl) hlen hA
 | ptr id j ix c h=>
  intro v hr;cases hr with
  | ptr _ _ _ l hl=>exact .ptr j ix c l (hR _ _ _ h hl)
 | mp id j h=>
  intro v hr;cases hr with
  | mp _ l hl=>exact .mp j l (hR _ _ _ h hl)
 | agg cs ds hl h ih=>
  intro v hr;cases hr with
  | agg _ vs hn hat hr=>
   refine .agg ds vs (by omega) (fun y hy=>?_) (fun j hj=>ih j (by omega) hj (hr j (by omega)));obtain⟨k,hk,e⟩:=List.mem_iff_getElem.mp hy;rw[←e];exact(h k (by omega) hk).cells.2.1 (hat _ (List.getElem_mem _))
 | aO cs ds hl h ih=>
  intro v hr;cases hr with
  | aO _ vs hn hr=>exact .aO ds vs (by omega) (fun j hj=>ih j (by omega) hj (hr j (by omega)))
 | aP f vJ bs as' bs' hl hm h k ih1 ih2=>
  intro v hr;cases hr with
  | aP _ _ _ fv cv hn hm' hf hc=>exact .aP f as' bs' fv cv (by omega) (by omega) (fun j hj=>ih1 j (by omega) hj (hf j (by omega))) (fun j hj=>ih2 j (by omega) hj (hc j (by omega)))
end
inductive Gv (gF:Nat→Option aB) (R:Nat→Nat→Prop):aB→aB→Prop
 | arr (es:Nat) (xs ys:List AV) (h:gL gF R xs ys):Gv gF R (.arr es xs) (.arr es ys)
 | map (es fs:List (AV×AV)) (hl:fs.length=es.length) (h:∀i (h1:i < es.length) (h2:i < fs.length),bW gF R (es[i]).1 (fs[i]).1∧bW gF R (es[i]).2 (fs[i]).2):Gv gF R (.map es) (.map fs)
theorem Gv.ok{gF:Nat→Option aB}{R:Nat→Nat→Prop}{E E2:Env}{w:World}{l:Loc}{k k':aB}(h:Gv gF R k k')(hrep:∀{x y:AV},bW gF R x y→∀{v:Value},aK E x v→aK E2 y v)(hok:lX E w l k):lX E2 w l k':=by
 cases h with
 | arr es xs ys h=>
  obtain⟨h1,h2,h3,h4,cs,el,h5,h6,h7⟩:=hok;obtain⟨f1,f2⟩:=ZiC h;refine⟨h1,by rw[h.1];exact h2,fun y hy=>?_,fun y hy=>?_,cs,el,h5,h6,fun k hk=>?_⟩
  ·obtain⟨i,hi,rfl⟩:=List.mem_iff_getElem.mp hy
   have hi':i < xs.length:=by have:=h.1;omega
   rw[(h.2 i hi' hi).cells.1];exact h3 _ (List.getElem_mem hi')
  ·obtain⟨i,hi,rfl⟩:=List.mem_iff_getElem.mp hy
   have hi':i < (flat xs).length:=by omega
   exact(f2 i hi' hi).cells.2.1 (h4 _ (List.getElem_mem hi'))
  ·have hi':k < (flat xs).length:=by omega
   obtain⟨v,a,b⟩:=h7 k hi';exact⟨v,a,hrep (f2 k hi' hk) b⟩
 | map es fs hl h=>
  obtain⟨cs,clock,h1,h2,h3⟩:=hok;refine⟨cs,clock,h1,by omega,fun k hk=>?_⟩;obtain⟨e,a,b,c⟩:=h3 k (by omega);exact⟨e,a,hrep (h k (by omega) hk).1 b,hrep (h k (by omega) hk).2 c⟩
def bn:List (Nat×Option aB)→Nat→Option aB
 | [],_=>none
 | (j,b)::l,i=>if i=j then b else bn l i
def jm:List (Nat×AV)→AF
 | [],_=>.junk
 | (j,x)::l,t=>if t=j then x else jm l t
theorem qw(i:Nat):bn [] i=none:=by simp only[bn]
theorem kD(j:Nat)(b:Option aB)(l:List (Nat×Option aB))(i:Nat):bn ((j,b)::l) i=if i=j then b else bn l i:=by simp only[bn]
theorem oz(t:Nat):jm [] t=.junk:=by simp only[jm]
theorem mK(j:Nat)(x:AV)(l:List (Nat×AV))(t:Nat):jm ((j,x)::l) t=if t=j then x else jm l t:=by simp only[jm]
theorem Xk:∀{l:List (Nat×Option aB)} {i:Nat} {k:aB},bn l i=some k→(i,some k)∈l
 | [],i,k,h=>by simp[bn] at h
 | (j,b)::l,i,k,h=>by
  simp only[bn] at h;split at h
  ·rename_i e;subst e;subst h;simp
  ·exact List.mem_cons_of_mem _ (Xk h)
theorem Zhz:∀{l:List (Nat×AV)} {t:Nat},jm l t=.junk∨(t,jm l t)∈l
 | [],t=>.inl rfl
 | (j,x)::l,t=>by
  simp only[jm];split
  ·rename_i e;subst e;exact .inr (by simp)
  ·rcases Zhz (l:=l) (t:=t) with h | h
   ·exact .inl h
   ·exact .inr (List.mem_cons_of_mem _ h)
def BN(o:List (Nat×Nat))(b:Nat)(j i:Nat):Prop:=(j,i)∈o∨(j=i∧i < b)
structure Ud(o:List (Nat×Nat))(F:List Nat)(b N:Nat):Prop where
 a:∀p∈o,p.1 < N∧(p.1 < b→p.2=p.1)∧p.2∉F
 u:o.Pairwise fun p q=>p.1≠q.1∧p.2≠q.2
theorem IX:∀{o:List (Nat×Nat)} (hu:o.Pairwise fun p q=>p.1≠q.1∧p.2≠q.2) {j i:Nat},(j,i)∈o→o.lookup j=some i
 | [],_,j,i,h=>by simp at h
 | (j',i')::o,hu,j,i,h=>by
  rw[List.pairwise_cons] at hu;rw[List.lookup_cons];rcases List.mem_cons.mp h with h | h
  ·cases h;simp
  ·have hne:=(hu.1 _ h).1
   have hb:(j == j')=false:=by simpa using fun e=>hne e.symm
   rw[hb];exact IX hu.2 h
theorem Zdg:∀{o:List (Nat×Nat)} {j i:Nat},o.lookup j=some i→(j,i)∈o
 | [],j,i,h=>by simp at h
 | (j',i')::o,j,i,h=>by
  rw[List.lookup_cons] at h;split at h
  ·rename_i e;simp only[beq_iff_eq] at e;cases h;subst e;simp
  ·exact List.mem_cons_of_mem _ (Zdg h)
theorem ZtA{o:List (Nat×Nat)}(hu:o.Pairwise fun p q=>p.1≠q.1∧p.2≠q.2){j1 j2 i1 i2:Nat}(h1:(j1,i1)∈o)(h2:(j2,i2)∈o)(hne:j1≠j2):i1≠i2:=by
 induction o with
 | nil=>simp at h1
 | cons p o ih=>
  rw[List.pairwise_cons] at hu;rcases List.mem_cons.mp h1 with e1 | h1
  ·rcases List.mem_cons.mp h2 with e2 | h2
   ·rw[←e1] at e2;cases e2;exact(hne rfl).elim
   ·have:=(hu.1 _ h2).2;rw[←e1] at this;exact this
  ·rcases List.mem_cons.mp h2 with e2 | h2
   ·have:=(hu.1 _ h1).2;rw[←e2] at this;exact fun e=>this e.symm
   ·exact ih hu.2 h1 h2
def BI(gF:Nat→Option aB)(R:Nat→Nat→Prop)(k:Option aB)(k':Option aB):Prop:=∀b',k'=some b'→∃b,k=some b∧Gv gF R b b'
theorem aX.of{b:Nat}{a:AF}{S:St}(o:List (Nat×Nat))(F:List Nat){A:List (Nat×AV)}{N:Nat}{G:List (Nat×Option aB)}(hb:b≤N)(ho:Ud o F b N)
  (hG:∀p∈G,p.2=none∨∃i,(p.1,i)∈o∧BI (only F S.g) (BN o b) (S.g i) p.2) (hA:∀p∈A,bW (only F S.g) (BN o b) (a p.1) p.2):aX b a S (jm A) ⟨N,bn G⟩:=by
 intro E w act n hbS hS hF;have hg:∀i k,only F S.g i=some k→S.g i=some k:=FM
 let ρ':Nat→Option Loc:=fun j=>if j < b then E.ρ j else match o.lookup j with | some i=>E.ρ i | none=>none
 let E2:Env:=⟨ρ',sS E (only F S.g) w⟩
 have hR:∀j i l,BN o b j i→E.ρ i=some l→E2.ρ j=some l:=by
  intro j i l hji hl;show ρ' j=some l
  simp only[ρ'];rcases hji with h | ⟨rfl,h⟩
  ·split
   ·rename_i hj
    have e:i=j:=(ho.a _ h).2.1 hj;rw[e] at hl;exact hl
   ·rw[IX ho.u h];exact hl
  ·rw[if_pos h];exact hl
 have hH:∀b cs,E.H b=some cs→E2.H b=some cs:=fun b cs e=>Co e
 have hL:∀id es xs l,only F S.g id=some (.arr es xs)→E.ρ id=some l→∀cs el fz,w.heap[l.b]? = some (.cells cs el fz)→E2.H l.b=some cs:=by
  intro id es xs l hgi AY cs el fz hw;obtain⟨l',a1,a2,_⟩:=hS.live id _ (hg _ _ hgi);rw[AY] at a1;cases a1;exact Qz hgi AY a2 hw
 have hrep:∀{x y:AV},bW (only F S.g) (BN o b) x y→∀{v:Value},aK E x v→aK E2 y v:=fun h _ hv=>h.rep hS hg hH hL hR hv
 have hlive:∀j k',bn G j=some k'→∃i k,(j,i)∈o∧S.g i=some k∧Gv (only F S.g) (BN o b) k k':=by
  intro j k' h;rcases hG _ (Xk h) with h1 | ⟨i,h1,h2⟩
  ·simp at h1
  ·obtain⟨k,h3,h4⟩:=h2 k' rfl
   exact⟨i,k,h1,h3,h4⟩
 refine⟨E2,⟨fun k cs e=>?_,fun j k' e=>?_,fun j1 j2 k1 k2 l1 l2 e1 e2 hne r1 r2=>?_,fun j hj=>?_⟩,⟨hF.size,hF.defers,fun t=>?_⟩,⟨rfl,rfl,rfl,Nat.le_refl _,fun _ _ _=>rfl,fun j l k' e hl=>?_,fun id l hi e=>?_,hH,fun k cs e=>?_,hb,fun id hi e=>?_⟩⟩
 ·rcases Bj e with h1 | ⟨_,h1,_⟩
  ·exact hS.hH k cs h1
  ·exact h1
 ·obtain⟨i,k,h1,h2,h3⟩:=hlive j k' e
  obtain⟨l,a1,a2,a3⟩:=hS.live i k h2;refine⟨l,hR j i l (.inl h1) a1,?_,h3.ok hrep a3⟩;show sS E (only F S.g) w l.b=none
  cases e2:sS E (only F S.g) w l.b with
  | none=>rfl
  | some cs=>
   exfalso;rcases Bj e2 with h4 | ⟨_,_,i2,k2,l2,b1,b2,b3⟩
   ·rw[a2] at h4;cases h4
   ·by_cases hii:i2=i
    ·subst hii
     rw[Ec] at b1;split at b1
     ·rename_i hf;exact(ho.a _ h1).2.2 hf
     ·cases b1
    ·exact hS.nH i2 i k2 k l2 l (hg _ _ b1) h2 hii b2 a1 b3
 ·obtain⟨i1,b1,p1,p2,_⟩:=hlive j1 k1 e1
  obtain⟨i2,b2,q1,q2,_⟩:=hlive j2 k2 e2;obtain⟨m1,a1,_⟩:=hS.live i1 b1 p2;obtain⟨m2,a2,_⟩:=hS.live i2 b2 q2;have c1:=hR j1 i1 m1 (.inl p1) a1;have c2:=hR j2 i2 m2 (.inl q1) a2;rw[c1] at r1;cases r1;rw[c2] at r2;cases r2;exact hS.nH i1 i2 b1 b2 _ _ p2 q2 (ZtA ho.u p1 q1 hne) a1 a2
 ·have hj:N≤j:=hj
  show ρ' j=none
  simp only[ρ'];rw[if_neg (by omega)];cases e:o.lookup j with
  | none=>rfl
  | some i=>have:=(ho.a _ (Zdg e)).1;simp only at this;omega
 ·rcases Zhz (l:=A) (t:=t) with h | h
  ·rw[h];exact .junk _
  ·exact hrep (hA _ h) (hF.at_ t)
 ·obtain⟨i,k,h1,h2,h3⟩:=hlive j k' e
  have hl:E2.ρ j=some l:=hl;obtain⟨l0,a1,_⟩:=hS.live i k h2;have:=hR j i l0 (.inl h1) a1;rw[this] at hl;cases hl;exact .inr ⟨i,_,k,h2,a1,rfl⟩
 ·show ρ' id=some l
  simp only[ρ'];rw[if_pos hi];exact e
 ·rcases Bj e with h1 | ⟨_,_,i2,k2,l2,b1,b2,b3⟩
  ·exact .inl h1
  ·exact .inr (.inr ⟨i2,l2,k2,hg _ _ b1,b2,b3⟩)
 ·show ρ' id=none
  simp only[ρ'];rw[if_pos hi];exact e
structure lS(g:Nat→Option aB)(n:Nat)(av:List Nat)(vs:List AV)(ls:List (List AV)):Prop where
 len:vs.length=ls.length
 row:∀t (h:t < vs.length) (h':t < ls.length),Vec g vs[t] 1 (ls[t])
 sep:vs.Pairwise (fun a b=>∀i∈a.ids,i∉b.ids)
 out:∀v∈vs,∀i∈v.ids,i < n∧i∉av
theorem lS.nil{g:Nat→Option aB}{n:Nat}{av:List Nat}:lS g n av [] []:=⟨rfl,fun t h=>by simp at h,.nil,by simp⟩
theorem lS.cons{g:Nat→Option aB}{n:Nat}{av:List Nat}{vs:List AV}{ls:List (List AV)}{v:AV}{l:List AV}(hv:Vec g v 1 l)(ho:∀i∈v.ids,i < n∧i∉av)(hs:∀w∈vs,∀i∈v.ids,i∉w.ids)(h:lS g n av vs ls) :
  lS g n av (v::vs) (l::ls):=by
 refine⟨by simp[h.len],fun t h1 h2=>?_,List.pairwise_cons.mpr ⟨hs,h.sep⟩,fun w hw=>?_⟩
 ·cases t with
  | zero=>exact hv
  | succ t=>exact h.row t (by simpa using h1) (by simpa using h2)
 ·rcases List.mem_cons.mp hw with rfl | hw
  ·exact ho
  ·exact h.out w hw
theorem lS.head{g:Nat→Option aB}{n:Nat}{av:List Nat}{vs:List AV}{ls:List (List AV)}{v:AV}{l:List AV}(h:lS g n av (v::vs) (l::ls)) :
  Vec g v 1 l∧(∀i∈v.ids,i < n∧i∉av)∧(∀w∈vs,∀i∈v.ids,i∉w.ids)∧lS g n av vs ls:=by
 have hp:=List.pairwise_cons.mp h.sep;refine⟨h.row 0 (by simp) (by simp),h.out v (by simp),hp.1,by have:=h.len;simpa using this,fun t h1 h2=>?_,hp.2,fun w hw=>h.out w (by simp[hw])⟩;exact h.row (t+1) (by simpa using h1) (by simpa using h2)
theorem lS.frame{g g':Nat→Option aB}{n n':Nat}{av:List Nat}{vs:List AV}{ls:List (List AV)}(h:lS g n av vs ls)(hn:n≤n')(hg:∀v∈vs,∀i∈v.ids,g' i=g i):lS g' n' av vs ls:=
 ⟨h.len,fun t h1 h2=>(h.row t h1 h2).frame (fun i hi=>hg _ (List.getElem_mem h1) i hi),h.sep,fun v hv i hi=>⟨Nat.lt_of_lt_of_le (h.out v hv i hi).1 hn,(h.out v hv i hi).2⟩⟩
theorem lS.snoc{g:Nat→Option aB}{n:Nat}{av:List Nat}{vs:List AV}{ls:List (List AV)}{v:AV}{l:List AV}(h:lS g n av vs ls)(hv:Vec g v 1 l)(ho:∀i∈v.ids,i < n∧i∉av)(hs:∀w∈vs,∀i∈w.ids,i∉v.ids) :
  lS g n av (vs++[v]) (ls++[l]):=by
 refine⟨by simp[h.len],fun t h1 h2=>?_,?_,fun w hw=>?_⟩
 ·by_cases ht:t < vs.length
  ·have ht2:t < ls.length:=by rw[←h.len];exact ht
   rw[List.getElem_append_left ht,List.getElem_append_left ht2];exact h.row t ht ht2
  ·have e:t=vs.length:=by simp at h1;omega
   have e2:t=ls.length:=by rw[←h.len];exact e
   rw[List.getElem_append_right (by omega),List.getElem_append_right (by omega)];simp[e,←h.len];exact hv
 ·rw[List.pairwise_append]
  exact⟨h.sep,by simp,fun a ha b hb=>by simp at hb;subst hb;exact hs a ha⟩
 ·rcases List.mem_append.mp hw with hw | hw
  ·exact h.out w hw
  ·simp at hw;subst hw;exact ho
theorem Vec.P6l{g:Nat→Option aB}{n:Nat}{v:AV}{es:Nat}{xs:List AV}{aA:Nat}{x:AV}{au:Nat}(h:Vec g v es xs)(hes:∀z∈xs,z.cells.length=es)(hx:x.cells.length=es)(hok:bY au xs.length 1) :
  (kP es au v (.sl true [x])).runT ⟨n,g⟩ aA=some (.own aA 0 (xs.length+1),(St.without ⟨n,g⟩ v).set aA (some (.arr es (xs++[x]))),v.ids,v.ids++[aA]):=by
 rcases h with⟨rfl,rfl⟩ | ⟨id,off,ys,rfl,h1,h2,h3⟩
 ·simp only[List.length_nil] at hok
  simp[kP,Eff.runT,AV.ku,lD,hx,hok,St.without,St.dX,St.fP,AV.ids]
 ·have hl:off+xs.length=ys.length:=by rw[←h3];simp;omega
  simp[kP,Eff.runT,AV.ku,lD,hx,hok,St.without,St.dX,St.fP,h1,hl,h3,AV.ids]
theorem Vec.fzL{g:Nat→Option aB}{v:AV}{es:Nat}{xs zs:List AV}(h:Vec g v es xs)(hl:zs.length=xs.length)(hz:∀i (h1:i < xs.length) (h2:i < zs.length),Fz g (xs[i]) (zs[i])):Fz g v (.sl false zs):=by
 rcases h with⟨rfl,h0⟩ | ⟨id,off,ys,rfl,h1,h2,h3⟩
 ·subst h0
  have:zs=[]:=List.eq_nil_of_length_eq_zero hl;subst this;exact .loose true [] (.sl _ _ (by simp))
 ·have hle:off+xs.length=ys.length:=by rw[←h3];simp;omega
  have ht:(ys.drop off).take xs.length=xs:=by rw[h3,List.take_length]
  refine .own id off _ es ys zs h1 (by omega) hl (fun i k1 k2=>?_);simp only[ht] at k1 ⊢;exact hz i k1 k2
def rR(ds:List Deferred)(a:Act):Act:={ a with defers:=a.defers++ds }
theorem Jc(ds:List Deferred)(a:Act)(d:Option Tmp)(v:Value):(rR ds a).put d v=rR ds (a.put d v):=by cases d<;>rfl
theorem ZeM(ds:List Deferred)(a:Act):(rR ds a).eval=a.eval:=by
 funext x;cases x<;>rfl
theorem Zp9{P:Program}{o:Oper}{ds:List Deferred}{a:Act}{next next':Act→World→Prop}{Q Q':Exit→Act→World→Prop}(hn:∀a w,next a w→next' (rR ds a) w)(hq:∀e a w,Q e a w→Q' e (rR ds a) w) :
  ∀(r:Result Next),o.upon P a next Q r→o.upon P (rR ds a) next' Q' r:=by
 intro r h;unfold Oper.upon at h ⊢;split at h
 ·rw[Jc];exact hn _ _ h
 ·rw[Jc];exact hn _ _ h
 ·rename_i d w'
  have:=hn _ _ h;rw[←Jc] at this;exact this
 ·refine h.mono fun e w' h2=>?_
  cases e with
  | returned v=>simp only at h2 ⊢;rw[Jc];exact hn _ _ h2
  | panicked ch=>exact hq _ _ _ h2
  | outgrown=>obtain⟨a',w2,h3⟩:=h2;exact⟨_,_,hq _ _ _ h3⟩
 ·refine h.mono fun v w' h2=>?_
  rw[Jc];exact hn _ _ h2
 ·exact hq _ _ _ h
 ·exact h.elim
theorem Qk{P:Program}{ops:Array Oper}{ds:List Deferred}{Q Q':Exit→Act→World→Prop}(hq:∀e a w,Q e a w→Q' e (rR ds a) w):∀(l:List Nat) (a:Act) (w:World),wpOps P ops Q l a w→wpOps P ops Q' l (rR ds a) w
 | [],a,w,h=>hq _ _ _ h
 | i::l,a,w,h=>by
  simp only[wpOps] at h ⊢;split
  ·rename_i ho
   rw[ho] at h;exact Qk hq l a w h
  ·rename_i o ho
   rw[ho] at h;simp only at h;have ht:(rR ds a).tmps=a.tmps:=rfl;rw[ht];split at h
   ·rename_i hw
    rw[if_pos hw];rcases h with h | ⟨h1,a',w',h2⟩
    ·left
     unfold Oper.wp at h ⊢;rw[ZeM];exact Zp9 (fun a w h=>Qk hq l a w h) hq _ h
    ·right
     refine⟨?_,_,_,hq _ _ _ h2⟩;unfold Oper.asks at h1 ⊢;rw[ZeM];exact h1
   ·rename_i hw
    rw[if_neg hw,Jc];exact Qk hq l _ w h
theorem ZjT{P:Program}(hm:P.follows .mixedOrders=true){n:Nat}{ops:Array Oper}{Q:Exit→AF→St→Prop}{a:AF}{S:St}(h:AW P (lU P n false ops) Q a S){E:Env}{w:World}{act:Act}(hG:jO P E.H)(hS:bf E S w)(hF:eu E n a act) :
  wpOps P ops (nG E S w n Q) (List.range ops.size) act w:=by
 unfold lU at h;rw[if_neg (by simp)] at h;split at h
 ·rename_i os hos
  obtain⟨h1,h2⟩:=Bp hos
  have hget:∀k (hk:k < os.length),∃o,ops[k]? = some o∧nC P n ops o=some (os[k]):=fun k hk=>by
   obtain⟨o,a1,a2⟩:=h2 k hk;exact⟨o,by simpa using a1,a2⟩
  split at h
  ·simp only[AW] at h
   exact Mi (id:=0) (p:=none) hget (fun _ e=>by cases e) (by rw[h1];simp) h hG hS hF
  ·simp only[AW] at h
   exact Mi (id:=0) (p:=none) hget (fun _ e=>by cases e) (by rw[h1];simp) (I8 _ _ h) hG hS hF
 ·cases hl:BA P n ops ops.toList.reverse with
  | lU os p=>
   rw[hl] at h;have x:=ZfQ hl;simp only[AW] at h;exact Mi (id:=0) x.hc x.ht x.hs h hG hS hF
  | bad=>rw[hl] at h;simp only[AW] at h
  | _=>
   exfalso;cases hr:ops.toList.reverse with
   | nil=>rw[hr] at hl;simp[BA] at hl
   | cons o rest=>
    rw[hr] at hl;simp only[BA] at hl;split at hl<;>(try split at hl)<;>cases hl
def Er:Code→Bool
 | .region _ _ d=>!d
 | .seq a b=>Er a && Er b
 | .ret | .skip=>true
 | _=>false
theorem Zqr{P:Program}(hm:P.follows .mixedOrders=true){n:Nat}(ds:List Deferred):∀(c:Code) (ac:AC),yC P n c=some ac→Er c=true→∀(Q:Exit→AF→St→Prop) (a:AF) (S:St),AW P ac Q a S→∀E w act,jO P E.H→bf E S w→eu E n a act→
  c.wp P (fun e act' w'=>∃Nz,act'=rR ds Nz∧nG E S w n Q e Nz w') (rR ds act) w:=by
 intro c;induction c with
 | skip=>
  intro ac hc hs Q a S h E w act hG hS hF;simp only[yC,dQ,Option.some.injEq] at hc;subst hc;exact wp_skip ⟨act,rfl,a,S,E,h,hS,hF,.refl _ _ _⟩
 | ret=>
  intro ac hc hs Q a S h E w act hG hS hF;simp only[yC,dQ,Option.some.injEq] at hc;subst hc;exact wp_ret ⟨act,rfl,a,S,E,h,hS,hF,.refl _ _ _⟩
 | region id ops dr=>
  intro ac hc hs Q a S h E w act hG hS hF;have e:=IE (R:=lU) hc;subst e;simp only[Er,Bool.not_eq_true'] at hs;subst hs;exact wp_region (Qk (fun e a w hp=>⟨a,rfl,hp⟩) _ _ _ (ZjT hm h hG hS hF))
 | seq x y eD ihy=>
  intro ac hc hs Q a S h E w act hG hS hF;simp only[yC,dQ,Option.map_eq_some_iff,Option.bind_eq_some_iff] at hc;obtain⟨X,hX,Y,hY,rfl⟩:=hc;simp only[Er,Bool.and_eq_true] at hs;simp only[AW] at h;refine wp_seq (wp_mono (eD X hX hs.1 _ a S h E w act hG hS hF) fun e act' w' hp=>?_);obtain⟨Nz,rfl,a',S',E',q,s,r,ev⟩:=hp;cases e with
  | normal=>
   exact wp_mono (ihy Y hY hs.2 Q a' S' q E' w' Nz (hG.le ev.bU.le) s r) fun e jF w2 ⟨GR,e3,hp2⟩=>⟨GR,e3,hp2.trans ev⟩
  | _=>exact⟨Nz,rfl,a',S',E',q,s,r,ev⟩
 | _=>intro ac hc hs;simp[Er] at hs
def Rc:Code→Option (Nat×Nat×Code)
 | .seq (.region _ ⟨[⟨some d,.call ⟨.builtin .recover,⟨[]⟩,_⟩,_,_,_,none⟩,⟨some e,.assign (.tmp d'),_,_,_,none⟩]⟩ false) rest=>if d'=d then some (d,e,rest) else none
 | _=>none
def Gm(P:Program)(f:FuncId):Option (Nat×Nat×AC×Nat):=
 match P.funcs[f]? with
 | none=>none
 | some fn=>match fn.body with
  | none=>none
  | some c=>if (fn.name == "runtime.NumGoroutine")=false∧fn.results=#[] then match Rc c with
   | none=>none
   | some (d,e,rest)=>if d < fn.ntmps∧e < fn.ntmps then (comp P fn.ntmps rest).map fun ac=>(d,e,ac,fn.ntmps) else none
   else none
theorem ZjS{c:Code}{d e:Nat}{rest:Code}(h:Rc c=some (d,e,rest)):∃id o p,c=.seq (.region id #[o,p] false) rest∧(∃ts,o.op=.call ⟨.builtin .recover,#[],ts⟩)∧o.guard=none∧o.dst=some d∧p.op=.assign (.tmp d)∧p.guard=none∧p.dst=some e:=by
 unfold Rc at h;split at h
 ·split at h
  ·rename_i hd
   cases h;subst hd;exact⟨_,_,_,rfl,⟨_,rfl⟩,rfl,rfl,rfl,rfl,rfl⟩
  ·cases h
 ·cases h
theorem ZfO{P:Program}{f:FuncId}{d e n:Nat}{ac:AC}(h:Gm P f=some (d,e,ac,n)):∃fn c rest,P.funcs[f]? = some fn∧(fn.name == "runtime.NumGoroutine")=false∧fn.body=some c∧fn.results=#[]∧Rc c=some (d,e,rest)∧d < n∧e < n∧comp P n rest=some ac∧fn.ntmps=n:=by
 unfold Gm at h;split at h
 ·cases h
 ·rename_i fn hf
  split at h
  ·cases h
  ·rename_i c hc
   split at h
   ·rename_i hcond
    split at h
    ·cases h
    ·rename_i d' e' rest hr
     split at h
     ·rename_i hlt
      simp only[Option.map_eq_some_iff,Prod.mk.injEq] at h;obtain⟨ac',h1,rfl,rfl,rfl,rfl⟩:=h;exact⟨fn,c,rest,hf,hcond.1,hc,hcond.2,hr,hlt.1,hlt.2,h1,rfl⟩
     ·cases h
   ·cases h
def vD:FrameMode→Value×FrameMode
 | .panicking [{ v,recovered:=false,goexit:=false }]=>(v,.panicking [{ v,recovered:=true }])
 | u=>(.nilIface,u)
theorem ZtS{P:Program}(hm:P.follows .mixedOrders=true){f:FuncId}{d e n:Nat}{ac:AC}(h:Gm P f=some (d,e,ac,n)){args:List AV}(hn:args.length≤n){S:St}{u:FrameMode}(hu:u=.returning∨∃v,u=.panicking [{ v,recovered:=false }])(hs:Af (vD u).1=true){K:St→Prop}
  (hb:AW P ac (fun ex a S'=>(ex=.normal∨ex=.ret)∧K S') (((bF args).put (some d) (.v (vD u).1)).put (some e) (.v (vD u).1)) S) :
  ∀E w vals,jO P E.H→bf E S w→kJ E args vals→CallsD P f vals u w fun en u2 w'=>∃S' E' v,en=.returned v∧u2=(vD u).2∧K S'∧bf E' S' w'∧Ev E S w E' S' w':=by
 intro E w vals hG hS hv;obtain⟨fn,c,rest,hf,hnm,hbd,hres,hinv,hd,he,hac,rfl⟩:=ZfO h;obtain⟨id,o,p,rfl,⟨ts,ho⟩,hog,hod,hp,hpg,Ze⟩:=ZjS hinv;refine callsD_of_wpS hf hbd fun c₀ cs hc=>?_
 have Ke:=Bo hv hn;have hF1:=(Ke.put (dst:=some d) (by intro d' e';cases e';exact hd) (.v (vD u).1 hs)).put (dst:=some e) (by intro d' e';cases e';exact he) (.v (vD u).1 hs)
 have hrun:∀(act:Act) (w:World),(execOp act.eval o).run P w=.ok .recover w:=by
  intro act w;simp only[execOp,ho,resolve,invoke,Sem.run_bind];rfl
 have hrec:∀{Q:Exit→Act→List Frame→World→Prop} {act:Act} {w:World},Q .normal ((act.put (some d) (vD u).1).put (some e) (vD u).1) ({ c₀ with mode:=(vD u).2 }::cs) w→d < act.tmps.size→wpOpsS P #[o,p] Q (List.range 2) act (c₀::cs) w:=by
  intro Q act w hq hsz;have hl:List.range 2=[0,1]:=rfl;have g0:(#[o,p]:Array Oper)[0]? = some o:=rfl;have g1:(#[o,p]:Array Oper)[1]? = some p:=rfl
  have ab3:∀(v:Value) (w:World),(execOp (act.put (some d) v).eval p).run P w=.ok (.value v) w:=by
   intro v w;simp only[execOp,hp]
   have:(act.put (some d) v).eval (.tmp d)=v:=by
    simp[Act.put,Act.eval,hsz]
   rw[this];rfl
  have fin:∀(v:Value) (cs':List Frame),Q .normal ((act.put (some d) v).put (some e) v) cs' w→wpOpsS P #[o,p] Q [1] (act.put o.dst v) cs' w:=by
   intro v cs' hq';rw[hod];simp only[wpOpsS,g1,Region.wanted,hpg,if_true,ab3];rw[Oper.upon_value,Ze];exact hq'
  rw[hl];unfold wpOpsS;simp only[g0,Region.wanted,hog,if_true,hrun];rcases hu with rfl | ⟨v,rfl⟩
  ·have hr:recoverD (c₀::cs)=none:=by simp only[recoverD,hc]
   rw[hr];have hcc:({ c₀ with mode:=.returning }:Frame)=c₀:=by rw[←hc]
   simp only[vD,hcc] at hq;exact fin _ _ hq
  ·have hr:recoverD (c₀::cs)=some (v,{ c₀ with mode:=.panicking [{ v,recovered:=true }] }::cs):=by simp only[recoverD,hc]
   rw[hr];exact fin _ _ hq
 refine wpS_seq (wpS_region (hrec ?_ ?_))
 ·show(Code.wpS P rest _ _ _ _)
  refine wpS_of_wp (wp_mono (WE hm ac rest hac _ _ _ hb E w _ hG hS hF1) fun ex act' w' hpost=>?_);obtain⟨a',S',E',⟨hex,hk⟩,hS',hF',hev⟩:=hpost;have hrs:=LP (P:=P) (fn:=fn) (ts:=[]) (by simpa using hres) act'.tmps w';rcases hex with rfl | rfl
  ·exact⟨hF'.defers,_,rfl,_,hrs,S',E',_,rfl,rfl,hk,hS',hev⟩
  ·exact⟨hF'.defers,_,rfl,_,hrs,S',E',_,rfl,rfl,hk,hS',hev⟩
 ·have:=Ke.size
  rw[this];exact hd
structure M1 where
 a0:AC
 ag:AC
 d:Nat
 g:FuncId
 x:Nat
 y:Nat
 ar:AC
 nt:Nat
 rs:List RV
def Q0:Code→Option (Code×Code×Nat×FuncId×Nat×Nat×Code)
 | .seq c0 (.seq cg (.seq (.region _ ⟨[⟨some d,.makeFunc (.func g) ⟨[]⟩ ⟨[.tmp x,.tmp y]⟩,_,_,_,none⟩,⟨none,.defer ⟨.value (.tmp d'),⟨[]⟩,_⟩,_,_,_,none⟩]⟩ false) rest))=>if d=d' then some (c0,cg,d,g,x,y,rest) else none
 | _=>none
def J2(P:Program)(f:FuncId):Option M1:=
 match P.funcs[f]? with
 | none=>none
 | some fn=>match fn.body with
  | none=>none
  | some c=>if (fn.name == "runtime.NumGoroutine")=false then match Q0 c with
   | none=>none
   | some (c0,cg,d,g,x,y,rest)=>if d < fn.ntmps∧Er rest=true then
     (yC P fn.ntmps c0).bind fun A0=>(yC P fn.ntmps cg).bind fun AG=>(yC P fn.ntmps rest).bind fun AR=>(fn.results.toList.mapM (vI P)).map fun rs=>⟨A0,AG,d,g,x,y,AR,fn.ntmps,rs⟩
    else none
   else none
theorem Zjr{c c0 cg rest:Code}{d x y:Nat}{g:FuncId}(h:Q0 c=some (c0,cg,d,g,x,y,rest)):∃id o p,c=.seq c0 (.seq cg (.seq (.region id #[o,p] false) rest))∧o.op=.makeFunc (.func g) #[] #[.tmp x,.tmp y]∧o.guard=none∧o.dst=some d∧
  (∃ts,p.op=.defer ⟨.value (.tmp d),#[],ts⟩)∧p.guard=none∧p.dst=none:=by
 unfold Q0 at h;split at h
 ·split at h
  ·rename_i hd
   cases h;subst hd;exact⟨_,_,_,rfl,rfl,rfl,rfl,⟨_,rfl⟩,rfl,rfl⟩
  ·cases h
 ·cases h
theorem Ztn{P:Program}{f:FuncId}{m:M1}(h:J2 P f=some m):∃fn c c0 cg rest,P.funcs[f]? = some fn∧(fn.name == "runtime.NumGoroutine")=false∧fn.body=some c∧Q0 c=some (c0,cg,m.d,m.g,m.x,m.y,rest)∧m.d < fn.ntmps∧Er rest=true∧
  yC P fn.ntmps c0=some m.a0∧yC P fn.ntmps cg=some m.ag∧yC P fn.ntmps rest=some m.ar∧fn.results.toList.mapM (vI P)=some m.rs∧fn.ntmps=m.nt:=by
 unfold J2 at h;split at h
 ·cases h
 ·rename_i fn hf
  split at h
  ·cases h
  ·rename_i c hc
   split at h
   ·rename_i hnm
    split at h
    ·cases h
    ·rename_i c0 cg d g x y rest hd
     split at h
     ·rename_i hcond
      simp only[Option.bind_eq_some_iff,Option.map_eq_some_iff] at h;obtain⟨A0,h0,AG,h1,AR,h2,rs,h3,rfl⟩:=h;exact⟨fn,c,c0,cg,rest,hf,hnm,hc,hd,hcond.1,hcond.2,h0,h1,h2,h3,rfl⟩
     ·cases h
   ·cases h
def Ib(P:Program)(yJ:AC)(dr er:Nat)(rs:List RV)(cap:List AV)(K:AV→St→Prop)(u:FrameMode)(a':AF)(S':St):Prop:=
 AW P yJ (fun ex _ S2=>(ex=.normal∨ex=.ret)∧∃xs,bP a' S2.g rs=some xs∧K (bV xs) S2) (((bF cap).put (some dr) (.v (vD u).1)).put (some er) (.v (vD u).1)) S'
def Rw(P:Program)(yJ:AC)(dr er:Nat)(rs:List RV)(cap:List AV)(K:AV→St→Prop):Exit→AF→St→Prop:=fun e a' S'=>
 match e with
 | .ret=>Ib P yJ dr er rs cap K .returning a' S'
 | .normal=>Ib P yJ dr er rs cap K .returning a' S'
 | .panic ch=>∃v,ch=[{ v,recovered:=false }]∧Af v=true∧Ib P yJ dr er rs cap K (.panicking [{ v,recovered:=false }]) a' S'
 | _=>False
def JR(P:Program)(m:M1)(yJ:AC)(dr er:Nat)(K:AV→St→Prop):Exit→AF→St→Prop:=fun e a S=>
 match e with
 | .ret=>∃xs,bP a S.g m.rs=some xs∧K (bV xs) S
 | .normal=>AW P m.ar (Rw P yJ dr er m.rs [a m.x,a m.y] K) (a.put (some m.d) (.aP m.g [] [a m.x,a m.y])) S
 | _=>False
def Sk(P:Program)(m:M1)(yJ:AC)(dr er:Nat)(K:AV→St→Prop):Exit→AF→St→Prop:=fun e a S=>
 match e with
 | .normal=>AW P m.ag (JR P m yJ dr er K) a S
 | _=>False
theorem ZnX{P:Program}(hm:P.follows .mixedOrders=true){f:FuncId}{m:M1}(h:J2 P f=some m){dr er nr:Nat}{yJ:AC}(h':Gm P m.g=some (dr,er,yJ,nr))(hnr:2≤nr){args:List AV}(hn:args.length≤m.nt){S:St}{K:AV→St→Prop}
  (hb:AW P m.a0 (Sk P m yJ dr er K) (bF args) S):aN P f args S K:=by
 obtain⟨fn,c,c0,cg,rest,hf,hnm,hbd,hinv,hd,hstr,hc0,hcg,hcr,hrs,hnt⟩:=Ztn h;obtain⟨id,o,p,rfl,ho,hog,hod,⟨ts,hp⟩,hpg,Ze⟩:=Zjr hinv;refine⟨vR hf hnm hbd,fun E w vals hG hS hv=>?_⟩;rw[←hnt] at hn;refine calls_of_wp_defers hf hbd (wp_seq (wp_mono (V8 hm m.a0 c0 hc0 _ _ _ hb E w _ hG hS (Bo hv hn)) fun e act w1 hp1=>?_));obtain⟨a1,S1,E1,q1,hS1,hF1,wV⟩:=hp1;cases e<;>simp only[Sk] at q1;refine wp_seq (wp_mono (V8 hm m.ag cg hcg _ _ _ q1 E1 w1 act (hG.le wV.bU.le) hS1 hF1) fun e jF w2 hp2=>?_);obtain⟨a2,S2,E2,q2,hS2,hF2,xU⟩:=hp2;cases e<;>simp only[JR] at q2
 case ret=>
  obtain⟨xs,hx,hk⟩:=q2;obtain⟨val,k1,k2⟩:=Bg (P:=P) (fn:=fn) hS2 hF2 hrs hx;show Leaves P fn jF.tmps _ jF.defers .returning w2
  rw[hF2.defers];exact⟨val,k1,val,_,S2,E2,rfl,hk,hS2,k2,wV.trans xU⟩
 case normal=>
  have rx:aK E2 (a2 m.x) (jF.eval (.tmp m.x)):=hF2.at_ m.x
  have ry:aK E2 (a2 m.y) (jF.eval (.tmp m.y)):=hF2.at_ m.y
  have AX:aK E2 (.aP m.g [] [a2 m.x,a2 m.y]) (.func (.func m.g) #[] #[jF.eval (.tmp m.x),jF.eval (.tmp m.y)]):=by
   refine .aP m.g [] [a2 m.x,a2 m.y] #[] #[jF.eval (.tmp m.x),jF.eval (.tmp m.y)] rfl rfl (fun j hj=>by simp at hj) (fun j hj=>?_)
   match j,hj with
   | 0,_=>exact rx
   | 1,_=>exact ry
  have ED:=hF2.put (dst:=some m.d) (by intro d' e';cases e';exact hd) AX
  let D:Deferred:={ target:=.fn (.func m.g) #[jF.eval (.tmp m.x),jF.eval (.tmp m.y)],args:=#[] }
  have ab1:(execOp jF.eval o).run P w2=.ok (.value (.func (.func m.g) #[] #[jF.eval (.tmp m.x),jF.eval (.tmp m.y)])) w2:=by
   simp[execOp,ho,Instr.makeFunc]
  have hsz:=hF2.size
  have ab2:(execOp (jF.put (some m.d) (.func (.func m.g) #[] #[jF.eval (.tmp m.x),jF.eval (.tmp m.y)])).eval p).run P w2=.ok (.defer D) w2:=by
   have he:(jF.put (some m.d) (.func (.func m.g) #[] #[jF.eval (.tmp m.x),jF.eval (.tmp m.y)])).eval (.tmp m.d)=.func (.func m.g) #[] #[jF.eval (.tmp m.x),jF.eval (.tmp m.y)]:=by
    have:m.d < jF.tmps.size:=by rw[hsz];exact hd
    simp[Act.put,Act.eval,this]
   simp only[execOp,hp,Sem.run_bind,Fv _ _ _ _ _ he,Result.andThen_ok];simp[D]
  refine wp_seq (wp_region ?_);have hl:List.range (#[o,p]:Array Oper).size=[0,1]:=rfl;have g0:(#[o,p]:Array Oper)[0]? = some o:=rfl;have g1:(#[o,p]:Array Oper)[1]? = some p:=rfl;rw[hl];simp only[wpOps,g0,g1,Region.wanted,hog,hpg,if_true];left;unfold Oper.wp;rw[ab1,Oper.upon_value,hod];left;rw[ab2,Oper.upon_defer,Ze]
  have hact:({ (jF.put (some m.d) (.func (.func m.g) #[] #[jF.eval (.tmp m.x),jF.eval (.tmp m.y)])) with defers:=D::(jF.put (some m.d) (.func (.func m.g) #[] #[jF.eval (.tmp m.x),jF.eval (.tmp m.y)])).defers }:Act).put none undef=rR [D] (jF.put (some m.d) (.func (.func m.g) #[] #[jF.eval (.tmp m.x),jF.eval (.tmp m.y)])):=by
   have:=ED.defers;simp only[Act.put,rR] at this ⊢;rw[this];rfl
  rw[hact];show Code.wp P rest _ _ _
  refine wp_mono (Zqr hm [D] rest m.ar hcr hstr _ _ _ q2 E2 w2 _ (hG.le (wV.trans xU).bU.le) hS2 ED) fun e abj w4 hp4=>?_
  obtain⟨AO,rfl,a5,S5,E5,q5,hS5,hF5,SX⟩:=hp4
  have hcap:kJ E5 [a2 m.x,a2 m.y] (#[]++#[jF.eval (.tmp m.x),jF.eval (.tmp m.y)]):=by
   refine⟨rfl,fun j hj=>?_⟩
   match j,hj with
   | 0,_=>exact rx.mono SX.bU.le
   | 1,_=>exact ry.mono SX.bU.le
  obtain⟨fr,cr,abu,hfr,aaW,aay,_⟩:=ZfO h';have aaD:tQ P m.g:=vR hfr aaW aay
  have aaK:(invoke D.target D.args).run P w4=.ok (.enter m.g (#[]++#[jF.eval (.tmp m.x),jF.eval (.tmp m.y)])) w4:=by
   simp only[invoke];exact Fx aaD _ _
  have hdef:(rR [D] AO).defers=[D]:=by
   simp only[rR,hF5.defers,List.nil_append]
  have fin:∀(u:FrameMode),(u=.returning∨∃v,u=.panicking [{ v,recovered:=false }])→settle (vD u).2=.returning→Af (vD u).1=true→Ib P yJ dr er m.rs [a2 m.x,a2 m.y] K u a5 S5→
    Leaves P fn AO.tmps (fun e w'=>∃v r S' E',e=.returned v∧K r S'∧bf E' S' w'∧aK E' r v∧Ev E S w E' S' w') [D] u w4:=by
   intro u hu hset hsc hq;refine⟨by rcases hu with rfl | ⟨v,rfl⟩<;>simp,_,_,_,_,rfl,aaK,?_⟩;refine(ZtS hm h' (by simp;omega) hu hsc hq E5 w4 _ (hG.le ((wV.trans xU).trans SX).bU.le) hS5 hcap).mono ?_;rintro en u2 w6 ⟨S6,E6,v6,rfl,rfl,⟨xs,hx,hk⟩,hS6,ev6⟩;obtain⟨val,k1,k2⟩:=Bg (P:=P) (fn:=fn) hS6 (hF5.mono ev6.bU.le) hrs hx;show Leaves P fn AO.tmps _ [] (settle (vD u).2) w6
   rw[hset];exact⟨val,k1,val,_,S6,E6,rfl,hk,hS6,k2,((wV.trans xU).trans SX).trans ev6⟩
  have Zi:(rR [D] AO).tmps=AO.tmps:=rfl;cases e<;>simp only[Rw] at q5
  case normal=>
   show Leaves P fn (rR [D] AO).tmps _ (rR [D] AO).defers .returning w4
   rw[hdef,Zi];exact fin _ (.inl rfl) rfl rfl q5
  case ret=>
   show Leaves P fn (rR [D] AO).tmps _ (rR [D] AO).defers .returning w4
   rw[hdef,Zi];exact fin _ (.inl rfl) rfl rfl q5
  case panic ch=>
   obtain⟨v,rfl,hsc,hq⟩:=q5;show Leaves P fn (rR [D] AO).tmps _ (rR [D] AO).defers (.panicking _) w4
   rw[hdef,Zi];exact fin _ (.inr ⟨v,rfl⟩) rfl hsc hq
def TJ(P:Program)(base:Nat)(l:List l6)(i:Nat)(d:Option Nat)(op:jJ)(T:List (Nat×List Nat))(K:AF→St→Prop)(a:AF)(S:St):Option (AV×St)→Prop
 | some (v,S')=>jL P base l ((i,Fq ⟨d,op,none,none⟩ a)::T) K (a.put d v) S'
 | none=>sD op a fun v=>jL P base l ((i,Fq ⟨d,op,none,none⟩ a)::T) K (a.put d v) S
def Yd(P:Program)(base:Nat)(l:List l6)(i:Nat)(o:aZ)(w:List Nat)(T:List (Nat×List Nat))(K:AF→St→Prop)(a:AF)(S:St)(args:List AV):AV→Prop
 | .aP f first cap=>aN P f (first++args++cap) S fun r S'=>xQ w S.g S'.g T∧jL P base l ((i,[])::T) K (a.put o.dst r) S'
 | _=>False
section
variable{P:Program}{Q:Exit→AF→St→Prop}{a:AF}{S:St}{K:AF→St→Prop}{base i:Nat}{l:List l6}{d:Option Nat}{op:jJ}{T:List (Nat×List Nat)}{w:List Nat}
private theorem Znw:AW P (.xk l) Q a S=jL P S.n l [] (nK Q) a ⟨S.n+l.length,S.g⟩:=rfl
theorem Zq0:AW P (.xk l) Q a S=jL P S.n l [] (nK Q) a ⟨S.n+l.length,S.g⟩:=by rw[Znw]
theorem Zq8:jL P base [] T (nK Q) a S=Q .normal a S:=by simp only[jL,nK]
theorem XC:jL P base ((i,⟨d,op,none,none⟩,w)::l) T K a S=TJ P base l i d op T K a S ((ex op a).run S (base+i)):=by
 simp only[jL,lC,gd,TJ];cases(ex op a).run S (base+i)<;>rfl
theorem WV(v:AV)(S':St):TJ P base l i d op T K a S (some (v,S'))=jL P base l ((i,Fq ⟨d,op,none,none⟩ a)::T) K (a.put d v) S':=by simp only[TJ]
theorem Zhv(G:aI)(xs:List aI):jL P base ((i,⟨d,op,none,some (G,xs)⟩,w)::l) T K a S=Yd P base l i ⟨d,op,none,some (G,xs)⟩ w T K a S (xs.map (·.ev a)) (G.ev a):=by
 have hF:Fq ⟨d,op,none,some (G,xs)⟩ a=[]:=by unfold Fq;rw[if_neg (by simp[vZ])]
 simp only[jL,lC,gd,hF];cases G.ev a<;>rfl
theorem Zf2(f:FuncId)(first cap args:List AV)(o:aZ):Yd P base l i o w T K a S args (.aP f first cap)=aN P f (first++args++cap) S (fun r S'=>xQ w S.g S'.g T∧jL P base l ((i,[])::T) K (a.put o.dst r) S'):=by simp only[Yd]
theorem Zq4(k:Option Nat)(p:aI)(id ix c:Nat)(h:p.ev a=.ptr id ix c):Fq ⟨d,.load k p,none,none⟩ a=[id]:=by
 unfold Fq;rw[if_pos (by simp[vZ,Nw,RP])];simp[gd,ex,h,bX,Eff.rd]
end
end Go.Rf
namespace Go.Rf
def Z90:AC:= (sq [ro 2 (.box 3 (.t 0)),ro 4 (.mv (.c (.v (.bool false))))] (sq [rF 7 1 2,rL 8 7,ro 9 (.len (.t 8)),rF 10 2 2,rL 11 10,ro 12 (.len (.t 11)),ro 13 (.bin .add (.t 9) (.t 12)),rm 5 13] (.seq (sq [ro 6 (.mv (ci 0))] (.block 0 (.loop (.seq (sq [rm 14 6,rF 15 1 2,rL 16 15,ro 17 (.len (.t 16)),ro 18 (.bin .lss (.t 14) (.t 17)),rm 19 18,rg 20 19 true (.mv (.t 5)),rg 21 19 true (.mv (.t 1)),rg 22 19 true (.bin .leq (.t 20) (.t 21)),ro 23 (.pick (.t 19) (.t 22) (.c (.v (.bool false))))] (.cond (.t 23) .skip (.exit 0))) (.seq (.block 1 (.reg none [rm 26 5,rF 27 1 2,rL 28 27,rm 29 6,ro 30 (.aM 1 (.t 28) (.t 29)),rL 31 30,ro 32 (.len (.t 31)),ro 33 (.bin .add (.t 26) (.t 32)),rm 5 33])) (.reg none [rm 24 6,ro 25 (.bin .add (.t 24) (ci 1)),rm 6 25])))))) (sq [rm 34 5,rm 35 1,ro 36 (.bin .gtr (.t 34) (.t 35)),rm 4 36] .ret))))
structure Gr where
 next:List (List Int)
 fin:List Bool
def Gr.n(g:Gr):Nat:=g.next.length
def Gr.edge(g:Gr)(s t:Nat):Prop:=∃row,g.next[s]? = some row∧(t:Int)∈row
structure ZvH(g:Gr):Prop where
 fin:g.fin.length=g.next.length
 n:g.next.length≤9000
 rows:∀r∈g.next,r.length≤400
 at_:∀r∈g.next,∀t∈r,t = -1∨(0≤t∧t < g.next.length)
def rd(l:List Int)(s:Nat):Int:=l.getD s (-1)
end Go.Rf
namespace Go.Rf
open Go.RowKit
def yT(a b:aC)(i k:Nat):Prop:=∀l,Vl a l→dG a (runT a i l)=dG b (runT b k l)
theorem yT.step{a b:aC}{i k:Nat}(h:yT a b i k){s:Int}(h0:0≤s)(hs:s < a.signs):yT a b (bK a i s) (bK b k s):=fun l hl=>by
 have:=h (s::l) (fun x hx=>by
  rcases List.mem_cons.mp hx with rfl | hx
  ·exact⟨h0,hs⟩
  ·exact hl x hx)
 exact this
theorem yT.eqv{a b:aC}{i k i' k':Nat}(hs:a.signs=b.signs)(h:yT a b i k)(h':yT a b i' k'):oZ a i i'↔oZ b k k':=by
 constructor
 ·intro he l hl
  have hl':Vl a l:=fun x hx=>by rw[hs];exact hl x hx
  rw[←h l hl',←h' l hl'];exact he l hl'
 ·intro he l hl
  have hl':Vl b l:=fun x hx=>by rw[←hs];exact hl x hx
  rw[h l hl,h' l hl];exact he l hl'
theorem Zfr:∀{xs ys:List Int} {x y:Int},xs.length=ys.length→(∀j (h1:j < xs.length) (h2:j < ys.length),xs[j]=x↔ys[j]=y)→(x∈xs↔y∈ys)∧xs.idxOf x=ys.idxOf y
 | [],[],_,_,_,_=>by simp
 | [],_::_,_,_,h,_=>by simp at h
 | _::_,[],_,_,h,_=>by simp at h
 | p::xs,q::ys,x,y,hl,h=>by
  obtain⟨i1,i2⟩:=Zfr (xs:=xs) (ys:=ys) (x:=x) (y:=y) (by simpa using hl) (fun j h1 h2=>by
   have:=h (j+1) (by simpa using h1) (by simpa using h2);simpa using this)
  have h0:=h 0 (by simp) (by simp);simp only[List.getElem_cons_zero] at h0;constructor
  ·simp only[List.mem_cons,i1]
   exact⟨fun e=>e.elim (fun e=>.inl (h0.mp e.symm).symm) .inr,fun e=>e.elim (fun e=>.inl (h0.mpr e.symm).symm) .inr⟩
  ·rw[List.idxOf_cons,List.idxOf_cons,i2]
   by_cases e:p=x
   ·have e2:=h0.mp e
    rw[beq_iff_eq.mpr e,beq_iff_eq.mpr e2]
   ·have e2:¬q=y:=fun e2=>e (h0.mpr e2)
    rw[beq_eq_false_iff_ne.mpr e,beq_eq_false_iff_ne.mpr e2]
structure Lu(a b:aC)(L M:List Nat):Prop where
 len:L.length=M.length
 at_:∀j (h1:j < L.length) (h2:j < M.length),L[j] < a.next.length∧M[j] < b.next.length∧yT a b L[j] M[j]
theorem ZrK{a b:aC}(hs:a.signs=b.signs){ca cb:List Int}(Ca:BH a ca)(Cb:BH b cb){L M:List Nat}(h:Lu a b L M){t u:Nat}(ht:t < a.next.length)(hu:u < b.next.length)(he:yT a b t u) :
  (nE ca L t).2=(nE cb M u).2∧Lu a b (nE ca L t).1 (nE cb M u).1:=by
 obtain⟨i1,i2⟩:=Zfr (xs:=L.map (bR ca)) (ys:=M.map (bR cb)) (x:=bR ca t) (y:=bR cb u) (by simpa using h.len) (fun j h1 h2=>by
  simp only[List.length_map] at h1 h2;simp only[List.getElem_map];obtain⟨k1,k2,k3⟩:=h.at_ j h1 h2
  exact((Ca.eq _ _ k1 ht).trans (k3.eqv hs he)).trans (Cb.eq _ _ k2 hu).symm)
 unfold nE;by_cases hm:bR ca t∈L.map (bR ca)
 ·rw[if_pos hm,if_pos (i1.mp hm)]
  exact⟨i2,h⟩
 ·rw[if_neg hm,if_neg (fun e=>hm (i1.mpr e))]
  refine⟨h.len,by simp[h.len],fun j h1 h2=>?_⟩;by_cases hj:j < L.length
  ·have hj2:j < M.length:=by rw[←h.len];exact hj
   rw[List.getElem_append_left hj,List.getElem_append_left hj2];exact h.at_ j hj hj2
  ·simp only[List.length_append,List.length_singleton] at h1 h2
   have hjL:j=L.length:=by omega
   subst hjL;have hl:=h.len;rw[List.getElem_append_right (by omega),List.getElem_append_right (by omega)];simp only[List.getElem_singleton];exact⟨ht,hu,he⟩
theorem ZmF{a b:aC}(hs:a.signs=b.signs){ca cb:List Int}(Ca:BH a ca)(Cb:BH b cb){L M:List Nat}(h:Lu a b L M){t u:Nat→Nat}:∀k:Nat,(∀s,s < k→t s < a.next.length∧u s < b.next.length∧yT a b (t s) (u s))→
  (kK ca t k L).2=(kK cb u k M).2∧Lu a b (kK ca t k L).1 (kK cb u k M).1
 | 0,_=>⟨rfl,h⟩
 | k+1,hk=>by
  obtain⟨i1,i2⟩:=ZmF hs Ca Cb h (t:=t) (u:=u) k (fun s hs=>hk s (by omega));obtain⟨h1,h2,h3⟩:=hk k (by omega);obtain⟨j1,j2⟩:=ZrK hs Ca Cb i2 h1 h2 h3;simp only[kK];exact⟨by rw[i1,j1],j2⟩
theorem ZpT{a b:aC}(Ra:dP a)(Rb:dP b)(hs:a.signs=b.signs){ca cb:List Int}(Ca:BH a ca)(Cb:BH b cb)(h0:yT a b 0 0):∀i,(jB a ca i).2=(jB b cb i).2∧Lu a b (jB a ca i).1 (jB b cb i).1
 | 0=>by
  refine⟨rfl,rfl,fun j h1 h2=>?_⟩;have hj:j=0:=by simp[jB] at h1;omega
  subst hj;exact⟨by have:=Ra.n1;simp[jB];omega,by have:=Rb.n1;simp[jB];omega,h0⟩
 | i+1=>by
  obtain⟨i1,i2⟩:=ZpT Ra Rb hs Ca Cb h0 i;have hl:=i2.len;simp only[jB,Kt];by_cases hi:i < (jB a ca i).1.length
  ·have hi2:i < (jB b cb i).1.length:=by omega
   rw[List.getElem?_eq_getElem hi,List.getElem?_eq_getElem hi2];simp only;obtain⟨k1,k2,k3⟩:=i2.at_ i hi hi2
   obtain⟨r1,r2⟩:=ZmF hs Ca Cb i2 (t:=fun s=>bK a ((jB a ca i).1[i]) s) (u:=fun s=>bK b ((jB b cb i).1[i]) s) a.signs.toNat (fun s hs2=>
    ⟨uR Ra k1 (by omega) (by omega),uR Rb k2 (by omega) (by omega),k3.step (by omega) (by omega)⟩)
   have hf:dG a ((jB a ca i).1[i])=dG b ((jB b cb i).1[i]):=k3 [] (fun s hs=>by simp at hs);have e1:(jB a ca i).2.1=(jB b cb i).2.1:=by rw[i1]
   have e2:(jB a ca i).2.2=(jB b cb i).2.2:=by rw[i1]
   rw[←hs];exact⟨by rw[r1,hf,e1,e2],r2⟩
  ·rw[List.getElem?_eq_none (by omega),List.getElem?_eq_none (by omega)]
   exact⟨i1,i2⟩
theorem Ztj{a b:aC}(Ra:dP a)(Rb:dP b)(hs:a.signs=b.signs)(h0:yT a b 0 0):kV a=kV b:=by
 have P:=ZpT Ra Rb hs (FB Ra) (FB Rb) h0;obtain⟨k,e1,e2,e3,_⟩:=Fy Ra;obtain⟨m,f1,f2,f3,_⟩:=Fy Rb
 have hkm:k=m:=by
  rcases Nat.lt_trichotomy k m with h | h | h
  ·have:=f3 k h
   have hl:=(P k).2.len;rw[←e1] at hl;omega
  ·exact h
  ·have:=e3 m h
   have hl:=(P m).2.len;rw[←f1] at hl;omega
 subst hkm;have:(lu a).2=(lu b).2:=by rw[e1,f1];exact(P k).1
 unfold kV;rw[hs,this]
theorem Zfu{d:aC}(R:dP d):yT (kV d) d 0 0:=by
 obtain⟨k,h1,h2,h3,o⟩:=Fy R;intro l hl;obtain⟨q',_,_,h⟩:=(LZ R).2.2 l 0 0 o.zero hl;exact h
theorem ZjE{d:aC}(R:dP d):kV (kV d)=kV d:=Ztj (LZ R).1 R rfl (Zfu R)
theorem Zow{d:aC}(R:dP d):(kV d).next.length≤d.next.length:=by
 obtain⟨k,h1,h2,h3,o⟩:=Fy R;rw[(LZ R).2.1];exact o.len
theorem Zf9{X:Type}{p q:X→Bool}:∀(l:List X),(∀x,p x=true→q x=true)→(∃x∈l,q x=true∧p x=false)→l.countP p < l.countP q
 | [],_,h=>by obtain⟨x,hx,_⟩:=h;simp at hx
 | y::l,h1,h2=>by
  have hle:l.countP p≤l.countP q:=List.countP_mono_left fun x _=>h1 x
  rw[List.countP_cons,List.countP_cons];obtain⟨x,hx,hq,hp⟩:=h2;rcases List.mem_cons.mp hx with rfl | hx
  ·rw[hq,hp];simp;omega
  ·have:=Zf9 l h1 ⟨x,hx,hq,hp⟩
   cases hpy:p y with
   | true=>rw[h1 y hpy];simp;omega
   | false=>cases q y<;>simp<;>omega
abbrev Mx:=Nat→Nat→Bool
def GA(n:Nat)(M:Mx):Nat:=(List.range (n*n)).countP fun p=>!M (p / n) (p % n)
def wF(M:Mx)(i k:Nat):Mx:=fun a b=>if (a=i∧b=k)∨(a=k∧b=i) then true else M a b
theorem ZqU{n:Nat}{M:Mx}{i k:Nat}(hi:i < n)(hk:k < n)(h:M i k=false):GA n (wF M i k) < GA n M:=by
 refine Zf9 _ (fun x hx=>?_) ⟨i*n+k,?_,?_,?_⟩
 ·simp only[wF,Bool.not_eq_true'] at hx ⊢
  split at hx
  ·cases hx
  ·exact hx
 ·rw[List.mem_range]
  have:(i+1)*n≤n*n:=Nat.mul_le_mul_right n hi;rw[Nat.add_mul] at this;omega
 ·have h1:(i*n+k) / n=i:=by rw[Nat.mul_comm,Nat.mul_add_div (by omega),Nat.div_eq_of_lt hk,Nat.add_zero]
  have h2:(i*n+k) % n=k:=by rw[Nat.mul_comm,Nat.mul_add_mod,Nat.mod_eq_of_lt hk]
  rw[h1,h2,h];rfl
 ·have h1:(i*n+k) / n=i:=by rw[Nat.mul_comm,Nat.mul_add_div (by omega),Nat.div_eq_of_lt hk,Nat.add_zero]
  have h2:(i*n+k) % n=k:=by rw[Nat.mul_comm,Nat.mul_add_mod,Nat.mod_eq_of_lt hk]
  rw[h1,h2];simp[wF]
structure zQ(d:aC)(M:Mx):Prop where
 sym:∀i k,M i k=M k i
 irr:∀i,M i i=false
 snd:∀i k,i < d.next.length→k < d.next.length→M i k=true→¬oZ d i k
 base:∀i k,dG d i≠dG d k→M i k=true
def Ia(d:aC)(M:Mx)(i k:Nat):Prop:=M i k=false→∀s:Nat,(s:Int) < d.signs→M (bK d i s) (bK d k s)=false
def oW(d:aC):Mx:=fun i k=>decide (dG d i≠dG d k)
theorem Zts(d:aC):zQ d (oW d):=by
 refine⟨fun i k=>?_,fun i=>by simp[oW],fun i k _ _ h he=>?_,fun i k h=>by simp[oW,h]⟩
 ·simp only[oW];congr 1;exact propext ⟨fun h e=>h e.symm,fun h e=>h e.symm⟩
 ·have:=he [] (fun s hs=>by simp at hs)
  simp only[runT,List.foldl_nil] at this;simp[oW,this] at h
theorem zQ.upd{d:aC}{M:Mx}(h:zQ d M){i k:Nat}(hik:i≠k){s:Nat}(hs:(s:Int) < d.signs)(hv:i < d.next.length→k < d.next.length→M (bK d i s) (bK d k s)=true∧bK d i s < d.next.length∧bK d k s < d.next.length):zQ d (wF M i k):=by
 refine⟨fun a b=>?_,fun a=>?_,fun a b ha hb hm he=>?_,fun a b hne=>?_⟩
 ·simp only[wF,h.sym a b]
  congr 1;exact propext ⟨fun h=>h.elim (fun h=>.inr ⟨h.2,h.1⟩) (fun h=>.inl ⟨h.2,h.1⟩),fun h=>h.elim (fun h=>.inr ⟨h.2,h.1⟩) (fun h=>.inl ⟨h.2,h.1⟩)⟩
 ·have:¬((a=i∧a=k)∨(a=k∧a=i)):=by omega
  simp only[wF,if_neg this,h.irr]
 ·simp only[wF] at hm
  split at hm
  ·rename_i hc
   have he':oZ d i k:=by
    rcases hc with⟨rfl,rfl⟩ | ⟨rfl,rfl⟩
    ·exact he
    ·exact he.symm
   have aa6:i < d.next.length∧k < d.next.length:=by omega
   obtain⟨h1,h2,h3⟩:=hv aa6.1 aa6.2;exact h.snd _ _ h2 h3 h1 (Zi3 he' (Int.natCast_nonneg s) hs)
  ·exact h.snd a b ha hb hm he
 ·simp only[wF]
  split
  ·rfl
  ·exact h.base a b hne
theorem Zlf{d:aC}{M:Mx}(R:dP d)(h:zQ d M)(hc:∀i k,i < d.next.length→k < i→Ia d M i k):∀(l:List Int) (i k:Nat),i < d.next.length→k < d.next.length→Vl d l→M i k=false→dG d (runT d i l)=dG d (runT d k l)
 | [],i,k,hi,hk,_,hm=>by
  simp only[runT,List.foldl_nil];cases hd:decide (dG d i=dG d k) with
  | true=>exact of_decide_eq_true hd
  | false=>rw[h.base i k (of_decide_eq_false hd)] at hm;cases hm
 | s::l,i,k,hi,hk,hv,hm=>by
  have hs:=hv s (by simp);have hv2:Vl d l:=fun x hx=>hv x (by simp[hx])
  have e:∀q,runT d q (s::l)=runT d (bK d q s) l:=fun q=>rfl
  rw[e,e];have hsn:((s.toNat:Nat):Int)=s:=by omega
  refine Zlf R h hc l _ _ (uR R hi hs.1 hs.2) (uR R hk hs.1 hs.2) hv2 ?_;rcases Nat.lt_trichotomy k i with hki | hki | hki
  ·have:=hc i k hi hki hm s.toNat (by omega)
   rwa[hsn] at this
  ·subst hki;exact h.irr _
  ·have:=hc k i hk hki (by rw[h.sym];exact hm) s.toNat (by omega)
   rw[hsn] at this;rw[h.sym];exact this
theorem ZqI{d:aC}{M:Mx}(R:dP d)(h:zQ d M)(hc:∀i k,i < d.next.length→k < i→Ia d M i k){c:List Int}(C:BH d c){i k:Nat}(hi:i < d.next.length)(hk:k < d.next.length):M i k=decide (c.getD i 0≠c.getD k 0):=by
 cases hm:M i k with
 | true=>
  have:=h.snd i k hi hk hm;exact(decide_eq_true (p:=c.getD i 0≠c.getD k 0) fun e=>this ((C.eq i k hi hk).mp e)).symm
 | false=>
  have:oZ d i k:=fun l hv=>Zlf R h hc l i k hi hk hv hm
  have:=(C.eq i k hi hk).mpr this;exact(decide_eq_false (p:=c.getD i 0≠c.getD k 0) fun hn=>hn this).symm
end Go.Rf
namespace Go.Rf
attribute [local simp] mh lW l7 mP mQ mU mR l9 mX mO mJ eG iB iU iy iR iN iM iT iO gG iP fH iF iQ iE eT eU gD ig je jf gZ jk fU fQ fE eO gV gW gX gP gQ jg iV iH jc iX iZ iY jd jh iK iq gT gU gM iw dO eP gI iL ji ex aH fF dF eY cK dn aL bT fJ gH eZ gN iD iC iW iJ bS dN dV fZ fV gY fu bD bX dL eH dz gu fC gB gq gy fM dA eX eB d9 bB AV.solid S0 ah aD
def Zjg:AC:= (.block 0 (.loop (.seq (sq [rm 6 5,rm 7 0,ro 8 (.len (.t 7)),ro 9 (.bin .lss (.t 6) (.t 8)),rm 10 9,rg 11 10 true (.mv (.t 0)),rg 12 10 true (.mv (.t 5)),rg 13 10 true (.aM 1 (.t 11) (.t 12)),rg 14 10 true (.load none (.t 13)),rg 15 10 true (.mv (.t 1)),rg 16 10 true (.bin .lss (.t 14) (.t 15)),ro 17 (.pick (.t 10) (.t 16) (.c (.v (.bool false))))] (.cond (.t 17) .skip (.exit 0))) (.block 1 (.reg none [rm 18 5,ro 19 (.bin .add (.t 18) (ci 1)),rm 5 19])))))
def Zjh:AC:= (.seq (.reg (some [[],[],[],[],[],[true],[false,true],[],[true,false,false,true],[false,true,false,false,true],[false,false,true,false,false,true]]) [ro 33 (.dH 1 0 (.v (.int .i64 0)) []),rm 34 0,rm 35 5,ro 36 (.slc 1 (.t 34) none (some (.t 35))),ro 37 (.app 1 8 (.t 33) (.t 36)),rm 38 1,ro 39 (.dH 1 1 (.v (.int .i64 0)) [(0,(.t 38))]),ro 40 (.app 1 8 (.t 37) (.t 39)),rm 41 0,rm 42 5,ro 43 (.slc 1 (.t 41) (some (.t 42)) none),ro 44 (.app 1 8 (.t 40) (.t 43)),rm 4 44]) .ret)
def Z7b:AC:= (sq [ro 4 (.mv (.c (.sl true [])))] (sq [ro 5 (.mv (ci 0))] (.seq Zjg (.seq (sq [rm 20 5,rm 21 0,ro 22 (.len (.t 21)),ro 23 (.bin .lss (.t 20) (.t 22)),rm 24 23,rg 25 24 true (.mv (.t 0)),rg 26 24 true (.mv (.t 5)),rg 27 24 true (.aM 1 (.t 25) (.t 26)),rg 28 24 true (.load none (.t 27)),rg 29 24 true (.mv (.t 1)),rg 30 24 true (.bin .eql (.t 28) (.t 29)),ro 31 (.pick (.t 24) (.t 30) (.c (.v (.bool false))))] (.cond (.t 31) (sq [rm 32 0,rm 4 32] .ret) .skip)) Zjh))))
structure Rg where
 low:Int
 high:Int
deriving DecidableEq
def Ey(r:Rg):AV:=.agg [ah r.low,ah r.high]
def Bz(l:List Rg):AV:=.sl false (l.map Ey)
theorem Zo1(r:Rg):aY (Ey r):=.agg _ (by
 intro y hy;simp only[List.mem_cons,List.not_mem_nil,or_false] at hy;rcases hy with rfl | rfl<;>exact aW _)
theorem xG(l:List Rg):aY (Bz l):=IU Zo1 l
def Az:List Int→Int→List Int
 | [],n=>[n]
 | x::l,n=>if x < n then x::Az l n else if x=n then x::l else n::x::l
def Iv(g:Nat→Option aB)(v:AV)(l:List Int):Prop:=(∃t,v=.sl t (l.map ah))∨Vec g v 1 (l.map ah)
theorem Iv.frame{g g':Nat→Option aB}{v:AV}{l:List Int}(h:Iv g v l)(hs:∀i∈v.ids,g' i=g i):Iv g' v l:=by
 rcases h with h | h
 ·exact .inl h
 ·exact .inr (h.frame hs)
theorem Iv.fz{g:Nat→Option aB}{v:AV}{l:List Int}(h:Iv g v l):Fz g v (aj l):=by
 rcases h with⟨t,rfl⟩ | h
 ·exact .loose t _ (IU aW l)
 ·exact h.fz aW
theorem Iv.only{g:Nat→Option aB}{v:AV}{l:List Int}(h:Iv g v l):Iv (only v.ids g) v l:=h.frame (fun i hi=>by rw[Ec,if_pos hi])
def LH:AC:= (sq [ro 4 (.mv (ci 0))] (.seq (sq [rm 6 0,ro 7 (.len (.t 6)),ro 8 (.mv (ci 0))] (.block 0 (.loop (sq [ro 9 (.bin .lss (.t 8) (.t 7))] (.seq (.cond (.t 9) .skip (.exit 0)) (.seq (.block 1 (sq [rm 10 8,rm 5 10] (sq [rm 11 1,rm 12 0,rm 13 5,ro 14 (.aM 1 (.t 12) (.t 13)),rL 15 14,⟨(some 16),.mv (.c .junk),none,(some ((.t 11),[(.t 15)]))⟩] (.cond (.t 16) (sq [rm 17 5,rm 4 17] .ret) .skip)))) (.reg none [ro 18 (.bin .add (.t 8) (ci 1)),rm 8 18]))))))) (sq [ro 4 (.mv (ci (-1)))] .ret)))
def Pw(P3T:FuncId):AC:= (sq [ro 4 (.mv (.c (.v (.bool false))))] (sq [rm 5 0,rm 6 1,rk 7 P3T [(.t 5),(.t 6)],ro 8 (.bin .geq (.t 7) (ci 0)),rm 4 8] .ret))
def su{X:Type}(p:X→Bool)(l:List X):Int:=if l.any p=true then (l.findIdx p:Int) else -1
def ZvU{X:Type}(enc:X→AV)(l:List X)(p:X→Bool)(g:FuncId)(cap:List AV)(m:Nat)(f:AF)(S:St):Prop:=
 ∃i:Nat,i≤l.length∧m=l.length - i∧f 8=ah i∧f 7=ah l.length∧f 0=.sl false (l.map enc)∧f 1=.aP g [] cap∧∀k (h:k < l.length),k < i→p l[k]=false
theorem Vi{P:Program}{X:Type}{enc:X→AV}{l:List X}{p:X→Bool}{g:FuncId}{cap:List AV}(hl:Len l)(he:∀x,(enc x).cells=[enc x])(hcl:∀x,aY (enc x))(hcap:∀y∈cap,aY y)
  (hp:∀x∈l,aJ P g (enc x::cap) (aD (p x))):AW P LH (dw [4] (dM (ah (su p l)))) (bF [.sl false (l.map enc),.aP g [] cap]) S0:=by
 unfold Len at hl;simp[LH];refine FP (ZvU enc l p g cap) l.length ?_ ?_
 ·refine⟨0,by omega,by omega,?_,?_,?_,?_,by omega⟩<;>simp[aH,cK,dn,ah]
 ·rintro m f S ⟨i,hi,rfl,e8,e7,e0,e1,hq⟩
  by_cases hlt:i < l.length
  ·simp[e8,e7,e0,e1,hlt,he]
   refine aN.pure (hp _ (List.getElem_mem hlt)) (aG (hcl _) hcap) (dY _) ?_;cases hb:p l[i] with
   | true=>
    have hi2:su p l=i:=by
     have h1:l.any p=true:=List.any_eq_true.mpr ⟨_,List.getElem_mem hlt,hb⟩;have h2:l.findIdx p=i:=(List.findIdx_eq hlt).mpr ⟨hb,fun j hj=>hq j (by omega) hj⟩;simp[su,h1,h2]
    simp[hi2];exact zh _ _
   | false=>
    simp[e8];rw[bE _ (by omega)];refine⟨l.length - (i+1),by omega,i+1,by omega,rfl,?_,?_,?_,?_,fun k h hk=>?_⟩
    ·simp[aH,ah]
    ·simp[aH,e7]
    ·simp[aH,e0]
    ·simp[aH,e1]
    ·by_cases hki:k=i
     ·subst hki;exact hb
     ·exact hq k h (by omega)
  ·have hi2:su p l = -1:=by
    have h1:l.any p=false:=by
     rw[List.any_eq_false];intro x hx;obtain⟨k,hk,rfl⟩:=List.mem_iff_getElem.mp hx;rw[hq k hk (by omega)];simp
    simp[su,h1]
   simp[e8,e7,hlt,hi2];exact zh _ _
theorem Zc8{X:Type}(p:X→Bool)(l:List X):decide (0≤su p l)=l.any p:=by
 unfold su;cases h:l.any p with
 | true=>simp
 | false=>simp
theorem Z5H{P:Program}{X:Type}{enc:X→AV}{l:List X}{p:X→Bool}{g:FuncId}{cap:List AV}(hcl:∀x,aY (enc x))(hcap:∀y∈cap,aY y){fi:FuncId}
  (hf:aJ P fi [.sl false (l.map enc),.aP g [] cap] (ah (su p l))):AW P (Pw fi) (dw [4] (dM (aD (l.any p)))) (bF [.sl false (l.map enc),.aP g [] cap]) S0:=by
 simp[Pw];refine aN.pure hf (aG (IU hcl l) (aG (.aP _ _ _ aQ hcap) aQ)) (aW _) ?_;simp;rw[←Zc8 p l];exact bO _ _
end Go.Rf
namespace Go.Rf
open Go.RowKit
attribute [local simp] mh lW l7 mP mQ mU mR l9 mX mO mJ eG iB iU iy iR iN iM iT iO gG iP fH iF iQ iE eT eU gD ig je jf gZ jk fU fQ fE eO gV gW gX gP gQ jg iV iH jc iX iZ iY jd jh iK iq gT gU gM iw dO eP gI iL ji ex aH fF dF eY cK dn aL bT fJ gH eZ gN iD iC iW iJ bS dN dV fZ fV gY fu bD bX dL eH dz gu fC gB gq gy fM dA eX eB d9 bB AV.solid S0 ah aD
theorem aN.bump{P:Program}{f:FuncId}{args:List AV}{S:St}{K:AV→St→Prop}(h:aN P f args S fun r S'=>∃m,K r ⟨S'.n+m,S'.g⟩):aN P f args S K:=by
 refine⟨h.1,fun E w vals hG hS hv=>(h.2 E w vals hG hS hv).mono ?_⟩;rintro e w' ⟨v,r,S',E',rfl,⟨m,hk⟩,hS',hr,hev⟩;refine⟨v,r,⟨S'.n+m,S'.g⟩,E',rfl,hk,hS'.reserve m,hr,?_⟩;exact⟨⟨hev.bU.os,hev.bU.tape,hev.bU.output,hev.bU.size,hev.bU.keep,fun id l k hk hl=>hev.bU.grow id l k hk hl,hev.bU.le,hev.bU.hsub⟩,Nat.le_trans hev.jW (Nat.le_add_right _ _),hev.low⟩
def Fw(es au:Nat)(z:AV):AC:= (sq [ro 2 (.mv (.c (.sl true [])))] (.seq (sq [rm 3 0,ro 4 (.EL true false (.t 3))] (.cond (.t 4) (sq [ro 2 (.mv (.c (.sl true [])))] .ret) .skip)) (sq [ro 5 (.dH es 0 z []),rm 6 0,ro 7 (.app es au (.t 5) (.t 6)),rm 2 7] .ret)))
def q8(es au:Nat)(z:AV):AC:= (sq [ro 2 (.mv (.c (.sl true [])))] (sq [rm 3 0,ro 4 (.mv (.c (.v (.bool false))))] (sq [ro 5 (.dH es 0 z []),rm 6 0,ro 7 (.app es au (.t 5) (.t 6)),rm 2 7] .ret)))
theorem Qw{P:Program}{base:Nat}{os:List aZ}{i:Nat}{K:AF→St→Prop}{a:AF}{d:Option Nat}{op:jJ}{S:St}:Ky P base os i K a d op S none=sD op a fun v=>RG P base os (i+1) K (a.put d v) S:=by simp only[Ky]
theorem ZgU(neg t:Bool)(x:AV)(xs:List AV):sQ true neg (.sl t (x::xs))=some (.v (.bool neg)):=by simp only[sQ]
theorem Zjw(neg t:Bool):sQ true neg (.sl t [])=none:=by simp only[sQ]
theorem Zjx(neg:Bool)(id off n:Nat):sQ true neg (.own id off (n+1))=some (.v (.bool neg)):=by simp only[sQ]
theorem ZgV(neg:Bool)(id off:Nat):sQ true neg (.own id off 0)=none:=by simp only[sQ]
theorem Zmf{es id off:Nat}{bs:List aB}{ys:List AV}(h:lD es bs (.own id off 0)=some ys):ys=[]:=by
 simp only[lD] at h;split at h
 ·split at h
  ·simp at h;exact h
  ·cases h
 ·cases h
theorem VG(es:Nat)(z:AV):dN es 0 z []=some (.sl true []):=by simp[dN,dV]
theorem Zhp{P:Program}(hm:P.follows .mixedOrders=true){f:FuncId}{es au:Nat}{z:AV}(h:Is P f (Fw es au z) [2] 1):xw P f (q8 es au z) [.t 2] 1:=by
 intro args S K hn hb
 obtain⟨x,rfl⟩:∃x,args=[x]:=by
  match args,hn with
  | [x],_=>exact⟨x,rfl⟩
 refine aN.bump (h.xD hm rfl ?_)
 have hb1:AW P (q8 es au z) (dw [2] fun r S'=>∃m,K r ⟨S'.n+m,S'.g⟩) (bF [x]) S:=by
  refine Cu _ (fun e a S' h=>?_) hb;cases e<;>simp only[bL,dw] at h ⊢
  all_goals
   obtain⟨xs,h1,h2⟩:=h;simp[bP,RV.ev] at h1;subst h1;simp only[fH];exact⟨0,h2⟩
 have key:∀y:AV,(∀n aA v S',(kP es au (.sl true []) y).run ⟨n,S.g⟩ aA=some (v,S')→v=.sl true []∧S'=⟨n,S.g⟩)→AW P (q8 es au z) (bL [.t 2] K) (bF [y]) S→∃m,K (.sl true []) ⟨S.n+4+m,S.g⟩:=by
  intro y hy h;simp[q8] at h;generalize hq:(kP es au (.sl true []) y).run _ _=q at h;cases q with
  | none=>simp[Qw,sD] at h
  | some p=>
   obtain⟨v,S'⟩:=p;obtain⟨rfl,rfl⟩:=hy _ _ _ _ hq;simp at h;obtain⟨xs,h1,h2⟩:=h;simp[bP,RV.ev,aH] at h1;subst h1;exact⟨3,by simpa[bV,Nat.add_assoc] using h2⟩
 clear hn;cases x with
 | sl t ys=>
  cases ys with
  | nil=>
   obtain⟨m,hk⟩:=key (.sl t []) (fun n aA v S' h=>by
    by_cases ha:bY au 0 0<;>simp[kP,lD,AV.ku,Eff.run,St.dX,St.fP,ha] at h;exact⟨h.1.symm,h.2.symm⟩) hb
   simp[q8] at hb1;simp[Fw,Zjw,Qw,sD,Qq];exact⟨hb1,m,hk⟩
  | cons y ys=>
   simp[q8] at hb1;simp[Fw,ZgU];exact hb1
 | own id off len=>
  cases len with
  | zero=>
   obtain⟨m,hk⟩:=key (.own id off 0) (fun n aA v S' h=>by
    simp only[kP,Eff.run] at h;split at h
    ·cases h
    ·rename_i bs hbs
     cases hl:lD es bs (.own id off 0) with
     | none=>rw[hl] at h;simp at h
     | some ys=>
      rw[hl] at h;have h0:ys=[]:=Zmf hl;subst h0;by_cases ha:bY au 0 0<;>simp[AV.ku,St.dX,St.fP,ha] at h;exact⟨h.1.symm,h.2.symm⟩) hb
   simp[q8] at hb1;simp[Fw,ZgV,Qw,sD,Qq];exact⟨hb1,m,hk⟩
  | succ m=>
   simp[q8] at hb1;simp[Fw,Zjx];exact hb1
 | _=>
  exfalso;simp[q8] at hb1;simp[kP,lD,AV.ku,Eff.run,Qw,sD] at hb1
end Go.Rf
namespace Go.Rf
attribute [local simp] mh lW l7 mP mQ mU mR l9 mX mO mJ eG iB iU iy iR iN iM iT iO gG iP fH iF iQ iE eT eU gD ig je jf gZ jk fU fQ fE eO gV gW gX gP gQ jg iV iH jc iX iZ iY jd jh iK iq gT gU gM iw dO eP gI iL ji ex aH fF dF eY cK dn aL bT fJ gH eZ gN iD iC iW iJ bS dN dV fZ fV gY fu bD bX dL eH dz gu fC gB gq gy fM dA eX eB d9 bB AV.solid S0 ah aD
def PD:AC:= (sq [ro 4 (.mv (.c (.v (.bool false))))] (.seq (sq [rm 6 0,ro 7 (.len (.t 6)),rm 8 1,ro 9 (.len (.t 8)),ro 10 (.bin .neq (.t 7) (.t 9))] (.cond (.t 10) (sq [ro 4 (.mv (.c (.v (.bool false))))] .ret) .skip)) (.seq (sq [ro 5 (.mv (ci 0))] (.block 0 (.loop (.seq (sq [rm 11 5,rm 12 0,ro 13 (.len (.t 12)),ro 14 (.bin .lss (.t 11) (.t 13))] (.cond (.t 14) .skip (.exit 0))) (.seq (.block 1 (.seq (.reg (some []) [rm 17 0,rm 18 5,ro 19 (.aM 1 (.t 17) (.t 18)),rL 20 19,rm 21 1,rm 22 5,ro 23 (.aM 1 (.t 21) (.t 22)),rL 24 23,ro 25 (.bin .neq (.t 20) (.t 24))]) (.cond (.t 25) (sq [ro 4 (.mv (.c (.v (.bool false))))] .ret) .skip))) (.reg none [rm 15 5,ro 16 (.bin .add (.t 15) (ci 1)),rm 5 16])))))) (sq [ro 4 (.mv (.c (.v (.bool true))))] .ret))))
def Zv7(a b:List Int)(m:Nat)(f:AF)(S:St):Prop:=
 ∃i:Nat,i≤a.length∧m=a.length - i∧f 5=ah i∧f 0=aj a∧f 1=aj b∧a.length=b.length∧a.take i=b.take i
theorem Z8f(P:Program)(a b:List Int)(ha:Len a)(hb:Len b):AW P PD (dw [4] (dM (aD (a == b)))) (bF [aj a,aj b]) S0:=by
 unfold Len at ha hb;by_cases hl:a.length=b.length
 ·simp[PD,aj,hl]
  refine FP (Zv7 a b) a.length ?_ ?_
  ·refine⟨0,by omega,by omega,?_,?_,?_,hl,?_⟩<;>simp[aH,cK,dn,ah,aj]
  ·rintro m f S ⟨i,hi,rfl,e5,e0,e1,_,hp⟩
   by_cases hlt:i < a.length
   ·have hlb:i < b.length:=by omega
    by_cases he:a[i]=b[i]
    ·simp[e5,e0,e1,aj,hlt,hlb,he]
     rw[bE _ (by omega)];refine⟨a.length - (i+1),by omega,i+1,by omega,rfl,?_,?_,?_,hl,?_⟩<;>try simp[aH,e0,e1,ah,aj]
     rw[List.take_add_one,List.take_add_one,hp,List.getElem?_eq_getElem hlt,List.getElem?_eq_getElem hlb,he]
    ·have hr:(a == b)=false:=beq_false_of_ne (by rintro rfl;exact he rfl)
     have hc:(a[i] != b[i])=true:=by simp[he]
     simp[e5,e0,e1,aj,hlt,hlb,hc,hr];exact bO false _
   ·have hab:a=b:=by
     rw[List.take_of_length_le (by omega),List.take_of_length_le (by omega)] at hp;exact hp
    have hr:(a == b)=true:=by simp[hab]
    simp[e5,e0,aj,hlt,hr];exact bO true _
 ·have hr:(a == b)=false:=beq_false_of_ne (by rintro rfl;exact hl rfl)
  have hc:((a.length:Int) != b.length)=true:=by simp;omega
  simp[PD,aj,hc,hr];exact bO false _
end Go.Rf
namespace Go.Rf
open Go.RowKit
attribute [local simp] mh lW l7 mP mQ mU mR l9 mX mO mJ eG iB iU iy iR iN iM iT iO gG iP fH iF iQ iE eT eU gD ig je jf gZ jk fU fQ fE eO gV gW gX gP gQ jg iV iH jc iX iZ iY jd jh iK iq gT gU gM iw dO eP gI iL ji ex aH fF dF eY cK dn aL bT fJ gH eZ gN iD iC iW iJ bS dN dV fZ fV gY fu bD bX dL eH dz gu fC gB gq gy fM dA eX eB d9 bB AV.solid S0 ah aD
def Vr(yS yP zS:FuncId):AC:= (.loop (sq [ro 9 (.bin .lss (.t 8) (.t 7))] (.seq (.cond (.t 9) .skip (.exit 0)) (.seq (.block 1 (sq [ro 10 (.aM 1 (.t 6) (.t 8)),rL 11 10,rm 5 11] (sq [rm 12 5,rk 13 yS [(.t 12)],rk 14 yP [(.t 3),(.t 13)]] (.reg none [rk 15 zS [(.t 3),(.c (.v (.int .u8 32)))]])))) (.reg none [ro 16 (.bin .add (.t 8) (ci 1)),rm 8 16])))))
def Z8n(yS yP zS EW:FuncId):AC:= (.seq (sq [rm 6 0,ro 7 (.len (.t 6)),ro 8 (.mv (ci 0))] (.block 0 (Vr yS yP zS))) (sq [rk 17 EW [(.t 3)],rm 2 17] .ret))
def ZcW(yS yP zS EW:FuncId):AC:= (sq [ro 2 (.mv (.c (.v (.string ⟨#[]⟩))))] (sq [ro 3 (.alloc (.agg [(.v (.pointer none)),(.sl true [])]) 2)] (Z8n yS yP zS EW)))
def jY(l:List Int):List UInt8:=l.flatMap fun n=>Lib.itoa n++[32]
def Br(P:Program)(f:FuncId)(T:TypeId):Prop:=((P.funcs[f]?).bind (·.body)).bind FY=some T
theorem ZjX{l:List Int}{j:Nat}(h:j < l.length):jY (l.take (j+1))=jY (l.take j)++(Lib.itoa l[j]++[32]):=by
 have:=List.take_succ_eq_append_getElem h;unfold jY;rw[this,List.flatMap_append];simp only[List.flatMap_cons,List.flatMap_nil,List.append_nil]
theorem Zp8(l:List Int)(j:Nat):(jY (l.take j)).length≤(jY l).length:=by
 have e:jY l=jY (l.take j)++jY (l.drop j):=by
  unfold jY;rw[←List.flatMap_append,List.take_append_drop]
 rw[e,List.length_append];omega
structure U9(T e B:Nat)(w0:World)(l:List Int)(m:Nat)(a:AF)(w:World)(j:Nat):Prop where
 hj:j≤l.length
 hm:m=l.length - j
 e3:a 3=.ptr 0 0 0
 e6:a 6=aj l
 e7:a 7=ah l.length
 e8:a 8=ah j
 bl:wK T e B B w0 (jY (l.take j)) w
 ok:True
def ZuC(T e B:Nat)(w0:World)(H:Nat→Option (Array Value))(l:List Int)(m:Nat)(a:AF)(w:World):Prop:=kR H w∧∃j,U9 T e B w0 l m a w j
theorem Zb6{P:Program}{fi fw fb fs:FuncId}{T e:TypeId}{good:Int→Prop}(k:BG P fw fb fs T e)(hi:Dr P fi good){l:List Int}(hg:∀n∈l,good n)(hl:(jY l).length≤140737488355328)(hlen:l.length < 4611686018427387904)
  {E:Env} {B:Nat} {w0:World} (hE:BE E B B) (zJ:jO P E.H) {Q:Exit→AF→World→Prop} (hQ:∀a w,U9 T e B w0 l 0 a w l.length→kR E.H w→Q (.exit 0) a w) {a:AF} {w:World} (h:U9 T e B w0 l l.length a w 0) (hH:kR E.H w) :
  lH P E (Vr fi fw fb) Q a w:=by
 unfold Vr;unfold lH;refine⟨ZuC T e B w0 E.H l,⟨l.length,hH,0,h⟩,?_⟩;rintro m a w ⟨hH,j,hI⟩;by_cases hj:j < l.length
 ·have h1:(j:Int) < l.length:=by omega
  have hget:(l.map ah)[j]? = some (ah l[j]):=by simp[hj]
  have hw:IntKind.i64.wrap ((j:Int)+1)=j+1:=bE _ (by omega);have ht:=ZjX hj;have hle:=Zp8 l (j+1);rw[ht] at hle;simp only[List.length_append,List.length_cons,List.length_nil] at hle;simp[lH,WG,zi,Eb,Ar,Eff.qY,hI.e3,hI.e6,hI.e7,hI.e8,aj,h1,hget];refine uz.itoa hi hE hI.bl (hg _ (List.getElem_mem hj)) zJ hH fun w9 b9 NP=>?_
  refine uz.str k hE b9 NP (by omega) fun w1 b1 hH1=>?_
  refine uz.byte k hE b1 hH1 (by rw[List.length_append];omega) (fun w2 b2 hH2=>?_) (c:=32) rfl;refine⟨l.length - (j+1),by have:=hI.hm;omega,hH2,j+1,⟨by omega,rfl,?_,?_,?_,?_,?_,trivial⟩⟩
  ·simp[AF.put,bG,hI.e3]
  ·simp[AF.put,bG,hI.e6]
  ·simp[AF.put,bG,hI.e7]
  ·simp[AF.put,bG,hw,ah]
  ·rw[ht,←List.append_assoc];exact b2
 ·have hj2:j=l.length:=by have:=hI.hj;omega
  subst hj2;have h1:¬((l.length:Int) < l.length):=by omega
  simp[lH,WG,zi,Ar,Eff.qY,hI.e7,hI.e8,h1];refine hQ _ _ ⟨Nat.le_refl _,by omega,?_,?_,?_,?_,hI.bl,trivial⟩ hH
  ·simp[AF.put,bG,hI.e3]
  ·simp[AF.put,bG,hI.e6]
  ·simp[AF.put,bG,hI.e7]
  ·simp[AF.put,bG,hI.e8]
theorem ZdY{P:Program}(hm:P.follows .mixedOrders=true){f fi fw fb fs:FuncId}{T e:TypeId}{good:Int→Prop}(h:Is P f (ZcW fi fw fb fs) [2] 1)(hT:Br P f T)(k:BG P fw fb fs T e)(hi:Dr P fi good){l:List Int}
  (hg:∀n∈l,good n) (hl:(jY l).length≤140737488355328) (hlen:l.length < 4611686018427387904):aJ P f [aj l] (.v (.string ⟨(jY l).toArray⟩)):=by
 obtain⟨fn,c,hf,hnm,hb,hc,hr,hn⟩:=h
 have hT':FY c=some T:=by
  unfold Br at hT;rw[hf] at hT;simpa[hb] using hT
 refine aJ.P64 (T:=T) (e:=e) (args:=[aj l]) hf hnm hb hc hT' hr hn rfl (fun Q E w=>?_) (fun E B w w0 hE zJ hH hB=>?_)
 ·simp[lH,WG,Ar,Eff.qY,List.foldl]
 ·unfold Z8n
  simp[lH,WG,zi,Ar,Eff.qY,List.foldl,aj];refine Zb6 k hi hg hl hlen (w0:=w0) hE zJ (fun a w' hI YW=>?_) ⟨Nat.zero_le _,by omega,?_,?_,?_,?_,?_,trivial⟩ hH
  ·simp[zi,Eb,hI.e3]
   have hbl:=hI.bl;rw[List.take_length] at hbl;refine uz.string k hE hbl YW fun w2 h2=>?_
   simp[sj,h2]
  ·simp[AF.put,bG]
  ·simp[AF.put,bG,aj]
  ·simp[AF.put,bG,ah]
  ·simp[AF.put,bG,ah]
  ·simpa[jY] using hB
end Go.Rf
namespace Go.Rf
attribute [local simp] mh lW l7 mP mQ mU mR l9 mX mO mJ eG iB iU iy iR iN iM iT iO gG iP fH iF iQ iE eT eU gD ig je jf gZ jk fU fQ fE eO gV gW gX gP gQ jg iV iH jc iX iZ iY jd jh iK iq gT gU gM iw dO eP gI iL ji ex aH fF dF eY cK dn aL bT fJ gH eZ gN iD iC iW iJ bS dN dV fZ fV gY fu bD bX dL eH dz gu fC gB gq gy fM dA eX eB d9 bB AV.solid S0 ah aD
def PO:AC:= (sq [ro 2 (.mv (.c (.v (.bool false))))] (sq [rm 3 0,ro 4 (.bin .lss (.t 3) (ci 0)),rm 5 4,rg 6 5 false (.mv (.t 0)),rg 7 5 false (.bin .gtr (.t 6) (ci 1048576)),ro 8 (.pick (.t 5) (.c (.v (.bool true))) (.t 7)),rm 2 8] .ret))
def Z93:AC:= (sq [ro 4 (.mv (.c (.sl true [])))] (.seq (sq [rm 8 1,ro 9 (.bin .lss (.t 8) (ci 1)),rm 10 9,rg 11 10 false (.mv (.t 1)),rg 12 10 false (.mv (.t 0)),rg 13 10 false (.len (.t 12)),rg 14 10 false (.bin .geq (.t 11) (.t 13)),ro 15 (.pick (.t 10) (.c (.v (.bool true))) (.t 14))] (.cond (.t 15) (sq [ro 4 (.mv (.c (.sl true [])))] .ret) .skip)) (sq [ro 5 (.mv (.c (.sl true [])))] (.seq (sq [ro 6 (.mv (ci 0))] (.block 0 (.loop (.seq (sq [rm 16 6,rm 17 0,ro 18 (.len (.t 17)),ro 19 (.bin .lss (.t 16) (.t 18))] (.cond (.t 19) .skip (.exit 0))) (.seq (.block 1 (.seq (sq [rm 22 0,rm 23 6,ro 24 (.aM 1 (.t 22) (.t 23)),rL 25 24,ro 26 (.bin .lss (.t 25) (ci 0)),rm 27 26,rg 28 27 false (.mv (.t 0)),rg 29 27 false (.mv (.t 6)),rg 30 27 false (.aM 1 (.t 28) (.t 29)),rg 31 27 false (.load none (.t 30)),rg 32 27 false (.bin .gtr (.t 31) (ci 1048576)),ro 33 (.pick (.t 27) (.c (.v (.bool true))) (.t 32))] (.cond (.t 33) (sq [ro 4 (.mv (.c (.sl true [])))] .ret) .skip)) (sq [rm 34 0,rm 35 6,ro 36 (.aM 1 (.t 34) (.t 35)),rL 37 36,ro 38 (.bin .mul (ci 2) (.t 37)),rm 7 38] (.seq (sq [rm 39 6,rm 40 1,ro 41 (.bin .eql (.t 39) (.t 40))] (.cond (.t 41) (.reg none [rm 42 7,ro 43 (.bin .add (.t 42) (ci 1)),rm 7 43]) .skip)) (.reg none [rm 44 5,rm 45 7,ro 46 (.dH 1 1 (.v (.int .i64 0)) [(0,(.t 45))]),ro 47 (.app 1 8 (.t 44) (.t 46)),rm 5 47]))))) (.reg none [rm 20 6,ro 21 (.bin .add (.t 20) (ci 1)),rm 6 21])))))) (sq [rm 48 5,rm 4 48] .ret)))))
def IC(P4z KT:FuncId):AC:= (sq [ro 4 (.mv (.c (.sl true [])))] (sq [ro 5 (.mv (.c (.aP P4z [] [])))] (.seq (sq [rm 9 1,ro 10 (.bin .lss (.t 9) (ci 1)),rm 11 10,rg 12 11 false (.mv (.t 1)),rg 13 11 false (.mv (.t 0)),rg 14 11 false (.len (.t 13)),rg 15 11 false (.bin .geq (.t 12) (.t 14)),ro 16 (.pick (.t 11) (.c (.v (.bool true))) (.t 15)),rm 17 16,rg 18 17 false (.mv (.t 0)),rg 19 17 false (.mv (.t 5)),rl 20 17 false KT [(.t 18),(.t 19)],ro 21 (.pick (.t 17) (.c (.v (.bool true))) (.t 20))] (.cond (.t 21) (sq [ro 4 (.mv (.c (.sl true [])))] .ret) .skip)) (sq [ro 6 (.mv (.c (.sl true [])))] (.seq (sq [rm 22 0,ro 23 (.len (.t 22)),ro 24 (.mv (ci 0))] (.block 0 (.loop (sq [ro 25 (.bin .lss (.t 24) (.t 23))] (.seq (.cond (.t 25) .skip (.exit 0)) (.seq (.block 1 (sq [rm 26 24,ro 27 (.aM 1 (.t 22) (.t 24)),rL 28 27,rm 7 26,rm 8 28] (sq [rm 29 6,rm 30 8,ro 31 (.bin .mul (ci 2) (.t 30)),ro 32 (.dH 1 1 (.v (.int .i64 0)) [(0,(.t 31))]),ro 33 (.app 1 8 (.t 29) (.t 32)),rm 6 33] (sq [rm 34 7,rm 35 1,ro 36 (.bin .eql (.t 34) (.t 35))] (.cond (.t 36) (.reg none [rm 37 6,rm 38 7,ro 39 (.aM 1 (.t 37) (.t 38)),rL 40 39,ro 41 (.bin .add (.t 40) (ci 1)),ro 42 (.aM 1 (.t 37) (.t 38)),rn (.store 1 (.t 42) (.t 41))]) .skip))))) (.reg none [ro 43 (.bin .add (.t 24) (ci 1)),rm 24 43]))))))) (sq [rm 44 6,rm 4 44] .ret))))))
def zy(s:Int):Bool:=decide (s < 0) || decide (1048576 < s)
theorem ZaE(P:Program)(s:Int):AW P PO (dw [2] (dM (aD (zy s)))) (bF [ah s]) S0:=by
 by_cases h1:s < 0
 ·simp[PO,h1,zy]
  exact bO true _
 ·simp[PO,h1,zy]
  exact bO _ _
def dD(place:Int)(i:Nat):Int:=if (i:Int)=place then 1 else 0
def jI(place:Int):Nat→List Int→List Int
 | _,[]=>[]
 | i,s::l=>(2*s+dD place i)::jI place (i+1) l
theorem wO(place:Int):∀(l:List Int) (i:Nat),(jI place i l).length=l.length
 | [],_=>rfl
 | s::l,i=>by simp[jI,wO place l]
theorem Zj3(place:Int)(s:Int):∀(l:List Int) (i:Nat),jI place i (l++[s])=jI place i l++[2*s+dD place (i+l.length)]
 | [],i=>by simp[jI]
 | t::l,i=>by
  simp only[List.cons_append,jI,Zj3 place s l];simp;congr 1;omega
def qX(signs:List Int)(place:Int):List Int:=
 if 1≤place∧place < signs.length∧signs.any zy=false then jI place 0 signs else []
theorem Znl(place:Int)(l:List Int)(i:Nat)(h:i < l.length):jI place 0 (l.take (i+1))=jI place 0 (l.take i)++[2*l[i]+dD place i]:=by
 rw[List.take_add_one,List.getElem?_eq_getElem h];simp only[Option.toList_some];rw[Zj3];simp;congr 1;omega
def wrJ(signs:List Int)(place:Int)(m:Nat)(f:AF)(S:St):Prop:=
 ∃i:Nat,i≤signs.length∧m=signs.length - i∧f 24=ah i∧f 23=ah signs.length∧f 22=aj signs∧f 1=ah place∧Vec S.g (f 6) 1 ((jI place 0 (signs.take i)).map ah)
theorem Zba{P:Program}{f1 fc:FuncId}(signs:List Int)(place:Int)(hl:signs.length≤1000000)
  (hc:aJ P fc [aj signs,.aP f1 [] []] (aD (signs.any zy))):AW P (IC f1 fc) (dw [4] (Zvr (aj (qX signs place)))) (bF [aj signs,ah place]) S0:=by
 by_cases h1:place < 1
 ·have hr:qX signs place=[]:=by rw[qX,if_neg (by omega)]
  simp[IC,aj,h1,hr];exact .nil true false (by simp)
 by_cases h2:(signs.length:Int)≤place
 ·have hr:qX signs place=[]:=by rw[qX,if_neg (by omega)]
  simp[IC,aj,h1,h2,hr];exact .nil true false (by simp)
 simp[IC,aj,h1,h2];refine aN.pure hc (aG (aT signs) (aG (.aP _ _ _ aQ aQ) aQ)) (dY _) ?_;cases hany:signs.any zy with
 | true=>
  have hr:qX signs place=[]:=by rw[qX,if_neg (by simp[hany])]
  simp[hr];exact .nil true false (by simp)
 | false=>
  have hr:qX signs place=jI place 0 signs:=by rw[qX,if_pos ⟨by omega,by omega,hany⟩]
  simp[hr];refine FP (wrJ signs place) signs.length ?_ ?_
  ·refine⟨0,by omega,by omega,?_,?_,?_,?_,?_⟩<;>simp[aH,cK,dn,ah,aj,jI]
   exact .nil
  ·rintro m f S ⟨i,hi,rfl,e24,e23,e22,e1,hv⟩
   by_cases hlt:i < signs.length
   ·have hok:zy signs[i]=false:=by
     rw[List.any_eq_false] at hany;simpa using hany _ (List.getElem_mem hlt)
    have hb:0≤signs[i]∧signs[i]≤1048576:=by simp[zy] at hok;omega
    have hlen:(jI place 0 (signs.take i)).length=i:=by rw[wO];simp;omega
    have happ:=fun(n aA:Nat) (x:AV) (hx:x.cells.length=1)=>Vec.app (n:=n) (aA:=aA) (au:=8) hv (QE _) hx (Zpj (by rw[List.length_map,hlen];omega))
    have hnx:∀(v:Int) (S':St) (id:Nat),2*signs[i]+dD place i=v→Vec (((St.without S' (f 6)).set id (some (.arr 1 ((jI place 0 (signs.take i)).map ah++[ah v])))).g) (.own id 0 (i+1)) 1 ((jI place 0 (signs.take (i+1))).map ah):=by
     intro v S' id hv';refine .mk' ?_ ?_
     ·rw[Znl _ _ _ hlt,hv'];simp[aL]
     ·simp[wO];omega
    simp[e24,e23,e22,aj,hlt];rw[happ _ _ _ (by simp[AV.cells]),bE _ (by omega)];by_cases h5:(i:Int)=place
    ·have Hl:((i:Int) == place)=true:=by simpa using h5
     have hat:((jI place 0 (signs.take i)).map ah++[AV.v (.int .i64 (2*signs[i]))])[i]? = some (AV.v (.int .i64 (2*signs[i]))):=by
      rw[List.getElem?_append_right (by simp[hlen])];simp[hlen]
     have hlt1:(i:Int) < i+1:=by omega
     simp[e24,e1,Hl,hlen,hlt1];rw[bE _ (by omega),bE _ (by omega)];refine⟨signs.length - (i+1),by omega,i+1,by omega,rfl,?_,?_,?_,?_,?_⟩
     ·simp[aH,h5,ah]
     ·simp[aH,e23,ah]
     ·simp[aH,e22,aj]
     ·simp[aH,e1]
     ·simp only[aH]
      simp only[Nat.reduceEqDiff,if_false,if_true];refine .mk' ?_ ?_
      ·rw[Znl _ _ _ hlt];simp[aL,dD,h5,ah]
      ·simp[wO];omega
    ·have Hl:((i:Int) == place)=false:=by simpa using h5
     simp[e24,e1,Hl];rw[bE _ (by omega)];refine⟨signs.length - (i+1),by omega,i+1,by omega,rfl,?_,?_,?_,?_,?_⟩
     ·simp[aH,ah]
     ·simp[aH,e23,ah]
     ·simp[aH,e22,aj]
     ·simp[aH,e1]
     ·simp only[aH]
      simp only[Nat.reduceEqDiff,if_false,if_true];have:=hnx (2*signs[i]) ⟨S.n+1+5+6,S.g⟩ (S.n+1+5+4) (by simp[dD,h5]);rw[hlen];exact this
   ·have hin:i=signs.length:=by omega
    subst hin;rw[List.take_of_length_le (Nat.le_refl _)] at hv;simp[e24,e23];exact hv.NI
theorem Zcl{P:Program}{f1 fc:FuncId}(signs:List Int)(place:Int)(hl:signs.length≤1000000)
  (hc:aJ P fc [aj signs,.aP f1 [] []] (aD (signs.any zy))):AW P (IC f1 fc) (dw [4] (dM (aj (qX signs place)))) (bF [aj signs,ah place]) S0:=
 Cu _ (fun e a S h=>Zkl (fun r S h=>h.fz) h) (Zba signs place hl hc)
def Pt(P3O:FuncId):AC:= (sq [ro 2 (.box 3 (.t 0)),ro 4 (.mv (.c (.v (.bool false))))] (sq [ro 6 (.load (some 3) (.t 2)),rm 7 1,rk 8 P3O [(.t 6),(.t 7)],rm 5 8] (sq [rm 9 5,ro 10 (.bin .geq (.t 9) (ci 0)),rm 11 10,rg 12 11 true (.cu 2 (.t 2)),rg 13 11 true (.load none (.t 12)),rg 14 11 true (.mv (.t 5)),rg 15 11 true (.aM 1 (.t 13) (.t 14)),rg 16 11 true (.load none (.t 15)),ro 17 (.pick (.t 11) (.t 16) (.c (.v (.bool false)))),rm 4 17] .ret)))
def Z9P(Dw:FuncId):AC:= (sq [ro 2 (.box 3 (.t 0)),ro 4 (.mv (ci 0))] (.seq (sq [ro 7 (.load (some 3) (.t 2)),rk 8 Dw [(.t 7)],ro 9 (.un .not (.t 8))] (.cond (.t 9) (sq [ro 4 (.mv (ci (-1)))] .ret) .skip)) (sq [ro 5 (.mv (ci 0))] (.seq (sq [ro 6 (.mv (ci 0))] (.block 0 (.loop (.seq (sq [rm 10 6,rm 11 1,ro 12 (.len (.t 11)),ro 13 (.bin .lss (.t 10) (.t 12))] (.cond (.t 13) .skip (.exit 0))) (.seq (.block 1 (.seq (.seq (.reg (some []) [rm 16 1,rm 17 6,ro 18 (.aM 1 (.t 16) (.t 17)),rL 19 18,ro 20 (.bin .lss (.t 19) (ci 0)),rm 21 20,rg 22 21 false (.mv (.t 1)),rg 23 21 false (.mv (.t 6)),rg 24 21 false (.aM 1 (.t 22) (.t 23)),rg 25 21 false (.load none (.t 24)),rg 26 21 false (.cu 0 (.t 2)),rg 27 21 false (.load none (.t 26)),rg 28 21 false (.bin .geq (.t 25) (.t 27)),ro 29 (.pick (.t 21) (.c (.v (.bool true))) (.t 28))]) (.cond (.t 29) (sq [ro 4 (.mv (ci (-1)))] .ret) .skip)) (.reg (some []) [rF 30 1 2,rL 31 30,rm 32 5,ro 33 (.aM 1 (.t 31) (.t 32)),rL 34 33,rm 35 1,rm 36 6,ro 37 (.aM 1 (.t 35) (.t 36)),rL 38 37,ro 39 (.aM 1 (.t 34) (.t 38)),rL 40 39,rm 5 40]))) (.reg none [rm 14 6,ro 15 (.bin .add (.t 14) (ci 1)),rm 6 15])))))) (sq [rm 41 5,rm 4 41] .ret)))))
def Wi(Dx:FuncId):AC:= (sq [ro 2 (.box 3 (.t 0)),ro 4 (.mv (ci 0))] (.seq (sq [ro 8 (.load (some 3) (.t 2)),rk 9 Dx [(.t 8)],ro 10 (.un .not (.t 9))] (.cond (.t 10) (sq [ro 4 (.mv (ci (-1)))] .ret) .skip)) (sq [ro 5 (.mv (ci 0))] (.seq (sq [rm 11 1,ro 12 (.len (.t 11)),ro 13 (.mv (ci 0))] (.block 0 (.loop (sq [ro 14 (.bin .lss (.t 13) (.t 12))] (.seq (.cond (.t 14) .skip (.exit 0)) (.seq (.block 1 (sq [ro 15 (.aM 1 (.t 11) (.t 13)),rL 16 15,rm 7 16] (.seq (sq [rm 17 7,ro 18 (.bin .lss (.t 17) (ci 0)),rm 19 18,rg 20 19 false (.mv (.t 7)),rg 21 19 false (.cu 0 (.t 2)),rg 22 19 false (.load none (.t 21)),rg 23 19 false (.bin .geq (.t 20) (.t 22)),ro 24 (.pick (.t 19) (.c (.v (.bool true))) (.t 23))] (.cond (.t 24) (sq [ro 4 (.mv (ci (-1)))] .ret) .skip)) (.reg none [rF 25 1 2,rL 26 25,rm 27 5,ro 28 (.aM 1 (.t 26) (.t 27)),rL 29 28,rm 30 7,ro 31 (.aM 1 (.t 29) (.t 30)),rL 32 31,rm 5 32])))) (.reg none [ro 33 (.bin .add (.t 13) (ci 1)),rm 13 33]))))))) (sq [rm 34 5,rm 4 34] .ret)))))
def ZvY(d:aC)(l:List Int)(m:Nat)(f:AF)(S:St):Prop:=
 ∃i a:Nat,i≤l.length∧m=l.length - i∧a < d.next.length∧f 13=ah i∧f 12=ah l.length∧f 11=aj l∧f 5=ah a∧f 2=.ptr 0 0 0∧S.g 0=some (.arr 3 [aR d])∧vW d 0 l=vW d a (l.drop i)
theorem Zfa{P:Program}{fr:FuncId}(d:aC)(l:List Int)(hl:Len l)(hr:aJ P fr [aR d] (aD (fK d))) :
  AW P (Wi fr) (dw [4] (dM (ah (BM (yG d l))))) (bF [aR d,aj l]) S0:=by
 unfold Len at hl;simp[Wi,aR,aU,bA];refine aN.pure hr (aG (dZ d) aQ) (dY _) ?_;cases hrd:fK d with
 | false=>
  have hres:BM (yG d l) = -1:=by simp[yG,hrd,BM]
  simp[hres];exact zh _ _
 | true=>
  have R:=(uQ d).mp hrd;have hn:=R.n1;have hres:yG d l=vW d 0 l:=by simp[yG,hrd]
  rw[hres];simp[aj];refine FP (ZvY d l) l.length ?_ ?_
  ·refine⟨0,0,by omega,by omega,by omega,?_,?_,?_,?_,?_,?_,by simp⟩<;>simp[aH,ah,aj,aR,aU,bA,aL]
  ·rintro m f S ⟨i,a,hi,rfl,ha,e13,e12,e11,e5,e2,eg,hq⟩
   by_cases hlt:i < l.length
   ·rw[List.drop_eq_getElem_cons hlt,vW] at hq
    by_cases h0:l[i] < 0
    ·rw[if_neg (by omega)] at hq
     simp[e13,e12,e11,aj,hlt,h0,hq,BM];exact zh _ _
    by_cases hs:d.signs≤l[i]
    ·rw[if_neg (by omega)] at hq
     simp[e13,e12,e11,e2,eg,aj,aR,aU,bA,hlt,h0,hs,hq,BM];exact zh _ _
    rw[if_pos (by omega)] at hq;obtain⟨hj,hst,hsl⟩:=FN R ha (s:=l[i]) (by omega) (by omega);have h0':0≤l[i]:=by omega
    simp[e13,e12,e11,e5,e2,eg,aj,aR,aU,bA,hlt,h0,hs,ha,hj,hst,h0'];rw[bE _ (by omega)];refine⟨l.length - (i+1),by omega,i+1,bK d a l[i],by omega,rfl,hsl,?_,?_,?_,?_,?_,?_,hq⟩<;>simp[aH,e12,e11,e2,eg,ah,aj,aR,aU,bA]
   ·rw[List.drop_of_length_le (by omega),vW] at hq
    simp[e13,e12,e5,hlt,hq,BM];exact zh _ _
theorem Z7o{P:Program}{fr:FuncId}(d:aC)(l:List Int)(hr:aJ P fr [aR d,aj l] (ah (BM (yG d l)))) :
  AW P (Pt fr) (dw [4] (dM (aD (uE d l)))) (bF [aR d,aj l]) S0:=by
 simp[Pt,aR,aU,bA];refine aN.pure hr (aG (dZ d) (aG (aT l) aQ)) (aW _) ?_;cases hrd:yG d l with
 | none=>
  simp[BM,uE,hrd];exact bO _ _
 | some b=>
  have hb:b < d.fin.length:=by
   unfold yG at hrd;split at hrd
   ·rename_i h
    have R:=(uQ d).mp h;have:=Zdp R l 0 (by have:=R.n1;omega) b hrd;have:=R.fin;omega
   ·cases hrd
  have hf:uE d l=d.fin[b]:=by simp[uE,hrd,List.getD_eq_getElem?_getD,List.getElem?_eq_getElem hb]
  simp[BM,hb,hf];exact bO _ _
theorem dP.gr{d:aC}(h:dP d):ZvH ⟨d.next,d.fin⟩:=by
 refine⟨h.fin,by have:=h.n2;show d.next.length≤9000;omega,fun r hr=>?_,fun r hr t ht=>.inr ?_⟩
 ·change r∈d.next at hr
  obtain⟨i,hi,rfl⟩:=List.mem_iff_getElem.mp hr;have:=h.row i hi;have:=h.s2;omega
 ·change r∈d.next at hr
  obtain⟨i,hi,rfl⟩:=List.mem_iff_getElem.mp hr;obtain⟨j,hj,rfl⟩:=List.mem_iff_getElem.mp ht;exact h.at_ i hi j hj
def PL:AC:= (sq [ro 3 (.mv (.c (.v (.bool false))))] (sq [rm 4 0,ro 5 (.bin .lss (.t 4) (ci 0)),rm 6 5,rg 7 6 false (.mv (.t 0)),rg 8 6 false (.load none (.t 1)),rg 9 6 false (.bin .geq (.t 7) (.t 8)),ro 10 (.pick (.t 6) (.c (.v (.bool true))) (.t 9)),rm 3 10] .ret))
def PN(KT:FuncId):AC:= (sq [ro 4 (.mv (.c (.v (.bool false))))] (sq [rm 5 0,ro 6 (.len (.t 5)),rF 7 0 1,rL 8 7,ro 9 (.bin .neq (.t 6) (.t 8)),rm 10 9,rg 11 10 false (.mv (.t 0)),rg 12 10 false (.load none (.t 2)),rl 13 10 false KT [(.t 11),(.t 12)],ro 14 (.pick (.t 10) (.c (.v (.bool true))) (.t 13)),rm 4 14] .ret))
def DF(P4G P4H P1L:FuncId):AC:= (sq [ro 1 (.box 3 (.t 0)),ro 2 (.mv (.c (.v (.bool false))))] (sq [rF 5 1 1,rL 6 5,ro 7 (.len (.t 6)),ro 3 (.alloc (.v (.int .i64 0)) 1),rn (.store 1 (.t 3) (.t 7))] (.seq (sq [rF 8 0 1,rL 9 8,ro 10 (.bin .lss (.t 9) (ci 1)),rm 11 10,rg 12 11 false (.cu 0 (.t 1)),rg 13 11 false (.load none (.t 12)),rg 14 11 false (.bin .gtr (.t 13) (ci 400)),ro 15 (.pick (.t 11) (.c (.v (.bool true))) (.t 14)),rm 16 15,rg 17 16 false (.load none (.t 3)),rg 18 16 false (.bin .eql (.t 17) (ci 0)),ro 19 (.pick (.t 16) (.c (.v (.bool true))) (.t 18)),rm 20 19,rg 21 20 false (.load none (.t 3)),rg 22 20 false (.bin .gtr (.t 21) (ci 3000)),ro 23 (.pick (.t 20) (.c (.v (.bool true))) (.t 22)),rm 24 23,rg 25 24 false (.cu 2 (.t 1)),rg 26 24 false (.load none (.t 25)),rg 27 24 false (.len (.t 26)),rg 28 24 false (.load none (.t 3)),rg 29 24 false (.bin .neq (.t 27) (.t 28)),ro 30 (.pick (.t 24) (.c (.v (.bool true))) (.t 29))] (.cond (.t 30) (sq [ro 2 (.mv (.c (.v (.bool false))))] .ret) .skip)) (sq [ro 31 (.A8 P4G [] [(.t 3)]),ro 4 (.alloc (.v .nilFunc) 1),rn (.store 1 (.t 4) (.t 31))] (sq [rF 32 1 1,rL 33 32,ro 34 (.A8 P4H [] [(.t 1),(.t 4)]),rk 35 P1L [(.t 33),(.t 34)],ro 36 (.un .not (.t 35)),rm 2 36] .ret)))))
def GI(k:Nat)(t:Int):Bool:=decide (t < 0) || decide ((k:Int)≤t)
theorem Zb4(P:Program)(t:Int)(k:Nat):AW P PL (dw [3] (dM (aD (GI k t)))) (bF [ah t,.bJ (ah k) 0]) S0:=by
 by_cases h1:t < 0
 ·simp[PL,h1,GI]
  exact bO true _
 ·simp[PL,h1,GI]
  exact bO _ _
def CS(d:aC)(r:List Int):Bool:=((r.length:Int) != d.signs) || r.any (GI d.next.length)
theorem Zb5{P:Program}{f1 fc:FuncId}(d:aC)(r:List Int)(hc:aJ P fc [aj r,.aP f1 [] [.bJ (ah d.next.length) 0]] (aD (r.any (GI d.next.length)))) :
  AW P (PN fc) (dw [4] (dM (aD (CS d r)))) (bF [aj r,.bJ (aR d) 0,.bJ (.aP f1 [] [.bJ (ah d.next.length) 0]) 0]) S0:=by
 cases h1:((r.length:Int) != d.signs) with
 | true=>
  simp[PN,aj,aR,h1,CS];exact bO true _
 | false=>
  simp[PN,aj,aR,h1,CS];refine aN.pure hc (aG (aT r) (aG (.aP _ _ _ aQ (aG (.bJ _ _ (aW _)) aQ)) aQ)) (dY _) ?_;simp;exact bO _ _
theorem ZmM(d:aC)(r:List Int):zl d r=!CS d r:=by
 unfold zl CS;rw[Bool.not_or,List.not_any_eq_all_not];congr 1
 ·by_cases h:(r.length:Int)=d.signs<;>simp[h]
 ·congr 1;funext t
  unfold GI;by_cases h1:t < 0<;>by_cases h2:(d.next.length:Int)≤t<;>simp[h1,h2]<;>omega
theorem ZcH{P:Program}{f1 f2 fc:FuncId}(d:aC)(ok:nU d)
  (hc:aJ P fc [aU d.next,.aP f2 [] [.bJ (aR d) 0,.bJ (.aP f1 [] [.bJ (ah d.next.length) 0]) 0]] (aD (d.next.any (CS d)))) :
  AW P (DF f1 f2 fc) (dw [2] (dM (aD (fK d)))) (bF [aR d]) S0:=by
 have k1:=ok.next
 have k2:=ok.fin;have k3:=ok.signs;unfold Len at k1 k2;by_cases h1:d.signs < 1
 ·have hr:fK d=false:=by simp[fK];omega
  simp[DF,aR,aU,bA,h1,hr];exact bO false _
 by_cases h2:400 < d.signs
 ·have hr:fK d=false:=by simp[fK];omega
  simp[DF,aR,aU,bA,h1,h2,hr];exact bO false _
 by_cases h3:(d.next.length:Int)=0
 ·have hr:fK d=false:=by simp[fK];omega
  have hc:((d.next.length:Int) == 0)=true:=by simp[h3]
  simp[DF,aR,aU,bA,h1,h2,hc,hr];exact bO false _
 have hc3:((d.next.length:Int) == 0)=false:=by simpa using h3
 by_cases h4:(3000:Int) < d.next.length
 ·have hr:fK d=false:=by simp[fK];omega
  simp[DF,aR,aU,bA,h1,h2,hc3,h4,hr];exact bO false _
 by_cases h5:d.fin.length=d.next.length
 ·have Hl:((d.fin.length:Int) != d.next.length)=false:=by simp[h5]
  have hr:fK d=!d.next.any (CS d):=by
   rw[List.not_any_eq_all_not];have:d.next.all (zl d)=d.next.all (fun r=>!CS d r):=by congr 1;funext r;exact ZmM d r
   rw[fK,this];have a1:decide (1≤d.signs)=true:=by simp;omega
   have a2:decide (d.signs≤400)=true:=by simp;omega
   have a3:decide (1≤d.next.length)=true:=by simp;omega
   have a4:decide (d.next.length≤3000)=true:=by simp;omega
   simp[a1,a2,a3,a4,h5]
  simp[DF,aR,aU,bA,h1,h2,hc3,h4,Hl];refine aN.looks hc (dJ.cons (.closed _ (jR _)) (dJ.cons (.Pn (dJ.cons (.box _ _ 3 (aR d) _ ?_ (.closed _ (dZ d))) (dJ.cons (.box _ _ 1 (.aP f1 [] [.ptr 5 0 0]) _ ?_ (.Pn (dJ.cons (.box _ _ 1 (ah d.next.length) _ ?_ (.closed _ (aW _))) dJ.nil))) dJ.nil))) dJ.nil)) (QM _) ?_
  ·simp[aL,aR,aU,bA,ah]
  ·simp[aL]
  ·simp[aL,ah]
  ·simp[hr]
   exact bO _ _
 ·have hr:fK d=false:=by simp[fK];omega
  have Hl:((d.fin.length:Int) != d.next.length)=true:=by simp;omega
  simp[DF,aR,aU,bA,h1,h2,hc3,h4,Hl,hr];exact bO false _
def DC:AC:= (sq [ro 1 (.box 3 (.t 0)),ro 2 (.mv (.c (.v (.bool false))))] (sq [rF 6 1 1,rL 7 6,ro 8 (.len (.t 7)),rm 3 8] (.seq (sq [rF 9 0 1,rL 10 9,ro 11 (.bin .lss (.t 10) (ci 1)),rm 12 11,rg 13 12 false (.cu 0 (.t 1)),rg 14 12 false (.load none (.t 13)),rg 15 12 false (.bin .gtr (.t 14) (ci 400)),ro 16 (.pick (.t 12) (.c (.v (.bool true))) (.t 15)),rm 17 16,rg 18 17 false (.mv (.t 3)),rg 19 17 false (.bin .lss (.t 18) (ci 1)),ro 20 (.pick (.t 17) (.c (.v (.bool true))) (.t 19)),rm 21 20,rg 22 21 false (.mv (.t 3)),rg 23 21 false (.bin .gtr (.t 22) (ci 3000)),ro 24 (.pick (.t 21) (.c (.v (.bool true))) (.t 23)),rm 25 24,rg 26 25 false (.cu 2 (.t 1)),rg 27 25 false (.load none (.t 26)),rg 28 25 false (.len (.t 27)),rg 29 25 false (.mv (.t 3)),rg 30 25 false (.bin .neq (.t 28) (.t 29)),ro 31 (.pick (.t 25) (.c (.v (.bool true))) (.t 30))] (.cond (.t 31) (sq [ro 2 (.mv (.c (.v (.bool false))))] .ret) .skip)) (.seq (sq [ro 4 (.mv (ci 0))] (.block 0 (.loop (.seq (sq [rm 32 4,rm 33 3,ro 34 (.bin .lss (.t 32) (.t 33))] (.cond (.t 34) .skip (.exit 0))) (.seq (.block 1 (.seq (.seq (.reg (some []) [rF 37 1 1,rL 38 37,rm 39 4,ro 40 (.aM 1 (.t 38) (.t 39)),rL 41 40,ro 42 (.len (.t 41)),rF 43 0 1,rL 44 43,ro 45 (.bin .neq (.t 42) (.t 44))]) (.cond (.t 45) (sq [ro 2 (.mv (.c (.v (.bool false))))] .ret) .skip)) (sq [ro 5 (.mv (ci 0))] (.block 2 (.loop (.seq (sq [rm 46 5,rF 47 0 1,rL 48 47,ro 49 (.bin .lss (.t 46) (.t 48))] (.cond (.t 49) .skip (.exit 2))) (.seq (.block 3 (sq [rF 52 1 1,rL 53 52,rm 54 4,ro 55 (.aM 1 (.t 53) (.t 54)),rL 56 55,rm 57 5,ro 58 (.aM 1 (.t 56) (.t 57)),rL 59 58,ro 60 (.bin .lss (.t 59) (ci 0)),rm 61 60,rg 62 61 false (.cu 1 (.t 1)),rg 63 61 false (.load none (.t 62)),rg 64 61 false (.mv (.t 4)),rg 65 61 false (.aM 1 (.t 63) (.t 64)),rg 66 61 false (.load none (.t 65)),rg 67 61 false (.mv (.t 5)),rg 68 61 false (.aM 1 (.t 66) (.t 67)),rg 69 61 false (.load none (.t 68)),rg 70 61 false (.mv (.t 3)),rg 71 61 false (.bin .geq (.t 69) (.t 70)),ro 72 (.pick (.t 61) (.c (.v (.bool true))) (.t 71))] (.cond (.t 72) (sq [ro 2 (.mv (.c (.v (.bool false))))] .ret) .skip))) (.reg none [rm 50 5,ro 51 (.bin .add (.t 50) (ci 1)),rm 5 51])))))))) (.reg none [rm 35 4,ro 36 (.bin .add (.t 35) (ci 1)),rm 4 36])))))) (sq [ro 2 (.mv (.c (.v (.bool true))))] .ret)))))
def ZtU(d:aC)(m:Nat)(f:AF)(S:St):Prop:=
 ∃i:Nat,i≤d.next.length∧m=d.next.length - i∧f 4=ah i∧f 3=ah d.next.length∧f 1=.ptr 0 0 0∧S.g 0=some (.arr 3 [aR d])∧(d.next.take i).all (zl d)=true
def ZtV(d:aC)(i:Nat)(r:List Int)(m:Nat)(f:AF)(S:St):Prop:=
 ∃j:Nat,j≤r.length∧m=r.length - j∧f 5=ah j∧f 4=ah i∧f 3=ah d.next.length∧f 1=.ptr 0 0 0∧S.g 0=some (.arr 3 [aR d])∧(r.take j).all (fun t=>decide (0≤t) && decide (t < d.next.length))=true
theorem Z7W(P:Program)(d:aC)(ok:nU d):AW P DC (dw [2] (dM (aD (fK d)))) (bF [aR d]) S0:=by
 have k1:=ok.next
 have k2:=ok.fin;have k3:=ok.signs;unfold Len at k1 k2;by_cases h1:d.signs < 1
 ·have hr:fK d=false:=by simp[fK];omega
  simp[DC,aR,aU,bA,h1,hr];exact bO false _
 by_cases h2:400 < d.signs
 ·have hr:fK d=false:=by simp[fK];omega
  simp[DC,aR,aU,bA,h1,h2,hr];exact bO false _
 by_cases h3:(d.next.length:Int) < 1
 ·have hr:fK d=false:=by simp[fK];omega
  simp[DC,aR,aU,bA,h1,h2,h3,hr];exact bO false _
 by_cases h4:(3000:Int) < d.next.length
 ·have hr:fK d=false:=by simp[fK];omega
  simp[DC,aR,aU,bA,h1,h2,h3,h4,hr];exact bO false _
 by_cases h5:d.fin.length=d.next.length
 ·have hc:((d.fin.length:Int) != d.next.length)=false:=by simp[h5]
  simp[DC,aR,aU,bA,h1,h2,h3,h4,hc];refine FP (ZtU d) d.next.length ?_ ?_
  ·refine⟨0,by omega,by omega,?_,?_,?_,?_,?_⟩<;>simp[aH,ah,aR,aU,bA,aL]
  ·rintro m f S ⟨i,hi,rfl,e4,e3,e1,eg,hp⟩
   by_cases hlt:i < d.next.length
   ·have kr:=ok.rows _ (List.getElem_mem hlt)
    unfold Len at kr
    have Zg:zl d d.next[i]=false→fK d=false:=by
     intro h;simp only[fK]
     have:d.next.all (zl d)=false:=by
      rw[List.all_eq_false];exact⟨_,List.getElem_mem hlt,by simp[h]⟩
     simp[this]
    by_cases hrl:((d.next[i]).length:Int)=d.signs
    ·have hc1:(((d.next[i]).length:Int) != d.signs)=false:=by simp[hrl]
     simp[e4,e3,e1,eg,aR,aU,bA,aj,hlt,hc1];refine FP (ZtV d i d.next[i]) (d.next[i]).length ?_ ?_
     ·refine⟨0,by omega,by omega,?_,?_,?_,?_,?_,?_⟩<;>simp[aH,e4,e3,e1,eg,ah,aR,aU,bA]
     ·rintro m f S ⟨j,hj,rfl,e5,e4,e3,e1,eg,hq⟩
      by_cases hjl:j < (d.next[i]).length
      ·have hjs:(j:Int) < d.signs:=by omega
       have hrow:¬(0≤(d.next[i])[j]∧(d.next[i])[j] < d.next.length)→zl d d.next[i]=false:=by
        intro h
        have:(d.next[i]).all (fun t=>decide (0≤t) && decide (t < d.next.length))=false:=by
         rw[List.all_eq_false];refine⟨_,List.getElem_mem hjl,?_⟩;simp only[Bool.and_eq_true,decide_eq_true_eq];exact h
        simp[zl,this]
       by_cases hn:(d.next[i])[j] < 0
       ·have hr:=Zg (hrow (by omega))
        simp[e5,e4,e1,eg,aR,aU,bA,aj,hlt,hjl,hjs,hn,hr];exact bO false _
       by_cases hg:(d.next.length:Int)≤(d.next[i])[j]
       ·have hr:=Zg (hrow (by omega))
        simp[e5,e4,e3,e1,eg,aR,aU,bA,aj,hlt,hjl,hjs,hn,hg,hr];exact bO false _
       simp[e5,e4,e3,e1,eg,aR,aU,bA,aj,hlt,hjl,hjs,hn,hg];rw[bE _ (by omega)];refine⟨(d.next[i]).length - (j+1),by omega,j+1,by omega,rfl,?_,?_,?_,?_,?_,by rw[Z9K _ _ _ hjl,hq];simp;omega⟩<;>simp[aH,e4,e3,e1,eg,ah,aR,aU,bA]
      ·have hjs:¬(j:Int) < d.signs:=by omega
       simp[e5,e4,e1,eg,aR,aU,bA,hjs];rw[bE _ (by omega)];rw[List.take_of_length_le (by omega)] at hq;refine⟨d.next.length - (i+1),by omega,i+1,by omega,rfl,?_,?_,?_,?_,by rw[Z9K _ _ _ hlt,hp,zl,hq];simp[hrl]⟩<;>simp[aH,e3,e1,eg,ah,aR,aU,bA]
    ·have hr:=Zg (by simp[zl,hrl])
     have hc1:(((d.next[i]).length:Int) != d.signs)=true:=by simp[hrl]
     simp[e4,e3,e1,eg,aR,aU,bA,aj,hlt,hc1,hr];exact bO false _
   ·have hr:fK d=true:=by
     rw[List.take_of_length_le (by omega)] at hp;simp[fK,hp];omega
    simp[e4,e3,hlt,hr];exact bO true _
 ·have hr:fK d=false:=by simp[fK];omega
  have hc:((d.fin.length:Int) != d.next.length)=true:=by simp;omega
  simp[DC,aR,aU,bA,h1,h2,h3,h4,hc,hr];exact bO false _
end Go.Rf
namespace Go.Rf
theorem WQ{n x:Int}:∀{l:List Int},x∈Az l n↔x=n∨x∈l
 | []=>by simp[Az]
 | y::l=>by
  simp only[Az];split
  ·rw[List.mem_cons,WQ,List.mem_cons]
   constructor
   ·rintro(h | h | h)<;>simp[h]
   ·rintro(h | h | h)<;>simp[h]
  ·split
   ·rename_i h;subst h
    constructor
    ·intro h;exact .inr h
    ·rintro(h | h)
     ·rw[h];exact List.mem_cons_self ..
     ·exact h
   ·rw[List.mem_cons]
theorem Zcp{n:Int}:∀{l:List Int},l.Pairwise (· < ·)→(Az l n).Pairwise (· < ·)
 | [],_=>by simp[Az]
 | x::l,h=>by
  obtain⟨h1,h2⟩:=List.pairwise_cons.mp h;simp only[Az];split
  ·rename_i hx
   refine List.pairwise_cons.mpr ⟨fun y hy=>?_,Zcp h2⟩;rcases WQ.mp hy with h3 | h3
   ·omega
   ·exact h1 y h3
  ·split
   ·exact h
   ·refine List.pairwise_cons.mpr ⟨fun y hy=>?_,h⟩
    rcases List.mem_cons.mp hy with h3 | h3
    ·omega
    ·have:=h1 y h3;omega
theorem Zmi{zs:List Int}{x:Int}:x∈Lib.compact zs↔x∈zs:=by
 have hget:∀j (hj:j < zs.length),zs.toArray[j]! = zs[j]:=fun j hj=>by simp[hj]
 simp only[Lib.compact,Lib.compactUpTo,List.mem_map,List.mem_filter,List.mem_range];constructor
 ·rintro⟨j,⟨hj,_⟩,rfl⟩
  rw[hget j hj];exact List.getElem_mem hj
 ·intro hx
  obtain⟨j,hj,rfl⟩:=List.mem_iff_getElem.mp hx
  have key:∀m,∀j (hj:j < zs.length),j≤m→∃a,(a < zs.length∧Lib.keeps zs.toArray a=true)∧zs.toArray[a]! = zs[j]:=by
   intro m;induction m with
   | zero=>
    intro j hj h0;have:j=0:=by omega
    subst this;exact⟨0,⟨hj,by simp[Lib.keeps]⟩,hget 0 hj⟩
   | succ m ih=>
    intro j hj hm;by_cases hk:Lib.keeps zs.toArray j=true
    ·exact⟨j,⟨hj,hk⟩,hget j hj⟩
    ·have hk':¬(j=0∨zs.toArray[j]!≠zs.toArray[j - 1]!):=by simpa[Lib.keeps] using hk
     have h0:j≠0:=fun e=>hk' (.inl e)
     have he:zs.toArray[j]! = zs.toArray[j - 1]!:=Decidable.byContradiction fun e=>hk' (.inr e)
     obtain⟨a,ha,hb⟩:=ih (j - 1) (by omega) (by omega);refine⟨a,ha,?_⟩;rw[hb,←hget (j - 1) (by omega),←he,hget j hj]
  obtain⟨a,h1,h2⟩:=key j j hj (Nat.le_refl _);exact⟨a,h1,h2⟩
theorem ZsP{zs:List Int}(h:zs.Pairwise (·≤·)):(Lib.compact zs).Pairwise (· < ·):=by
 have hget:∀j (hj:j < zs.length),zs.toArray[j]! = zs[j]:=fun j hj=>by simp[hj]
 have hp:=List.pairwise_iff_getElem.mp h;simp only[Lib.compact,Lib.compactUpTo];rw[List.pairwise_map];refine List.Pairwise.imp_of_mem ?_ (List.Pairwise.filter _ List.pairwise_lt_range);intro a b ha hb hab;simp only[List.mem_filter,List.mem_range] at ha hb;obtain⟨hb1,hb2⟩:=hb;have hk:b=0∨zs.toArray[b]!≠zs.toArray[b - 1]!:=by simpa[Lib.keeps] using hb2
 have h1:zs.toArray[b]!≠zs.toArray[b - 1]!:=by
  rcases hk with h1 | h1
  ·omega
  ·exact h1
 rw[hget b hb1,hget (b - 1) (by omega)] at h1;rw[hget a ha.1,hget b hb1]
 have h2:zs[b - 1]≤zs[b]:=by
  have:=hp (b - 1) b (by omega) hb1 (by omega);exact this
 have h3:zs[a]≤zs[b - 1]:=by
  by_cases e:a=b - 1
  ·subst e;exact Int.le_refl _
  ·exact hp a (b - 1) ha.1 (by omega) (by omega)
 omega
def jo(l:List Int):List Int:=Lib.compact (l.mergeSort fun x y=>decide (x≤y))
theorem vU{l:List Int}{x:Int}:x∈jo l↔x∈l:=by
 unfold jo;rw[Zmi];exact(List.mergeSort_perm _ _).mem_iff
theorem FX(l:List Int):(jo l).Pairwise (· < ·):=by
 refine ZsP ?_;have:=List.pairwise_mergeSort (le:=fun x y:Int=>decide (x≤y)) (by simp;omega) (by simp;omega) l;simpa using this
theorem Rs:∀{l m:List Int},l.Pairwise (· < ·)→m.Pairwise (· < ·)→(∀x,x∈l↔x∈m)→l=m
 | [],[],_,_,_=>rfl
 | [],y::m,_,_,h=>by have:=(h y).mpr (by simp);simp at this
 | x::l,[],_,_,h=>by have:=(h x).mp (by simp);simp at this
 | x::l,y::m,hl,hm,h=>by
  have hl2:=List.pairwise_cons.mp hl;have hm2:=List.pairwise_cons.mp hm
  have e:x=y:=by
   have h1:=(h x).mp (by simp);have h2:=(h y).mpr (by simp);rcases List.mem_cons.mp h1 with h1 | h1
   ·exact h1
   ·rcases List.mem_cons.mp h2 with h2 | h2
    ·exact h2.symm
    ·have:=hm2.1 x h1
     have:=hl2.1 y h2;omega
  subst e;congr 1;refine Rs hl2.2 hm2.2 fun z=>?_
  constructor
  ·intro hz
   have:=(h z).mp (by simp[hz]);rcases List.mem_cons.mp this with h1 | h1
   ·subst h1;have:=hl2.1 z hz;omega
   ·exact h1
  ·intro hz
   have:=(h z).mpr (by simp[hz]);rcases List.mem_cons.mp this with h1 | h1
   ·subst h1;have:=hm2.1 z hz;omega
   ·exact h1
theorem Zg1{l:List Int}:jo l=l↔l.Pairwise (· < ·):=by
 constructor
 ·intro h;rw[←h];exact FX l
 ·intro h;exact Rs (FX l) h (fun x=>vU)
theorem W9(l:List Int):(jo l).length≤l.length:=by
 unfold jo;have h1:(Lib.compact (l.mergeSort fun x y=>decide (x≤y))).length≤(l.mergeSort fun x y=>decide (x≤y)).length:=Lib.compact_length_le _;rw[List.length_mergeSort] at h1;exact h1
theorem ZfL:∀(l:List Int) {o:List Int},o.Pairwise (· < ·)→(l.foldl Az o).Pairwise (· < ·)
 | [],o,h=>h
 | x::l,o,h=>ZfL l (Zcp h)
theorem Zdh:∀(l:List Int) {o:List Int} {x:Int},x∈l.foldl Az o↔x∈o∨x∈l
 | [],o,x=>by simp
 | y::l,o,x=>by rw[List.foldl_cons,Zdh l,WQ,List.mem_cons,or_assoc,or_left_comm]
theorem ZmI(l:List Int):l.foldl Az []=jo l:=Rs (ZfL l .nil) (FX l) (fun x=>by rw[Zdh,vU];simp)
theorem JB:∀{l:List Int} {a b:Int},l.Pairwise (· < ·)→(∀x∈l,a≤x∧x < b)→(l.length:Int)≤max 0 (b - a)
 | [],a,b,_,_=>by simp;omega
 | x::l,a,b,hl,h=>by
  have hl2:=List.pairwise_cons.mp hl;have hx:=h x (by simp);have:=JB (l:=l) (a:=x+1) (b:=b) hl2.2 (fun y hy=>⟨by have:=hl2.1 y hy;omega,(h y (by simp[hy])).2⟩);simp only[List.length_cons];omega
def rZ(l:List Int)(a b:Int):Bool:=decide (l.Pairwise (· < ·)) && l.all fun x=>decide (a≤x) && decide (x < b)
def Ea(l:List Int)(a b:Int):Prop:=l.Pairwise (· < ·)∧∀x∈l,a≤x∧x < b
theorem FE{l:List Int}{a b:Int}:rZ l a b=true↔Ea l a b:=by
 simp[rZ,Ea,List.all_eq_true]
theorem Mw(place:Int):∀(l:List Int) (i k:Nat) (h:k < l.length) (h':k < (jI place i l).length),(jI place i l)[k]=2*l[k]+dD place (i+k)
 | s::l,i,0,h,h'=>by simp[jI]
 | s::l,i,k+1,h,h'=>by
  simp only[jI,List.getElem_cons_succ];rw[Mw place l (i+1) k (by simpa using h)];congr 2;omega
section
variable{P:Program}{fl fi fb fw:FuncId}{a b:List Int}{place:Int}
end
end Go.Rf
namespace Go.Rf
open Go.RowKit
inductive aF where
 | mk (kind:Int) (set:List Rg) (signs:List Int) (kids:List aF)
def aF.kind:aF→Int | .mk k _ _ _=>k
def aF.set:aF→List Rg | .mk _ s _ _=>s
def aF.signs:aF→List Int | .mk _ _ g _=>g
def aF.kids:aF→List aF | .mk _ _ _ ks=>ks
mutual
def cB:aF→AV
 | .mk k s g ks=>.agg [ah k,Bz s,aj g,.sl false (DZ ks)]
def DZ:List aF→List AV
 | []=>[]
 | p::ps=>cB p::DZ ps
end
theorem Zd4:∀(ks:List aF),DZ ks=ks.map cB
 | []=>by simp[DZ]
 | p::ps=>by simp[DZ,Zd4 ps]
theorem cO(k:Int)(s:List Rg)(g:List Int)(ks:List aF):cB (.mk k s g ks)=.agg [ah k,Bz s,aj g,.sl false (ks.map cB)]:=by rw[cB,Zd4]
theorem VF(p:aF):(cB p).cells.length=4:=by cases p;rw[cO];rfl
mutual
theorem pF:∀(p:aF),aY (cB p)
 | .mk k s g ks=>by
  rw[cB];refine .agg _ (fun y hy=>?_);simp only[List.mem_cons,List.not_mem_nil,or_false] at hy;rcases hy with rfl | rfl | rfl | rfl
  ·exact aW _
  ·exact xG _
  ·exact aT _
  ·exact .sl _ _ (ZbV ks)
theorem ZbV:∀(ks:List aF),∀y∈DZ ks,aY y
 | [],y,h=>by simp[DZ] at h
 | p::ps,y,h=>by
  simp only[DZ,List.mem_cons] at h;rcases h with rfl | h
  ·exact pF p
  ·exact ZbV ps y h
end
def yH(acc:List Int):List Int→List Int
 | []=>acc
 | x::xs=>yH (if acc.contains x=true then acc else acc++[x]) xs
def zC(l:List Int):List Int:=yH [] l
theorem DT:∀{xs acc:List Int} {y:Int},y∈yH acc xs↔y∈acc∨y∈xs
 | [],acc,y=>by simp[yH]
 | x::xs,acc,y=>by
  simp only[yH];rw[DT];by_cases h:acc.contains x=true
  ·rw[if_pos h]
   have h':x∈acc:=by simpa using h
   constructor
   ·rintro(h1 | h1)
    ·exact .inl h1
    ·exact .inr (by simp[h1])
   ·rintro(h1 | h1)
    ·exact .inl h1
    ·rcases List.mem_cons.mp h1 with rfl | h1
     ·exact .inl h'
     ·exact .inr h1
  ·rw[if_neg h]
   simp only[List.mem_append,List.mem_cons,List.not_mem_nil,or_false];constructor
   ·rintro((h1 | h1) | h1)
    ·exact .inl h1
    ·exact .inr (.inl h1)
    ·exact .inr (.inr h1)
   ·rintro(h1 | h1 | h1)
    ·exact .inl (.inl h1)
    ·exact .inl (.inr h1)
    ·exact .inr h1
theorem VW:∀{xs acc:List Int},acc.Nodup→(yH acc xs).Nodup
 | [],acc,h=>h
 | x::xs,acc,h=>by
  simp only[yH];refine VW ?_;by_cases hc:acc.contains x=true
  ·rw[if_pos hc];exact h
  ·rw[if_neg hc]
   have h':x∉acc:=by simpa using hc
   rw[List.nodup_append];exact⟨h,by simp,fun a ha b hb=>by simp at hb;subst hb;intro e;subst e;exact h' ha⟩
theorem y5{xs:List Int}{y:Int}:y∈zC xs↔y∈xs:=by unfold zC;rw[DT];simp
theorem Wn(xs:List Int):(zC xs).Nodup:=VW (by simp)
theorem Qg:∀(n:Nat) {l:List Int},l.Nodup→(∀x∈l,0≤x∧x < (n:Int))→l.length≤n
 | 0,l,_,h=>by
  cases l with
  | nil=>simp
  | cons x l=>have:=h x (by simp);omega
 | n+1,l,hd,h=>by
  have h1:(l.filter (fun x=>x != (n:Int))).length≤n:=Qg n (hd.filter _) (fun x hx=>by
   have hm:=List.mem_filter.mp hx;have:=h x hm.1;have hne:x≠(n:Int):=by simpa using hm.2
   omega)
  have h2:(l.filter (fun x=>x == (n:Int))).length≤1:=by
   have hd2:=hd.filter (fun x=>x == (n:Int));have hall:∀x∈l.filter (fun x=>x == (n:Int)),x=(n:Int):=fun x hx=>by simpa using(List.mem_filter.mp hx).2
   generalize l.filter (fun x=>x == (n:Int))=m at *
   match m,hd2,hall with
   | [],_,_=>simp
   | [_],_,_=>simp
   | a::b::m,hd2,hall=>
    exfalso;have:=(List.nodup_cons.mp hd2).1;rw[hall a (by simp)] at this;rw[hall b (by simp)] at this;simp at this
  have h3:l.length=(l.filter (fun x=>x == (n:Int))).length+(l.filter (fun x=>x != (n:Int))).length:=by
   have:=List.length_eq_countP_add_countP (p:=fun x:Int=>x == (n:Int)) (l:=l);rw[List.countP_eq_length_filter,List.countP_eq_length_filter] at this;rw[this];congr 2;exact List.filter_congr (fun x _=>by rw[bne];cases(x == (n:Int))<;>rfl)
  omega
def JY(v:Int→List Int):Nat→List Int→Nat→List Int
 | 0,met,_=>met
 | f+1,met,i=>if h:i < met.length then JY v f (yH met (v met[i])) (i+1) else met
def NA(v:Int→List Int)(k:Int)(n:Nat)(at_:Int):List Int:=(if k=6 then [] else [at_])++(if k=7 then zC (v at_) else JY v (n+2) (zC (v at_)) 0)
mutual
def zf(l:List Int):aF→Int→List Int
 | .mk k s g ks,at_=>if k=1 then [at_] else if k=2 then (if at_ < l.length∧g.contains (l.getD at_.toNat 0)=true then [at_+1] else []) else if k=3 then Ee l ks [at_] else if k=4 then Em l ks at_
   else if k=7∨k=5∨k=6 then CZ l ks k at_ else []
def Ee(l:List Int):List aF→List Int→List Int
 | [],cur=>cur
 | q::qs,cur=>Ee l qs (zC (cur.flatMap fun a=>zf l q a))
def Em(l:List Int):List aF→Int→List Int
 | [],_=>[]
 | q::qs,at_=>zf l q at_++Em l qs at_
def CZ(l:List Int):List aF→Int→Int→List Int
 | [q],k,at_=>NA (fun a=>zf l q a) k l.length at_
 | _,_,_=>[]
end
theorem Zld{v:Int→List Int}{a b:Int}(hv:∀x,a≤x→x≤b→∀y∈v x,a≤y∧y≤b):∀(f:Nat) (met:List Int) (i:Nat),(∀x∈met,a≤x∧x≤b)→∀x∈JY v f met i,a≤x∧x≤b
 | 0,met,i,h,x,hx=>h x hx
 | f+1,met,i,h,x,hx=>by
  simp only[JY] at hx;split at hx
  ·rename_i hlt
   refine Zld hv f _ _ (fun y hy=>?_) x hx;rcases DT.mp hy with hy | hy
   ·exact h y hy
   ·have hm:=h _ (List.getElem_mem hlt)
    exact hv _ hm.1 hm.2 y hy
  ·exact h x hx
theorem ZsF{v:Int→List Int}{b:Int}{k:Int}{n:Nat}{at_:Int}(hab:at_≤b)(hv:∀x,at_≤x→x≤b→∀y∈v x,at_≤y∧y≤b):∀x∈NA v k n at_,at_≤x∧x≤b:=by
 intro x hx;have h0:∀y∈zC (v at_),at_≤y∧y≤b:=fun y hy=>hv at_ (Int.le_refl _) hab y (y5.mp hy)
 unfold NA at hx;rcases List.mem_append.mp hx with hx | hx
 ·split at hx
  ·simp at hx
  ·simp at hx;subst hx;exact⟨Int.le_refl _,hab⟩
 ·split at hx
  ·exact h0 x hx
  ·exact Zld hv _ _ _ h0 x hx
mutual
theorem DL(l:List Int):∀(p:aF) (at_:Int),0≤at_→at_≤l.length→∀x∈zf l p at_,at_≤x∧x≤l.length
 | .mk k s g ks,at_,h0,hn,x,hx=>by
  rw[zf] at hx;split at hx
  ·simp at hx;subst hx;exact⟨Int.le_refl _,hn⟩
  ·split at hx
   ·split at hx
    ·rename_i hc;simp at hx;subst hx;omega
    ·simp at hx
   ·split at hx
    ·exact Zgh l ks [at_] at_ h0 (fun y hy=>by simp at hy;subst hy;exact⟨Int.le_refl _,hn⟩) x hx
    ·split at hx
     ·exact Zj0 l ks at_ h0 hn x hx
     ·split at hx
      ·exact Zpe l ks k at_ h0 hn x hx
      ·simp at hx
theorem Zgh(l:List Int):∀(ks:List aF) (cur:List Int) (a:Int),0≤a→(∀x∈cur,a≤x∧x≤l.length)→∀x∈Ee l ks cur,a≤x∧x≤l.length
 | [],cur,a,h0,h,x,hx=>by rw[Ee] at hx;exact h x hx
 | q::qs,cur,a,h0,h,x,hx=>by
  rw[Ee] at hx;refine Zgh l qs _ a h0 (fun y hy=>?_) x hx;obtain⟨c,hc,hy⟩:=List.mem_flatMap.mp (y5.mp hy);have h1:=h c hc;have h2:=DL l q c (by omega) h1.2 y hy;omega
theorem Zj0(l:List Int):∀(ks:List aF) (at_:Int),0≤at_→at_≤l.length→∀x∈Em l ks at_,at_≤x∧x≤l.length
 | [],at_,h0,hn,x,hx=>by rw[Em] at hx;simp at hx
 | q::qs,at_,h0,hn,x,hx=>by
  rw[Em] at hx;rcases List.mem_append.mp hx with hx | hx
  ·exact DL l q at_ h0 hn x hx
  ·exact Zj0 l qs at_ h0 hn x hx
theorem Zpe(l:List Int):∀(ks:List aF) (k at_:Int),0≤at_→at_≤l.length→∀x∈CZ l ks k at_,at_≤x∧x≤l.length
 | [q],k,at_,h0,hn,x,hx=>by
  rw[CZ] at hx;exact ZsF hn (fun y h1 h2 z hz=>by have:=DL l q y (by omega) h2 z hz;omega) x hx
 | [],k,at_,h0,hn,x,hx=>by simp[CZ] at hx
 | q::r::qs,k,at_,h0,hn,x,hx=>by simp[CZ] at hx
end
theorem Vec.cel{g:Nat→Option aB}{v:AV}{es:Nat}{xs:List AV}(h:Vec g v es xs):v.cells=[v]∧v.solid=true:=by
 rcases h with⟨rfl,_⟩ | ⟨_,_,_,rfl,_⟩<;>exact⟨rfl,rfl⟩
theorem ZqM{n:Nat}{L:List Int}(h:∀x∈L,0≤x∧x≤(n:Int)):(zC L).length≤n+1:=
 Qg (n+1) (Wn L) (fun x hx=>by have:=h x (y5.mp hx);omega)
end Go.Rf
namespace Go.Rf
def Zvg(ph sign:Nat)(to:Int):Int:=if sign % 2=0 then (if ph=0 then to*3+1 else to*3+ph) else if ph=1 then to*3+2 else -1
def ZvX(ph:Nat)(l:List Int):List Int:=l.mapIdx fun i t=>Zvg ph i t
def Zvf(d:aC)(i:Nat):List Int:=ZvX (i % 3) (d.next.getD (i / 3) [])
def Zve(d:aC)(i:Nat):Bool:=decide (i % 3=2) && d.fin.getD (i / 3) false
def pg(d:aC):Gr:=⟨(List.range (3*d.next.length)).map (Zvf d),(List.range (3*d.next.length)).map (Zve d)⟩
theorem Zgj(q:Nat):∀(hs:List Int) (i:Nat),jI ((q+1:Nat):Int) (i+1) hs=jI (q:Int) i hs
 | [],i=>rfl
 | h::hs,i=>by
  have e:dD ((q+1:Nat):Int) (i+1)=dD (q:Int) i:=by
   unfold dD;by_cases hc:(i:Int)=q
   ·rw[if_pos hc,if_pos (by omega)]
   ·rw[if_neg hc,if_neg (by omega)]
  simp only[jI];rw[Zgj q hs (i+1),e]
theorem Zj2:∀(hs:List Int) (i:Nat),jI 0 (i+1) hs=hs.map (2 * ·)
 | [],i=>rfl
 | h::hs,i=>by
  have e:dD 0 (i+1)=0:=by
   unfold dD;rw[if_neg (by omega)]
  simp only[jI,List.map_cons];rw[Zj2 hs (i+1),e];congr 1;omega
end Go.Rf
namespace Go.Rf
open Go.RowKit
theorem Jl{d:aC}(R:dP d)(l:List Int):uE d l=true↔Vl d l∧dG d (runT d 0 l)=true:=by
 have hr:fK d=true:=(uQ d).mpr R;unfold uE yG;rw[if_pos hr];by_cases hl:Vl d l
 ·rw[ZfY l 0 hl]
  constructor
  ·intro h;exact⟨hl,h⟩
  ·intro h;exact h.2
 ·rw[Zct l 0 hl]
  constructor
  ·intro h;cases h
  ·intro h;exact(hl h.1).elim
def rU(n:Int)(l:List Int):Prop:=∀x∈l,0≤x∧x < n
theorem rU.take{n:Int}{l:List Int}(h:rU n l)(k:Nat):rU n (l.take k):=fun x hx=>h x (List.mem_of_mem_take hx)
theorem rU.drop{n:Int}{l:List Int}(h:rU n l)(k:Nat):rU n (l.drop k):=fun x hx=>h x (List.mem_of_mem_drop hx)
structure xM(d:aC)(n:Int)(F:List Int→Nat→Bool):Prop where
 R:dP d
 s:d.signs=2*n
 acc:∀w,Vl d w→(dG d (runT d 0 w)=true↔∃l p,rU n l∧1≤p∧p < l.length∧w=jI (p:Nat) 0 l∧F l p=true)
theorem Zu8{l m:List Int}{p q:Nat}(hp:p < l.length)(h:jI (p:Nat) 0 l=jI (q:Nat) 0 m):l=m∧p=q:=by
 have hl:l.length=m.length:=by have:=congrArg List.length h;rwa[wO,wO] at this
 have key:∀k (h1:k < l.length) (h2:k < m.length),2*l[k]+dD p k=2*m[k]+dD q k:=by
  intro k h1 h2;have e1:=Mw (p:Int) l 0 k h1 (by rw[wO];exact h1);have e2:=Mw (q:Int) m 0 k h2 (by rw[wO];exact h2);have:(jI (p:Int) 0 l)[k]'(by rw[wO];exact h1)=(jI (q:Int) 0 m)[k]'(by rw[wO];exact h2):=by simp only[h]
  rw[e1,e2] at this;simpa using this
 have one:∀(r k:Nat),dD (r:Int) k=0∨dD (r:Int) k=1:=fun r k=>by unfold dD;split<;>simp
 refine⟨List.ext_getElem hl fun k h1 h2=>?_,?_⟩
 ·have:=key k h1 h2
  rcases one p k with a | a<;>rcases one q k with b | b<;>rw[a,b] at this<;>omega
 ·have:=key p hp (by omega)
  have hpp:dD (p:Int) p=1:=by simp[dD]
  rw[hpp] at this;rcases one q p with b | b
  ·rw[b] at this;omega
  ·unfold dD at b
   split at b
   ·omega
   ·omega
def sZ(l:List Int):List Int:=l.map (2 * ·)
theorem WR:∀(l:List Int) (p:Nat) (h:p < l.length),jI (p:Nat) 0 l=sZ (l.take p)++(2*l[p]+1)::sZ (l.drop (p+1))
 | [],p,h=>by simp at h
 | x::l,0,h=>by
  have e0:((0:Nat):Int)=0:=rfl;rw[e0];have e1:dD 0 0=1:=by simp[dD]
  have e2:jI 0 0 (x::l)=(2*x+dD 0 0)::jI 0 1 l:=rfl;rw[e2,e1,Zj2 l 0];simp[sZ]
 | x::l,p+1,h=>by
  have:=WR l p (by simpa using h);simp only[jI];have hs:=Zgj p l 0;have h0:dD ((p+1:Nat):Int) 0=0:=by unfold dD;rw[if_neg (by omega)]
  rw[hs,h0,this];simp[sZ]
section
variable{b a:aC}
theorem ZqS{ph:Int}(hp:ph=0∨ph=1)(q:Nat)(y:Nat):nD b a (ph,(q:Int)) (2*y)=(1,(bK b q (y:Int):Int)):=by
 unfold nD;rw[if_neg (by omega),if_pos hp];have:2*y / 2=y:=by omega
 rw[this];rfl
theorem Zmu(ph:Int)(q y:Nat):nD b a (ph,(q:Int)) (2*y+1)=if ph=1∧dG b q=true then (2,(bK a 0 (y:Int):Int)) else (3,0):=by
 unfold nD;rw[if_pos (by omega)];have:(2*y+1) / 2=y:=by omega
 rw[this];rfl
theorem Zt5(w:List Int):w.foldl (fun x s=>nD b a x s.toNat) (3,0)=(3,0):=by
 induction w with
 | nil=>rfl
 | cons s w ih=>
  rw[List.foldl_cons]
  have:nD b a (3,0) s.toNat=(3,0):=by
   unfold nD;split
   ·rw[if_neg (by simp)]
   ·rw[if_neg (by simp),if_neg (by simp)]
  rw[this];exact ih
theorem ZlT{x:Int}(h:0≤x):∃y:Nat,x=2*y∨x=2*y+1:=⟨(x / 2).toNat,by omega⟩
theorem Zt4:∀(w:List Int) (q:Nat),(∀x∈w,0≤x)→(wz a (w.foldl (fun x s=>nD b a x s.toNat) (2,(q:Int)))=true↔∃v,w=sZ v∧dG a (runT a q v)=true)
 | [],q,_=>by
  constructor
  ·intro h;exact⟨[],rfl,by simpa[wz,runT] using h⟩
  ·rintro⟨v,h1,h2⟩
   have:v=[]:=by cases v with | nil=>rfl | cons _ _=>simp[sZ] at h1
   subst this;simpa[wz,runT] using h2
 | x::w,q,hw=>by
  rw[List.foldl_cons];obtain⟨y,hy | hy⟩:=ZlT (hw x (by simp))
  ·subst hy
   have e:(2*(y:Int)).toNat=2*y:=by omega
   have hn:nD b a (2,(q:Int)) (2*y)=(2,(bK a q (y:Int):Int)):=by
    unfold nD;rw[if_neg (by omega),if_neg (by simp),if_pos rfl];have:2*y / 2=y:=by omega
    rw[this];rfl
   rw[e,hn,Zt4 w _ (fun z hz=>hw z (by simp[hz]))];constructor
   ·rintro⟨v,h1,h2⟩
    exact⟨(y:Int)::v,by simp[sZ,h1],h2⟩
   ·rintro⟨v,h1,h2⟩
    cases v with
    | nil=>simp[sZ] at h1
    | cons z v=>
     simp only[sZ,List.map_cons,List.cons.injEq] at h1;have:z=y:=by omega
     subst this;exact⟨v,h1.2,h2⟩
  ·subst hy
   have e:(2*(y:Int)+1).toNat=2*y+1:=by omega
   have hn:nD b a (2,(q:Int)) (2*y+1)=(3,0):=by rw[Zmu,if_neg (by simp)]
   rw[e,hn,Zt5];constructor
   ·intro h;simp[wz] at h
   ·rintro⟨v,h1,_⟩
    cases v with
    | nil=>simp[sZ] at h1
    | cons z v=>simp only[sZ,List.map_cons,List.cons.injEq] at h1;omega
theorem Zt3:∀(w:List Int) (ph:Int) (q:Nat),(ph=0∨ph=1)→(∀x∈w,0≤x)→(wz a (w.foldl (fun x s=>nD b a x s.toNat) (ph,(q:Int)))=true ↔
  ∃u s v,w=sZ u++(2*s+1)::sZ v∧(ph=1∨u≠[])∧dG b (runT b q u)=true∧dG a (runT a 0 (s::v))=true)
 | [],ph,q,hp,_=>by
  constructor
  ·intro h;rcases hp with rfl | rfl<;>simp[wz] at h
  ·rintro⟨u,s,v,h,_⟩;simp at h
 | x::w,ph,q,hp,hw=>by
  rw[List.foldl_cons];have hw':∀z∈w,0≤z:=fun z hz=>hw z (by simp[hz])
  obtain⟨y,hy | hy⟩:=ZlT (hw x (by simp))
  ·subst hy
   have e:(2*(y:Int)).toNat=2*y:=by omega
   rw[e,ZqS hp,Zt3 w 1 _ (.inr rfl) hw'];constructor
   ·rintro⟨u,s,v,h1,h2,h3,h4⟩
    exact⟨(y:Int)::u,s,v,by simp[sZ,h1],.inr (by simp),h3,h4⟩
   ·rintro⟨u,s,v,h1,h2,h3,h4⟩
    cases u with
    | nil=>simp only[sZ,List.map_nil,List.nil_append,List.cons.injEq] at h1;omega
    | cons z u=>
     simp only[sZ,List.map_cons,List.cons_append,List.cons.injEq] at h1;have:z=y:=by omega
     subst this;exact⟨u,s,v,h1.2,.inl rfl,h3,h4⟩
  ·subst hy
   have e:(2*(y:Int)+1).toNat=2*y+1:=by omega
   rw[e,Zmu];split
   ·rename_i hc
    rw[Zt4 w _ hw'];constructor
    ·rintro⟨v,h1,h2⟩
     exact⟨[],y,v,by simp[sZ,h1],.inl hc.1,hc.2,h2⟩
    ·rintro⟨u,s,v,h1,h2,h3,h4⟩
     cases u with
     | nil=>
      simp only[sZ,List.map_nil,List.nil_append,List.cons.injEq] at h1;have:s=y:=by omega
      subst this;exact⟨v,h1.2,h4⟩
     | cons z u=>simp only[sZ,List.map_cons,List.cons_append,List.cons.injEq] at h1;omega
   ·rename_i hc
    rw[Zt5];constructor
    ·intro h;simp[wz] at h
    ·rintro⟨u,s,v,h1,h2,h3,h4⟩
     cases u with
     | nil=>exact(hc ⟨by rcases h2 with h | h;exact h;exact(h rfl).elim,h3⟩).elim
     | cons z u=>simp only[sZ,List.map_cons,List.cons_append,List.cons.injEq] at h1;omega
end
theorem Zj4{n:Int}{l:List Int}{p:Nat}(hp:p < l.length):(∀x∈jI (p:Nat) 0 l,0≤x∧x < 2*n)↔rU n l:=by
 constructor
 ·intro h x hx
  obtain⟨k,hk,rfl⟩:=List.mem_iff_getElem.mp hx;have e:=Mw (p:Int) l 0 k hk (by rw[wO];exact hk);have:=h _ (List.getElem_mem (l:=jI (p:Int) 0 l) (n:=k) (by rw[wO];exact hk));rw[e] at this;have ho:dD (p:Int) (0+k)=0∨dD (p:Int) (0+k)=1:=by unfold dD;split<;>simp
  rcases ho with o | o<;>rw[o] at this<;>omega
 ·intro h x hx
  obtain⟨k,hk,rfl⟩:=List.mem_iff_getElem.mp hx;rw[wO] at hk;rw[Mw (p:Int) l 0 k hk];have ho:dD (p:Int) (0+k)=0∨dD (p:Int) (0+k)=1:=by unfold dD;split<;>simp
  have:=h _ (List.getElem_mem hk);rcases ho with o | o<;>rw[o]<;>omega
theorem ZjH{b a d:aC}{most:Int}(h:kF b a most=(d,0)):dP b∧dP a∧b.signs=a.signs∧b.signs≤200∧1≤most∧most≤3000∧∃st,Gj (qU b a) most=some st∧d=wR (2*b.signs) st:=by
 unfold kF at h;split at h
 ·rename_i hc
  obtain⟨h1,h2,h3,h4,h5,h6⟩:=hc;refine⟨(uQ b).mp h1,(uQ a).mp h2,h3,h4,h5,h6,?_⟩;split at h
  ·rename_i st hst
   cases h;exact⟨st,hst,rfl⟩
  ·cases h
 ·cases h
theorem Wu{b a d:aC}{most:Int}(h:kF b a most=(d,0)):xM d b.signs (fun l p=>uE b (l.take p) && uE a (l.drop p))∧(d.next.length:Int)≤most:=by
 obtain⟨Rb,Ra,hs,h2,hm,hm2,st,hst,rfl⟩:=ZjH h;have h1:=Rb.s1;have hMs:(2*b.signs)=((qU b a).sg:Nat):=by show 2*b.signs=((2*b.signs).toNat:Nat);omega
 obtain⟨R,hle,hacc⟩:=ZjF (ZvC Rb Ra hs) hm hm2 (sg:=2*b.signs) hMs (by omega) (by omega) hst;refine⟨⟨R,rfl,fun w hw=>?_⟩,hle⟩;rw[hacc w hw];have hw0:∀x∈w,0≤x:=fun x hx=>(hw x hx).1
 have hk:ZvF (qU b a) w=w.foldl (fun x s=>nD b a x s.toNat) (0,((0:Nat):Int)):=rfl;have he:(qU b a).e=wz a:=rfl;rw[hk,he,Zt3 w 0 0 (.inl rfl) hw0];have hsd:(wR (2*b.signs) st).signs=2*b.signs:=rfl;constructor
 ·rintro⟨u,s,v,g1,g2,g3,g4⟩
  have hu:u≠[]:=by rcases g2 with h | h;omega;exact h
  have hlen:u.length < (u++s::v).length:=by simp
  have e:=WR (u++s::v) u.length hlen;have t1:(u++s::v).take u.length=u:=by simp
  have t2:(u++s::v).drop (u.length+1)=v:=by rw[List.drop_append];simp[List.drop_eq_nil_of_le]
  have t3:(u++s::v)[u.length]'hlen=s:=by simp
  have t4:(u++s::v).drop u.length=s::v:=by simp
  rw[t1,t2,t3] at e;have hwe:w=jI (u.length:Nat) 0 (u++s::v):=by rw[e,g1]
  have hR:rU b.signs (u++s::v):=(Zj4 hlen).mp (by rw[←hwe];exact hw);refine⟨u++s::v,u.length,hR,by have:=List.length_pos_iff.mpr hu;omega,hlen,hwe,?_⟩;rw[Bool.and_eq_true];refine⟨(Jl Rb _).mpr ⟨?_,by rw[t1];exact g3⟩,(Jl Ra _).mpr ⟨?_,by rw[t4];exact g4⟩⟩
  ·exact hR.take _
  ·intro x hx;rw[←hs];exact hR.drop _ x hx
 ·rintro⟨l,p,g1,g2,g3,g4,g5⟩
  rw[Bool.and_eq_true] at g5;have a1:=((Jl Rb _).mp g5.1).2;have a2:=((Jl Ra _).mp g5.2).2;refine⟨l.take p,l[p],l.drop (p+1),by rw[g4];exact WR l p g3,.inr ?_,a1,?_⟩
  ·intro h
   have:(l.take p).length=0:=by rw[h];rfl
   rw[List.length_take] at this;omega
  ·rw[←List.drop_eq_getElem_cons g3];exact a2
namespace xM
theorem congr{d:aC}{n:Int}{F G:List Int→Nat→Bool}(h:xM d n F)(hf:∀l p,rU n l→1≤p→p < l.length→F l p=G l p):xM d n G:=by
 refine⟨h.R,h.s,fun w hw=>(h.acc w hw).trans ⟨?_,?_⟩⟩
 ·rintro⟨l,p,a1,a2,a3,a4,a5⟩;exact⟨l,p,a1,a2,a3,a4,by rw[←hf l p a1 a2 a3];exact a5⟩
 ·rintro⟨l,p,a1,a2,a3,a4,a5⟩;exact⟨l,p,a1,a2,a3,a4,by rw[hf l p a1 a2 a3];exact a5⟩
theorem vl{d:aC}{n:Int}{F:List Int→Nat→Bool}(h:xM d n F){l:List Int}{p:Nat}(hp:p < l.length)(hl:rU n l):Vl d (jI (p:Nat) 0 l):=fun x hx=>by
 have:=(Zj4 hp).mpr hl x hx;rw[h.s];exact this
theorem fin{d:aC}{n:Int}{F:List Int→Nat→Bool}(h:xM d n F){l:List Int}{p:Nat}(h1:1≤p)(hp:p < l.length)(hl:rU n l):dG d (runT d 0 (jI (p:Nat) 0 l))=F l p:=by
 have:=h.acc _ (h.vl hp hl);cases hF:F l p with
 | true=>exact this.mpr ⟨l,p,hl,h1,hp,rfl,hF⟩
 | false=>
  cases hb:dG d (runT d 0 (jI (p:Nat) 0 l)) with
  | false=>rfl
  | true=>
   obtain⟨m,q,a1,a2,a3,a4,a5⟩:=this.mp hb;obtain⟨rfl,rfl⟩:=Zu8 hp a4;rw[hF] at a5;cases a5
theorem least{d:aC}{n:Int}{F:List Int→Nat→Bool}(h:xM d n F):xM (kV d) n F:=
 ⟨(LZ h.R).1,h.s,fun w hw=>by rw[Zfu h.R w hw];exact h.acc w hw⟩
theorem n1{d:aC}{n:Int}{F:List Int→Nat→Bool}(h:xM d n F):1≤n∧n≤200:=by
 have:=h.R.s1;have:=h.R.s2;have:=h.s;omega
end xM
def SI(d:aC)(l:List Int)(p:Int):Bool:=decide (0 < (qX l p).length) && uE d (qX l p)
theorem ZrQ{n:Int}(hn:n≤200){l:List Int}(h:rU n l):l.any zy=false:=by
 rw[List.any_eq_false];intro x hx;have:=h x hx;simp[zy];omega
theorem xM.at_{d:aC}{n:Int}{F:List Int→Nat→Bool}(h:xM d n F){l:List Int}(hl:rU n l)(p:Int):SI d l p=(decide (1≤p∧p < l.length) && F l p.toNat):=by
 unfold SI qX;by_cases hp:1≤p∧p < l.length
 ·rw[if_pos ⟨hp.1,hp.2,ZrQ h.n1.2 hl⟩]
  obtain⟨q,rfl⟩:∃q:Nat,p=q:=⟨p.toNat,by omega⟩
  have e:uE d (jI (q:Nat) 0 l)=F l q:=by
   have hv:=h.vl (p:=q) (by omega) hl;have hf:=h.fin (p:=q) (by omega) (by omega) hl;cases hF:F l q with
   | true=>exact(Jl h.R _).mpr ⟨hv,by rw[hf];exact hF⟩
   | false=>
    cases hb:uE d (jI (q:Nat) 0 l) with
    | false=>rfl
    | true=>have:=((Jl h.R _).mp hb).2;rw[hf,hF] at this;cases this
  rw[e,wO];have h1:decide (0 < l.length)=true:=by simp;omega
  have h2:decide (1≤(q:Int)∧(q:Int) < l.length)=true:=by simp;omega
  rw[h1,h2];rfl
 ·rw[if_neg (fun h=>hp ⟨h.1,h.2.1⟩)]
  have h2:decide (1≤p∧p < (l.length:Int))=false:=by simpa using hp
  rw[h2];rfl
end Go.Rf
