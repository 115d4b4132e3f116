import Derived.Calls
import Derived.Orders
import Derived.Below
import Derived.Laws.World
import Derived.Laws.CopyRow
import Derived.Laws.AppendOwn
import Derived.Laws.MakeOwn
import Derived.Laws.NewBlocks
import Derived.Great.FillDense
import Derived.Laws.Entries
import Derived.Laws.StructEq
import Derived.ChangeKeysEq
import Derived.WideKeyRuns
import Derived.MapKept
set_option linter.unusedVariables false
set_option linter.unusedSimpArgs false
set_option linter.unusedSectionVars false
namespace Go.Rf
open Go.RowKit
inductive AV where
 | junk
 | v (x:Value)
 | sl (t:Bool) (xs:List AV)
 | own (id off len:Nat)
 | ptr (id ix c:Nat)
 | bJ (x:AV) (c:Nat)
 | agg (cs:List AV)
 | aM (vs:List AV)
 | aP (f:FuncId) (first cap:List AV)
 | mp (id:Nat)
 deriving Inhabited
def zG:Value→Bool
 | .agg _ | .tuple _ | .slice .. | .pointer (some _) | .map (some _) | .func ..=>false
 | _=>true
namespace AV
def cells:AV→List AV
 | agg cs=>cs
 | x=>[x]
def atom:AV→Bool
 | junk | agg _ | aM _=>false
 | _=>true
def solid:AV→Bool
 | junk | aM _=>false
 | _=>true
end AV
def flat(xs:List AV):List AV:=xs.flatMap AV.cells
structure Loc where
 b:Nat
 o:Nat
 es:Nat
 tot:Nat
structure Env where
 ρ:Nat→Option Loc
 H:Nat→Option (Array Value)
def Env.le(E E':Env):Prop:=(∀id l,E.ρ id=some l→E'.ρ id=some l)∧∀b cs,E.H b=some cs→E'.H b=some cs
theorem Env.le_refl(E:Env):E.le E:=⟨fun _ _ h=>h,fun _ _ h=>h⟩
theorem Env.le_trans{A B C:Env}(h:A.le B)(k:B.le C):A.le C:=⟨fun i l e=>k.1 i l (h.1 i l e),fun b c e=>k.2 b c (h.2 b c e)⟩
inductive aL (E:Env):AV→Value→Prop
 | junk (x:Value):aL E .junk x
 | v (x:Value) (h:zG x=true):aL E (.v x) x
 | sl0 (t:Bool) (A:Option Addr) (cap:Nat) (h:t=true→cap=0):aL E (.sl t []) (.slice A 0 cap)
 | sl (t:Bool) (xs:List AV) (b o cap:Nat) (cs:Array Value) (es:Nat) (f:Nat→Value) (hne:0 < xs.length) (hb:E.H b=some cs)
   (hes:∀x∈xs,x.cells.length=es) (hcap:xs.length≤cap) (ht:t=true→cap=xs.length) (hat:∀y∈flat xs,y.atom=true)
   (hc:∀k,k < (flat xs).length→cs[o+k]? = some (f k)) (hr:∀k (h:k < (flat xs).length),aL E ((flat xs)[k]) (f k)) :
   aL E (.sl t xs) (.slice (some ⟨b,o,none⟩) xs.length cap)
 | own (id off len:Nat) (A:Option Addr) (cap:Nat) (l:Loc) (hl:E.ρ id=some l) (hlen:len≤cap)
   (hA:cap≠0→A=some ⟨l.b,l.o+off*l.es,none⟩∧off+cap≤l.tot):aL E (.own id off len) (.slice A len cap)
 | ptr (id ix c:Nat) (l:Loc) (hl:E.ρ id=some l):aL E (.ptr id ix c) (.pointer (some ⟨l.b,l.o+ix*l.es+c,none⟩))
 | bJ (x:AV) (c b o:Nat) (cs:Array Value) (f:Nat→Value) (hb:E.H b=some cs) (hat:∀y∈x.cells,y.atom=true)
   (hc:∀k,k < x.cells.length→cs[o+k]? = some (f k)) (hr:∀k (h:k < x.cells.length),aL E (x.cells[k]) (f k)) :
   aL E (.bJ x c) (.pointer (some ⟨b,o+c,none⟩))
 | agg (cs:List AV) (vs:Array Value) (hn:vs.size=cs.length) (hat:∀y∈cs,y.atom=true)
   (hr:∀j (h:j < cs.length),aL E (cs[j]) (vs.getD j undef)):aL E (.agg cs) (.agg vs)
 | aM (cs:List AV) (vs:Array Value) (hn:vs.size=cs.length)
   (hr:∀j (h:j < cs.length),aL E (cs[j]) (vs.getD j undef)):aL E (.aM cs) (.tuple vs)
 | aP (f:FuncId) (first cap:List AV) (fv cv:Array Value) (hn:fv.size=first.length) (hm:cv.size=cap.length)
   (hf:∀j (h:j < first.length),aL E (first[j]) (fv.getD j undef)) (hc:∀j (h:j < cap.length),aL E (cap[j]) (cv.getD j undef)) :
   aL E (.aP f first cap) (.func (.func f) fv cv)
 | mp (id:Nat) (l:Loc) (hl:E.ρ id=some l):aL E (.mp id) (.map (some l.b))
theorem aL.mono{E E':Env}(h:E.le E'){x:AV}{v:Value}(r:aL E x v):aL E' x v:=by
 induction r with
 | junk x=>exact .junk x
 | v x hx=>exact .v x hx
 | sl0 t A cap ht=>exact .sl0 t A cap ht
 | sl t xs b o cap cs es f hne hb hes hcap ht hat hc hr ih=>exact .sl t xs b o cap cs es f hne (h.2 _ _ hb) hes hcap ht hat hc ih
 | own id off len A cap l hl hlen hA=>exact .own id off len A cap l (h.1 _ _ hl) hlen hA
 | ptr id ix c l hl=>exact .ptr id ix c l (h.1 _ _ hl)
 | bJ x c b o cs f hb hat hc hr ih=>exact .bJ x c b o cs f (h.2 _ _ hb) hat hc ih
 | agg cs vs hn hat hr ih=>exact .agg cs vs hn hat ih
 | aM cs vs hn hr ih=>exact .aM cs vs hn ih
 | aP f first cap fv cv hn hm hf hc ih1 ih2=>exact .aP f first cap fv cv hn hm ih1 ih2
 | mp id l hl=>exact .mp id l (h.1 _ _ hl)
inductive aY:AV→Prop
 | v (x:Value):aY (.v x)
 | sl (t:Bool) (xs:List AV) (h:∀y∈xs,aY y):aY (.sl t xs)
 | bJ (x:AV) (c:Nat) (h:aY x):aY (.bJ x c)
 | agg (cs:List AV) (h:∀y∈cs,aY y):aY (.agg cs)
 | aM (cs:List AV) (h:∀y∈cs,aY y):aY (.aM cs)
 | aP (f:FuncId) (a b:List AV) (ha:∀y∈a,aY y) (hb:∀y∈b,aY y):aY (.aP f a b)
theorem aY.cells{x:AV}(h:aY x):∀y∈x.cells,aY y:=by
 cases h with
 | agg cs h=>exact h
 | v x=>intro y hy;simp[AV.cells] at hy;subst hy;exact .v x
 | sl t xs h=>intro y hy;simp[AV.cells] at hy;subst hy;exact .sl t xs h
 | bJ x c h=>intro y hy;simp[AV.cells] at hy;subst hy;exact .bJ x c h
 | aM cs h=>intro y hy;simp[AV.cells] at hy;subst hy;exact .aM cs h
 | aP f a b ha hb=>intro y hy;simp[AV.cells] at hy;subst hy;exact .aP f a b ha hb
theorem aY.flat{xs:List AV}(h:∀y∈xs,aY y):∀y∈flat xs,aY y:=by
 intro y hy;simp[Rf.flat] at hy;obtain⟨x,hx,hyx⟩:=hy;exact(h x hx).cells y hyx
theorem aL.closed{E E':Env}(hH:∀b cs,E.H b=some cs→E'.H b=some cs){x:AV}{v:Value}(r:aL E x v)(hx:aY x):aL E' x v:=by
 induction r with
 | junk x=>cases hx
 | v x h=>exact .v x h
 | sl0 t A cap ht=>exact .sl0 t A cap ht
 | sl t xs b o cap cs es f hne hb hes hcap ht hat hc hr ih=>
  cases hx with
  | sl _ _ h=>exact .sl t xs b o cap cs es f hne (hH _ _ hb) hes hcap ht hat hc (fun k hk=>ih k hk (aY.flat h _ (List.getElem_mem hk)))
 | own id off len A cap l hl hlen hA=>cases hx
 | ptr id ix c l hl=>cases hx
 | bJ x c b o cs f hb hat hc hr ih=>
  cases hx with
  | bJ _ _ h=>exact .bJ x c b o cs f (hH _ _ hb) hat hc (fun k hk=>ih k hk (h.cells _ (List.getElem_mem hk)))
 | agg cs vs hn hat hr ih=>cases hx with | agg _ h=>exact .agg cs vs hn hat (fun j hj=>ih j hj (h _ (List.getElem_mem hj)))
 | aM cs vs hn hr ih=>cases hx with | aM _ h=>exact .aM cs vs hn (fun j hj=>ih j hj (h _ (List.getElem_mem hj)))
 | aP f first cap fv cv hn hm hf hc ih1 ih2=>
  cases hx with
  | aP _ _ _ ha hb=>exact .aP f first cap fv cv hn hm (fun j hj=>ih1 j hj (ha _ (List.getElem_mem hj))) (fun j hj=>ih2 j hj (hb _ (List.getElem_mem hj)))
 | mp id l hl=>cases hx
theorem aL.loose{E:Env}{t:Bool}{xs:List AV}{v:Value}(r:aL E (.sl t xs) v):aL E (.sl false xs) v:=by
 cases r with
 | sl0 _ A cap ht=>exact .sl0 false A cap (by simp)
 | sl _ _ b o cap cs es f hne hb hes hcap ht hat hc hr=>exact .sl false xs b o cap cs es f hne hb hes hcap (by simp) hat hc hr
theorem aL.UJ{E:Env}{x:AV}{v:Value}(r:aL E x v)(h:x.atom=true):v.cells=#[v]∧(∀cs,v≠.agg cs)∧∀cs,v≠.tuple cs:=by
 cases r<;>simp_all [AV.atom,Value.cells];rename_i h;cases v<;>simp_all [zG]
theorem aL.cells{E:Env}{x:AV}{v:Value}(r:aL E x v)(h:x.solid=true) :
  v.cells.size=x.cells.length∧∀j (hj:j < x.cells.length),aL E (x.cells[j]) (v.cells.getD j undef):=by
 by_cases ha:x.atom=true
 ·have hv:=(r.UJ ha).1
  have hx:x.cells=[x]:=by cases x<;>simp_all [AV.atom,AV.cells]
  rw[hv,hx];refine⟨rfl,fun j hj=>?_⟩;simp at hj;subst hj;exact r
 ·cases r with
  | agg cs vs hn hat hr=>exact⟨hn,hr⟩
  | junk x=>simp[AV.solid] at h
  | aM cs vs hn hr=>simp[AV.solid] at h
  | _=>simp[AV.atom] at ha
theorem aL.EJ{E:Env}{x:AV}{v:Value}(r:aL E x v)(h:x.solid=true):∀y∈x.cells,y.atom=true:=by
 by_cases ha:x.atom=true
 ·have hx:x.cells=[x]:=by cases x<;>simp_all [AV.atom,AV.cells]
  rw[hx];simpa using ha
 ·cases r with
  | agg cs vs hn hat hr=>exact hat
  | junk x=>simp[AV.solid] at h
  | aM cs vs hn hr=>simp[AV.solid] at h
  | _=>simp[AV.atom] at ha
inductive aF where
 | arr (es:Nat) (xs:List AV)
 | map (ents:List (AV×AV))
structure St where
 n:Nat
 g:Nat→Option aF
def mJ(E:Env)(w:World)(l:Loc):aF→Prop
 | .arr es xs=>l.es=es∧xs.length≤l.tot∧(∀x∈xs,x.cells.length=es)∧(∀y∈flat xs,y.atom=true)∧
   ∃cs el,w.heap[l.b]? = some (.cells cs el (0,0))∧l.o+l.tot*es≤cs.size∧
    ∀k (h:k < (flat xs).length),∃v,cs[l.o+k]? = some v∧aL E ((flat xs)[k]) v
 | .map ents=>∃es clock,w.heap[l.b]? = some (.map es clock)∧es.size=ents.length∧
   ∀k (h:k < ents.length),∃e,es[k]? = some e∧aL E (ents[k].1) e.key∧aL E (ents[k].2) e.val
structure bf(E:Env)(S:St)(w:World):Prop where
 hH:∀b cs,E.H b=some cs→∃el fz,w.heap[b]? = some (.cells cs el fz)
 live:∀id k,S.g id=some k→∃l,E.ρ id=some l∧E.H l.b=none∧mJ E w l k
 nL:∀i j ki kj li lj,S.g i=some ki→S.g j=some kj→i≠j→E.ρ i=some li→E.ρ j=some lj→li.b≠lj.b
 fresh:∀id,S.n≤id→E.ρ id=none
structure kH(E:Env)(S:St)(w:World)(E':Env)(S':St)(w':World):Prop where
 os:w'.os=w.os
 tape:w'.tape=w.tape
 output:w'.output=w.output
 size:w.heap.size≤w'.heap.size
 keep:∀b,b < w.heap.size→(∀id l k,S.g id=some k→E.ρ id=some l→l.b≠b)→w'.heap[b]? = w.heap[b]?
 grow:∀id l k,S'.g id=some k→E'.ρ id=some l→w.heap.size≤l.b∨∃jg l0 k0,S.g jg=some k0∧E.ρ jg=some l0∧l0.b=l.b
 le:E.le E'
 hsub:∀b cs,E'.H b=some cs→E.H b=some cs∨w.heap.size≤b∨∃jg l0 k0,S.g jg=some k0∧E.ρ jg=some l0∧l0.b=b
theorem kH.refl(E:Env)(S:St)(w:World):kH E S w E S w:=
 ⟨rfl,rfl,rfl,Nat.le_refl _,fun _ _ _=>rfl,fun id l k hk hl=>.inr ⟨id,l,k,hk,hl,rfl⟩,Env.le_refl _,fun _ _ e=>.inl e⟩
theorem kH.trans{E1 E2 E3:Env}{S1 S2 S3:St}{w1 w2 w3:World}(h:kH E1 S1 w1 E2 S2 w2)(k:kH E2 S2 w2 E3 S3 w3):kH E1 S1 w1 E3 S3 w3:=by
 refine⟨k.os.trans h.os,k.tape.trans h.tape,k.output.trans h.output,Nat.le_trans h.size k.size,?_,?_,Env.le_trans h.le k.le,?_⟩
 ·intro b hb hn
  rw[k.keep b (Nat.lt_of_lt_of_le hb h.size) ?_,h.keep b hb hn];intro id l kk hk hl e;rcases h.grow id l kk hk hl with hge | ⟨jg,l0,k0,a1,a2,a3⟩
  ·omega
  ·exact hn jg l0 k0 a1 a2 (a3.trans e)
 ·intro id l kk hk hl
  rcases k.grow id l kk hk hl with hge | ⟨jg,l0,k0,a1,a2,a3⟩
  ·left;exact Nat.le_trans h.size hge
  ·rcases h.grow jg l0 k0 a1 a2 with hge | ⟨id1,l1,k1,b1,b2,b3⟩
   ·left;omega
   ·right;exact⟨id1,l1,k1,b1,b2,b3.trans a3⟩
 ·intro b cs e
  rcases k.hsub b cs e with e1 | hge | ⟨jg,l0,k0,a1,a2,a3⟩
  ·exact h.hsub b cs e1
  ·right;left;exact Nat.le_trans h.size hge
  ·rcases h.grow jg l0 k0 a1 a2 with hge | ⟨id1,l1,k1,b1,b2,b3⟩
   ·right;left;omega
   ·right;right;exact⟨id1,l1,k1,b1,b2,b3.trans a3⟩
theorem mJ.mono{E E':Env}{w w':World}{l:Loc}{k:aF}(h:mJ E w l k)(hE:E.le E')(hw:w'.heap[l.b]? = w.heap[l.b]?):mJ E' w' l k:=by
 cases k with
 | arr es xs=>
  obtain⟨h1,h2,h3,h4,cs,el,h5,h6,h7⟩:=h;exact⟨h1,h2,h3,h4,cs,el,by rw[hw,h5],h6,fun k hk=>let ⟨v,a,b⟩:=h7 k hk;⟨v,a,b.mono hE⟩⟩
 | map ents=>
  obtain⟨es,clock,h1,h2,h3⟩:=h;exact⟨es,clock,by rw[hw,h1],h2,fun k hk=>let ⟨e,a,b,c⟩:=h3 k hk;⟨e,a,b.mono hE,c.mono hE⟩⟩
theorem mJ.lt{E:Env}{w:World}{l:Loc}{k:aF}(h:mJ E w l k):l.b < w.heap.size:=by
 cases k with
 | arr es xs=>obtain⟨_,_,_,_,cs,el,h5,_⟩:=h;exact(Array.getElem?_eq_some_iff.mp h5).1
 | map ents=>obtain⟨es,clock,h1,_⟩:=h;exact(Array.getElem?_eq_some_iff.mp h1).1
def bF{α:Type}(f:Nat→α)(i:Nat)(x:α):Nat→α:=fun j=>if j=i then x else f j
@[simp] theorem Ip {α:Type} (f:Nat→α) (i:Nat) (x:α):bF f i x i=x:=by simp[bF]
def St.set(S:St)(i:Nat)(k:Option aF):St:=⟨S.n,bF S.g i k⟩
def Env.loc(E:Env)(i:Nat)(l:Loc):Env:=⟨bF E.ρ i (some l),E.H⟩
def Env.sN(E:Env)(b:Nat)(cs:Array Value):Env:=⟨E.ρ,bF E.H b (some cs)⟩
theorem bf.H6{E:Env}{S:St}{w:World}(h:bf E S w){b:Nat}{cs:Array Value}(e:E.H b=some cs):b < w.heap.size:=by
 obtain⟨el,fz,h1⟩:=h.hH b cs e;exact(Array.getElem?_eq_some_iff.mp h1).1
theorem bf.P5p{E:Env}{S:St}{w:World}(h:bf E S w){b:Nat}(hb:w.heap.size≤b):E.H b=none:=by
 cases e:E.H b with
 | none=>rfl
 | some cs=>have:=h.H6 e;omega
theorem bf.rho{E:Env}{S:St}{w:World}(h:bf E S w){i:Nat}{k:aF}(e:S.g i=some k):∃l,E.ρ i=some l:=by
 obtain⟨l,h1,_⟩:=h.live i k e;exact⟨l,h1⟩
theorem bf.lt{E:Env}{S:St}{w:World}(h:bf E S w){i:Nat}{k:aF}(e:S.g i=some k):i < S.n:=by
 obtain⟨l,h1⟩:=h.rho e;rcases Nat.lt_or_ge i S.n with h2 | h2
 ·exact h2
 ·rw[h.fresh i h2] at h1;cases h1
theorem Env.OT{E:Env}{i:Nat}{l:Loc}(h:E.ρ i=none):E.le (E.loc i l):=by
 refine⟨fun j k e=>?_,fun _ _ e=>e⟩;simp only[Env.loc,bF];split
 ·subst_vars;rw[h] at e;cases e
 ·exact e
theorem Env.KW{E:Env}{b:Nat}{cs:Array Value}(h:E.H b=none):E.le (E.sN b cs):=by
 refine⟨fun _ _ e=>e,fun c k e=>?_⟩;simp only[Env.sN,bF];split
 ·subst_vars;rw[h] at e;cases e
 ·exact e
theorem bf.drew{E:Env}{S:St}{w:World}(h:bf E S w):bf E S w.drew:=
 ⟨h.hH,fun i k e=>let ⟨l,a,b,c⟩:=h.live i k e;⟨l,a,b,c.mono (Env.le_refl _) rfl⟩,h.nL,h.fresh⟩
theorem kH.drew(E:Env)(S:St)(w:World):kH E S w E S w.drew:=
 ⟨rfl,rfl,rfl,Nat.le_refl _,fun _ _ _=>rfl,fun id l k hk hl=>.inr ⟨id,l,k,hk,hl,rfl⟩,Env.le_refl _,fun _ _ e=>.inl e⟩
theorem Ic(w:World)(o:Obj){b:Nat}(h:b < w.heap.size):(w.alloc o).heap[b]? = w.heap[b]?:=by
 show(w.heap.push o)[b]? = _
 rw[Array.getElem?_push,if_neg (by omega)]
theorem Li(w:World)(o:Obj):(w.alloc o).heap[w.heap.size]? = some o:=by show(w.heap.push o)[w.heap.size]? = some o;simp
theorem bf.junk{E:Env}{S:St}{w:World}(h:bf E S w)(o:Obj):bf E S (w.alloc o):=by
 refine⟨fun b cs e=>?_,fun i k e=>?_,h.nL,h.fresh⟩
 ·rw[Ic _ _ (h.H6 e)];exact h.hH b cs e
 ·obtain⟨l,a,b,c⟩:=h.live i k e
  exact⟨l,a,b,c.mono (Env.le_refl _) (Ic _ _ c.lt)⟩
theorem kH.junk(E:Env)(S:St)(w:World)(o:Obj):kH E S w E S (w.alloc o):=
 ⟨rfl,rfl,rfl,by simp,fun b hb _=>Ic _ _ hb,fun id l k hk hl=>.inr ⟨id,l,k,hk,hl,rfl⟩,Env.le_refl _,fun _ _ e=>.inl e⟩
theorem bf.alloc{E:Env}{S:St}{w:World}(h:bf E S w){i:Nat}(hi:E.ρ i=none)(hn:i < S.n)(o:Obj)(l:Loc)(hl:l.b=w.heap.size)(k:aF)
  (hk:mJ E (w.alloc o) l k):bf (E.loc i l) (S.set i (some k)) (w.alloc o):=by
 have hle:E.le (E.loc i l):=Env.OT hi;refine⟨fun b cs e=>?_,fun j kj e=>?_,fun a b ka kb la lb ha hb hne ea eb=>?_,fun j hj=>?_⟩
 ·have e':E.H b=some cs:=e
  rw[Ic _ _ (h.H6 e')];exact h.hH b cs e'
 ·by_cases hji:j=i
  ·subst hji
   simp only[St.set,Ip,Option.some.injEq] at e;subst e;exact⟨l,by simp[Env.loc],by show E.H l.b=none;rw[hl];exact h.P5p (Nat.le_refl _),hk.mono hle rfl⟩
  ·simp only[St.set,bF,hji,if_false] at e
   obtain⟨l',a,b,c⟩:=h.live j kj e;exact⟨l',by simp[Env.loc,bF,hji,a],b,c.mono hle (Ic _ _ c.lt)⟩
 ·simp only[St.set,bF] at ha hb
  simp only[Env.loc,bF] at ea eb;split at ea
  ·split at eb
   ·omega
   ·rename_i h1 h2
    simp only[h2,if_false] at hb;cases ea;obtain⟨l',a1,b1,c1⟩:=h.live b kb hb;rw[a1] at eb;cases eb;have:=c1.lt;omega
  ·rename_i h1
   simp only[h1,if_false] at ha;split at eb
   ·cases eb
    obtain⟨l',a1,b1,c1⟩:=h.live a ka ha;rw[a1] at ea;cases ea;have:=c1.lt;omega
   ·rename_i h2
    simp only[h2,if_false] at hb;exact h.nL a b ka kb la lb ha hb hne ea eb
 ·have:S.n≤j:=hj
  simp only[Env.loc,bF];rw[if_neg (by omega)];exact h.fresh j this
theorem kH.alloc{E:Env}{S:St}{w:World}{i:Nat}(hi:E.ρ i=none)(o:Obj)(l:Loc)(hl:l.b=w.heap.size)(k:aF) :
  kH E S w (E.loc i l) (S.set i (some k)) (w.alloc o):=by
 refine⟨rfl,rfl,rfl,by simp,fun b hb _=>Ic _ _ hb,fun id l' k' hk' hl'=>?_,Env.OT hi,fun _ _ e=>.inl e⟩;simp only[St.set,bF] at hk';simp only[Env.loc,bF] at hl';split at hl'
 ·cases hl';left;omega
 ·rename_i h1;simp only[h1,if_false] at hk'
  right;exact⟨id,l',k',hk',hl',rfl⟩
theorem bf.write{E:Env}{S:St}{w w':World}(h:bf E S w){i:Nat}{k k':aF}(hg:S.g i=some k){l:Loc}(hl:E.ρ i=some l)
  (hw:∀b,b≠l.b→w'.heap[b]? = w.heap[b]?) (hk:mJ E w' l k'):bf E (S.set i (some k')) w':=by
 obtain⟨l0,e0,hN,ok0⟩:=h.live i k hg;rw[hl] at e0;cases e0;refine⟨fun b cs e=>?_,fun j kj e=>?_,fun a b ka kb la lb ha hb hne ea eb=>?_,fun j hj=>h.fresh j hj⟩
 ·rw[hw b (by intro e1;subst e1;rw[hN] at e;cases e)];exact h.hH b cs e
 ·by_cases hji:j=i
  ·subst hji
   simp only[St.set,Ip,Option.some.injEq] at e;subst e;exact⟨l,hl,hN,hk⟩
  ·simp only[St.set,bF,hji,if_false] at e
   obtain⟨l',a,b,c⟩:=h.live j kj e;exact⟨l',a,b,c.mono (Env.le_refl _) (hw _ (h.nL j i kj k l' l e hg hji a hl))⟩
 ·have ha':∃x,S.g a=some x:=by
   by_cases e:a=i
   ·subst e;exact⟨k,hg⟩
   ·simp only[St.set,bF,e,if_false] at ha;exact⟨ka,ha⟩
  have hb':∃x,S.g b=some x:=by
   by_cases e:b=i
   ·subst e;exact⟨k,hg⟩
   ·simp only[St.set,bF,e,if_false] at hb;exact⟨kb,hb⟩
  obtain⟨xa,ha'⟩:=ha';obtain⟨xb,hb'⟩:=hb';exact h.nL a b xa xb la lb ha' hb' hne ea eb
theorem kH.write{E:Env}{S:St}{w w':World}{i:Nat}{k k':aF}(hg:S.g i=some k){l:Loc}(hl:E.ρ i=some l)
  (ho:w'.os=w.os) (ht:w'.tape=w.tape) (hp:w'.output=w.output) (hs:w'.heap.size=w.heap.size)
  (hw:∀b,b≠l.b→w'.heap[b]? = w.heap[b]?):kH E S w E (S.set i (some k')) w':=by
 refine⟨ho,ht,hp,by omega,fun b hb hn=>hw b (fun e=>hn i l k hg hl e.symm),fun id l' kk hk hl'=>?_,Env.le_refl _,fun _ _ e=>.inl e⟩;right;by_cases e:id=i
 ·subst e;rw[hl] at hl';cases hl';exact⟨id,l,k,hg,hl,rfl⟩
 ·simp only[St.set,bF,e,if_false] at hk;exact⟨id,l',kk,hk,hl',rfl⟩
theorem bf.drop{E:Env}{S:St}{w:World}(h:bf E S w)(g':Nat→Option aF)(hg:∀i k,g' i=some k→S.g i=some k)(n':Nat)(hn:S.n≤n'):bf E ⟨n',g'⟩ w:=
 ⟨h.hH,fun i k e=>h.live i k (hg i k e),fun i j ki kj li lj a b=>h.nL i j ki kj li lj (hg _ _ a) (hg _ _ b),fun i hi=>h.fresh i (Nat.le_trans hn hi)⟩
theorem kH.drop{E:Env}{S:St}{w:World}(g':Nat→Option aF)(hg:∀i k,g' i=some k→S.g i=some k)(n':Nat):kH E S w E ⟨n',g'⟩ w:=
 ⟨rfl,rfl,rfl,Nat.le_refl _,fun _ _ _=>rfl,fun id l k hk hl=>.inr ⟨id,l,k,hg _ _ hk,hl,rfl⟩,Env.le_refl _,fun _ _ e=>.inl e⟩
theorem bf.sN{E:Env}{S:St}{w:World}(h:bf E S w){i:Nat}{k:aF}(hg:S.g i=some k){l:Loc}(hl:E.ρ i=some l){cs:Array Value}{el:TypeId}{fz:Nat×Nat}
  (hw:w.heap[l.b]? = some (.cells cs el fz)):bf (E.sN l.b cs) (S.set i none) w:=by
 obtain⟨l0,e0,hN,ok0⟩:=h.live i k hg;rw[hl] at e0;cases e0;have hle:E.le (E.sN l.b cs):=Env.KW hN;refine⟨fun b cs' e=>?_,fun j kj e=>?_,fun a b ka kb la lb ha hb hne ea eb=>?_,fun j hj=>h.fresh j hj⟩
 ·simp only[Env.sN,bF] at e
  split at e
  ·cases e;subst_vars;exact⟨el,fz,hw⟩
  ·exact h.hH b cs' e
 ·have hji:j≠i:=by intro e1;subst e1;simp[St.set] at e
  simp only[St.set,bF,hji,if_false] at e;obtain⟨l',a,b,c⟩:=h.live j kj e;refine⟨l',a,?_,c.mono hle rfl⟩;simp only[Env.sN,bF];rw[if_neg (h.nL j i kj k l' l e hg hji a hl)];exact b
 ·have hai:a≠i:=by intro e1;subst e1;simp[St.set] at ha
  have hbi:b≠i:=by intro e1;subst e1;simp[St.set] at hb
  simp only[St.set,bF,hai,hbi,if_false] at ha hb;exact h.nL a b ka kb la lb ha hb hne ea eb
theorem kH.sN{E:Env}{S:St}{w:World}(h:bf E S w){i:Nat}{k:aF}(hg:S.g i=some k){l:Loc}(hl:E.ρ i=some l)(cs:Array Value) :
  kH E S w (E.sN l.b cs) (S.set i none) w:=by
 obtain⟨l0,e0,hN,ok0⟩:=h.live i k hg;rw[hl] at e0;cases e0;refine⟨rfl,rfl,rfl,Nat.le_refl _,fun _ _ _=>rfl,fun id l' kk hk hl'=>.inr ?_,Env.KW hN,fun b cs e=>?_⟩;rotate_left
 ·simp only[Env.sN,bF] at e
  split at e
  ·subst_vars;exact .inr (.inr ⟨i,l,k,hg,hl,rfl⟩)
  ·exact .inl e
 have hai:id≠i:=by intro e1;subst e1;simp[St.set] at hk
 simp only[St.set,bF,hai,if_false] at hk;exact⟨id,l',kk,hk,hl',rfl⟩
theorem bf.rename{E:Env}{S:St}{w w':World}(h:bf E S w){i j:Nat}{k k':aF}(hg:S.g i=some k){l l':Loc}(hl:E.ρ i=some l)(hj:E.ρ j=none)(hn:j < S.n)(hb:l'.b=l.b)
  (hw:∀b,b≠l.b→w'.heap[b]? = w.heap[b]?) (hk:mJ E w' l' k'):bf (E.loc j l') ((S.set i none).set j (some k')) w':=by
 obtain⟨l0,e0,hN,ok0⟩:=h.live i k hg;rw[hl] at e0;cases e0;have hle:E.le (E.loc j l'):=Env.OT hj;have hij:i≠j:=by intro e;subst e;rw[hl] at hj;cases hj
 refine⟨fun b cs e=>?_,fun m km e=>?_,fun a b ka kb la lb ha hb' hne ea eb=>?_,fun m hm=>?_⟩
 ·have e':E.H b=some cs:=e
  rw[hw b (by intro e1;subst e1;rw[hN] at e';cases e')];exact h.hH b cs e'
 ·by_cases yc:m=j
  ·subst yc
   simp only[St.set,Ip,Option.some.injEq] at e;subst e;exact⟨l',by simp[Env.loc],by show E.H l'.b=none;rw[hb];exact hN,hk.mono hle rfl⟩
  ·have qN:m≠i:=by intro e1;subst e1;simp[St.set,bF,yc] at e
   simp only[St.set,bF,yc,qN,if_false] at e;obtain⟨l2,a,b,c⟩:=h.live m km e;exact⟨l2,by simp[Env.loc,bF,yc,a],b,c.mono hle (hw _ (h.nL m i km k l2 l e hg qN a hl))⟩
 ·
  have key:∀m km lm,((S.set i none).set j (some k')).g m=some km→(E.loc j l').ρ m=some lm→m≠j→S.g m=some km∧E.ρ m=some lm∧m≠i:=by
   intro m km lm h1 h2 yc;have qN:m≠i:=by intro e1;subst e1;simp[St.set,bF,yc] at h1
   simp only[St.set,bF,yc,qN,if_false] at h1;simp only[Env.loc,bF,yc,if_false] at h2;exact⟨h1,h2,qN⟩
  by_cases haj:a=j
  ·subst haj
   obtain⟨q1,q2,q3⟩:=key b kb lb hb' eb (fun e=>hne e.symm);simp only[Env.loc,Ip,Option.some.injEq] at ea;subst ea;rw[hb];exact fun e=>h.nL b i kb k lb l q1 hg q3 q2 hl e.symm
  ·obtain⟨p1,p2,p3⟩:=key a ka la ha ea haj
   by_cases hbj:b=j
   ·subst hbj
    simp only[Env.loc,Ip,Option.some.injEq] at eb;subst eb;rw[hb];exact h.nL a i ka k la l p1 hg p3 p2 hl
   ·obtain⟨q1,q2,q3⟩:=key b kb lb hb' eb hbj
    exact h.nL a b ka kb la lb p1 q1 hne p2 q2
 ·have:S.n≤m:=hm
  simp only[Env.loc,bF];rw[if_neg (by omega)];exact h.fresh m this
theorem kH.rename{E:Env}{S:St}{w w':World}{i j:Nat}{k k':aF}(hg:S.g i=some k){l l':Loc}(hl:E.ρ i=some l)(hj:E.ρ j=none)(hb:l'.b=l.b)
  (ho:w'.os=w.os) (ht:w'.tape=w.tape) (hp:w'.output=w.output) (hs:w'.heap.size=w.heap.size)
  (hw:∀b,b≠l.b→w'.heap[b]? = w.heap[b]?):kH E S w (E.loc j l') ((S.set i none).set j (some k')) w':=by
 refine⟨ho,ht,hp,by omega,fun b _ hn=>hw b (fun e=>hn i l k hg hl e.symm),fun id l2 kk hk hl2=>.inr ?_,Env.OT hj,fun _ _ e=>.inl e⟩;by_cases yc:id=j
 ·subst yc
  simp only[Env.loc,Ip,Option.some.injEq] at hl2;subst hl2;exact⟨i,l,k,hg,hl,hb.symm⟩
 ·have qN:id≠i:=by intro e1;subst e1;simp[St.set,bF,yc] at hk
  simp only[St.set,bF,yc,qN,if_false] at hk;simp only[Env.loc,bF,yc,if_false] at hl2;exact⟨id,l2,kk,hk,hl2,rfl⟩
theorem AV.EJ{x:AV}(h:x.atom=true):x.cells=[x]:=by cases x<;>simp_all [AV.atom,AV.cells]
theorem r9{xs:List AV}{es:Nat}(h:∀x∈xs,x.cells.length=es):(flat xs).length=xs.length*es:=by
 induction xs with
 | nil=>simp[flat]
 | cons x xs ih=>
  have h1:=h x (by simp);have h2:=ih (fun y hy=>h y (by simp[hy]));simp only[flat,List.flatMap_cons,List.length_append,List.length_cons] at h2 ⊢;rw[h1,h2,Nat.add_mul,Nat.one_mul,Nat.add_comm]
theorem vL(xs ys:List AV):flat (xs++ys)=flat xs++flat ys:=by simp[flat]
theorem Fy{xs:List AV}{es:Nat}(h:∀x∈xs,x.cells.length=es)(i:Nat)(hi:i < xs.length)(j:Nat)(hj:j < (xs[i]).cells.length) :
  ∃hk:i*es+j < (flat xs).length,(flat xs)[i*es+j]=(xs[i]).cells[j]:=by
 induction xs generalizing i with
 | nil=>simp at hi
 | cons x xs ih=>
  have hx:=h x (by simp);have hxs:∀y∈xs,y.cells.length=es:=fun y hy=>h y (by simp[hy])
  have hl:=r9 h;cases i with
  | zero=>
   have hj':j < x.cells.length:=hj;refine⟨by rw[hl];simp only[List.length_cons,Nat.zero_mul,Nat.zero_add,Nat.add_mul,Nat.one_mul];omega,?_⟩;have:flat (x::xs)=x.cells++flat xs:=by simp[flat]
   simp only[this,Nat.zero_mul,Nat.zero_add,List.getElem_cons_zero];rw[List.getElem_append_left hj']
  | succ i=>
   obtain⟨hk,e⟩:=ih hxs i (by simpa using hi) (by simpa using hj);have h2:flat (x::xs)=x.cells++flat xs:=by simp[flat]
   have hadd:(i+1)*es+j=x.cells.length+(i*es+j):=by rw[hx,Nat.add_mul,Nat.one_mul];omega
   refine⟨by rw[h2,List.length_append,hadd];omega,?_⟩;simp only[h2,hadd,List.getElem_cons_succ];rw[List.getElem_append_right (by omega)];simpa using e
theorem zw{xs:List AV}{es:Nat}(h:∀x∈xs,x.cells.length=es)(m:Nat):flat (xs.drop m)=(flat xs).drop (m*es):=by
 induction xs generalizing m with
 | nil=>simp[flat]
 | cons x xs ih=>
  cases m with
  | zero=>simp
  | succ m=>
   have hx:=h x (by simp);have h2:flat (x::xs)=x.cells++flat xs:=by simp[flat]
   rw[List.drop_succ_cons,ih (fun y hy=>h y (by simp[hy])),h2,Nat.add_mul,Nat.one_mul,Nat.add_comm,←hx,List.drop_append];simp
theorem zx{xs:List AV}{es:Nat}(h:∀x∈xs,x.cells.length=es)(m:Nat):flat (xs.take m)=(flat xs).take (m*es):=by
 induction xs generalizing m with
 | nil=>simp[flat]
 | cons x xs ih=>
  cases m with
  | zero=>simp[flat]
  | succ m=>
   have hx:=h x (by simp);have h2:flat (x::xs)=x.cells++flat xs:=by simp[flat]
   have h3:flat (x::xs.take m)=x.cells++flat (xs.take m):=by simp[flat]
   rw[List.take_succ_cons,h3,ih (fun y hy=>h y (by simp[hy])),h2,Nat.add_mul,Nat.one_mul,Nat.add_comm,←hx,List.take_append];simp[List.take_of_length_le]
structure uX(E:Env)(w:World)(es:Nat)(ys:List AV)(A:Option Addr):Prop where
 hes:∀x∈ys,x.cells.length=es
 hat:∀y∈flat ys,y.atom=true
 at_:ys≠[]→∃b o cs el fz,A=some ⟨b,o,none⟩∧w.heap[b]? = some (.cells cs el fz)∧∀k (h:k < (flat ys).length),∃v,cs[o+k]? = some v∧aL E ((flat ys)[k]) v
theorem uX.nil(E:Env)(w:World)(es:Nat)(A:Option Addr):uX E w es [] A:=⟨by simp,by simp[flat],by simp⟩
theorem WW{E:Env}{S:St}{w:World}(h:bf E S w){t:Bool}{xs:List AV}{v:Value}(r:aL E (.sl t xs) v){es:Nat}(hes:∀x∈xs,x.cells.length=es) :
  ∃A cap,v=.slice A xs.length cap∧xs.length≤cap∧(t=true→cap=xs.length)∧uX E w es xs A:=by
 cases r with
 | sl0 _ A cap ht=>exact⟨A,cap,rfl,by simp,by simpa using ht,.nil _ _ _ _⟩
 | sl _ _ b o cap cs es' f hne hb hes' hcap ht hat hc hr=>
  obtain⟨el,fz,hw⟩:=h.hH b cs hb;exact⟨_,cap,rfl,hcap,ht,hes,hat,fun _=>⟨b,o,cs,el,fz,rfl,hw,fun k hk=>⟨f k,hc k hk,hr k hk⟩⟩⟩
theorem mJ.reads{E:Env}{w:World}{l:Loc}{es:Nat}{xs:List AV}(h:mJ E w l (.arr es xs))(off len:Nat)(hl:off+len≤xs.length) :
  uX E w es ((xs.drop off).take len) (some ⟨l.b,l.o+off*es,none⟩):=by
 obtain⟨h1,h2,h3,h4,cs,el,h5,h6,h7⟩:=h;have hd:∀x∈xs.drop off,x.cells.length=es:=fun x hx=>h3 x (List.mem_of_mem_drop hx)
 have hf:flat ((xs.drop off).take len)=((flat xs).drop (off*es)).take (len*es):=by rw[zx hd,zw h3]
 refine⟨fun x hx=>hd x (List.mem_of_mem_take hx),fun y hy=>?_,fun _=>⟨l.b,l.o+off*es,cs,el,(0,0),rfl,h5,fun k hk=>?_⟩⟩
 ·rw[hf] at hy;exact h4 y (List.mem_of_mem_drop (List.mem_of_mem_take hy))
 ·have hk':k < (((flat xs).drop (off*es)).take (len*es)).length:=by rw[←hf];exact hk
  have hk2:off*es+k < (flat xs).length:=by
   simp only[List.length_take,List.length_drop] at hk';omega
  obtain⟨v,a,b⟩:=h7 (off*es+k) hk2;refine⟨v,by rw[Nat.add_assoc];exact a,?_⟩
  have:(flat ((xs.drop off).take len))[k]=(flat xs)[off*es+k]:=by
   simp only[hf,List.getElem_take,List.getElem_drop]
  rw[this];exact b
theorem ZfS{E:Env}{S:St}{w:World}(h:bf E S w){id off len:Nat}{v:Value}(r:aL E (.own id off len) v){es:Nat}{xs:List AV}(hg:S.g id=some (.arr es xs))
  (hl:off+len≤xs.length):∃A cap,v=.slice A len cap∧len≤cap∧uX E w es ((xs.drop off).take len) A:=by
 cases r with
 | own _ _ _ A cap l hρ hlen hA=>
  obtain⟨l',e,hN,ok⟩:=h.live id _ hg;rw[hρ] at e;cases e;refine⟨A,cap,rfl,hlen,?_⟩;by_cases hc:cap=0
  ·have:len=0:=by omega
   subst this;simp only[List.take_zero];exact .nil _ _ _ _
  ·obtain⟨hA1,hA2⟩:=hA hc
   have hes:l.es=es:=ok.1;rw[hA1,hes];exact ok.reads off len hl
theorem uX.elem{E:Env}{w:World}{es:Nat}{ys:List AV}{A:Option Addr}(h:uX E w es ys A)(i:Nat)(hi:i < ys.length) :
  ∃b o cs el fz,A=some ⟨b,o,none⟩∧w.heap[b]? = some (.cells cs el fz)∧∀j (hj:j < (ys[i]).cells.length),∃v,cs[o+(i*es+j)]? = some v∧aL E ((ys[i]).cells[j]) v:=by
 obtain⟨b,o,cs,el,fz,h1,h2,h3⟩:=h.at_ (by intro e;subst e;simp at hi)
 refine⟨b,o,cs,el,fz,h1,h2,fun j hj=>?_⟩;obtain⟨hk,e⟩:=Fy h.hes i hi j hj;obtain⟨v,a,c⟩:=h3 _ hk;rw[e] at c;exact⟨v,a,c⟩
theorem aL.oneCell{E:Env}{x:AV}{v:Value}(r:aL E x v)(h:x.atom=true):v.oneCell'=true:=by
 obtain⟨_,h2,h3⟩:=r.UJ h;cases v<;>simp_all [Value.oneCell']
theorem Pg{w:World}{b o:Nat}{cs:Array Value}{el:TypeId}{fz:Nat×Nat}(h:w.heap[b]? = some (.cells cs el fz)):w.cell? ⟨b,o,none⟩=cs[o]?:=by
 simp[World.cell?,h]
theorem zA(b o n:Nat):(⟨b,o,none⟩:Addr).add n=⟨b,o+n,none⟩:=by unfold Addr.add;split<;>simp_all
theorem uX.first{P:Program}{E:Env}{w:World}{es:Nat}{ys:List AV}{A:Option Addr}(h:uX E w es ys A)(cap:Nat) :
  ∃news:List Value,(Builtin.firstCells es ys.length (.slice A ys.length cap)).run P w=.ok news.toArray w∧news.length=ys.length*es∧
   (∀u∈news,u.oneCell'=true)∧∀k (hk:k < (flat ys).length),∃v,news[k]? = some v∧aL E ((flat ys)[k]) v:=by
 by_cases hy:ys=[]
 ·subst hy
  refine⟨[],?_,by simp,by simp,by simp[flat]⟩;cases A<;>simp[Builtin.firstCells,loadCells,loadCellsFrom]
 ·obtain⟨b,o,cs,el,fz,h1,h2,h3⟩:=h.at_ hy
  subst h1;have hlen:=r9 h.hes
  let news:=(List.range (ys.length*es)).map fun k=>cs.getD (o+k) undef
  have hn:∀j v,news[j]? = some v→w.cell? ((⟨b,o,none⟩:Addr).add j)=some v:=by
   intro j v hv
   have hj:j < ys.length*es:=by
    have:=(List.getElem?_eq_some_iff.mp hv).1;simpa[news] using this
   obtain⟨v',a,_⟩:=h3 j (by omega);rw[zA,Pg h2,a];simp[news,hj,Array.getD_eq_getD_getElem?,a] at hv;rw[hv]
  have hl:news.length=ys.length*es:=by simp[news]
  refine⟨news,?_,hl,?_,fun k hk=>?_⟩
  ·simp only[Builtin.firstCells]
   have:=run_loadCells_list (P:=P) w ⟨b,o,none⟩ news hn;rw[hl] at this;exact this
  ·intro u hu
   obtain⟨k,hk,e⟩:=List.mem_iff_getElem.mp hu;have hk':k < (flat ys).length:=by rw[hlen];omega
   obtain⟨v,a,r⟩:=h3 k hk'
   have:u=v:=by
    rw[←e];simp[news,Array.getD_eq_getD_getElem?,a]
   subst this;exact r.oneCell (h.hat _ (List.getElem_mem hk'))
  ·obtain⟨v,a,r⟩:=h3 k hk
   have hk2:k < ys.length*es:=by omega
   exact⟨v,by simp[news,hk2,Array.getD_eq_getD_getElem?,a],r⟩
theorem LH{xs:List AV}{es:Nat}(h:∀x∈xs,x.cells.length=es)(k:Nat)(hk:k < (flat xs).length) :
  ∃(hi:k / es < xs.length) (hj:k % es < (xs[k / es]).cells.length),(flat xs)[k]=(xs[k / es]).cells[k % es]:=by
 have hl:=r9 h
 have hes:0 < es:=by
  rcases Nat.eq_zero_or_pos es with e | e
  ·subst e;rw[hl] at hk;simp at hk
  ·exact e
 have hi:k / es < xs.length:=by
  rw[Nat.div_lt_iff_lt_mul hes];omega
 have hj:k % es < (xs[k / es]).cells.length:=by rw[h _ (List.getElem_mem hi)];exact Nat.mod_lt _ hes
 obtain⟨hk',e⟩:=Fy h (k / es) hi (k % es) hj;refine⟨hi,hj,?_⟩;rw[←e];congr 1;rw[Nat.mul_comm];exact(Nat.div_add_mod k es).symm
def bL(y:AV)(c:Nat)(x:AV):AV:=
 if x.cells.length=y.cells.length then x else .agg (y.cells.take c++x.cells++y.cells.drop (c+x.cells.length))
theorem Pp{y x:AV}{c:Nat}(h:c+x.cells.length≤y.cells.length):(bL y c x).cells.length=y.cells.length:=by
 unfold bL;split
 ·assumption
 ·show(y.cells.take c++x.cells++y.cells.drop (c+x.cells.length)).length=_
  simp only[List.length_append,List.length_take,List.length_drop];omega
theorem ZoX{y x:AV}{c:Nat}(h:c+x.cells.length≤y.cells.length)(j:Nat)(hj:j < (bL y c x).cells.length) :
  (bL y c x).cells[j]=if hc:c≤j∧j < c+x.cells.length then x.cells[j - c]'(by omega) else y.cells[j]'(by rw[Pp h] at hj;exact hj):=by
 have hl:=Pp h;have hj':j < y.cells.length:=by rw[←hl];exact hj
 by_cases e:x.cells.length=y.cells.length
 ·have hc:c=0:=by omega
  subst hc;have hp:bL y 0 x=x:=by unfold bL;rw[if_pos e]
  rw[dif_pos ⟨by omega,by omega⟩];simp only[hp,Nat.sub_zero]
 ·have hp:(bL y c x).cells=y.cells.take c++x.cells++y.cells.drop (c+x.cells.length):=by unfold bL;rw[if_neg e];rfl
  simp only[hp];simp only[List.getElem_append,List.length_append,List.length_take,List.getElem_take,List.getElem_drop];have hm:min c y.cells.length=c:=by omega
  simp only[hm];split
  ·split
   ·rw[dif_neg (by omega)]
   ·rw[dif_pos (by omega)]
  ·rw[dif_neg (by omega)]
   congr 1;omega
theorem Vo{xs:List AV}{es ix:Nat}(h:∀x∈xs,x.cells.length=es){z:AV}(hz:z.cells.length=es):∀x∈xs.set ix z,x.cells.length=es:=by
 intro x hx;rcases List.mem_or_eq_of_mem_set hx with h1 | h1
 ·exact h x h1
 ·rw[h1];exact hz
theorem Zon{xs:List AV}{es:Nat}(h:∀x∈xs,x.cells.length=es)(ix:Nat)(hix:ix < xs.length){x:AV}{c:Nat}(hc:c+x.cells.length≤es) :
  ∃hl:(flat (xs.set ix (bL xs[ix] c x))).length=(flat xs).length,∀k (hk:k < (flat xs).length),
   (flat (xs.set ix (bL xs[ix] c x)))[k]'(by omega)=if hc:ix*es+c≤k∧k < ix*es+c+x.cells.length then x.cells[k - (ix*es+c)]'(by omega) else (flat xs)[k]:=by
 have hy:(xs[ix]).cells.length=es:=h _ (List.getElem_mem hix);have hz:(bL xs[ix] c x).cells.length=es:=by rw[Pp (by omega)];exact hy
 have h':=Vo (ix:=ix) h hz;have hl:(flat (xs.set ix (bL xs[ix] c x))).length=(flat xs).length:=by rw[r9 h',r9 h,List.length_set]
 refine⟨hl,fun k hk=>?_⟩;obtain⟨hi,hj,e⟩:=LH h' k (by omega);obtain⟨hi2,hj2,e2⟩:=LH h k hk
 have hes:0 < es:=by
  rcases Nat.eq_zero_or_pos es with e | e
  ·subst e;rw[r9 h] at hk;simp at hk
  ·exact e
 have Y5:es*(k / es)+k % es=k:=Nat.div_add_mod k es;have hmod:k % es < es:=Nat.mod_lt _ hes;rw[e,e2];by_cases hki:k / es=ix
 ·have abw:ix*es+k % es=k:=by rw[←hki,Nat.mul_comm];exact Y5
  have e3:(xs.set ix (bL xs[ix] c x))[k / es]=bL xs[ix] c x:=by simp[hki]
  have hjj:k % es < (bL xs[ix] c x).cells.length:=by rw[hz];exact hmod
  have:((xs.set ix (bL xs[ix] c x))[k / es]).cells[k % es]=(bL xs[ix] c x).cells[k % es]'hjj:=by simp only[e3]
  rw[this,ZoX (by omega)];by_cases hin:c≤k % es∧k % es < c+x.cells.length
  ·rw[dif_pos hin,dif_pos (by omega)]
   congr 1;omega
  ·rw[dif_neg hin,dif_neg (by omega)]
   simp only[hki]
 ·have hne:¬(ix*es+c≤k∧k < ix*es+c+x.cells.length):=by
   intro⟨a,b⟩;apply hki;exact Nat.div_eq_of_lt_le (by omega) (by rw[Nat.add_mul,Nat.one_mul];omega)
  rw[dif_neg hne]
  have e3:(xs.set ix (bL xs[ix] c x))[k / es]=xs[k / es]:=by
   rw[List.getElem_set_ne (by omega)]
  simp only[e3]
theorem Zlm(place:Nat→Option (Nat×Nat))(cells:Array Value)(i:Nat)(v:Value)(rest:List (Nat×Value))(off size:Nat)(hp:place i=some (off,size))(hs:v.cells.size=size)(ho:off+size≤cells.size) :
  ∃cells',Instr.fill place cells ((i,v)::rest)=Instr.fill place cells' rest∧cells'.size=cells.size∧
   ∀k,cells'[k]? = if off≤k∧k < off+size then v.cells[k - off]? else cells[k]?:=by
 refine⟨v.cells.zipIdx.foldl (fun cs (x:Value×Nat)=>cs.setIfInBounds (off+x.2) x.1) cells,?_,?_⟩
 ·simp only[Instr.fill,hp]
  rw[if_neg (by simp;omega)]
 ·have h:=Great.foldl_set off v.cells.toList 0 cells
  have e:v.cells.zipIdx.foldl (fun cs (x:Value×Nat)=>cs.setIfInBounds (off+x.2) x.1) cells=(v.cells.toList.zipIdx 0).foldl (fun cs (x:Value×Nat)=>cs.setIfInBounds (off+x.2) x.1) cells:=by
   rw[←Array.foldl_toList,Array.toList_zipIdx]
  rw[e];refine⟨h.1,fun k=>?_⟩;rw[h.2 k];simp only[Nat.add_zero,Array.length_toList,Array.getElem?_toList];by_cases hk:off≤k∧k < off+size
  ·rw[if_pos (by omega),if_pos hk]
  ·rw[if_neg (by omega),if_neg hk]
abbrev AF:=Nat→AV
def AF.put(a:AF)(d:Option Nat)(x:AV):AF:=match d with | some d=>bF a d x | none=>a
structure fu(E:Env)(n:Nat)(a:AF)(act:Act):Prop where
 size:act.tmps.size=n
 defers:act.defers=[]
 at_:∀t,aL E (a t) (act.tmps.getD t undef)
theorem fu.mono{E E':Env}{n:Nat}{a:AF}{act:Act}(h:fu E n a act)(hE:E.le E'):fu E' n a act:=⟨h.size,h.defers,fun t=>(h.at_ t).mono hE⟩
theorem fu.put{E:Env}{n:Nat}{a:AF}{act:Act}(h:fu E n a act){dst:Option Nat}(hd:∀d,dst=some d→d < n){x:AV}{v:Value}(r:aL E x v) :
  fu E n (a.put dst x) (act.put dst v):=by
 cases dst with
 | none=>exact h
 | some d=>
  have hdn:=hd d rfl;refine⟨by simp[Act.put,h.size],h.defers,fun t=>?_⟩;simp only[AF.put,bF,Act.put];have hs:=h.size;by_cases e:t=d
  ·subst e;rw[if_pos rfl];simp[Array.getD_eq_getD_getElem?,hs,hdn];exact r
  ·rw[if_neg e]
   have:=h.at_ t
   simp only[Array.getD_eq_getD_getElem?] at this ⊢;rw[Array.getElem?_setIfInBounds_ne (by omega)];exact this
inductive aJ where
 | t (i:Nat)
 | c (x:AV)
def aJ.ev(a:AF):aJ→AV
 | .t i=>a i
 | .c x=>x
def FE:Value→Option AV
 | .slice none 0 0=>some (.sl true [])
 | .func (.func f) ⟨[]⟩ ⟨[]⟩=>some (.aP f [] [])
 | x=>if zG x then some (.v x) else none
def Cx:Value→Option AV
 | .agg cs=>(cs.toList.mapM FE).map .agg
 | x=>FE x
def aV:Operand→Option aJ
 | .tmp t=>some (.t t)
 | .const v=>(Cx v).map .c
 | .func f=>some (.c (.aP f [] []))
 | .global _=>none
theorem VQ{E:Env}{x:Value}{y:AV}(h:FE x=some y):aL E y x∧y.atom=true∧aY y:=by
 unfold FE at h;split at h
 ·cases h;exact⟨.sl0 true none 0 (by simp),rfl,.sl true [] (by simp)⟩
 ·cases h;exact⟨.aP _ [] [] _ _ rfl rfl (by simp) (by simp),rfl,.aP _ _ _ (by simp) (by simp)⟩
 ·split at h
  ·rename_i hs;cases h;exact⟨.v _ hs,rfl,.v _⟩
  ·cases h
theorem VB{E:Env}:∀{l:List Value} {ys:List AV},l.mapM FE=some ys→ys.length=l.length∧(∀y∈ys,y.atom=true∧aY y)∧∀j (h:j < ys.length),aL E (ys[j]) (l.getD j undef)
 | [],ys,h=>by simp at h;subst h;simp
 | x::l,ys,h=>by
  simp only[List.mapM_cons,Option.bind_eq_bind,Option.bind_eq_some_iff,Option.pure_def,Option.some.injEq] at h;obtain⟨y,hy,zs,hz,rfl⟩:=h;obtain⟨h1,h2,h3⟩:=VB (E:=E) hz;obtain⟨g1,g2,g3⟩:=VQ (E:=E) hy;refine⟨by simp[h1],?_,?_⟩
  ·intro z hz';simp at hz';rcases hz' with rfl | hz'
   ·exact⟨g2,g3⟩
   ·exact h2 z hz'
  ·intro j hj
   cases j with
   | zero=>simpa using g1
   | succ j=>simpa using h3 j (by simpa using hj)
theorem WT{E:Env}{x:Value}{y:AV}(h:Cx x=some y):aL E y x∧aY y:=by
 unfold Cx at h;split at h
 ·rename_i cs
  simp only[Option.map_eq_some_iff] at h;obtain⟨ys,h1,rfl⟩:=h;obtain⟨a,b,c⟩:=VB (E:=E) h1;refine⟨.agg ys cs (by simp[a]) (fun y hy=>(b y hy).1) (fun j hj=>?_),.agg ys (fun y hy=>(b y hy).2)⟩;have:=c j hj;simpa[Array.getD_eq_getD_getElem?,List.getD_eq_getElem?_getD] using this
 ·obtain⟨a,_,b⟩:=VQ (E:=E) h;exact⟨a,b⟩
theorem bT{E:Env}{n:Nat}{a:AF}{act:Act}(h:fu E n a act){x:Operand}{y:aJ}(hx:aV x=some y):aL E (y.ev a) (act.eval x):=by
 cases x with
 | tmp t=>simp[aV] at hx;subst hx;exact h.at_ t
 | const v=>
  simp only[aV,Option.map_eq_some_iff] at hx;obtain⟨z,h1,rfl⟩:=hx;exact(WT h1).1
 | global g=>simp[aV] at hx
 | func f=>simp[aV] at hx;subst hx;exact .aP f [] [] _ _ rfl rfl (by simp) (by simp)
structure Out where
 v:Nat→AV
 up:List (Option aF)
 nw:Option aF
structure Eff where
 F:List Nat
 k:List aF→Option Out
def St.fD(S:St):List Nat→List (Option aF)→St
 | i::is,k::ks=>(S.set i k).fD is ks
 | _,_=>S
def St.iU(S:St)(i:Nat):Option aF→St
 | none=>S
 | some b=>S.set i (some b)
def Eff.run(e:Eff)(S:St)(aC:Nat):Option (AV×St):=
 match e.F.mapM S.g with
 | none=>none
 | some bs=>match e.k bs with
  | none=>none
  | some o=>some (o.v aC,(S.fD e.F o.up).iU aC o.nw)
def Eff.val(o:Option AV):Eff:=⟨[],fun _=>o.map fun v=>⟨fun _=>v,[],none⟩⟩
def Eff.rd(id:Nat)(k:aF→Option AV):Eff:=⟨[id],fun | [b]=>(k b).map fun v=>⟨fun _=>v,[],none⟩ | _=>none⟩
def Eff.wr(id:Nat)(k:aF→Option aF):Eff:=⟨[id],fun | [b]=>(k b).map fun b'=>⟨fun _=>.junk,[some b'],none⟩ | _=>none⟩
def Eff.new(o:Option (aF×(Nat→AV))):Eff:=⟨[],fun _=>o.map fun p=>⟨p.2,[],some p.1⟩⟩
def Eff.mv(id:Nat)(k:aF→Option (aF×(Nat→AV))):Eff:=⟨[id],fun | [b]=>(k b).map fun p=>⟨p.2,[none],some p.1⟩ | _=>none⟩
@[simp] theorem Eff.rR (o:Option AV) (S:St) (aC:Nat):(Eff.val o).run S aC=o.map fun v=>(v,S):=by
 cases o<;>simp[Eff.run,Eff.val,St.fD,St.iU]
@[simp] theorem Eff.Ar (id:Nat) (k:aF→Option AV) (S:St) (aC:Nat):(Eff.rd id k).run S aC=((S.g id).bind k).map fun v=>(v,S):=by
 cases h:S.g id with
 | none=>simp[Eff.run,Eff.rd,h]
 | some b=>cases h2:k b<;>simp[Eff.run,Eff.rd,h,h2,St.fD,St.iU]
@[simp] theorem Eff.HZ (id:Nat) (k:aF→Option aF) (S:St) (aC:Nat):(Eff.wr id k).run S aC=((S.g id).bind k).map fun b=>(.junk,S.set id (some b)):=by
 cases h:S.g id with
 | none=>simp[Eff.run,Eff.wr,h]
 | some b=>cases h2:k b<;>simp[Eff.run,Eff.wr,h,h2,St.fD,St.iU]
@[simp] theorem Eff.K5 (o:Option (aF×(Nat→AV))) (S:St) (aC:Nat):(Eff.new o).run S aC=o.map fun p=>(p.2 aC,S.set aC (some p.1)):=by
 cases o<;>simp[Eff.run,Eff.new,St.fD,St.iU]
@[simp] theorem Eff.P6h (id:Nat) (k:aF→Option (aF×(Nat→AV))) (S:St) (aC:Nat) :
  (Eff.mv id k).run S aC=((S.g id).bind k).map fun p=>(p.2 aC,(S.set id none).set aC (some p.1)):=by
 cases h:S.g id with
 | none=>simp[Eff.run,Eff.mv,h]
 | some b=>cases h2:k b<;>simp[Eff.run,Eff.mv,h,h2,St.fD,St.iU]
def tV:Op→Bool
 | .move _ | .assign _ | .pick .. | .binOp .. | .unOp .. | .convert .. | .fieldAddr .. | .field .. | .indexAddr .. | .index .. | .load .. | .extract .. | .nilCheck ..=>true
 | .call c=>match c.callee with
  | .builtin .len=>true
  | _=>false
 | _=>false
def iO(P:Program)(n:Nat)(o:Oper)(a:AF)(S:St)(aC:Nat)(v:AV)(S':St):Prop:=
 ∀E w act,bf E S w→fu E n a act→E.ρ aC=none→aC < S.n→∀(K:Act→World→Prop) (Q:Exit→Act→World→Prop),
  (∀act' w' E',bf E' S' w'→fu E' n (a.put o.dst v) act'→kH E S w E' S' w'→((tV o.op=true→E'=E∧w'=w)∧∀i,i≠aC→E.ρ i=none→E'.ρ i=none)→K act' w')→o.wp P act w K Q
theorem iO.of_run{P:Program}{n:Nat}{o:Oper}{a:AF}{S:St}{aC:Nat}{v:AV}{S':St}(hd:∀d,o.dst=some d→d < n)
  (h:∀E w act,bf E S w→fu E n a act→E.ρ aC=none→aC < S.n→
   ∃val w' E',(execOp act.eval o).run P w=.ok (.value val) w'∧bf E' S' w'∧kH E S w E' S' w'∧aL E' v val∧(tV o.op=true→E'=E∧w'=w)∧∀i,i≠aC→E.ρ i=none→E'.ρ i=none) :
  iO P n o a S aC v S':=by
 intro E w act hS hF hn hlt K Q hK;obtain⟨val,w',E',h1,h2,h3,h4,h5⟩:=h E w act hS hF hn hlt;unfold Oper.wp;rw[h1,Oper.upon_value];exact hK _ _ E' h2 ((hF.mono h3.le).put hd h4) h3 h5
theorem iO.P5g{P:Program}{n:Nat}{o:Oper}{a:AF}{S:St}{aC:Nat}{S':St}(hd:∀d,o.dst=some d→d < n)
  (h:∀E w act,bf E S w→fu E n a act→E.ρ aC=none→aC < S.n→
   ∃w' E',(execOp act.eval o).run P w=.ok .skip w'∧bf E' S' w'∧kH E S w E' S' w'∧(tV o.op=true→E'=E∧w'=w)∧∀i,i≠aC→E.ρ i=none→E'.ρ i=none) :
  iO P n o a S aC .junk S':=by
 intro E w act hS hF hn hlt K Q hK;obtain⟨w',E',h1,h2,h3,h5⟩:=h E w act hS hF hn hlt;unfold Oper.wp;rw[h1,Oper.upon_skip];exact hK _ _ E' h2 ((hF.mono h3.le).put hd (.junk _)) h3 h5
theorem iO.pure{P:Program}{n:Nat}{o:Oper}{a:AF}{S:St}{aC:Nat}{v:AV}(hd:∀d,o.dst=some d→d < n)
  (h:∀E w act,bf E S w→fu E n a act→∃val,(execOp act.eval o).run P w=.ok (.value val) w∧aL E v val):iO P n o a S aC v S:=
 .of_run hd fun E w act hS hF _ _=>let ⟨val,h1,h2⟩:=h E w act hS hF;⟨val,w,E,h1,hS,.refl _ _ _,h2,fun _=>⟨rfl,rfl⟩,fun _ _ e=>e⟩
def dP(op:BinOp)(k:IntKind)(a b:Int):Option AV:=
 match op with
 | .add=>some (.v (.int k (k.wrap (a+b))))
 | .sub=>some (.v (.int k (k.wrap (a - b))))
 | .mul=>some (.v (.int k (k.wrap (a*b))))
 | .quo=>if b=0 then none else some (.v (.int k (k.wrap (a.tdiv b))))
 | .rem=>if b=0 then none else some (.v (.int k (a.tmod b)))
 | .eql=>some (.v (.bool (a == b)))
 | .neq=>some (.v (.bool (a != b)))
 | .lss=>some (.v (.bool (decide (a < b))))
 | .leq=>some (.v (.bool (decide (a≤b))))
 | .gtr=>some (.v (.bool (decide (a > b))))
 | .geq=>some (.v (.bool (decide (a≥b))))
 | .and=>some (.v (.int k (k.wrap ((BitVec.ofInt k.bits a &&& BitVec.ofInt k.bits b).toNat))))
 | _=>none
def Yj(op:BinOp)(x y:ByteArray):Option AV:=
 match op with
 | .add=>if ((x.size+y.size:Nat):Int) > 9223372036854775807 then none else some (.v (.string (x++y)))
 | .eql=>some (.v (.bool (x.toList == y.toList)))
 | .neq=>some (.v (.bool (!(x.toList == y.toList))))
 | .lss=>some (.v (.bool (Op.bytesLess x.toList y.toList)))
 | _=>none
def dQ(op:BinOp)(x y:AV):Option AV:=
 match x,y with
 | .v (.int k a),.v (.int k' b)=>if k=k' then dP op k a b else none
 | .v (.string a),.v (.string b)=>Yj op a b
 | _,_=>none
theorem aL.jl{E:Env}{x y:Value}(r:aL E (.v x) y):y=x:=by cases r;rfl
section
variable{P:Program}{n:Nat}{o:Oper}{a:AF}{S:St}{aC:Nat}{v:AV}
theorem Zmk{x:Operand}{X:aJ}(hd:∀d,o.dst=some d→d < n)(hop:o.op=.move x∨o.op=.assign x)(hx:aV x=some X):iO P n o a S aC (X.ev a) S:=
 .pure hd fun E w act hS hF=>⟨act.eval x,by rcases hop with h | h<;>simp[execOp,h],bT hF hx⟩
theorem ZmH{op:BinOp}{k:IntKind}{x y:Int}(t:TypeId)(h:dP op k x y=some v) :
  ∃val,v=.v val∧zG val=true∧∀w,(binOp op t (.int k x) (.int k y)).run P w=.ok val w:=by
 cases op<;>simp only[dP] at h<;>(try split at h)<;>simp only[Option.some.injEq,reduceCtorEq] at h<;>subst h <;>
  refine⟨_,rfl,rfl,fun w=>?_⟩<;>simp[binOp,Op.intArith,Op.intDiv,Op.intCmp,Op.intBits, *]
theorem ZmK{op:BinOp}{x y:ByteArray}(t:TypeId)(h:Yj op x y=some v) :
  ∃val,v=.v val∧zG val=true∧∀w,(binOp op t (.string x) (.string y)).run P w=.ok val w:=by
 cases op<;>simp only[Yj] at h<;>(try split at h)<;>simp only[Option.some.injEq,reduceCtorEq] at h<;>subst h <;>
  refine⟨_,rfl,rfl,fun w=>?_⟩<;>simp[binOp,Op.stringOp]<;>omega
theorem ZpU{op:BinOp}{t t2:TypeId}{x y:Operand}{X Y:aJ}(hd:∀d,o.dst=some d→d < n)(hop:o.op=.binOp op t x y t2)(hx:aV x=some X)(hy:aV y=some Y)
  (h:dQ op (X.ev a) (Y.ev a)=some v):iO P n o a S aC v S:=by
 refine .pure hd fun E w act hS hF=>?_
 have rx:=bT hF hx;have ry:=bT hF hy;generalize X.ev a=ax at *;generalize Y.ev a=ay at *;unfold dQ at h;split at h
 ·have ex:=rx.jl
  have ey:=ry.jl;split at h
  ·rename_i hk
   subst hk;obtain⟨val,rfl,hs,hr⟩:=ZmH (P:=P) t h;refine⟨val,?_,.v _ hs⟩;simp[execOp,hop,ex,ey,eqGuard_at_int,hr]
  ·cases h
 ·have ex:=rx.jl
  have ey:=ry.jl;obtain⟨val,rfl,hs,hr⟩:=ZmK (P:=P) t h;refine⟨val,?_,.v _ hs⟩;simp[execOp,hop,ex,ey,eqGuard_at_string,hr]
 ·cases h
end
def QS:TypeDesc→Bool
 | .struct _ | .array _ _=>true
 | _=>false
def xq(P:Program)(t:TypeId):Option (Option Nat):=
 match P.underlying t with
 | none=>none
 | some d=>match P.info? t with
  | none=>none
  | some i=>if QS d then some (some i.size) else if i.size=1 then some none else none
theorem VE{P:Program}{t:TypeId}{k:Option Nat}(h:xq P t=some k):∃d i,P.underlying t=some d∧P.info? t=some i∧
  ((QS d=true∧k=some i.size)∨(QS d=false∧k=none∧i.size=1)):=by
 unfold xq at h;split at h
 ·cases h
 ·rename_i d hd
  split at h
  ·cases h
  ·rename_i i hi
   split at h
   ·rename_i hag;cases h;exact⟨d,i,hd,hi,.inl ⟨hag,rfl⟩⟩
   ·split at h
    ·rename_i hag hs;cases h;exact⟨d,i,hd,hi,.inr ⟨by simpa using hag,rfl,hs⟩⟩
    ·cases h
theorem PS{P:Program}{t:TypeId}{d:TypeDesc}(h:P.underlying t=some d)(w:World):(isAgg t).run P w=.ok (QS d) w:=by
 simp only[isAgg,Sem.run_bind,run_underlying h,Result.andThen_ok];cases d<;>rfl
theorem uz{P:Program}{t:TypeId}{i:TypeInfo}(h:P.info? t=some i)(w:World):(sizeOf t).run P w=.ok i.size w:=by
 simp[sizeOf,typeInfo,h]
def bq(k:Option Nat)(x:AV)(c:Nat):Option AV:=
 match k with
 | none=>x.cells[c]?
 | some m=>if c+m≤x.cells.length then some (.agg ((x.cells.drop c).take m)) else none
section
variable{P:Program}{n:Nat}{o:Oper}{a:AF}{S:St}{aC:Nat}{v:AV}
theorem Vu{E:Env}{w:World}{t:TypeId}{k:Option Nat}(hk:xq P t=some k){x:AV}{c:Nat}(h:bq k x c=some v){b p:Nat}{cs:Array Value}{el:TypeId}{fz:Nat×Nat}
  (hw:w.heap[b]? = some (.cells cs el fz)) (hat:∀y∈x.cells,y.atom=true) (hc:∀j (hj:j < x.cells.length),∃u,cs[p+j]? = some u∧aL E (x.cells[j]) u) :
  ∃val,(loadVar t ⟨b,p+c,none⟩).run P w=.ok val w∧aL E v val:=by
 obtain⟨d,i,hu,hi,hor⟩:=VE hk;rcases hor with⟨hag,rfl⟩ | ⟨hag,rfl,hs⟩
 ·unfold bq at h
  simp only at h;split at h
  ·rename_i hle
   cases h;have hl:((x.cells.drop c).take i.size).length=i.size:=by simp;omega
   let us:=(List.range i.size).map fun j=>cs.getD (p+c+j) undef
   have Nz:us.length=i.size:=by simp[us]
   have hrd:∀j v,us[j]? = some v→w.cell? ((⟨b,p+c,none⟩:Addr).add j)=some v:=by
    intro j v hv;have hj:j < i.size:=by have:=(List.getElem?_eq_some_iff.mp hv).1;omega
    obtain⟨u,h1,_⟩:=hc (c+j) (by omega);rw[zA,Pg hw,show p+c+j=p+(c+j) by omega,h1];simp[us,hj,Array.getD_eq_getD_getElem?,show p+c+j=p+(c+j) by omega,h1] at hv;rw[hv]
   have hr:=run_loadCells_list (P:=P) w ⟨b,p+c,none⟩ us hrd;rw[Nz] at hr;refine⟨.agg us.toArray,?_,.agg _ _ (by simp[Nz,hl]) (fun y hy=>hat y (List.mem_of_mem_drop (List.mem_of_mem_take hy))) (fun j hj=>?_)⟩
   ·simp only[loadVar,Sem.run_bind,PS hu,Result.andThen_ok,hag,if_true,uz hi,hr]
    rfl
   ·rw[hl] at hj
    obtain⟨u,h1,h2⟩:=hc (c+j) (by omega)
    have e1:us.toArray.getD j undef=u:=by
     simp[us,hj,Array.getD_eq_getD_getElem?,show p+c+j=p+(c+j) by omega,h1]
    rw[e1];simpa[List.getElem_take,List.getElem_drop] using h2
  ·cases h
 ·unfold bq at h
  simp only at h;obtain⟨hlt,e⟩:=List.getElem?_eq_some_iff.mp h;obtain⟨u,h1,h2⟩:=hc c hlt;refine⟨u,?_,by rw[←e];exact h2⟩;simp only[loadVar,Sem.run_bind,PS hu,Result.andThen_ok,hag];simp[run_load,Pg hw,h1]
def bW(k:Option Nat)(p:AV):Eff:=
 match p with
 | .bJ x c=>.val (bq k x c)
 | .ptr id ix c=>.rd id fun | .arr _ xs=>(xs[ix]?).bind fun x=>bq k x c | _=>none
 | _=>.val none
theorem Zrx{t:TypeId}{x:Operand}{X:aJ}{k:Option Nat}{S':St}(hd:∀d,o.dst=some d→d < n)(hop:o.op=.load t x)(hx:aV x=some X)(hk:xq P t=some k)
  (h:(bW k (X.ev a)).run S aC=some (v,S')):S'=S∧iO P n o a S aC v S:=by
 generalize hp:X.ev a=p at h;cases p with
 | bJ y c=>
  simp only[bW,Eff.rR,Option.map_eq_some_iff,Prod.mk.injEq] at h;obtain⟨v',h1,rfl,rfl⟩:=h;refine⟨rfl,.pure hd fun E w act hS hF=>?_⟩;have rx:=bT hF hx;rw[hp] at rx;generalize hev:act.eval x=av at rx;cases rx with
  | bJ _ _ b p cs f hb hat hc hr=>
   obtain⟨el,fz,hw⟩:=hS.hH b cs hb;obtain⟨val,h2,h3⟩:=Vu (P:=P) hk h1 hw hat (fun j hj=>⟨f j,hc j hj,hr j hj⟩);exact⟨val,by simp[execOp,hop,hev,Instr.loadAt,Instr.sureAddr,h2],h3⟩
 | ptr id ix c=>
  simp only[bW,Eff.Ar,Option.map_eq_some_iff,Prod.mk.injEq] at h;obtain⟨v',h1,rfl,rfl⟩:=h;refine⟨rfl,.pure hd fun E w act hS hF=>?_⟩;have rx:=bT hF hx;rw[hp] at rx;generalize hev:act.eval x=av at rx;cases rx with
  | ptr _ _ _ l hl=>
   cases hg:S.g id with
   | none=>rw[hg] at h1;simp at h1
   | some bk=>
    rw[hg] at h1;cases bk with
    | map e=>simp at h1
    | arr es xs=>
     simp only[Option.bind_some] at h1;cases hxi:xs[ix]? with
     | none=>rw[hxi] at h1;simp at h1
     | some y=>
      rw[hxi] at h1;simp only[Option.bind_some] at h1;obtain⟨l',e,hN,h2,h3,h4,h5,cs,el,h6,h7,h8⟩:=hS.live id _ hg;rw[hl] at e;cases e;obtain⟨GN,hye⟩:=List.getElem?_eq_some_iff.mp hxi;have hfl:=Fy h4 ix GN
      have hcells:∀j (hj:j < y.cells.length),∃u,cs[l.o+ix*l.es+j]? = some u∧aL E (y.cells[j]) u:=by
       intro j hj;subst hye;obtain⟨hk',e⟩:=hfl j hj;obtain⟨u,a1,a2⟩:=h8 _ hk';rw[e] at a2;refine⟨u,?_,a2⟩;rw[h2,Nat.add_assoc];exact a1
      have hat:∀z∈y.cells,z.atom=true:=by
       intro z hz;refine h5 z ?_;simp only[flat,List.mem_flatMap];exact⟨y,by rw[←hye];exact List.getElem_mem GN,hz⟩
      obtain⟨val,h9,h10⟩:=Vu (P:=P) hk h1 h6 hat hcells;exact⟨val,by simp[execOp,hop,hev,Instr.loadAt,Instr.sureAddr,h9],h10⟩
 | _=>simp[bW] at h
end
theorem VG(cs:Array Value)(o:Nat)(vs:List Value)(h:o+vs.length≤cs.size)(j:Nat) :
  (cs.toList.take o++vs++cs.toList.drop (o+vs.length)).toArray[j]? = if o≤j∧j < o+vs.length then vs[j - o]? else cs[j]?:=by
 have hl:(cs.toList.take o).length=o:=by simp;omega
 simp only[List.getElem?_toArray];rcases Nat.lt_or_ge j o with h1 | h1
 ·rw[List.append_assoc,List.getElem?_append_left (by omega),List.getElem?_take,if_pos h1,if_neg (by omega)];simp
 ·rw[List.append_assoc,List.getElem?_append_right (by omega),hl]
  rcases Nat.lt_or_ge j (o+vs.length) with h2 | h2
  ·rw[List.getElem?_append_left (by omega),if_pos ⟨h1,h2⟩]
  ·rw[List.getElem?_append_right (by omega),List.getElem?_drop,if_neg (by omega)]
   rw[show o+vs.length+(j - o - vs.length)=j by omega];simp
theorem Vv(cs:Array Value)(o:Nat)(vs:List Value)(h:o+vs.length≤cs.size) :
  (cs.toList.take o++vs++cs.toList.drop (o+vs.length)).toArray.size=cs.size:=by
 simp;omega
theorem Zde{xs:List AV}(h:∀y∈flat xs,y.atom=true):∀x∈xs,∀y∈x.cells,y.atom=true:=by
 intro x hx y hy;exact h y (by simp only[flat,List.mem_flatMap];exact⟨x,hx,hy⟩)
theorem mJ.put{E:Env}{w:World}{l:Loc}{es:Nat}{xs:List AV}(h:mJ E w l (.arr es xs))(ix:Nat)(hix:ix < xs.length){x:AV}{v:Value}(r:aL E x v)(hs:x.solid=true){c:Nat}
  (hc:c+x.cells.length≤(xs[ix]).cells.length) :
  ∃cs el,w.heap[l.b]? = some (.cells cs el (0,0))∧l.o+ix*es+c+v.cells.size≤cs.size∧v.cells.size=x.cells.length∧(∀u∈v.cells.toList,u.oneCell'=true)∧
   mJ E (w.setRow l.b (cs.toList.take (l.o+ix*es+c)++v.cells.toList++cs.toList.drop (l.o+ix*es+c+v.cells.toList.length)).toArray) l (.arr es (xs.set ix (bL xs[ix] c x))):=by
 obtain⟨h1,h2,h3,h4,cs,el,h5,h6,h7⟩:=h;obtain⟨r1,r2⟩:=r.cells hs;have hy:(xs[ix]).cells.length=es:=h3 _ (List.getElem_mem hix)
 have hbd:ix*es+es≤l.tot*es:=by
  have:(ix+1)*es≤l.tot*es:=Nat.mul_le_mul_right _ (by omega);rw[Nat.add_mul,Nat.one_mul] at this;exact this
 have hat:=r.EJ hs;have hfit:l.o+ix*es+c+v.cells.toList.length≤cs.size:=by simp only[Array.length_toList];omega
 refine⟨cs,el,h5,by simpa using hfit,r1,?_,?_⟩
 ·intro u hu
  obtain⟨j,hj,e⟩:=List.mem_iff_getElem.mp hu;have hj':j < x.cells.length:=by rw[←r1];simpa using hj
  have:=r2 j hj'
  have e2:v.cells.getD j undef=u:=by
   rw[←e];simp[Array.getD_eq_getD_getElem?];rw[Array.getElem?_eq_getElem (by simpa using hj)];rfl
  rw[e2] at this;exact this.oneCell (hat _ (List.getElem_mem hj'))
 ·have hz:(bL xs[ix] c x).cells.length=es:=by rw[Pp hc];exact hy
  obtain⟨hl,hget⟩:=Zon h3 ix hix (x:=x) (c:=c) (by omega);refine⟨h1,by simpa using h2,Vo h3 hz,?_,_,el,setRow_heap w l.b cs _ el _ h5,by rw[Vv _ _ _ hfit];exact h6,?_⟩
  ·intro y hy'
   obtain⟨k,hk,e⟩:=List.mem_iff_getElem.mp hy';rw[hget k (by omega)] at e;split at e
   ·rw[←e];exact hat _ (List.getElem_mem _)
   ·rw[←e];exact h4 _ (List.getElem_mem _)
  ·intro k hk
   rw[hget k (by omega)];rw[VG _ _ _ hfit];have hvl:v.cells.toList.length=x.cells.length:=by simp[r1]
   by_cases hin:ix*es+c≤k∧k < ix*es+c+x.cells.length
   ·rw[dif_pos hin,if_pos (by omega)]
    have hj:k - (ix*es+c) < x.cells.length:=by omega
    refine⟨v.cells.getD (k - (ix*es+c)) undef,?_,r2 _ hj⟩;rw[show l.o+k - (l.o+ix*es+c)=k - (ix*es+c) by omega];simp[Array.getD_eq_getD_getElem?];rw[Array.getElem?_eq_getElem (by omega)];rfl
   ·rw[dif_neg hin,if_neg (by omega)]
    exact h7 k (by omega)
def MH:Option Nat→Nat
 | none=>1
 | some m=>m
theorem Zh3{P:Program}{t:TypeId}{k:Option Nat}(h:xq P t=some k):∃i,P.info? t=some i∧i.size=MH k:=by
 obtain⟨d,i,_,hi,hor⟩:=VE h;rcases hor with⟨_,rfl⟩ | ⟨_,rfl,hs⟩
 ·exact⟨i,hi,rfl⟩
 ·exact⟨i,hi,hs⟩
def dA(m:Nat)(p x:AV):Eff:=
 match p with
 | .ptr id ix c=>.wr id fun
  | .arr es xs=>(xs[ix]?).bind fun y=>if x.solid=true∧x.cells.length=m∧c+m≤y.cells.length then some (.arr es (xs.set ix (bL y c x))) else none
  | _=>none
 | _=>.val none
section
variable{P:Program}{n:Nat}{o:Oper}{a:AF}{S:St}{aC:Nat}{v:AV}
theorem ZoR{t:TypeId}{p x:Operand}{Y X:aJ}{k:Option Nat}{S':St}(hd:∀d,o.dst=some d→d < n)(hop:o.op=.store t p x)(hp:aV p=some Y)(hx:aV x=some X)
  (hk:xq P t=some k) (h:(dA (MH k) (Y.ev a) (X.ev a)).run S aC=some (v,S')):v=.junk∧iO P n o a S aC .junk S':=by
 generalize hpe:Y.ev a=q at h;generalize hxe:X.ev a=y at h;cases q with
 | ptr id ix c=>
  simp only[dA,Eff.HZ,Option.map_eq_some_iff,Prod.mk.injEq] at h;obtain⟨b',h1,h2,rfl⟩:=h;refine⟨h2.symm,.P5g hd fun E w act hS hF _ _=>?_⟩;cases hg:S.g id with
  | none=>rw[hg] at h1;simp at h1
  | some bk=>
   rw[hg] at h1;cases bk with
   | map e=>simp at h1
   | arr es xs=>
    simp only[Option.bind_some] at h1;cases hxi:xs[ix]? with
    | none=>rw[hxi] at h1;simp at h1
    | some z=>
     rw[hxi] at h1;simp only[Option.bind_some] at h1;split at h1
     ·rename_i hcond
      obtain⟨hso,hlen,hfit⟩:=hcond;simp only[Option.some.injEq] at h1;subst h1;obtain⟨GN,hye⟩:=List.getElem?_eq_some_iff.mp hxi;have rp:=bT hF hp;have rx:=bT hF hx;rw[hpe] at rp;rw[hxe] at rx;generalize hev:act.eval p=av at rp;cases rp with
      | ptr _ _ _ l hl=>
       obtain⟨l',e,hN,ok⟩:=hS.live id _ hg;rw[hl] at e;cases e;subst hye;obtain⟨cs,el,g1,g2,g3,g4,g5⟩:=ok.put ix GN rx hso (c:=c) (by omega);obtain⟨i,hi,hsz⟩:=Zh3 hk;have hes:l.es=es:=ok.1;have hst:=run_storeCells_at P l.b (l.o+ix*es+c) el (act.eval x).cells.toList 0 cs w g1 (by simpa using g2) g4;simp only[Nat.add_zero] at hst;refine⟨_,E,?_,hS.write hg hl (fun b hb=>setRow_other w l.b b _ hb) g5,?_,fun oh=>by simp[tV,hop] at oh,fun _ _ e=>e⟩
       ·have heq:(act.eval x).cells.size=i.size:=by rw[g3,hlen,hsz]
        have hp1:∀(A:Addr),(Sem.run P (pure A) w:Result Addr)=.ok A w:=fun _=>rfl
        simp only[execOp,hop,hev,Instr.storeAt,Instr.sureAddr,storeVar,Sem.run_bind,uz hi,Result.andThen_ok,hes,hp1,heq,ne_eq,not_true_eq_false,if_false,hst];rfl
       ·exact .write hg hl rfl rfl rfl (by simp[World.setRow]) (fun b hb=>setRow_other w l.b b _ hb)
     ·cases h1
 | _=>simp[dA] at h
def dS(es:Nat)(x:AV):Eff:=.new (if x.solid=true∧x.cells.length=es then some (.arr es [x],fun i=>.ptr i 0 0) else none)
theorem Zqu{E:Env}{S:St}{w:World}(hS:bf E S w){es:Nat}{xs:List AV}{cs:Array Value}(el:TypeId)(tot:Nat)(hes:∀x∈xs,x.cells.length=es)(hat:∀y∈flat xs,y.atom=true)(ht:xs.length≤tot)
  (hcs:tot*es≤cs.size) (hr:∀k (h:k < (flat xs).length),∃v,cs[k]? = some v∧aL E ((flat xs)[k]) v) :
  mJ E (w.alloc (.cells cs el)) ⟨w.heap.size,0,es,tot⟩ (.arr es xs):=
 ⟨rfl,ht,hes,hat,cs,el,Li w _,by simpa using hcs,fun k hk=>by simpa using hr k hk⟩
theorem iO.alloc{es:Nat}{xs:List AV}{f:Nat→AV}(hd:∀d,o.dst=some d→d < n)(oh:tV o.op=false)(hes:∀x∈xs,x.cells.length=es)
  (h:∀E w act,bf E S w→fu E n a act→∃val cs el tot w1,w1.heap.size=w.heap.size∧bf E S w1∧kH E S w E S w1∧(execOp act.eval o).run P w=.ok (.value val) (w1.alloc (.cells cs el))∧(∀y∈flat xs,y.atom=true)∧xs.length≤tot∧
   tot*es≤cs.size∧(∀k (hk:k < (flat xs).length),∃u,cs[k]? = some u∧aL E ((flat xs)[k]) u)∧∀E',E'.ρ aC=some ⟨w.heap.size,0,es,tot⟩→aL E' (f aC) val) :
  iO P n o a S aC (f aC) (S.set aC (some (.arr es xs))):=by
 refine .of_run hd fun E w act hS hF hn hlt=>?_
 obtain⟨val,cs,el,tot,w1,h0,hS1,hE1,h1,h2,h3,h4,h5,h6⟩:=h E w act hS hF;have hb:=Zqu hS1 (xs:=xs) (cs:=cs) el tot hes h2 h3 h4 h5;rw[h0] at hb;refine⟨val,_,E.loc aC ⟨w.heap.size,0,es,tot⟩,h1,hS1.alloc hn hlt _ _ (by rw[h0]) _ hb,hE1.trans (.alloc hn _ _ (by rw[h0]) _),h6 _ (by simp[Env.loc]),fun hp=>absurd hp (by rw[oh];simp),fun i hi e=>?_⟩;simp[Env.loc,bF,hi,e]
theorem PY(x:AV):flat [x]=x.cells:=by simp[flat]
theorem Ztt{t:TypeId}{x:Operand}{X:aJ}{k:Option Nat}{S':St}(hd:∀d,o.dst=some d→d < n)(hop:o.op=.box t x)(hx:aV x=some X)
  (h:(dS (MH k) (X.ev a)).run S aC=some (v,S')):iO P n o a S aC v S':=by
 simp only[dS,Eff.K5,Option.map_eq_some_iff,Prod.mk.injEq] at h;obtain⟨p,h1,rfl,rfl⟩:=h;split at h1
 ·rename_i hc
  obtain⟨hso,hlen⟩:=hc;cases h1;refine iO.alloc (f:=fun i=>.ptr i 0 0) hd (by rw[hop];rfl) (by simpa using hlen) fun E w act hS hF=>?_
  have rx:=bT hF hx;obtain⟨r1,r2⟩:=rx.cells hso;refine⟨_,(act.eval x).cells,t,1,w,rfl,hS,.refl _ _ _,by simp[execOp,hop,Instr.box,newVar,newRow];rfl,?_,by simp,by rw[Nat.one_mul,r1];omega,?_,?_⟩
  ·rw[PY];exact rx.EJ hso
  ·intro j hj
   simp only[PY] at hj ⊢;refine⟨(act.eval x).cells.getD j undef,?_,r2 j hj⟩;simp[Array.getD_eq_getD_getElem?];rw[Array.getElem?_eq_getElem (by omega)];rfl
  ·intro E' he
   have:=aL.ptr (E:=E') aC 0 0 _ he;simpa using this
 ·cases h1
end
def WL(P:Program)(s:TypeId)(f:Nat):Option Nat:=
 match P.underlying s with
 | some (.struct fs)=>match fs[f]? with
  | some fd=>match P.info? fd.type with
   | some i=>if i.size=0 then none else some fd.offset
   | none=>none
  | none=>none
 | _=>none
def dJ(off:Nat):AV→Option AV
 | .ptr id ix c=>some (.ptr id ix (c+off))
 | .bJ x c=>some (.bJ x (c+off))
 | _=>none
def Dw(P:Program)(t:TypeId):Option Nat:=
 match P.underlying t with
 | some (.slice e)=>(P.info? e).map (·.size)
 | _=>none
def dD(es:Nat)(x i:AV):Eff:=
 match x,i with
 | .sl _ xs,.v (.int _ n)=>.val ((xs[n.toNat]?).bind fun y=>if 0≤n∧y.cells.length=es then some (.bJ y 0) else none)
 | .own id off len,.v (.int _ n)=>.rd id fun
  | .arr es' xs=>if es'=es∧0≤n∧n < len∧off+len≤xs.length then some (.ptr id (off+n.toNat) 0) else none
  | _=>none
 | _,_=>.val none
def Yc(P:Program)(t:TypeId):Option (Nat×Nat):=
 match P.underlying t with
 | some (.array m e)=>(P.info? e).map fun i=>(m,i.size)
 | _=>none
def gD(m es:Nat)(p i:AV):Option AV:=
 match p,i with
 | .ptr id ix c,.v (.int _ n)=>if 0≤n∧n < m then some (.ptr id ix (c+n.toNat*es)) else none
 | .bJ x c,.v (.int _ n)=>if 0≤n∧n < m then some (.bJ x (c+n.toNat*es)) else none
 | _,_=>none
def fq:AV→Option AV
 | .sl _ xs=>some (.v (.int .i64 xs.length))
 | .own _ _ len=>some (.v (.int .i64 len))
 | _=>none
def XF:AV→Option AV
 | .v (.string s)=>some (.v (.int .i64 s.size))
 | _=>none
def dU(i:Nat):AV→Option AV
 | .aM vs=>vs[i]?
 | _=>none
def eu(c x y:AV):Option AV:=
 match c with
 | .v (.bool b)=>some (if b=true then x else y)
 | _=>none
def eU(op:UnOp)(x:AV):Option AV:=
 match op,x with
 | .not,.v (.bool b)=>some (.v (.bool (!b)))
 | .neg,.v (.int k m)=>some (.v (.int k (k.wrap (0 - m))))
 | _,_=>none
def Jd(k:IntKind):AV→Option AV
 | .v (.int _ m)=>some (.v (.int k (k.wrap m)))
 | _=>none
def Yg?(P:Program)(src dst:TypeId):Option IntKind:=
 match P.underlying src,P.underlying dst with
 | some _,some (.int k)=>some k
 | _,_=>none
def dZ(k:Option Nat)(off:Nat):AV→Option AV
 | .agg cs=>bq k (.agg cs) off
 | _=>none
def XH(P:Program)(s:TypeId)(f:Nat):Option (Nat×Option Nat):=
 match P.underlying s with
 | some (.struct fs)=>match fs[f]? with
  | some fd=>(xq P fd.type).map fun k=>(fd.offset,k)
  | none=>none
 | _=>none
def d9(m es:Nat)(k:Option Nat)(x i:AV):Option AV:=
 match x,i with
 | .agg cs,.v (.int _ n)=>if 0≤n∧n < m then bq k (.agg cs) (n.toNat*es) else none
 | _,_=>none
def YF(P:Program)(t:TypeId):Option (Nat×Nat×Option Nat):=
 match P.underlying t with
 | some (.array m e)=>match P.info? e with
  | some i=>(xq P e).map fun k=>(m,i.size,k)
  | none=>none
 | _=>none
def XE(x i:AV):Option AV:=
 match x,i with
 | .v (.string s),.v (.int _ n)=>if 0≤n then (s[n.toNat]?).map fun b=>.v (.int .u8 b.toNat) else none
 | _,_=>none
section
variable{P:Program}{n:Nat}{o:Oper}{a:AF}{S:St}{aC:Nat}{v:AV}
theorem Zmj{s:TypeId}{x:Operand}{X:aJ}{f off:Nat}(hd:∀d,o.dst=some d→d < n)(hop:o.op=.fieldAddr s x f)(hx:aV x=some X)(hf:WL P s f=some off)
  (h:dJ off (X.ev a)=some v):iO P n o a S aC v S:=by
 refine .pure hd fun E w act hS hF=>?_
 have rx:=bT hF hx;unfold WL at hf;split at hf
 ·rename_i fs hu
  split at hf
  ·rename_i fd Np
   split at hf
   ·rename_i i hi
    split at hf
    ·cases hf
    ·rename_i hz
     cases hf
     have run:∀A,act.eval x=.pointer (some A)→(execOp act.eval o).run P w=.ok (.value (.pointer (some (A.add fd.offset)))) w:=by
      intro A hA;simp[execOp,hop,hA,Instr.fieldAt,Instr.sureAddr,run_underlying hu,Np,fieldPlace,uz hi,hz]
     generalize hp:X.ev a=p at rx h;generalize hev:act.eval x=av at rx;cases rx with
     | ptr id ix c l hl=>
      simp[dJ] at h;subst h;refine⟨_,run _ hev,?_⟩;rw[zA,Nat.add_assoc];exact .ptr id ix _ l hl
     | bJ y c b p cs g hb hat hc hr=>
      simp[dJ] at h;subst h;refine⟨_,run _ hev,?_⟩;rw[zA,Nat.add_assoc];exact .bJ y _ b p cs g hb hat hc hr
     | _=>simp[dJ] at h
   ·cases hf
  ·cases hf
 ·cases hf
theorem Zrq{t:TypeId}{x i:Operand}{X I:aJ}{es:Nat}{S':St}(hd:∀d,o.dst=some d→d < n)(hop:o.op=.indexAddr t x i)(hx:aV x=some X)(hi:aV i=some I)
  (ht:Dw P t=some es) (h:(dD es (X.ev a) (I.ev a)).run S aC=some (v,S')):S'=S∧iO P n o a S aC v S:=by
 generalize hxe:X.ev a=y at h;generalize hie:I.ev a=j at h;unfold Dw at ht;split at ht
 ·rename_i e hu
  simp only[Option.map_eq_some_iff] at ht;obtain⟨ie,Bo,rfl⟩:=ht;unfold dD at h;split at h
  ·rename_i t' xs k m
   simp only[Eff.rR,Option.map_eq_some_iff,Prod.mk.injEq] at h;obtain⟨v',h1,rfl,rfl⟩:=h;refine⟨rfl,.pure hd fun E w act hS hF=>?_⟩;have rx:=bT hF hx;have ri:=bT hF hi;rw[hxe] at rx;rw[hie] at ri;have ei:=ri.jl;simp only[Option.bind_eq_some_iff] at h1;obtain⟨z,hz,h2⟩:=h1;split at h2
   ·rename_i hcond
    cases h2;obtain⟨hlt,J5⟩:=List.getElem?_eq_some_iff.mp hz;generalize hev:act.eval x=av at rx;cases rx with
    | sl0 _ A cap Te=>simp at hlt
    | sl _ _ b p cap cs es' f hne hb hes hcap Te hat hc hr=>
     have hes':es'=ie.size:=by rw[←hes z (by rw[←J5];exact List.getElem_mem hlt)];exact hcond.2
     subst hes';have hm:m < (xs.length:Int):=by omega
     refine⟨.pointer (some ⟨b,(p+m.toNat*ie.size)+0,none⟩),?_,.bJ z 0 b (p+m.toNat*ie.size) cs (fun k=>f (m.toNat*ie.size+k)) hb ?_ ?_ ?_⟩
     ·simp only[execOp,hop,hev,ei]
      have hm2:¬(xs.length:Int)≤m:=by omega
      simp[Instr.indexAt,asIntOf,run_underlying hu,hcond.1,hm,uz Bo,zA]
     ·intro y hy
      exact Zde hat z (by rw[←J5];exact List.getElem_mem hlt) y hy
     ·intro k hk
      subst J5;obtain⟨hk',_⟩:=Fy hes m.toNat hlt k hk;rw[Nat.add_assoc];exact hc _ hk'
     ·intro k hk
      subst J5;obtain⟨hk',e3⟩:=Fy hes m.toNat hlt k hk;rw[←e3];exact hr _ hk'
   ·cases h2
  ·rename_i id off len k m
   simp only[Eff.Ar,Option.map_eq_some_iff,Prod.mk.injEq] at h;obtain⟨v',h1,rfl,rfl⟩:=h;refine⟨rfl,.pure hd fun E w act hS hF=>?_⟩;have rx:=bT hF hx;have ri:=bT hF hi;rw[hxe] at rx;rw[hie] at ri;have ei:=ri.jl;cases hg:S.g id with
   | none=>rw[hg] at h1;simp at h1
   | some bk=>
    rw[hg] at h1;cases bk with
    | map e=>simp at h1
    | arr es' xs=>
     simp only[Option.bind_some] at h1;split at h1
     ·rename_i hcond
      cases h1;obtain⟨c1,c2,c3,c4⟩:=hcond;generalize hev:act.eval x=av at rx;cases rx with
      | own _ _ _ A cap l hl hlen hA=>
       obtain⟨l',e,hN,ok⟩:=hS.live id _ hg;rw[hl] at e;cases e;have hes:l.es=es':=ok.1;obtain⟨hA1,hA2⟩:=hA (by omega);refine⟨.pointer (some ⟨l.b,l.o+(off+m.toNat)*l.es+0,none⟩),?_,.ptr id _ 0 l hl⟩;simp only[execOp,hop,hev,ei,hA1];simp[Instr.indexAt,asIntOf,run_underlying hu,c2,c3,uz Bo,zA];rw[hes,c1,Nat.add_mul];omega
     ·cases h1
  ·simp at h
 ·cases ht
theorem Ztx{x:Operand}{X:aJ}{i:Nat}(hd:∀d,o.dst=some d→d < n)(hop:o.op=.extract x i)(hx:aV x=some X)(h:dU i (X.ev a)=some v):iO P n o a S aC v S:=by
 refine .pure hd fun E w act hS hF=>?_
 have rx:=bT hF hx;generalize X.ev a=p at rx h;generalize hev:act.eval x=av at rx;cases rx with
 | aM cs vs hn hr=>
  simp only[dU] at h;obtain⟨hlt,e⟩:=List.getElem?_eq_some_iff.mp h
  have hv:vs[i]? = some (vs.getD i undef):=by
   simp[Array.getD_eq_getD_getElem?];rw[Array.getElem?_eq_getElem (by omega)];rfl
  refine⟨vs.getD i undef,?_,by rw[←e];exact hr i hlt⟩;simp only[execOp,hop,hev,Instr.extract,hv];rfl
 | _=>simp[dU] at h
theorem ZrB{c x y:Operand}{C X Y:aJ}(hd:∀d,o.dst=some d→d < n)(hop:o.op=.pick c x y)(hc:aV c=some C)(hx:aV x=some X)(hy:aV y=some Y)
  (h:eu (C.ev a) (X.ev a) (Y.ev a)=some v):iO P n o a S aC v S:=by
 refine .pure hd fun E w act hS hF=>?_
 have rc:=bT hF hc;have rx:=bT hF hx;have ry:=bT hF hy;unfold eu at h;split at h
 ·rename_i b hb
  rw[hb] at rc;have ec:=rc.jl;cases h;refine⟨if b=true then act.eval x else act.eval y,by simp[execOp,hop,ec,asBool],?_⟩;cases b<;>simp[rx,ry]
 ·cases h
theorem ZuS{op:UnOp}{t:TypeId}{x:Operand}{X:aJ}(hd:∀d,o.dst=some d→d < n)(hop:o.op=.unOp op t x)(hx:aV x=some X)(h:eU op (X.ev a)=some v):iO P n o a S aC v S:=by
 refine .pure hd fun E w act hS hF=>?_
 have rx:=bT hF hx;generalize X.ev a=p at rx h;unfold eU at h;split at h
 ·have e:=rx.jl;cases h
  exact⟨_,by simp only[execOp,hop,e,Op.unary];rfl,.v _ rfl⟩
 ·have e:=rx.jl;cases h
  exact⟨_,by simp only[execOp,hop,e,Op.unary,Op.intArith];rfl,.v _ rfl⟩
 ·cases h
theorem Zrp{s t:TypeId}{x:Operand}{X:aJ}{k:IntKind}(hd:∀d,o.dst=some d→d < n)(hop:o.op=.convert s t x)(hx:aV x=some X)(hk:Yg? P s t=some k)(h:Jd k (X.ev a)=some v):iO P n o a S aC v S:=by
 refine .pure hd fun E w act hS hF=>?_
 have rx:=bT hF hx;generalize X.ev a=p at rx h;unfold Yg? at hk;split at hk
 ·rename_i d k' h1 h2
  cases hk;unfold Jd at h;split at h
  ·have e:=rx.jl;cases h
   refine⟨_,?_,.v _ rfl⟩;simp only[execOp,hop,e,convert,Sem.run_bind,run_underlying h1,run_underlying h2,Result.andThen_ok];cases d<;>rfl
  ·cases h
 ·cases hk
theorem Zty{t:TypeId}{x:Operand}{X:aJ}{e:TypeId}(hd:∀d,o.dst=some d→d < n)(hop:o.op=.call { callee:=.builtin .len,args:=#[x],argTypes:=#[t] })(hx:aV x=some X)
  (hu:P.underlying t=some (.slice e)) (h:fq (X.ev a)=some v):iO P n o a S aC v S:=by
 refine .pure hd fun E w act hS hF=>?_
 have rx:=bT hF hx;generalize X.ev a=p at rx h;generalize hev:act.eval x=av at rx
 have run:∀A m c,av=.slice A m c→(execOp act.eval o).run P w=.ok (.value (.int .i64 m)) w:=by
  intro A m c e;subst e;simp[execOp,hop,resolve,invoke,builtin,Builtin.len_,hev,run_underlying hu,goInt]
 cases rx with
 | sl0 t' A cap ht=>simp[fq] at h;subst h;exact⟨_,run _ _ _ rfl,.v _ rfl⟩
 | sl t' xs b p cap cs es f hne hb hes hcap ht hat hc hr=>simp[fq] at h;subst h;exact⟨_,run _ _ _ rfl,.v _ rfl⟩
 | own id off len A cap l hl hlen hA=>simp[fq] at h;subst h;exact⟨_,run _ _ _ rfl,.v _ rfl⟩
 | _=>simp[fq] at h
def eT(mx:Bool)(x y:AV):Option AV:=
 match x,y with
 | .v (.int k a),.v (.int _ b)=>some (.v (.int k (if mx=true then (if b > a then b else a) else (if b < a then b else a))))
 | _,_=>none
theorem ZtC{mx:Bool}{bi:Builtin}(hb:(mx=true∧bi=.max)∨(mx=false∧bi=.min)){t u:TypeId}{x y:Operand}{X Y:aJ}(hd:∀d,o.dst=some d→d < n)(hop:o.op=.call { callee:=.builtin bi,args:=#[x,y],argTypes:=#[t,u] })(hx:aV x=some X)(hy:aV y=some Y)
  (h:eT mx (X.ev a) (Y.ev a)=some v):iO P n o a S aC v S:=by
 refine .pure hd fun E w act hS hF=>?_
 have rx:=bT hF hx;have ry:=bT hF hy;generalize X.ev a=p at rx h;generalize Y.ev a=q at ry h;unfold eT at h;split at h
 ·have e1:=rx.jl
  have e2:=ry.jl;cases h;rcases hb with⟨rfl,rfl⟩ | ⟨rfl,rfl⟩
  ·exact⟨_,by simp[execOp,hop,resolve,invoke,builtin,Builtin.max_,Builtin.max2,e1,e2],.v _ rfl⟩
  ·exact⟨_,by simp[execOp,hop,resolve,invoke,builtin,Builtin.min_,Builtin.min2,e1,e2],.v _ rfl⟩
 ·cases h
theorem Zrw{t:TypeId}{x:Operand}{X:aJ}(hd:∀d,o.dst=some d→d < n)(hop:o.op=.call { callee:=.builtin .len,args:=#[x],argTypes:=#[t] })(hx:aV x=some X)
  (hu:P.underlying t=some .string) (h:XF (X.ev a)=some v):iO P n o a S aC v S:=by
 refine .pure hd fun E w act hS hF=>?_
 have rx:=bT hF hx;generalize X.ev a=p at rx h;unfold XF at h;split at h
 ·have e:=rx.jl;cases h
  exact⟨.int .i64 _,by simp[execOp,hop,resolve,invoke,builtin,Builtin.len_,e,run_underlying hu,goInt],.v _ rfl⟩
 ·cases h
theorem Ztz{f:FuncId}{first cap:Array Operand}{F C:List aJ}(hd:∀d,o.dst=some d→d < n)(hop:o.op=.makeFunc (.func f) first cap)
  (hf:first.toList.mapM aV=some F) (hc:cap.toList.mapM aV=some C):iO P n o a S aC (.aP f (F.map (·.ev a)) (C.map (·.ev a))) S:=by
 refine .pure hd fun E w act hS hF=>?_
 have key:∀(l:List Operand) (ys:List aJ),l.mapM aV=some ys→ys.length=l.length∧∀j (h:j < (ys.map (·.ev a)).length),aL E ((ys.map (·.ev a))[j]) ((l.map act.eval).getD j undef):=by
  intro l;induction l with
  | nil=>intro ys h;simp at h;subst h;simp
  | cons x l ih=>
   intro ys h;simp only[List.mapM_cons,Option.bind_eq_bind,Option.bind_eq_some_iff,Option.pure_def,Option.some.injEq] at h;obtain⟨y,hy,zs,hz,rfl⟩:=h;obtain⟨h1,h2⟩:=ih zs hz;refine⟨by simp[h1],fun j hj=>?_⟩;cases j with
   | zero=>simpa using bT hF hy
   | succ j=>
    have:=h2 j (by simpa using hj);rw[List.getElem_map] at this;simpa using this
 obtain⟨a1,a2⟩:=key _ _ hf;obtain⟨b1,b2⟩:=key _ _ hc;refine⟨.func (.func f) (first.map act.eval) (cap.map act.eval),by simp only[execOp,hop,Instr.makeFunc];rfl,?_⟩;refine .aP f _ _ _ _ (by simp[a1]) (by simp[b1]) (fun j hj=>?_) (fun j hj=>?_)
 ·have:=a2 j hj
  simpa[Array.getD_eq_getD_getElem?,List.getD_eq_getElem?_getD] using this
 ·have:=b2 j hj
  simpa[Array.getD_eq_getD_getElem?,List.getD_eq_getElem?_getD] using this
end
def QX(P:Program)(t:TypeId):Option (Nat×Nat):=
 match P.underlying t with
 | some (.slice e)=>match P.info? e with
  | some i=>match i.zero with
   | some z=>if z.cells.size=i.size then some (i.size,i.bytes) else none
   | none=>none
  | none=>none
 | _=>none
theorem Zku{P:Program}{t:TypeId}{es aB:Nat}(h:QX P t=some (es,aB)) :
  ∃e i z,P.underlying t=some (.slice e)∧P.info? e=some i∧i.zero=some z∧z.cells.size=es∧i.size=es∧i.bytes=aB:=by
 unfold QX at h;split at h
 ·rename_i e hu
  split at h
  ·rename_i i hi
   split at h
   ·rename_i z hz
    split at h
    ·rename_i hs
     simp only[Option.some.injEq,Prod.mk.injEq] at h;exact⟨e,i,z,hu,hi,hz,hs.trans h.1,h.1,h.2⟩
    ·cases h
   ·cases h
  ·cases h
 ·cases h
theorem Zcz(P:Program)(w:World)(t ty e:TypeId)(i:TypeInfo)(ht:P.underlying t=some (.slice e))(hi:P.info? e=some i)
  (b q:Nat) (sLen sCap:Nat) (B:Option Addr) (m c:Nat) (news:List Value) (hnew:(Builtin.firstCells i.size m (.slice B m c)).run P w=.ok news.toArray w)
  (hroom:sLen+m≤sCap) (w2:World) (hst:(storeCells ⟨b,q+sLen*i.size,none⟩ news).run P w=.ok () w2) :
  (Builtin.append_ #[t,t] ty #[.slice (some ⟨b,q,none⟩) sLen sCap,.slice B m c]).run P w=.ok (.slice (some ⟨b,q,none⟩) (sLen+m) sCap) w2:=by
 simp[Builtin.append_,run_underlying ht,sizeOf,typeInfo,hi,Builtin.lenOf,hroom,hnew,zA,hst]
theorem Z8B(P:Program)(w:World)(t ty e:TypeId)(i:TypeInfo)(ht:P.underlying t=some (.slice e))(hi:P.info? e=some i)
  (A:Option Addr) (sLen sCap:Nat) (B:Option Addr) (c:Nat) (hroom:sLen≤sCap) :
  (Builtin.append_ #[t,t] ty #[.slice A sLen sCap,.slice B 0 c]).run P w=.ok (.slice A sLen sCap) w:=by
 cases A<;>cases B<;>simp[Builtin.append_,run_underlying ht,sizeOf,typeInfo,hi,Builtin.lenOf,hroom,Builtin.firstCells,loadCells,loadCellsFrom,storeCells]
theorem Z9c(P:Program)(w:World)(t ty e:TypeId)(i:TypeInfo)(z:Value)(ht:P.underlying t=some (.slice e))(hi:P.info? e=some i)(hz:i.zero=some z)
  (A:Option Addr) (sLen sCap:Nat) (olds:List Value) (hold:(Builtin.firstCells i.size sLen (.slice A sLen sCap)).run P w.drew=.ok olds.toArray w.drew)
  (B:Option Addr) (m c:Nat) (news:List Value) (hnew:(Builtin.firstCells i.size m (.slice B m c)).run P w.drew=.ok news.toArray w.drew)
  (hg:sCap < sLen+m) (h63:((sLen+m:Nat):Int)≤9223372036854775807) (hfit:Builtin.nextslicecap (sLen+m) sCap*i.bytes≤281474976710656) :
  (Builtin.append_ #[t,t] ty #[.slice A sLen sCap,.slice B m c]).run P w =
   .ok (.slice (some ⟨w.heap.size,0,none⟩) (sLen+m) (grownCap w (sLen+m) sCap e))
    (w.drew.alloc (.cells (olds++news++(Builtin.zeroCells z.cells (grownCap w (sLen+m) sCap e - (sLen+m))).toList).toArray e)):=by
 have hn:¬(sLen+m≤sCap):=by omega
 have h63':¬(9223372036854775807 < ((sLen:Int)+(m:Int))):=by omega
 have h48':¬(281474976710656 < Builtin.nextslicecap (sLen+m) sCap*i.bytes):=by omega
 simp[Builtin.append_,run_underlying ht,sizeOf,typeInfo,zeroValue,hi,hz,Builtin.lenOf,hn,h63',h48',Question.forced,hnew,hold,newRow,grownCap];congr 2;apply Array.ext';simp
theorem uX.drew{E:Env}{w:World}{es:Nat}{ys:List AV}{A:Option Addr}(h:uX E w es ys A):uX E w.drew es ys A:=⟨h.hes,h.hat,h.at_⟩
def aR(S:St):AV→Option (List AV)
 | .sl _ xs=>some xs
 | .own id off len=>match S.g id with
  | some (.arr _ xs)=>if off+len≤xs.length then some ((xs.drop off).take len) else none
  | _=>none
 | _=>none
def mq(es:Nat)(bs:List aF):AV→Option (List AV)
 | .sl _ xs=>if ∀x∈xs,x.cells.length=es then some xs else none
 | .own _ off len=>match bs with
  | [.arr es' xs]=>if es'=es∧off+len≤xs.length then some ((xs.drop off).take len) else none
  | _=>none
 | _=>none
def AV.kF:AV→List Nat
 | .own id _ _=>[id]
 | _=>[]
def dF(aB n m:Nat):Prop:=(n+m)*aB≤140737488355328∧n+m≤140737488355328
instance (aB n m:Nat):Decidable (dF aB n m):=by unfold dF;exact inferInstance
def kP(es aB:Nat)(x y:AV):Eff:=
 match x with
 | .sl true xs=>⟨y.kF,fun bs=>(mq es bs y).bind fun ys=>
   if (∀z∈xs,z.cells.length=es)∧dF aB xs.length ys.length then
    (if ys.length=0 then some ⟨fun _=>.sl true xs,[],none⟩ else some ⟨fun i=>.own i 0 (xs.length+ys.length),[],some (.arr es (xs++ys))⟩)
   else none⟩
 | .own id off len=>⟨id::y.kF,fun
  | .arr es' xs::bs=>(mq es bs y).bind fun ys=>
    if es'=es∧off+len=xs.length∧dF aB len ys.length∧y.kF≠[id] then some ⟨fun i=>.own i 0 (len+ys.length),[none],some (.arr es (xs.drop off++ys))⟩
    else if es'=es∧off+len < xs.length∧dF aB len ys.length∧y.kF≠[id] then some ⟨fun i=>.own i 0 (len+ys.length),[none],some (.arr es ((xs.take (off+len)).drop off++ys))⟩ else none
  | _=>none⟩
 | _=>.val none
theorem Pq{E:Env}{S:St}{w:World}(hS:bf E S w){es:Nat}{y:AV}{val:Value}(r:aL E y val){bs:List aF}(hb:y.kF.mapM S.g=some bs){ys:List AV}(h:mq es bs y=some ys) :
  ∃A cap,val=.slice A ys.length cap∧uX E w es ys A:=by
 unfold mq at h;split at h
 ·rename_i t xs
  split at h
  ·rename_i hes
   cases h;obtain⟨A,cap,e,_,_,hr⟩:=WW hS r hes;exact⟨A,cap,e,hr⟩
  ·cases h
 ·rename_i id off len
  simp only[AV.kF,List.mapM_cons,List.mapM_nil,Option.pure_def,Option.bind_eq_bind,Option.bind_eq_some_iff,Option.some.injEq] at hb;obtain⟨b0,hb0,_,rfl,rfl⟩:=hb;cases b0 with
  | map e=>simp at h
  | arr es' xs=>
   simp only at h;split at h
   ·rename_i hc
    cases h;obtain⟨rfl,hl⟩:=hc;obtain⟨A,cap,e,_,hr⟩:=ZfS hS r hb0 hl;refine⟨A,cap,?_,hr⟩;rw[e];have:((xs.drop off).take len).length=len:=by simp;omega
    rw[this]
   ·cases h
 ·cases h
theorem ZhG{aB n m:Nat}(h:dF aB n m):((n+m:Nat):Int)≤9223372036854775807:=by have:=h.2;omega
theorem ZeY{aB n m cap:Nat}(h:dF aB n m)(hc:cap < n+m):Builtin.nextslicecap (n+m) cap*aB≤281474976710656:=growslice_fits hc h.1
theorem Zf1{E:Env}{w:World}{es:Nat}{xs ys:List AV}{olds news:List Value}{z:Array Value}{cap:Nat}(e:TypeId)
  (hx:∀x∈xs,x.cells.length=es) (hxa:∀y∈flat xs,y.atom=true) (hy:∀x∈ys,x.cells.length=es) (hya:∀y∈flat ys,y.atom=true)
  (ho:olds.length=xs.length*es) (hn:news.length=ys.length*es) (hz:z.size=es)
  (hro:∀k (hk:k < (flat xs).length),∃v,olds[k]? = some v∧aL E ((flat xs)[k]) v) (hrn:∀k (hk:k < (flat ys).length),∃v,news[k]? = some v∧aL E ((flat ys)[k]) v)
  (hcap:xs.length+ys.length≤cap) :
  mJ E (w.alloc (.cells (olds++news++(Builtin.zeroCells z (cap - (xs.length+ys.length))).toList).toArray e)) ⟨w.heap.size,0,es,cap⟩ (.arr es (xs++ys)):=by
 have hlx:=r9 hx;have hly:=r9 hy;refine⟨rfl,by simpa using hcap,?_,?_,_,e,Li w _,?_,?_⟩
 ·intro x hx';rcases List.mem_append.mp hx' with h | h
  ·exact hx x h
  ·exact hy x h
 ·intro y hy';rw[vL] at hy';rcases List.mem_append.mp hy' with h | h
  ·exact hxa y h
  ·exact hya y h
 ·simp only[Nat.zero_add,List.size_toArray,List.length_append,Array.length_toList,size_zeroCells,hz,ho,hn]
  rw[←Nat.add_mul,←Nat.add_mul];exact Nat.mul_le_mul_right _ (by omega)
 ·intro k hk
  rw[vL,List.length_append] at hk;simp only[Nat.zero_add,List.getElem?_toArray];by_cases h1:k < (flat xs).length
  ·obtain⟨v,a,b⟩:=hro k h1
   refine⟨v,?_,?_⟩
   ·rw[List.append_assoc,List.getElem?_append_left (by omega)];exact a
   ·have:(flat (xs++ys))[k]'(by rw[vL,List.length_append];omega)=(flat xs)[k]:=by
     simp only[vL];rw[List.getElem_append_left h1]
    rw[this];exact b
  ·obtain⟨v,a,b⟩:=hrn (k - (flat xs).length) (by omega)
   refine⟨v,?_,?_⟩
   ·rw[List.append_assoc,List.getElem?_append_right (by omega),List.getElem?_append_left (by omega),ho,←hlx];exact a
   ·have:(flat (xs++ys))[k]'(by rw[vL,List.length_append];omega)=(flat ys)[k - (flat xs).length]'(by omega):=by
     simp only[vL];rw[List.getElem_append_right (by omega)]
    rw[this];exact b
theorem mJ.take{E:Env}{w:World}{l:Loc}{es:Nat}{xs:List AV}(h:mJ E w l (.arr es xs))(m:Nat):mJ E w l (.arr es (xs.take m)):=by
 obtain⟨h1,h2,h3,h4,cs,el,h5,h6,h7⟩:=h;refine⟨h1,by rw[List.length_take];omega,fun x hx=>h3 x (List.mem_of_mem_take hx),fun y hy=>by rw[zx h3] at hy;exact h4 y (List.mem_of_mem_take hy),cs,el,h5,h6,fun k hk=>?_⟩;have hk2:k < ((flat xs).take (m*es)).length:=by rw[←zx h3];exact hk
 simp only[List.length_take] at hk2;obtain⟨v,a,b⟩:=h7 k (by omega);refine⟨v,a,?_⟩;have:(flat (xs.take m))[k]=(flat xs)[k]'(by omega):=by simp only[zx h3,List.getElem_take]
 rw[this];exact b
theorem ZnC{E:Env}{w:World}{l:Loc}{es:Nat}{xs ys:List AV}{news:List Value}(h:mJ E w l (.arr es xs))(off:Nat)(hoff:off≤xs.length)
  (hy:∀x∈ys,x.cells.length=es) (hya:∀y∈flat ys,y.atom=true) (hn:news.length=ys.length*es)
  (hrn:∀k (hk:k < (flat ys).length),∃v,news[k]? = some v∧aL E ((flat ys)[k]) v) (hfit:xs.length+ys.length≤l.tot) :
  ∃cs el,w.heap[l.b]? = some (.cells cs el (0,0))∧(l.o+xs.length*es)+news.length≤cs.size∧
   mJ E (w.setRow l.b (cs.toList.take (l.o+xs.length*es)++news++cs.toList.drop (l.o+xs.length*es+news.length)).toArray) ⟨l.b,l.o+off*es,es,l.tot - off⟩ (.arr es (xs.drop off++ys)):=by
 obtain⟨h1,h2,h3,h4,cs,el,h5,h6,h7⟩:=h;have hlx:=r9 h3;have hly:=r9 hy;have hm:(xs.length+ys.length)*es≤l.tot*es:=Nat.mul_le_mul_right _ hfit;rw[Nat.add_mul] at hm;have hf:l.o+xs.length*es+news.length≤cs.size:=by omega
 have hd:∀x∈xs.drop off,x.cells.length=es:=fun x hx=>h3 x (List.mem_of_mem_drop hx)
 have hof:off*es≤xs.length*es:=Nat.mul_le_mul_right _ hoff;refine⟨cs,el,h5,hf,rfl,by simp;omega,?_,?_,_,el,setRow_heap w l.b cs _ el _ h5,?_,?_⟩
 ·intro x hx';rcases List.mem_append.mp hx' with h | h
  ·exact hd x h
  ·exact hy x h
 ·intro y hy';rw[vL] at hy';rcases List.mem_append.mp hy' with h | h
  ·rw[zw h3] at h;exact h4 y (List.mem_of_mem_drop h)
  ·exact hya y h
 ·rw[Vv _ _ _ hf]
  have:(l.tot - off)*es=l.tot*es - off*es:=Nat.sub_mul _ _ _;have h9:off*es≤l.tot*es:=Nat.mul_le_mul_right _ (by omega);show l.o+off*es+(l.tot - off)*es≤cs.size
  omega
 ·intro k hk
  rw[vL,List.length_append,zw h3,List.length_drop] at hk;show ∃v,_[l.o+off*es+k]? = some v∧_
  rw[VG _ _ _ hf];by_cases h8:k < (flat xs).length - off*es
  ·rw[if_neg (by omega)]
   obtain⟨v,a,b⟩:=h7 (off*es+k) (by omega);refine⟨v,by rw[Nat.add_assoc];exact a,?_⟩
   have:(flat (xs.drop off++ys))[k]'(by rw[vL,List.length_append,zw h3,List.length_drop];omega)=(flat xs)[off*es+k]'(by omega):=by
    simp only[vL,zw h3];rw[List.getElem_append_left (by rw[List.length_drop];exact h8),List.getElem_drop]
   rw[this];exact b
  ·rw[if_pos (by omega)]
   obtain⟨v,a,b⟩:=hrn (k - ((flat xs).length - off*es)) (by omega);refine⟨v,?_,?_⟩
   ·rw[←a];congr 1;omega
   ·have:(flat (xs.drop off++ys))[k]'(by rw[vL,List.length_append,zw h3,List.length_drop];omega)=(flat ys)[k - ((flat xs).length - off*es)]'(by omega):=by
     simp only[vL,zw h3];rw[List.getElem_append_right (by rw[List.length_drop];omega)];simp only[List.length_drop]
    rw[this];exact b
section
variable{P:Program}{n:Nat}{o:Oper}{a:AF}{S:St}{aC:Nat}{v:AV}
theorem Z9y{E:Env}{ys:List AV}{news:List Value}(hya:∀y∈flat ys,y.atom=true){es:Nat}(hl:(flat ys).length=news.length)
  (hrn:∀k (hk:k < (flat ys).length),∃v,news[k]? = some v∧aL E ((flat ys)[k]) v):∀u∈news,u.oneCell'=true:=by
 intro u hu;obtain⟨k,hk,e⟩:=List.mem_iff_getElem.mp hu;obtain⟨v,a,b⟩:=hrn k (by omega);have:u=v:=by rw[List.getElem?_eq_getElem hk,e] at a;exact Option.some.inj a
 subst this;exact b.oneCell (hya _ (List.getElem_mem _))
theorem Zj2(S:St)(id:Nat):∀j k,bF S.g id none j=some k→S.g j=some k:=by
 intro j k hk;simp only[bF] at hk;split at hk
 ·cases hk
 ·exact hk
theorem Zts{t:TypeId}{x y:Operand}{X Y:aJ}{es aB:Nat}{S':St}(hd:∀d,o.dst=some d→d < n)(hop:o.op=.call { callee:=.builtin .append,args:=#[x,y],argTypes:=#[t,t] })
  (hx:aV x=some X) (hy:aV y=some Y) (ht:QX P t=some (es,aB)) (h:(kP es aB (X.ev a) (Y.ev a)).run S aC=some (v,S')):iO P n o a S aC v S':=by
 obtain⟨e,i,z,hu,hi,hz,hzs,his,hby⟩:=Zku ht;subst hby;generalize hxe:X.ev a=ax at h;generalize hye:Y.ev a=ay at h;unfold kP at h;split at h
 ·
  rename_i xs;simp only[Eff.run] at h;split at h
  ·cases h
  ·rename_i bs hbs
   cases hle:mq es bs ay with
   | none=>rw[hle] at h;simp at h
   | some ys=>
    rw[hle] at h;simp only[Option.bind_some] at h;split at h
    ·cases h
    ·rename_i out hout
     split at hout
     ·rename_i hc
      obtain⟨hc1,hc2⟩:=hc;split at hout
      ·rename_i hy0
       cases hout;simp only[St.iU,Option.some.injEq,Prod.mk.injEq] at h;obtain⟨rfl,rfl⟩:=h;refine .of_run hd fun E w act hS hF hn hlt=>?_
       have rx:=bT hF hx;have ry:=bT hF hy;rw[hxe] at rx;rw[hye] at ry;obtain⟨B,cb,eb,hrb⟩:=Pq hS ry hbs hle;obtain⟨A,ca,ea,hca,hta,hra⟩:=WW hS rx hc1;rw[hy0] at eb;have hS0:(S.fD ay.kF [])=S:=by cases ay.kF<;>rfl
       refine⟨act.eval x,w,E,?_,by rw[hS0];exact hS,by rw[hS0];exact .refl _ _ _,rx,fun oh=>by simp[tV,hop] at oh,fun _ _ e=>e⟩;have:=Z8B P w t o.type e i hu hi A xs.length ca B cb hca;simp[execOp,hop,resolve,invoke,builtin,ea,eb,this]
      ·rename_i hy0
       cases hout;simp only[St.iU,Option.some.injEq,Prod.mk.injEq] at h;obtain⟨rfl,rfl⟩:=h;have hS0:(S.fD ay.kF [])=S:=by cases ay.kF<;>rfl
       rw[hS0];refine .of_run hd fun E w act hS hF hn hlt=>?_
       have rx:=bT hF hx;have ry:=bT hF hy;rw[hxe] at rx;rw[hye] at ry;obtain⟨B,cb,eb,hrb⟩:=Pq hS ry hbs hle;obtain⟨A,ca,ea,hca,hta,hra⟩:=WW hS rx hc1;obtain⟨olds,o1,o2,o3,o4⟩:=hra.drew.first (P:=P) ca
       obtain⟨news,n1,n2,n3,n4⟩:=hrb.drew.first (P:=P) cb
       have hcap:=hta rfl;rw[←his] at o1 n1;have hrun:=Z9c P w t o.type e i z hu hi hz A xs.length ca olds o1 B ys.length cb news n1 (by omega) (ZhG hc2) (ZeY hc2 (by omega));have hgc:=grownCap_ge w (xs.length+ys.length) ca e;have hb:=Zf1 (E:=E) (w:=w.drew) e hc1 hra.hat hrb.hes hrb.hat o2 n2 hzs o4 n4 hgc
       refine⟨_,_,E.loc aC ⟨w.heap.size,0,es,grownCap w (xs.length+ys.length) ca e⟩,?_,hS.drew.alloc hn hlt _ _ rfl _ hb,(kH.drew E S w).trans (.alloc hn _ _ rfl _),
        .own aC 0 _ (some ⟨w.heap.size,0,none⟩) (grownCap w (xs.length+ys.length) ca e) ⟨w.heap.size,0,es,grownCap w (xs.length+ys.length) ca e⟩ (by simp[Env.loc]) hgc (fun _=>⟨by simp,by simp⟩),fun oh=>by simp[tV,hop] at oh,fun j hj ej=>by simp[Env.loc,bF,hj,ej]⟩
       simp[execOp,hop,resolve,invoke,builtin,ea,eb,hrun]
     ·cases hout
 ·
  rename_i id off len;simp only[Eff.run] at h;split at h
  ·cases h
  ·rename_i bs0 Nk
   simp only[List.mapM_cons,Option.bind_eq_bind,Option.bind_eq_some_iff,Option.pure_def,Option.some.injEq] at Nk;obtain⟨b0,hg,bs,hbs,rfl⟩:=Nk;cases b0 with
   | map e=>simp at h
   | arr es' xs=>
    simp only at h;cases hle:mq es bs ay with
    | none=>rw[hle] at h;simp at h
    | some ys=>
     rw[hle] at h;simp only[Option.bind_some] at h;split at h
     ·cases h
     ·rename_i out hout
      have key:∃xs':List AV,xs'=xs.take (off+len)∧off+len=xs'.length∧es'=es∧dF i.bytes len ys.length∧ay.kF≠[id]∧out=⟨fun i=>.own i 0 (len+ys.length),[none],some (.arr es (xs'.drop off++ys))⟩:=by
       split at hout
       ·rename_i hc
        obtain⟨c0,c1,c2,c3⟩:=hc;cases hout;exact⟨xs,by rw[c1,List.take_length],c1,c0,c2,c3,rfl⟩
       ·split at hout
        ·rename_i hc
         obtain⟨c0,c1,c2,c3⟩:=hc;cases hout;exact⟨xs.take (off+len),rfl,by simp;omega,c0,c2,c3,rfl⟩
        ·cases hout
      obtain⟨xs',hxs',hc1,rfl,hc2,hc3,rfl⟩:=key;have hS0:(S.fD (id::ay.kF) [none])=S.set id none:=by cases ay.kF<;>rfl
      simp only[hS0,St.iU,Option.some.injEq,Prod.mk.injEq] at h;obtain⟨rfl,rfl⟩:=h;refine .of_run hd fun E w act hS hF hn hlt=>?_
      have rx:=bT hF hx;have ry:=bT hF hy;rw[hxe] at rx;rw[hye] at ry;obtain⟨B,cb,eb,hrb⟩:=Pq hS ry hbs hle;generalize hev:act.eval x=av at rx;cases rx with
      | own _ _ _ A cap l hl hlen hA=>
       obtain⟨l',el,hN,ok0⟩:=hS.live id _ hg;rw[hl] at el;cases el;have ok:mJ E w l (.arr es' xs'):=by rw[hxs'];exact ok0.take _
       have hes:l.es=es':=ok.1;have hoff:off≤xs'.length:=by omega
       by_cases hroom:len+ys.length≤cap
       ·by_cases hcap0:cap=0
        ·
         have hl0:len=0:=by omega
         have hy0:ys.length=0:=by omega
         subst hl0;subst hcap0;rw[hy0] at eb;have hrun:=Z8B P w t o.type e i hu hi A 0 0 B cb (Nat.le_refl _);have hys:ys=[]:=List.eq_nil_of_length_eq_zero hy0;subst hys;have hdr:xs'.drop off=[]:=by rw[List.drop_eq_nil_iff];omega
         refine⟨.slice A 0 0,w,E.loc aC ⟨l.b,l.o+off*es',es',l.tot - off⟩,?_,?_,.rename (k':=.arr es' (xs'.drop off++[])) hg hl hn rfl rfl rfl rfl rfl (fun _ _=>rfl),.own aC 0 _ A 0 ⟨l.b,l.o+off*es',es',l.tot - off⟩ (by simp[Env.loc]) (by simp) (by simp),fun oh=>by simp[tV,hop] at oh,fun j hj ej=>by simp[Env.loc,bF,hj,ej]⟩
         ·simp[execOp,hop,resolve,invoke,builtin,hev,eb,hrun]
         ·refine hS.rename hg hl hn hlt rfl (fun _ _=>rfl) ?_
          obtain⟨k1,k2,k3,k4,cs,el,k5,k6,k7⟩:=ok;rw[hdr];refine⟨rfl,by simp,by simp,by simp[flat],cs,el,k5,?_,by simp[flat]⟩;show l.o+off*es'+(l.tot - off)*es'≤cs.size
          rw[Nat.sub_mul];have:off*es'≤l.tot*es':=Nat.mul_le_mul_right _ (by omega);omega
        ·obtain⟨hA1,hA2⟩:=hA hcap0
         obtain⟨news,n1,n2,n3,n4⟩:=hrb.first (P:=P) cb
         obtain⟨cs,ce,g1,g2,g3⟩:=ZnC ok off hoff hrb.hes hrb.hat n2 n4 (by omega);have hq:l.o+off*es'+len*es'=l.o+xs'.length*es':=by rw[←hc1,Nat.add_mul];omega
         have hst:=run_storeCells_at P l.b (l.o+xs'.length*es') ce news 0 cs w g1 (by simpa using g2) n3;simp only[Nat.add_zero] at hst;rw[←his] at n1;have hrun:=Zcz P w t o.type e i hu hi l.b (l.o+off*es') len cap B ys.length cb news n1 hroom _ (by rw[his,hq];exact hst)
         refine⟨_,_,E.loc aC ⟨l.b,l.o+off*es',es',l.tot - off⟩,?_,hS.rename hg hl hn hlt rfl (fun b hb=>setRow_other w l.b b _ hb) g3,
          .rename (k':=.arr es' (xs'.drop off++ys)) hg hl hn rfl rfl rfl rfl (by simp[World.setRow]) (fun b hb=>setRow_other w l.b b _ hb),
          .own aC 0 _ (some ⟨l.b,l.o+off*es',none⟩) cap ⟨l.b,l.o+off*es',es',l.tot - off⟩ (by simp[Env.loc]) hroom (fun _=>⟨by simp,by show 0+cap≤l.tot - off;omega⟩),fun oh=>by simp[tV,hop] at oh,fun j hj ej=>by simp[Env.loc,bF,hj,ej]⟩
         rw[hA1,hes] at hev;simp[execOp,hop,resolve,invoke,builtin,hev,eb,hrun]
       ·
        have hra:uX E w es' (xs'.drop off) A:=by
         have hlx:(xs'.drop off).length=len:=by simp;omega
         by_cases hcap0:cap=0
         ·have:xs'.drop off=[]:=by rw[List.drop_eq_nil_iff];omega
          rw[this];exact .nil _ _ _ _
         ·obtain⟨hA1,hA2⟩:=hA hcap0
          have:=ok.reads off len (by omega);rw[List.take_of_length_le (by omega)] at this;rw[hA1,hes];exact this
        have hlx:(xs'.drop off).length=len:=by simp;omega
        obtain⟨olds,o1,o2,o3,o4⟩:=hra.drew.first (P:=P) cap
        obtain⟨news,n1,n2,n3,n4⟩:=hrb.drew.first (P:=P) cb
        rw[←his] at o1 n1;rw[hlx] at o1;have hrun:=Z9c P w t o.type e i z hu hi hz A len cap olds o1 B ys.length cb news n1 (by omega) (ZhG hc2) (ZeY hc2 (by omega));have hgc:=grownCap_ge w (len+ys.length) cap e;have hb:=Zf1 (E:=E) (w:=w.drew) e hra.hes hra.hat hrb.hes hrb.hat o2 n2 hzs o4 n4 (by rw[hlx];exact hgc);rw[hlx] at hb;have hdrop:bf E (S.set id none) w.drew:=hS.drew.drop _ (Zj2 S id) _ (Nat.le_refl _);have aaP:kH E S w.drew E (S.set id none) w.drew:=.drop _ (Zj2 S id) _
        refine⟨_,_,E.loc aC ⟨w.heap.size,0,es',grownCap w (len+ys.length) cap e⟩,?_,hdrop.alloc hn hlt _ _ rfl _ hb,((kH.drew E S w).trans aaP).trans (.alloc hn _ _ rfl _),
         .own aC 0 _ (some ⟨w.heap.size,0,none⟩) (grownCap w (len+ys.length) cap e) ⟨w.heap.size,0,es',grownCap w (len+ys.length) cap e⟩ (by simp[Env.loc]) hgc (fun _=>⟨by simp,by simp⟩),fun oh=>by simp[tV,hop] at oh,fun j hj ej=>by simp[Env.loc,bF,hj,ej]⟩
        simp[execOp,hop,resolve,invoke,builtin,hev,eb,hrun]
 ·simp at h
end
def iR(cs:List AV):List (Nat×Nat×AV)→Option (List AV)
 | []=>some cs
 | (off,sz,x)::r=>if x.solid=true∧x.cells.length=sz∧off+sz≤cs.length then iR (cs.take off++x.cells++cs.drop (off+sz)) r else none
def JE(E:Env)(ys:List AV)(cs:Array Value):Prop:=cs.size=ys.length∧(∀y∈ys,y.atom=true)∧∀k (h:k < ys.length),∃v,cs[k]? = some v∧aL E (ys[k]) v
theorem Zh7(cs:List AV)(o:Nat)(vs:List AV)(h:o+vs.length≤cs.length)(j:Nat) :
  (cs.take o++vs++cs.drop (o+vs.length))[j]? = if o≤j∧j < o+vs.length then vs[j - o]? else cs[j]?:=by
 have hl:(cs.take o).length=o:=by simp;omega
 rcases Nat.lt_or_ge j o with h1 | h1
 ·rw[List.append_assoc,List.getElem?_append_left (by omega),List.getElem?_take,if_pos h1,if_neg (by omega)]
 ·rw[List.append_assoc,List.getElem?_append_right (by omega),hl]
  rcases Nat.lt_or_ge j (o+vs.length) with h2 | h2
  ·rw[List.getElem?_append_left (by omega),if_pos ⟨h1,h2⟩]
  ·rw[List.getElem?_append_right (by omega),List.getElem?_drop,if_neg (by omega)]
   rw[show o+vs.length+(j - o - vs.length)=j by omega]
theorem LY{E:Env}(place:Nat→Option (Nat×Nat)):∀(ps:List (Nat×Value)) (qs:List (Nat×Nat×AV)) (cells:Array Value) (cs cs':List AV),JE E cs cells→
  ps.length=qs.length→(∀j (h:j < ps.length) (h':j < qs.length),place (ps[j]).1=some ((qs[j]).1,(qs[j]).2.1)∧aL E ((qs[j]).2.2) ((ps[j]).2))→iR cs qs=some cs'→
  ∃cells',Instr.fill place cells ps=some cells'∧JE E cs' cells'
 | [],[],cells,cs,cs',hr,_,_,h=>by simp[iR] at h;subst h;exact⟨cells,rfl,hr⟩
 | [],q::qs,_,_,_,_,hl,_,_=>by simp at hl
 | p::ps,[],_,_,_,_,hl,_,_=>by simp at hl
 | (i,v)::ps,(off,sz,x)::qs,cells,cs,cs',hr,hl,hp,h=>by
  simp only[iR] at h;split at h
  ·rename_i hc
   obtain⟨c1,c2,c3⟩:=hc;obtain⟨p1,p2⟩:=hp 0 (by simp) (by simp);simp only[List.getElem_cons_zero] at p1 p2;obtain⟨r1,r2⟩:=p2.cells c1;obtain⟨h1,h2,h3⟩:=hr;obtain⟨cells',e1,e2,e3⟩:=Zlm place cells i v ps off sz p1 (by omega) (by omega);rw[e1];refine LY place ps qs cells' _ cs' ⟨?_,?_,?_⟩ (by simpa using hl) (fun j hj hj'=>?_) h
   ·rw[e2,h1];simp only[List.length_append,List.length_take,List.length_drop];omega
   ·intro y hy
    rw[List.append_assoc] at hy;rcases List.mem_append.mp hy with g | g
    ·exact h2 y (List.mem_of_mem_take g)
    ·rcases List.mem_append.mp g with g | g
     ·exact p2.EJ c1 y g
     ·exact h2 y (List.mem_of_mem_drop g)
   ·intro k hk
    rw[e3 k];have hsp:=Zh7 cs off x.cells (by omega) k;rw[c2] at hsp;rw[List.getElem?_eq_getElem hk] at hsp;by_cases hin:off≤k∧k < off+sz
    ·rw[if_pos hin] at hsp ⊢
     have hkk:k - off < x.cells.length:=by omega
     rw[List.getElem?_eq_getElem hkk] at hsp;have hsp:=Option.some.inj hsp;refine⟨v.cells.getD (k - off) undef,?_,by rw[hsp];exact r2 _ hkk⟩;simp[Array.getD_eq_getD_getElem?];rw[Array.getElem?_eq_getElem (by omega)];rfl
    ·rw[if_neg hin] at hsp ⊢
     have hkl:k < cs.length:=by
      have:=hk;simp only[List.length_append,List.length_take,List.length_drop] at this;omega
     rw[List.getElem?_eq_getElem hkl] at hsp;rw[Option.some.inj hsp];exact h3 k hkl
   ·have:=hp (j+1) (by simpa using hj) (by simpa using hj')
    simpa using this
  ·cases h
def xA(P:Program)(t:TypeId):Option (AV×Nat):=
 match P.info? t with
 | some i=>match i.zero with
  | some z=>match Cx z with
   | some x=>if x.solid=true∧x.cells.length=i.size∧z.cells.size=i.size then some (x,i.size) else none
   | none=>none
  | none=>none
 | none=>none
theorem Ls{P:Program}{t:TypeId}{x:AV}{m:Nat}(h:xA P t=some (x,m)) :
  ∃i z,P.info? t=some i∧i.zero=some z∧Cx z=some x∧x.solid=true∧x.cells.length=m∧z.cells.size=m∧i.size=m:=by
 unfold xA at h;split at h
 ·rename_i i hi
  split at h
  ·rename_i z hz
   split at h
   ·rename_i y hy
    split at h
    ·rename_i hc
     simp only[Option.some.injEq,Prod.mk.injEq] at h;obtain⟨rfl,rfl⟩:=h;exact⟨i,z,hi,hz,hy,hc.1,hc.2.1,hc.2.2,rfl⟩
    ·cases h
   ·cases h
  ·cases h
 ·cases h
theorem Az{E:Env}{P:Program}{t:TypeId}{x:AV}{m:Nat}(h:xA P t=some (x,m)):∃i z,P.info? t=some i∧i.zero=some z∧i.size=m∧JE E x.cells z.cells∧aL E x z:=by
 obtain⟨i,z,h1,h2,h3,h4,h5,h6,h7⟩:=Ls h;have r:=(WT (E:=E) h3).1;obtain⟨r1,r2⟩:=r.cells h4;exact⟨i,z,h1,h2,h7,⟨r1,r.EJ h4,fun k hk=>⟨_,by simp[Array.getD_eq_getD_getElem?];rw[Array.getElem?_eq_getElem (by omega)];rfl,r2 k hk⟩⟩,r⟩
def bA(z:AV)(es:Nat):Eff:=.new (some (.arr es [z],fun i=>.ptr i 0 0))
def jc(z:AV)(ps:List (Nat×Nat×AV)):Option AV:=(iR z.cells ps).map .agg
def dz(es:Nat)(xs:List AV):List (Nat×AV)→Option (List AV)
 | []=>some xs
 | (i,x)::r=>if x.solid=true∧x.cells.length=es∧i < xs.length then dz es (xs.set i x) r else none
section
variable{P:Program}{n:Nat}{o:Oper}{a:AF}{S:St}{aC:Nat}{v:AV}
theorem ZoO{t:TypeId}{z:AV}{m:Nat}{S':St}(hd:∀d,o.dst=some d→d < n)(hop:o.op=.alloc t)(hz:xA P t=some (z,m))(h:(bA z m).run S aC=some (v,S')):iO P n o a S aC v S':=by
 simp only[bA,Eff.K5,Option.map_some,Option.some.injEq,Prod.mk.injEq] at h;obtain⟨rfl,rfl⟩:=h;obtain⟨i,zv,h1,h2,h3,h4,h5,h6,h7⟩:=Ls hz;refine iO.alloc (f:=fun i=>.ptr i 0 0) hd (by rw[hop];rfl) (by simpa using h5) fun E w act hS hF=>?_
 obtain⟨_,_,g1,g2,g3,g4,g5⟩:=Az (E:=E) hz;rw[h1] at g1;cases g1;rw[h2] at g2;cases g2;refine⟨_,zv.cells,t,1,w,rfl,hS,.refl _ _ _,by simp[execOp,hop,Instr.alloc,zeroValue,typeInfo,h1,h2,newVar,newRow];rfl,?_,by simp,by omega,?_,?_⟩
 ·rw[PY];exact g4.2.1
 ·intro k hk;simp only[PY] at hk ⊢;exact g4.2.2 k hk
 ·intro E' he
  have:=aL.ptr (E:=E') aC 0 0 _ he;simpa using this
theorem WV{E:Env}{act:Act}(hF:fu E n a act){l:List (Nat×Operand)}{qs:List (Nat×aJ)}(h:l.mapM (fun p=>(aV p.2).map fun x=>(p.1,x))=some qs) :
  l.length=qs.length∧∀j (h1:j < l.length) (h2:j < qs.length),(l[j]).1=(qs[j]).1∧aL E ((qs[j]).2.ev a) (act.eval (l[j]).2):=by
 induction l generalizing qs with
 | nil=>simp at h;subst h;simp
 | cons p l ih=>
  simp only[List.mapM_cons,Option.bind_eq_bind,Option.bind_eq_some_iff,Option.pure_def,Option.some.injEq,Option.map_eq_some_iff] at h;obtain⟨q,⟨x,hx,rfl⟩,qs',hq,rfl⟩:=h;obtain⟨h1,h2⟩:=ih hq;refine⟨by simp[h1],fun j hj hj'=>?_⟩;cases j with
  | zero=>exact⟨rfl,bT hF hx⟩
  | succ j=>simpa using h2 j (by simpa using hj) (by simpa using hj')
def DF(P:Program)(t:TypeId)(i:Nat):Option (Nat×Nat):=
 match P.underlying t with
 | some (.struct fs)=>match fs[i]? with
  | some f=>(P.info? f.type).map fun j=>(f.offset,j.size)
  | none=>none
 | some (.array _ e)=>(P.info? e).map fun j=>(i*j.size,j.size)
 | _=>none
theorem Zcg{P:Program}:∀(fs:List Field) (w:World),(∀f∈fs,(P.info? f.type).isSome=true)→
  (fs.mapM fun f=>do pure (f.offset,←sizeOf f.type):Sem (List (Nat×Nat))).run P w=.ok (fs.map fun f=>(f.offset,((P.info? f.type).map (·.size)).getD 0)) w
 | [],w,_=>rfl
 | f::fs,w,h=>by
  have h1:=h f (by simp);obtain⟨i,hi⟩:=Option.isSome_iff_exists.mp h1;have ih:=Zcg fs w (fun g hg=>h g (by simp[hg]));simp only[List.mapM_cons,Sem.run_bind,uz hi,Result.andThen_ok,List.map_cons,hi,Option.map_some,Option.getD_some];rw[show(Sem.run P (pure (f.offset,i.size)) w:Result (Nat×Nat))=.ok (f.offset,i.size) w from rfl];simp only[Result.andThen_ok,ih];rfl
def Po(P:Program)(t:TypeId):Bool:=
 match P.underlying t with
 | some (.struct fs)=>fs.all fun f=>(P.info? f.type).isSome
 | some (.array _ e)=>(P.info? e).isSome
 | _=>false
theorem ZmF{E:Env}{w:World}{t:TypeId}{z:AV}{m:Nat}(hz:xA P t=some (z,m))(hk:Po P t=true){ps:Array (Nat×Value)}{qs:List (Nat×Nat×AV)}{r:AV}
  (hl:ps.toList.length=qs.length) (hp:∀j (h:j < ps.toList.length) (h':j < qs.length),DF P t (ps.toList[j]).1=some ((qs[j]).1,(qs[j]).2.1)∧aL E ((qs[j]).2.2) ((ps.toList[j]).2))
  (h:jc z qs=some r):∃val,(Instr.build t ps).run P w=.ok val w∧aL E r val:=by
 obtain⟨i,zv,h1,h2,h3,h4,h5⟩:=Az (E:=E) hz;simp only[jc,Option.map_eq_some_iff] at h;obtain⟨cs',hf,rfl⟩:=h;unfold Po at hk;split at hk
 ·rename_i fs hu
  have hall:∀f∈fs.toList,(P.info? f.type).isSome=true:=by
   intro f hf;exact(Array.all_eq_true'.mp hk) f (by simpa using hf)
  have hm:=Zcg fs.toList w hall
  let pl:=fs.map fun f=>(f.offset,((P.info? f.type).map (·.size)).getD 0)
  have hpl:∀j,DF P t j=(pl[j]?):=by
   intro j;simp only[DF,hu,pl,Array.getElem?_map];cases hj:fs[j]? with
   | none=>rfl
   | some f=>
    obtain⟨q,hq⟩:=Option.isSome_iff_exists.mp (hall f (by simpa using Array.mem_of_getElem? hj));simp[hq]
  obtain⟨cells',e1,e2⟩:=LY (fun j=>pl[j]?) ps.toList qs zv.cells z.cells cs' h4 hl (fun j hj hj'=>by rw[←hpl];exact hp j hj hj') hf;refine⟨.agg cells',?_,.agg cs' cells' e2.1 e2.2.1 (fun j hj=>?_)⟩
  ·have hma:(fs.mapM fun f=>do pure (f.offset,←sizeOf f.type):Sem (Array (Nat×Nat))).run P w=.ok pl w:=by
    rw[Array.mapM_eq_mapM_toList,map_eq_pure_bind];simp only[Sem.run_bind,hm,Result.andThen_ok];show Result.ok _ w=_
    congr 1;apply Array.ext';simp[pl]
   simp only[bind_pure_comp] at hma;simp[Instr.build,zeroValue,typeInfo,run_underlying hu,h1,h2,hma,e1]
  ·obtain⟨u,a1,a2⟩:=e2.2.2 j hj
   simp[Array.getD_eq_getD_getElem?,a1];exact a2
 ·rename_i mm e hu
  obtain⟨ie,hie⟩:=Option.isSome_iff_exists.mp hk;have hpl:∀j,DF P t j=some (j*ie.size,ie.size):=by intro j;simp[DF,hu,hie]
  obtain⟨cells',e1,e2⟩:=LY (fun j=>some (j*ie.size,ie.size)) ps.toList qs zv.cells z.cells cs' h4 hl (fun j hj hj'=>by rw[←hpl];exact hp j hj hj') hf;refine⟨.agg cells',?_,.agg cs' cells' e2.1 e2.2.1 (fun j hj=>?_)⟩
  ·simp[Instr.build,zeroValue,typeInfo,run_underlying hu,h1,h2,uz hie,e1]
  ·obtain⟨u,a1,a2⟩:=e2.2.2 j hj
   simp[Array.getD_eq_getD_getElem?,a1];exact a2
 ·cases hk
end
theorem ZcK{xs:List AV}{es:Nat}(h:∀x∈xs,x.cells.length=es){i:Nat}(hi:i < xs.length)(x:AV) :
  flat (xs.set i x)=(flat xs).take (i*es)++x.cells++(flat xs).drop (i*es+es):=by
 rw[List.set_eq_take_append_cons_drop,if_pos hi];have:i*es+es=(i+1)*es:=by rw[Nat.add_mul,Nat.one_mul]
 rw[this,←zx h,←zw h,vL];simp[flat]
theorem VA{es:Nat}:∀(ps:List (Nat×AV)) (xs xs':List AV),(∀x∈xs,x.cells.length=es)→dz es xs ps=some xs'→
  iR (flat xs) (ps.map fun p=>(p.1*es,es,p.2))=some (flat xs')∧(∀x∈xs',x.cells.length=es)∧xs'.length=xs.length
 | [],xs,xs',hx,h=>by simp[dz] at h;subst h;exact⟨by simp[iR],hx,rfl⟩
 | (i,x)::ps,xs,xs',hx,h=>by
  simp only[dz] at h;split at h
  ·rename_i hc
   obtain⟨c1,c2,c3⟩:=hc;have hx':∀y∈xs.set i x,y.cells.length=es:=Vo hx c2;obtain⟨a,b,c⟩:=VA ps _ xs' hx' h;refine⟨?_,b,by simpa using c⟩;simp only[List.map_cons,iR];have hl:=r9 hx;have h9:(i+1)*es≤xs.length*es:=Nat.mul_le_mul_right _ (by omega);rw[Nat.add_mul,Nat.one_mul] at h9;rw[if_pos ⟨c1,c2,by omega⟩,←ZcK hx c3];exact a
  ·cases h
theorem LB{E:Env}{z:AV}{zc:Array Value}{es:Nat}(hz:JE E z.cells zc)(he:z.cells.length=es)(m:Nat)(c:Nat)(hmc:m≤c) :
  ∀k (h:k < (flat (List.replicate m z)).length),∃v,((Array.range (c*es)).map (zc[· % zc.size]!))[k]? = some v∧aL E ((flat (List.replicate m z))[k]) v:=by
 intro k hk;have hx:∀x∈List.replicate m z,x.cells.length=es:=by intro x hx;rw[(List.mem_replicate.mp hx).2];exact he
 obtain⟨hi,hj,e⟩:=LH hx k hk;have hl:=r9 hx;simp only[List.length_replicate] at hl hi
 have hkc:k < c*es:=by
  have:m*es≤c*es:=Nat.mul_le_mul_right _ hmc;omega
 have hes:0 < es:=by
  rcases Nat.eq_zero_or_pos es with e | e
  ·subst e;omega
  ·exact e
 have hsz:zc.size=es:=by rw[hz.1,he]
 have hmod:k % es < z.cells.length:=by rw[he];exact Nat.mod_lt _ hes
 obtain⟨v,a,b⟩:=hz.2.2 (k % es) hmod;refine⟨v,?_,?_⟩
 ·rw[Array.getElem?_map,Array.getElem?_range,if_pos hkc]
  simp only[Option.map_some,hsz];have h8:k % es < zc.size:=by rw[hsz];exact Nat.mod_lt _ hes
  rw[getElem!_pos zc _ h8,←a,Array.getElem?_eq_getElem h8]
 ·rw[e]
  simpa using b
def DW(es aB:Nat)(z l c:AV):Eff:=
 match l,c with
 | .v (.int _ m),.v (.int _ k)=>.new (if 0≤m∧m≤k∧aB*k≤281474976710656∧k≤9223372036854775807∧z.cells.length=es then some (.arr es (List.replicate m.toNat z),fun i=>.own i 0 m.toNat) else none)
 | _,_=>.val none
def dw(es m:Nat)(z:AV)(ps:List (Nat×AV)):Option AV:=
 if m*es≤16777216 then (dz es (List.replicate m z) ps).map (.sl true) else none
def wY(P:Program)(t:TypeId):Option (AV×Nat×Nat):=
 match P.underlying t with
 | some (.slice e)=>match xA P e with
  | some (z,m)=>(P.info? e).map fun i=>(z,m,i.bytes)
  | none=>none
 | _=>none
theorem Ih{P:Program}{t:TypeId}{z:AV}{m b:Nat}(h:wY P t=some (z,m,b)):∃e i,P.underlying t=some (.slice e)∧xA P e=some (z,m)∧P.info? e=some i∧i.bytes=b:=by
 unfold wY at h;split at h
 ·rename_i e hu
  split at h
  ·rename_i z' m' hz
   simp only[Option.map_eq_some_iff,Prod.mk.injEq] at h;obtain⟨i,hi,rfl,rfl,rfl⟩:=h;exact⟨e,i,hu,hz,hi,rfl⟩
  ·cases h
 ·cases h
section
variable{P:Program}{n:Nat}{o:Oper}{a:AF}{S:St}{aC:Nat}{v:AV}
theorem ZtB{t:TypeId}{l c:Operand}{L C:aJ}{z:AV}{es aB:Nat}{S':St}(hd:∀d,o.dst=some d→d < n)(hop:o.op=.makeSlice t l c)(hl:aV l=some L)(hc:aV c=some C)
  (ht:wY P t=some (z,es,aB)) (h:(DW es aB z (L.ev a) (C.ev a)).run S aC=some (v,S')):iO P n o a S aC v S':=by
 generalize hle:L.ev a=al at h;generalize hce:C.ev a=ac at h;unfold DW at h;split at h
 ·rename_i k1 m k2 k
  simp only[Eff.K5,Option.map_eq_some_iff,Prod.mk.injEq] at h;obtain⟨p,h1,rfl,rfl⟩:=h;split at h1
  ·rename_i hcond
   obtain⟨c1,c2,c3,c4,c5⟩:=hcond;cases h1;obtain⟨e,i,hu,hz,hi,hb⟩:=Ih ht;have yg:∀x∈List.replicate m.toNat z,x.cells.length=es:=by intro x hx;rw[(List.mem_replicate.mp hx).2];exact c5
   refine iO.alloc (f:=fun i=>.own i 0 m.toNat) hd (by rw[hop];rfl) yg fun E w act hS hF=>?_
   have rl:=bT hF hl;have rc:=bT hF hc;rw[hle] at rl;rw[hce] at rc;have el:=rl.jl;have ec:=rc.jl;obtain⟨i',zv,g1,g2,g3,g4,g5⟩:=Az (E:=E) hz;rw[hi] at g1;cases g1;have hrun:=run_make (P:=P) w t e i zv hu hi g2 k1 k2 m k c1 c2 (by rw[hb];exact c3) c4;refine⟨.slice (some ⟨w.heap.size,0,none⟩) m.toNat k.toNat,madeCells zv.cells (k.toNat*i.size),e,k.toNat,w,rfl,hS,.refl _ _ _,by simp[execOp,hop,el,ec,hrun],?_,by simp;omega,by simp[madeCells,g3],?_,?_⟩
   ·intro y hy
    obtain⟨x,hx,hyx⟩:=List.mem_flatMap.mp hy;rw[(List.mem_replicate.mp hx).2] at hyx;exact g4.2.1 y hyx
   ·intro j hj
    have:=LB g4 c5 m.toNat k.toNat (by omega) j hj;rw[madeCells,g3];exact this
   ·intro E' he
    exact .own aC 0 _ (some ⟨w.heap.size,0,none⟩) k.toNat _ he (by omega) (fun _=>⟨by simp,by simp⟩)
  ·cases h1
 ·simp at h
theorem Zmi{t:TypeId}{m:Nat}{ps:Array (Nat×Operand)}{qs:List (Nat×aJ)}{z:AV}{es aB:Nat}(hd:∀d,o.dst=some d→d < n)(hop:o.op=.buildSlice t m ps)
  (hq:ps.toList.mapM (fun p=>(aV p.2).map fun x=>(p.1,x))=some qs) (ht:wY P t=some (z,es,aB)) (h:dw es m z (qs.map fun q=>(q.1,q.2.ev a))=some v):iO P n o a S aC v S:=by
 simp only[dw] at h;split at h
 ·rename_i hm
  simp only[Option.map_eq_some_iff] at h;obtain⟨xs,hf,rfl⟩:=h;obtain⟨e,i,hu,hz,hi,hb⟩:=Ih ht;refine .of_run hd fun E w act hS hF hn hlt=>?_
  obtain⟨i',zv,g1,g2,g3,g4,g5⟩:=Az (E:=E) hz;obtain⟨_,_,q1,q2,q3,q4,q5,q6,q7⟩:=Ls hz;rw[hi] at g1;cases g1;obtain⟨p1,p2⟩:=WV hF hq;have yg:∀x∈List.replicate m z,x.cells.length=es:=by intro x hx;rw[(List.mem_replicate.mp hx).2];exact q5
  obtain⟨f1,f2,f3⟩:=VA _ _ _ yg hf;have hl0:=r9 yg;simp only[List.length_replicate] at hl0
  have hstart:JE E (flat (List.replicate m z)) ((Array.range (m*es)).map (zv.cells[· % zv.cells.size]!)):=by
   refine⟨by simp[hl0],?_,LB g4 q5 m m (Nat.le_refl _)⟩;intro y hy;obtain⟨x,hx,hyx⟩:=List.mem_flatMap.mp hy;rw[(List.mem_replicate.mp hx).2] at hyx;exact g4.2.1 y hyx
  let ps':=ps.map fun p=>(p.1,act.eval p.2)
  obtain⟨cells',e1,e2⟩:=LY (fun j=>some (j*es,es)) ps'.toList ((qs.map fun q=>(q.1,q.2.ev a)).map fun p=>(p.1*es,es,p.2)) _ _ _ hstart (by simp[ps'];simpa using p1)
   (fun j hj hj'=>by
    simp only[ps',Array.toList_map,List.length_map] at hj hj';obtain⟨a1,a2⟩:=p2 j hj (by omega);simp only[ps',Array.toList_map,List.getElem_map];exact⟨by rw[a1],a2⟩) f1
  have hnone:E.H w.heap.size=none:=hS.P5p (Nat.le_refl _)
  have hrun:(execOp act.eval o).run P w=.ok (.value (.slice (some ⟨w.heap.size,0,none⟩) m m)) (w.alloc (.cells cells' e)):=by
   simp only[execOp,hop];by_cases h0:m*i.size=0
   ·have h00:m*es=0:=by rw[←g3];exact h0
    have YQ:Instr.fill (fun j=>some (j*i.size,i.size)) #[] ps'.toList=some cells':=by
     rw[g3,←e1];congr 1;rw[h00];simp[Array.range_zero']
    simp[Instr.buildSlice,run_underlying hu,uz hi,h0,newRow,Array.range_zero'];have Gx:Instr.fill (fun j=>some (j*i.size,i.size)) #[] (List.map (fun x=>(x.1,act.eval x.2)) ps.toList)=some cells':=by simpa[ps'] using YQ
    rw[Gx];simp
   ·have hle:¬(m*i.size > 16777216):=by rw[g3];omega
    have Gx:Instr.fill (fun j=>some (j*i.size,i.size)) ((Array.range (m*i.size)).map (zv.cells[· % zv.cells.size]!)) (List.map (fun x=>(x.1,act.eval x.2)) ps.toList)=some cells':=by
     rw[g3];simpa[ps'] using e1
    simp[Instr.buildSlice,run_underlying hu,uz hi,h0,newRow,zeroValue,typeInfo,hi,g2];rw[if_neg (by omega)];simp[Gx]
  have hS1:bf (E.sN w.heap.size cells') S (w.alloc (.cells cells' e)):=by
   have hj:=hS.junk (.cells cells' e);have hle:=Env.KW (cs:=cells') hnone;refine⟨fun b cs hb=>?_,fun id k hk=>?_,hj.nL,hj.fresh⟩
   ·simp only[Env.sN,bF] at hb
    split at hb
    ·cases hb;subst_vars;exact⟨e,(0,0),Li w _⟩
    ·exact hj.hH b cs hb
   ·obtain⟨l,a1,a2,a3⟩:=hj.live id k hk
    obtain⟨l2,b1,b2,b3⟩:=hS.live id k hk;rw[a1] at b1;cases b1;refine⟨l,a1,?_,a3.mono hle rfl⟩;simp only[Env.sN,bF];rw[if_neg (by have:=b3.lt;omega)];exact a2
  refine⟨_,_,E.sN w.heap.size cells',hrun,hS1,?_,?_,fun oh=>by simp[tV,hop] at oh,fun _ _ e=>e⟩
  ·have:=kH.junk E S w (.cells cells' e)
   exact⟨this.os,this.tape,this.output,this.size,this.keep,fun id l k hk hl=>this.grow id l k hk hl,Env.KW hnone,fun b cs e=>by
    simp only[Env.sN,bF] at e;split at e
    ·subst_vars;exact .inr (.inl (Nat.le_refl _))
    ·exact .inl e⟩
  ·have hxl:xs.length=m:=by rw[f3];simp
   by_cases hx0:xs=[]
   ·subst hx0
    simp at hxl;subst hxl;exact .sl0 true _ 0 (fun _=>rfl)
   ·have hlen:0 < xs.length:=List.length_pos_iff.mpr hx0
    have e3:=e2.2.2;rw[←hxl];refine .sl true xs w.heap.size 0 _ cells' es (fun k=>cells'.getD k undef) hlen (by simp[Env.sN]) f2 (Nat.le_refl _) (fun _=>rfl) e2.2.1 (fun k hk=>?_) (fun k hk=>?_)
    ·obtain⟨u,a1,_⟩:=e3 k hk
     simp[Array.getD_eq_getD_getElem?,a1]
    ·obtain⟨u,a1,a2⟩:=e3 k hk
     simp[Array.getD_eq_getD_getElem?,a1];exact a2.mono (Env.KW hnone)
 ·cases h
end
def bnd(d:Nat):Option AV→Option Nat
 | none=>some d
 | some (.v (.int _ m))=>if 0≤m then some m.toNat else none
 | _=>none
def xD(es:Nat)(x:AV)(lo hi:Option AV):Eff:=
 match x with
 | .sl t xs=>.val ((bnd 0 lo).bind fun l=>(bnd xs.length hi).bind fun h=>
   if l≤h∧h≤xs.length∧∀y∈xs,y.cells.length=es then some (.sl (t && (hi.isNone || h == xs.length)) ((xs.take h).drop l)) else none)
 | .own id off len=>.rd id fun
  | .arr es' xs=>(bnd 0 lo).bind fun l=>(bnd len hi).bind fun h=>if es'=es∧l≤h∧h≤len then some (.own id (off+l) (h - l)) else none
  | _=>none
 | _=>.val none
def XG(x:AV)(lo hi:Option AV):Option AV:=
 match x with
 | .v (.string s)=>(bnd 0 lo).bind fun l=>(bnd s.size hi).bind fun h=>if l≤h∧h≤s.size then some (.v (.string (s.extract l h))) else none
 | _=>none
def wN:Option Operand→Option (Option aJ)
 | none=>some none
 | some x=>(aV x).map some
section
variable{P:Program}{n:Nat}{o:Oper}{a:AF}{S:St}{aC:Nat}{v:AV}
theorem Qi{E:Env}{act:Act}(hF:fu E n a act){x:Option Operand}{X:Option aJ}(hx:wN x=some X){d m y:Nat}(h:bnd d (X.map (·.ev a))=some m)(hy:m≤y)(code:BoundsCode)(w:World) :
  (match x.map act.eval with | some v=>Instr.sliceBound v y code | none=>pure d:Sem Nat).run P w=.ok m w:=by
 cases x with
 | none=>
  simp only[wN,Option.some.injEq] at hx;subst hx;simp[bnd] at h;subst h;rfl
 | some x=>
  simp only[wN,Option.map_eq_some_iff] at hx;obtain⟨X',hX,rfl⟩:=hx;have r:=bT hF hX;simp only[Option.map_some] at h;generalize X'.ev a=p at r h;unfold bnd at h;split at h
  ·simp at *
  ·rename_i k q hq
   cases hq;have e:=r.jl;split at h
   ·rename_i h0
    cases h;have:q≤(y:Int):=by omega
    simp[Instr.sliceBound,e,asIntOf,h0,this]
   ·cases h
  ·cases h
theorem ZtE{t:TypeId}{x:Operand}{lo hi:Option Operand}{X:aJ}{LO HI:Option aJ}{es:Nat}{S':St}(hd:∀d,o.dst=some d→d < n)(hop:o.op=.slice t x lo hi none)(hx:aV x=some X)
  (hlo:wN lo=some LO) (hhi:wN hi=some HI) (ht:Dw P t=some es) (h:(xD es (X.ev a) (LO.map (·.ev a)) (HI.map (·.ev a))).run S aC=some (v,S')):S'=S∧iO P n o a S aC v S:=by
 unfold Dw at ht;split at ht
 ·rename_i e hu
  simp only[Option.map_eq_some_iff] at ht;obtain⟨ie,hie,rfl⟩:=ht
  have run:∀{E:Env} {w:World} {act:Act} (hF:fu E n a act) (A:Option Addr) (len cap l hh:Nat),act.eval x=.slice A len cap→bnd 0 (LO.map (·.ev a))=some l→bnd len (HI.map (·.ev a))=some hh→l≤hh→hh≤cap→
    (execOp act.eval o).run P w=.ok (.value (.slice (if cap=l then A else A.map (·.add (l*ie.size))) (hh - l) (cap - l))) w:=by
   intro E w act hF A len cap l hh ev hl xL h1 h2;have b1:=Qi (P:=P) hF hhi xL h2 .sliceAcap w;have b2:=Qi (P:=P) hF hlo hl h1 .sliceB w
   have b3:(Instr.sliceBounds true len cap (lo.map act.eval) (hi.map act.eval) none).run P w=.ok (l,hh,cap) w:=by
    cases hi with
    | none=>
     have:hh=len:=by simp only[wN,Option.some.injEq] at hhi;subst hhi;simp[bnd] at xL;exact xL.symm
     subst this;cases lo with
     | none=>
      have:l=0:=by simp only[wN,Option.some.injEq] at hlo;subst hlo;simp[bnd] at hl;exact hl.symm
      subst this;simp[Instr.sliceBounds]
     | some y=>
      simp only[Option.map_some] at b2;simp[Instr.sliceBounds,b2]
    | some z=>
     simp only[Option.map_some] at b1;cases lo with
     | none=>
      have:l=0:=by simp only[wN,Option.some.injEq] at hlo;subst hlo;simp[bnd] at hl;exact hl.symm
      subst this;simp[Instr.sliceBounds,b1]
     | some y=>
      simp only[Option.map_some] at b2;simp[Instr.sliceBounds,b1,b2]
   simp only[execOp,hop,ev,Option.map_none]
   have:(Instr.sliceAt t (.slice A len cap) (lo.map act.eval) (hi.map act.eval) none)=(do
    match ←underlying t with
    | .array n elem=>
     let a ←Instr.sureAddr (.slice A len cap)
     let (l,h,m) ←Instr.sliceBounds false n n (lo.map act.eval) (hi.map act.eval) none
     let size ←sizeOf elem
     pure (.slice (some (if m=l then a else a.add (l*size))) (h - l) (m - l))
    | _=>Instr.slice t (.slice A len cap) (lo.map act.eval) (hi.map act.eval) none):=rfl
   rw[this];simp[run_underlying hu,Instr.slice,b3,uz hie]
  unfold xD at h;split at h
  ·rename_i t' xs hxe
   simp only[Eff.rR,Option.map_eq_some_iff,Prod.mk.injEq,Option.bind_eq_some_iff] at h;obtain⟨v',⟨l,hl,hh,xL,h1⟩,rfl,rfl⟩:=h;split at h1
   ·rename_i hc
    obtain⟨c1,c2,c3⟩:=hc;cases h1;refine⟨rfl,.pure hd fun E w act hS hF=>?_⟩;have rx:=bT hF hx;rw[hxe] at rx;generalize hev:act.eval x=av at rx;cases rx with
    | sl0 _ A cap ht=>
     simp only[List.length_nil,Nat.le_zero] at c2;subst c2;have:l=0:=by omega
     subst this;refine⟨_,run hF A 0 cap 0 0 hev hl xL (by omega) (by omega),?_⟩;simp only[List.take_nil,List.drop_nil,Nat.sub_zero];refine .sl0 _ _ cap (fun e=>ht ?_);simp at e;first | exact e.1 | exact e
    | sl _ _ b p cap cs es' f hne hb hes hcap Te hat hcc hr=>
     have hes':es'=ie.size:=by
      have:=List.getElem_mem hne;rw[←hes _ this];exact c3 _ this
     subst hes';refine⟨_,run hF _ xs.length cap l hh hev hl xL c1 (by omega),?_⟩;have hlen:((xs.take hh).drop l).length=hh - l:=by simp;omega
     have aam:(t' && ((HI.map (·.ev a)).isNone || hh == xs.length))=true→cap - l=hh - l:=by
      intro e;simp only[Bool.and_eq_true,Bool.or_eq_true,beq_iff_eq] at e;rcases e.2 with h2 | h2
      ·have h2:HI.map (·.ev a)=none:=by simpa using h2
       rw[h2] at xL;simp[bnd] at xL;rw[Te e.1];omega
      ·rw[Te e.1,h2]
     by_cases hz:hh - l=0
     ·have:(xs.take hh).drop l=[]:=List.eq_nil_of_length_eq_zero (by rw[hlen];exact hz)
      rw[this,hz];exact .sl0 _ _ _ (fun e=>by rw[aam e,hz])
     ·rw[if_neg (by omega)]
      simp only[Option.map_some,zA];have htk:∀x∈xs.take hh,x.cells.length=ie.size:=fun x hx=>hes x (List.mem_of_mem_take hx)
      have hf:flat ((xs.take hh).drop l)=((flat xs).take (hh*ie.size)).drop (l*ie.size):=by rw[zw htk,zx hes]
      rw[←hlen];refine .sl _ _ b (p+l*ie.size) _ cs ie.size (fun k=>f (l*ie.size+k)) (by omega) hb (fun y hy=>htk y (List.mem_of_mem_drop hy)) (by omega) (fun e=>by rw[aam e,hlen]) ?_ ?_ ?_
      ·intro y hy;rw[hf] at hy;exact hat y (List.mem_of_mem_take (List.mem_of_mem_drop hy))
      ·intro k hk
       rw[hf] at hk;simp only[List.length_drop,List.length_take] at hk;rw[Nat.add_assoc];exact hcc _ (by omega)
      ·intro k hk
       have hk2:=hk;rw[hf] at hk2;simp only[List.length_drop,List.length_take] at hk2
       have:(flat ((xs.take hh).drop l))[k]=(flat xs)[l*ie.size+k]'(by omega):=by
        simp only[hf,List.getElem_drop,List.getElem_take]
       rw[this];exact hr _ (by omega)
   ·cases h1
  ·rename_i id off len hxe
   simp only[Eff.Ar,Option.map_eq_some_iff,Prod.mk.injEq] at h;obtain⟨v',h1,rfl,rfl⟩:=h;cases hg:S.g id with
   | none=>rw[hg] at h1;simp at h1
   | some bk=>
    rw[hg] at h1;cases bk with
    | map e=>simp at h1
    | arr es' xs=>
     simp only[Option.bind_some,Option.bind_eq_some_iff] at h1;obtain⟨l,hl,hh,xL,h2⟩:=h1;split at h2
     ·rename_i hc
      obtain⟨c1,c2,c3⟩:=hc;cases h2;refine⟨rfl,.pure hd fun E w act hS hF=>?_⟩;have rx:=bT hF hx;rw[hxe] at rx;generalize hev:act.eval x=av at rx;cases rx with
      | own _ _ _ A cap q hq hlen hA=>
       obtain⟨q',e',hN,ok⟩:=hS.live id _ hg;rw[hq] at e';cases e';have hes:q.es=es':=ok.1;refine⟨_,run hF A len cap l hh hev hl xL c2 (by omega),?_⟩;refine .own id _ _ _ _ q hq (by omega) (fun hne=>?_);have hcap0:cap≠0:=by omega
       obtain⟨hA1,hA2⟩:=hA hcap0;rw[if_neg (by omega),hA1];refine⟨?_,by omega⟩;simp only[Option.map_some,zA];rw[hes,c1,Nat.add_mul,Nat.add_assoc]
     ·cases h2
  ·simp at h
 ·cases ht
theorem ZrC{t:TypeId}{x:Operand}{lo hi:Option Operand}{X:aJ}{LO HI:Option aJ}(hd:∀d,o.dst=some d→d < n)(hop:o.op=.slice t x lo hi none)(hx:aV x=some X)
  (hlo:wN lo=some LO) (hhi:wN hi=some HI) (hu:P.underlying t=some .string) (h:XG (X.ev a) (LO.map (·.ev a)) (HI.map (·.ev a))=some v):iO P n o a S aC v S:=by
 refine .pure hd fun E w act hS hF=>?_
 have rx:=bT hF hx;unfold XG at h;split at h
 ·rename_i s hs
  rw[hs] at rx;have ev:=rx.jl;simp only[Option.bind_eq_some_iff] at h;obtain⟨l,hl,hh,xL,h1⟩:=h;split at h1
  ·rename_i hc
   cases h1;have b1:=Qi (P:=P) hF hhi xL hc.2 .sliceAlen w;have b2:=Qi (P:=P) hF hlo hl hc.1 .sliceB w
   have b3:(Instr.sliceBounds false s.size s.size (lo.map act.eval) (hi.map act.eval) none).run P w=.ok (l,hh,s.size) w:=by
    cases hi with
    | none=>
     have:hh=s.size:=by simp only[wN,Option.some.injEq] at hhi;subst hhi;simp[bnd] at xL;exact xL.symm
     subst this;cases lo with
     | none=>
      have:l=0:=by simp only[wN,Option.some.injEq] at hlo;subst hlo;simp[bnd] at hl;exact hl.symm
      subst this;simp[Instr.sliceBounds]
     | some y=>
      simp only[Option.map_some] at b2;simp[Instr.sliceBounds,b2]
    | some z=>
     simp only[Option.map_some] at b1;cases lo with
     | none=>
      have:l=0:=by simp only[wN,Option.some.injEq] at hlo;subst hlo;simp[bnd] at hl;exact hl.symm
      subst this;simp[Instr.sliceBounds,b1]
     | some y=>
      simp only[Option.map_some] at b2;simp[Instr.sliceBounds,b1,b2]
   refine⟨.string (s.extract l hh),?_,.v _ rfl⟩;simp only[execOp,hop,ev,Option.map_none];simp[Instr.sliceAt,run_underlying hu,Instr.slice,b3]
  ·cases h1
 ·cases h
theorem ZiN{E:Env}{w:World}{t:TypeId}{k:Option Nat}(hk:xq P t=some k){cs:List AV}{vs:Array Value}(hn:vs.size=cs.length)(hat:∀y∈cs,y.atom=true)
  (hr:∀j (h:j < cs.length),aL E (cs[j]) (vs.getD j undef)) {c:Nat} (h:bq k (.agg cs) c=some v):∃val,(part t vs c).run P w=.ok val w∧aL E v val:=by
 obtain⟨d,i,hu,hi,hor⟩:=VE hk
 have hget:∀j (hj:j < cs.length),vs[j]? = some (vs.getD j undef):=by
  intro j hj;simp[Array.getD_eq_getD_getElem?];rw[Array.getElem?_eq_getElem (by omega)];rfl
 rcases hor with⟨hag,rfl⟩ | ⟨hag,rfl,hs⟩
 ·unfold bq at h
  simp only at h;split at h
  ·rename_i hle0
   have hle:c+i.size≤cs.length:=hle0;cases h;refine⟨.agg (vs.extract c (c+i.size)),by simp[part,PS hu,hag,uz hi],.agg _ _ (by simp[AV.cells];omega) (fun y hy=>hat y (List.mem_of_mem_drop (List.mem_of_mem_take hy))) (fun j hj=>?_)⟩;simp only[AV.cells,List.length_take,List.length_drop] at hj
   have e:(vs.extract c (c+i.size)).getD j undef=vs.getD (c+j) undef:=by
    simp only[Array.getD_eq_getD_getElem?,Array.getElem?_extract];rw[if_pos (by omega)]
   rw[e];simpa[AV.cells,List.getElem_take,List.getElem_drop] using hr (c+j) (by omega)
  ·cases h
 ·unfold bq at h
  simp only at h;obtain⟨hlt,e⟩:=List.getElem?_eq_some_iff.mp h;obtain⟨u,hu1,hu2⟩:∃u,vs[c]? = some u∧u=vs.getD c undef:=⟨_,hget c hlt,rfl⟩;refine⟨u,by simp[part,PS hu,hag,hu1],by rw[←e,hu2];exact hr c hlt⟩
theorem ZoQ{s:TypeId}{x:Operand}{X:aJ}{f off:Nat}{k:Option Nat}(hd:∀d,o.dst=some d→d < n)(hop:o.op=.field s x f)(hx:aV x=some X)(hk:XH P s f=some (off,k))
  (h:dZ k off (X.ev a)=some v):iO P n o a S aC v S:=by
 refine .pure hd fun E w act hS hF=>?_
 have rx:=bT hF hx;unfold XH at hk;split at hk
 ·rename_i fs hu
  split at hk
  ·rename_i fd Np
   simp only[Option.map_eq_some_iff,Prod.mk.injEq] at hk;obtain⟨k',hk',rfl,rfl⟩:=hk;generalize X.ev a=p at rx h;generalize hev:act.eval x=av at rx;cases rx with
   | agg cs vs hn hat hr=>
    obtain⟨val,h1,h2⟩:=ZiN (P:=P) (w:=w) hk' hn hat hr h;exact⟨val,by simp[execOp,hop,hev,Instr.field,run_underlying hu,Np,asAgg,h1],h2⟩
   | _=>simp[dZ] at h
  ·cases hk
 ·cases hk
theorem Zrt{t:TypeId}{x i:Operand}{X I:aJ}{m es:Nat}{k:Option Nat}(hd:∀d,o.dst=some d→d < n)(hop:o.op=.index t x i)(hx:aV x=some X)(hi:aV i=some I)
  (hk:YF P t=some (m,es,k)) (h:d9 m es k (X.ev a) (I.ev a)=some v):iO P n o a S aC v S:=by
 refine .pure hd fun E w act hS hF=>?_
 have rx:=bT hF hx;have ri:=bT hF hi;unfold YF at hk;split at hk
 ·rename_i m' e hu
  split at hk
  ·rename_i ie hie
   simp only[Option.map_eq_some_iff,Prod.mk.injEq] at hk;obtain⟨k',hk',rfl,rfl,rfl⟩:=hk;unfold d9 at h;split at h
   ·rename_i cs ki q hxe Bo
    rw[hxe] at rx;rw[Bo] at ri;have ei:=ri.jl;split at h
    ·rename_i hc
     generalize hev:act.eval x=av at rx;cases rx with
     | agg _ vs hn hat hr=>
      obtain⟨val,h1,h2⟩:=ZiN (P:=P) (w:=w) hk' hn hat hr h;exact⟨val,by simp[execOp,hop,hev,ei,Instr.index,asIntOf,run_underlying hu,hc.1,hc.2,uz hie,h1],h2⟩
    ·cases h
   ·cases h
  ·cases hk
 ·cases hk
theorem Zrs{t:TypeId}{x i:Operand}{X I:aJ}(hd:∀d,o.dst=some d→d < n)(hop:o.op=.index t x i)(hx:aV x=some X)(hi:aV i=some I)
  (hu:P.underlying t=some .string) (h:XE (X.ev a) (I.ev a)=some v):iO P n o a S aC v S:=by
 refine .pure hd fun E w act hS hF=>?_
 have rx:=bT hF hx;have ri:=bT hF hi;unfold XE at h;split at h
 ·rename_i s ki q hxe Bo
  rw[hxe] at rx;rw[Bo] at ri;have ei:=ri.jl;have ex:=rx.jl;split at h
  ·rename_i hc
   simp only[Option.map_eq_some_iff] at h;obtain⟨b,hb,rfl⟩:=h;refine⟨.int .u8 b.toNat,?_,.v _ rfl⟩;simp[execOp,hop,ei,ex,Instr.index,asIntOf,run_underlying hu,hc,hb]
  ·cases h
 ·cases h
theorem Zrr{t:TypeId}{x i:Operand}{X I:aJ}{m es:Nat}(hd:∀d,o.dst=some d→d < n)(hop:o.op=.indexAddr t x i)(hx:aV x=some X)(hi:aV i=some I)
  (hk:Yc P t=some (m,es)) (h:gD m es (X.ev a) (I.ev a)=some v):iO P n o a S aC v S:=by
 refine .pure hd fun E w act hS hF=>?_
 have rx:=bT hF hx;have ri:=bT hF hi;unfold Yc at hk;split at hk
 ·rename_i m' e hu
  simp only[Option.map_eq_some_iff,Prod.mk.injEq] at hk;obtain⟨ie,hie,rfl,rfl⟩:=hk
  have run:∀A ki q,act.eval x=.pointer (some A)→act.eval i=.int ki q→0≤q→q < (m':Int)→(execOp act.eval o).run P w=.ok (.value (.pointer (some (A.add (q.toNat*ie.size))))) w:=by
   intro A ki q h1 h2 h3 h4;simp[execOp,hop,h1,h2,Instr.indexAt,asIntOf,run_underlying hu,Instr.sureAddr,h3,h4,uz hie]
  unfold gD at h;split at h
  ·rename_i id ix c ki q hxe Bo
   rw[hxe] at rx;rw[Bo] at ri;split at h
   ·rename_i hc
    cases h;generalize hev:act.eval x=av at rx;cases rx with
    | ptr _ _ _ l hl=>
     refine⟨_,run _ ki q hev ri.jl hc.1 hc.2,?_⟩;rw[zA,Nat.add_assoc];exact .ptr id ix _ l hl
   ·cases h
  ·rename_i y c ki q hxe Bo
   rw[hxe] at rx;rw[Bo] at ri;split at h
   ·rename_i hc
    cases h;generalize hev:act.eval x=av at rx;cases rx with
    | bJ _ _ b p cs g hb hat hcc hr=>
     refine⟨_,run _ ki q hev ri.jl hc.1 hc.2,?_⟩;rw[zA,Nat.add_assoc];exact .bJ y _ b p cs g hb hat hcc hr
   ·cases h
  ·cases h
 ·cases hk
theorem ZoP{t:TypeId}{ps:Array (Nat×Operand)}{qs:List (Nat×aJ)}{rs:List (Nat×Nat)}{z:AV}{m:Nat}(hd:∀d,o.dst=some d→d < n)(hop:o.op=.build t ps)
  (hq:ps.toList.mapM (fun p=>(aV p.2).map fun x=>(p.1,x))=some qs) (hp:qs.mapM (fun q=>DF P t q.1)=some rs) (hz:xA P t=some (z,m)) (hk:Po P t=true)
  (h:jc z (List.zipWith (fun r q=>(r.1,r.2,q.2.ev a)) rs qs)=some v):iO P n o a S aC v S:=by
 refine .pure hd fun E w act hS hF=>?_
 obtain⟨p1,p2⟩:=WV hF hq
 have hm:rs.length=qs.length∧∀j (h1:j < qs.length) (h2:j < rs.length),DF P t (qs[j]).1=some (rs[j]):=by
  clear h p1 p2 hq;induction qs generalizing rs with
  | nil=>simp at hp;subst hp;simp
  | cons q qs ih=>
   simp only[List.mapM_cons,Option.bind_eq_bind,Option.bind_eq_some_iff,Option.pure_def,Option.some.injEq] at hp;obtain⟨r,hr,rs',hrs,rfl⟩:=hp;obtain⟨a1,a2⟩:=ih hrs;refine⟨by simp[a1],fun j h1 h2=>?_⟩;cases j with
   | zero=>exact hr
   | succ j=>simpa using a2 j (by simpa using h1) (by simpa using h2)
 obtain⟨m1,m2⟩:=hm
 let ps':=ps.map fun p=>(p.1,act.eval p.2)
 obtain⟨val,h1,h2⟩:=ZmF (P:=P) (E:=E) (w:=w) hz hk (ps:=ps') (qs:=List.zipWith (fun r q=>(r.1,r.2,q.2.ev a)) rs qs) (by simp[ps',m1];simpa using p1)
  (fun j hj hj'=>by
   simp only[ps',Array.toList_map,List.length_map] at hj;have hjq:j < qs.length:=by omega
   obtain⟨b1,b2⟩:=p2 j hj hjq;simp only[ps',Array.toList_map,List.getElem_map,List.getElem_zipWith];exact⟨by rw[b1];exact m2 j hjq (by omega),b2⟩) h
 exact⟨val,by simp only[execOp,hop];simp only[ps'] at h1;simp[h1],h2⟩
end
def MW(P:Program)(f:Field):Option Nat:=
 if f.name ≠ "_" then (match P.underlying f.type with | some (.int _)=>some f.offset | _=>none) else none
def LU(P:Program)(m:Nat)(e:TypeId):Option (List Nat):=
 match P.underlying e,P.info? e with
 | some (.int _),some _=>if P.cellsOf e=1 then some (List.range m) else none
 | _,_=>none
def IY(P:Program)(t:TypeId):Option (List Nat):=
 match P.underlying t with
 | some (.struct fs)=>if P.stoodInHeld t=false then (if P.eqGuardType P.depth t=false then fs.toList.mapM (MW P) else none) else none
 | some (.array m e)=>if P.eqGuardType P.depth t=false then LU P m e else none
 | _=>none
def dn:List Nat→List AV→List AV→Option Bool
 | [],_,_=>some true
 | o::os,xs,ys=>match xs[o]?,ys[o]? with
  | some (.v (.int k a)),some (.v (.int k' b))=>if k=k' then (if (a == b)=true then dn os xs ys else some false) else none
  | _,_=>none
section
variable{P:Program}
theorem Cc{E:Env}{xs:List AV}{vs:Array Value}(h:aL E (.agg xs) (.agg vs)){j:Nat}{k:IntKind}{m:Int}(hx:xs[j]? = some (.v (.int k m))):vs[j]? = some (.int k m):=by
 cases h with
 | agg _ _ hn hat hr=>
  obtain⟨hj,he⟩:=List.getElem?_eq_some_iff.mp hx;have r:=hr j hj;rw[he] at r;have e:=r.jl;have hs:j < vs.size:=by omega
  simp only[Array.getD_eq_getD_getElem?,Array.getElem?_eq_getElem hs,Option.getD_some] at e;rw[Array.getElem?_eq_getElem hs,e]
theorem Vq{E:Env}{xs ys:List AV}{vs us:Array Value}(hx:aL E (.agg xs) (.agg vs))(hy:aL E (.agg ys) (.agg us))(d:Nat)(w:World):∀(fs:List Field) (jC:List Nat) (b:Bool),fs.mapM (MW P)=some jC→dn jC xs ys=some b→
  (Op.eqFields (d+1) vs us fs).run P w=.ok b w
 | [],jC,b,h,hb=>by
  simp at h;subst h;simp[dn] at hb;subst hb;simp[Op.eqFields]
 | f::fs,jC,b,h,hb=>by
  simp only[List.mapM_cons,Option.bind_eq_bind,Option.bind_eq_some_iff,Option.pure_def,Option.some.injEq] at h;obtain⟨o,ho,os,hos,rfl⟩:=h;unfold MW at ho;split at ho
  ·rename_i hname
   split at ho
   ·rename_i k hu
    cases ho;simp only[dn] at hb;split at hb
    ·rename_i k1 a1 k2 a2 h1 h2
     split at hb
     ·rename_i hk
      subst hk;have p1:=Cc hx h1;have p2:=Cc hy h2;have hpk:P.plainKey f.type=true:=by simp[Program.plainKey,hu]
      simp only[Op.eqFields,if_pos hname,Sem.run_bind,run_part_plain w hpk p1,run_part_plain w hpk p2,Result.andThen_ok,run_equalIn_int w d f.type k1 k a1 a2 hu];split at hb
      ·rename_i he
       rw[he];simpa using Vq hx hy d w fs os b hos hb
      ·rename_i he
       have he':(a1 == a2)=false:=by simpa using he
       cases hb;rw[he'];rfl
     ·cases hb
    ·cases hb
   ·cases ho
  ·cases ho
theorem Vr{E:Env}{xs ys:List AV}{vs us:Array Value}(hx:aL E (.agg xs) (.agg vs))(hy:aL E (.agg ys) (.agg us))(d:Nat)(w:World){e:TypeId}{k:IntKind}(hu:P.underlying e=some (.int k)):∀(jC:List Nat) (b:Bool),dn jC xs ys=some b→
  (Op.eqItems (d+1) e 1 vs us jC).run P w=.ok b w
 | [],b,hb=>by
  simp[dn] at hb;subst hb;simp[Op.eqItems]
 | o::os,b,hb=>by
  simp only[dn] at hb;split at hb
  ·rename_i k1 a1 k2 a2 h1 h2
   split at hb
   ·rename_i hk
    subst hk;have p1:=Cc hx h1;have p2:=Cc hy h2;have hpk:P.plainKey e=true:=by simp[Program.plainKey,hu]
    simp only[Op.eqItems,Nat.mul_one,Sem.run_bind,run_part_plain w hpk p1,run_part_plain w hpk p2,Result.andThen_ok,run_equalIn_int w d e k1 k a1 a2 hu];split at hb
    ·rename_i he
     rw[he];simpa using Vr hx hy d w hu os b hb
    ·rename_i he
     have he':(a1 == a2)=false:=by simpa using he
     cases hb;rw[he'];rfl
   ·cases hb
  ·cases hb
def BR(P:Program)(t:TypeId):Option (List Nat):=
 match P.underlying t with
 | some (.struct fs)=>if P.stoodInHeld t=false then fs.toList.mapM (MW P) else none
 | some (.array m e)=>LU P m e
 | _=>none
theorem Zfw{t:TypeId}{jC:List Nat}(h:BR P t=some jC):(match P.underlying t with | some (.array _ _) | some (.struct _)=>true | _=>false)=true:=by
 unfold BR at h;split at h<;>simp_all
theorem ZmI{E:Env}{xs ys:List AV}{vs us:Array Value}(hx:aL E (.agg xs) (.agg vs))(hy:aL E (.agg ys) (.agg us))(w:World){t:TypeId}{jC:List Nat}{b:Bool}(ho:BR P t=some jC)(hb:dn jC xs ys=some b) :
  (Op.equal t (.agg vs) (.agg us)).run P w=.ok b w:=by
 show(Op.equalIn 10000 t (.agg vs) (.agg us)).run P w=.ok b w
 unfold BR at ho;split at ho
 ·rename_i fs hfs
  split at ho
  ·rename_i hst
   have hfo:P.fieldsOf t=fs:=by simp[Program.fieldsOf,hfs]
   rw[run_equalIn_struct w 9999 t vs us (by rw[hfo];exact hfs) hst,hfo];exact Vq hx hy 9998 w _ _ _ ho hb
  ·cases ho
 ·rename_i m e hu
  unfold LU at ho;split at ho
  ·rename_i k i hue hie
   split at ho
   ·rename_i hc1
    cases ho;rw[run_equalIn_array w 9999 vs us hu hie,hc1];exact Vr hx hy 9998 w hue _ _ hb
   ·cases ho
  ·cases ho
 ·cases ho
theorem Zb1{e:TypeId}{k:IntKind}(hu:P.underlying e=some (.int k))(em:Bool)(d:Nat)(v:Value)(w:World):(Instr.checkKey em (d+1) e v).run P w=.ok () w:=by
 cases v<;>simp[Instr.checkKey,run_underlying hu]
theorem ZeD{E:Env}{xs:List AV}{vs:Array Value}(hx:aL E (.agg xs) (.agg vs))(w:World){t:TypeId}{jC:List Nat}(em:Bool)(ho:BR P t=some jC)(hall:∀o∈jC,∃k m,xs[o]? = some (.v (.int k m))) :
  (Instr.checkKey em 10000 t (.agg vs)).run P w=.ok () w:=by
 show(Instr.checkKey em (9999+1) t (.agg vs)).run P w=.ok () w
 unfold BR at ho;split at ho
 ·rename_i fs hfs
  split at ho
  ·rename_i hst
   rw[Instr.checkKey];simp only[Sem.run_bind,run_underlying hfs,Result.andThen_ok];rw[←Array.forIn_toList];generalize fs.toList=L at ho;clear hfs;induction L generalizing jC with
   | nil=>simp
   | cons f L ih=>
    simp only[List.mapM_cons,Option.bind_eq_bind,Option.bind_eq_some_iff,Option.pure_def,Option.some.injEq] at ho;obtain⟨o,h1,os,h2,rfl⟩:=ho;unfold MW at h1;split at h1
    ·rename_i hn
     split at h1
     ·rename_i q hq
      cases h1;obtain⟨k,m,hm⟩:=hall f.offset (by simp);have p1:=run_part_plain w (P:=P) (e:=f.type) (by simp[Program.plainKey,hq]) (Cc hx hm);have p2:=Zb1 hq em 9998 (.int k m) w;simp only[List.forIn_cons,Sem.run_bind,hn,ne_eq,not_false_eq_true,if_true,Result.andThen_ok,p1,p2,Sem.run_pure];exact ih (fun o ho=>hall o (by simp[ho])) h2
     ·cases h1
    ·cases h1
  ·cases ho
 ·rename_i m e hu
  unfold LU at ho;split at ho
  ·rename_i k i hue hie
   split at ho
   ·rename_i hc1
    cases ho;rw[Instr.checkKey];simp only[Sem.run_bind,run_underlying hu,Result.andThen_ok];simp only[Std.Legacy.Range.forIn_eq_forIn_range',Std.Legacy.Range.size,Nat.sub_zero,Nat.add_one_sub_one,Nat.div_one];rw[List.range_eq_range'] at hall;have hs:(sizeOf e).run P w=.ok 1 w:=by rw[uz hie];simp[Program.cellsOf,hie] at hc1;rw[hc1]
    generalize List.range' 0 m=is at hall;induction is with
    | nil=>simp
    | cons j is ih=>
     obtain⟨k',m',hm⟩:=hall j (by simp);have p1:=run_part_plain w (P:=P) (e:=e) (by simp[Program.plainKey,hue]) (Cc hx hm);have p2:=Zb1 hue em 9998 (.int k' m') w;simp only[List.forIn_cons,Sem.run_bind,hs,Nat.mul_one,Result.andThen_ok,p1,p2,Sem.run_pure];exact ih fun o ho=>hall o (by simp[ho])
   ·cases ho
  ·cases ho
 ·cases ho
end
end Go.Rf
