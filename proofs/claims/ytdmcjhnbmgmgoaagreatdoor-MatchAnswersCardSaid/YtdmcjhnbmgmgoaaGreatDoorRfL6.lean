import Derived.Test.YtdmcjhnbmgmgoaaGreatDoorRfNrm
import Derived.Recover
import Derived.Lib.SlicesCompact
import Derived.Lib.RowBridge
set_option linter.unusedVariables false
set_option linter.unusedSimpArgs false
set_option linter.unusedSectionVars false
namespace Go.Rf
open Go.RowKit
inductive Wk:AV→AV→Prop
 | refl (x:AV):Wk x x
 | sl (t:Bool) (xs ys:List AV) (hl:ys.length=xs.length) (h:∀i (h1:i < xs.length) (h2:i < ys.length),Wk (xs[i]) (ys[i])):Wk (.sl t xs) (.sl false ys)
 | slt (t:Bool) (xs ys:List AV) (hl:ys.length=xs.length) (h:∀i (h1:i < xs.length) (h2:i < ys.length),Wk (xs[i]) (ys[i])):Wk (.sl t xs) (.sl t ys)
 | agg (cs ds:List AV) (hl:ds.length=cs.length) (h:∀i (h1:i < cs.length) (h2:i < ds.length),Wk (cs[i]) (ds[i])):Wk (.agg cs) (.agg ds)
theorem Wk.cells{x y:AV}(h:Wk x y):∀i (h1:i < x.cells.length) (h2:i < y.cells.length),Wk (x.cells[i]) (y.cells[i]):=by
 cases h with
 | refl x=>intro i h1 h2;exact .refl _
 | sl t xs ys hl h=>intro i h1 h2;simp only[AV.cells,List.length_cons,List.length_nil,Nat.zero_add,Nat.lt_one_iff] at h1;subst h1;exact .sl t xs ys hl h
 | slt t xs ys hl h=>intro i h1 h2;simp only[AV.cells,List.length_cons,List.length_nil,Nat.zero_add,Nat.lt_one_iff] at h1;subst h1;exact .slt t xs ys hl h
 | agg cs ds hl h=>exact h
def jM(a b:List AV):Prop:=b.length=a.length∧∀i (h1:i < a.length) (h2:i < b.length),Wk (a[i]) (b[i])
theorem jM.nil:jM [] []:=⟨rfl,fun i h=>by simp at h⟩
theorem jM.cons{x y:AV}{a b:List AV}(h:Wk x y)(k:jM a b):jM (x::a) (y::b):=by
 refine⟨by simp[k.1],fun i h1 h2=>?_⟩;cases i with
 | zero=>exact h
 | succ i=>exact k.2 i (by simpa using h1) (by simpa using h2)
theorem jM.refl(a:List AV):jM a a:=⟨rfl,fun _ _ _=>.refl _⟩
theorem Wk.sl'{t:Bool}{xs ys:List AV}(h:jM xs ys):Wk (.sl t xs) (.sl false ys):=.sl t xs ys h.1 h.2
theorem Wk.agg'{xs ys:List AV}(h:jM xs ys):Wk (.agg xs) (.agg ys):=.agg xs ys h.1 h.2
def Im(x y:AV):Prop:=∀E v,aK E x v→aK E y v
structure Yf(x y:AV):Prop where
 rep:Im x y
 len:y.cells.length=x.cells.length
 cell:∀i (h1:i < x.cells.length) (h2:i < y.cells.length),Im (x.cells[i]) (y.cells[i])
 atom:x.atom=true→y.atom=true
 P6b:(∀z∈x.cells,z.atom=true)→∀z∈y.cells,z.atom=true
theorem Ui:∀{xs ys:List AV},ys.length=xs.length→(∀i (h1:i < xs.length) (h2:i < ys.length),Yf (xs[i]) (ys[i]))→
  (flat ys).length=(flat xs).length∧(∀k (h1:k < (flat xs).length) (h2:k < (flat ys).length),Im ((flat xs)[k]) ((flat ys)[k]))∧((∀z∈flat xs,z.atom=true)→∀z∈flat ys,z.atom=true)
 | [],[],_,_=>⟨rfl,fun k h1=>by simp[flat] at h1,fun _ z hz=>by simp[flat] at hz⟩
 | [],_::_,h,_=>by simp at h
 | _::_,[],h,_=>by simp at h
 | x::xs,y::ys,hl,h=>by
  obtain⟨i1,i2,i3⟩:=Ui (xs:=xs) (ys:=ys) (by simpa using hl) (fun i h1 h2=>h (i+1) (by simpa using h1) (by simpa using h2));have h0:=h 0 (by simp) (by simp);simp only[List.getElem_cons_zero] at h0;have e1:flat (x::xs)=x.cells++flat xs:=by simp[flat]
  have e2:flat (y::ys)=y.cells++flat ys:=by simp[flat]
  refine⟨by rw[e1,e2];simp[h0.len,i1],fun k h1 h2=>?_,fun hz z PG=>?_⟩
  ·simp only[e1,e2] at h1 h2 ⊢
   by_cases hk:k < x.cells.length
   ·rw[List.getElem_append_left hk,List.getElem_append_left (by rw[h0.len];exact hk)]
    exact h0.cell k hk (by rw[h0.len];exact hk)
   ·rw[List.getElem_append_right (by omega),List.getElem_append_right (by rw[h0.len];omega)]
    simp only[h0.len];exact i2 _ _ _
  ·rw[e2] at PG
   rw[e1] at hz;rcases List.mem_append.mp PG with hm | hm
   ·exact h0.P6b (fun z hz'=>hz z (by simp[hz'])) z hm
   ·exact i3 (fun z hz'=>hz z (by simp[hz'])) z hm
theorem Wk.f{x y:AV}(h:Wk x y):Yf x y:=by
 induction h with
 | refl x=>exact⟨fun _ _ h=>h,rfl,fun _ _ _ _ _ h=>h,id,id⟩
 | sl t xs ys hl h ih=>
  obtain⟨f1,f2,f3⟩:=Ui hl ih
  have hrep:Im (.sl t xs) (.sl false ys):=by
   intro E v hr;cases hr with
   | sl0 _ A cap ht=>
    have:ys=[]:=List.eq_nil_of_length_eq_zero (by simpa using hl);subst this;exact .sl0 false A cap (by simp)
   | sl _ _ b o cap cs es f hne hb hes hcap ht hat hc hr=>
    have hcount:xs.length=ys.length:=hl.symm;rw[hcount];refine .sl false ys b o cap cs es f (by omega) hb (fun z hz=>?_) (by omega) (by simp) (f3 hat) (fun k hk=>hc k (by omega)) (fun k hk=>f2 k (by omega) hk E _ (hr k (by omega)));obtain⟨i,hi,rfl⟩:=List.mem_iff_getElem.mp hz;rw[(ih i (by omega) hi).len];exact hes _ (List.getElem_mem _)
  refine⟨hrep,rfl,fun i h1 h2=>?_,fun _=>rfl,fun _ z hz=>?_⟩
  ·simp only[AV.cells,List.length_cons,List.length_nil,Nat.zero_add,Nat.lt_one_iff] at h1
   subst h1;exact hrep
  ·simp[AV.cells] at hz;subst hz;rfl
 | slt t xs ys hl h ih=>
  obtain⟨f1,f2,f3⟩:=Ui hl ih
  have hrep:Im (.sl t xs) (.sl t ys):=by
   intro E v hr;cases hr with
   | sl0 _ A cap ht=>
    have:ys=[]:=List.eq_nil_of_length_eq_zero (by simpa using hl);subst this;exact .sl0 t A cap ht
   | sl _ _ b o cap cs es f hne hb hes hcap ht hat hc hr=>
    have hcount:xs.length=ys.length:=hl.symm;rw[hcount];refine .sl t ys b o cap cs es f (by omega) hb (fun z hz=>?_) (by omega) (fun e=>by rw[ht e];omega) (f3 hat) (fun k hk=>hc k (by omega)) (fun k hk=>f2 k (by omega) hk E _ (hr k (by omega)));obtain⟨i,hi,rfl⟩:=List.mem_iff_getElem.mp hz;rw[(ih i (by omega) hi).len];exact hes _ (List.getElem_mem _)
  refine⟨hrep,rfl,fun i h1 h2=>?_,fun _=>rfl,fun _ z hz=>?_⟩
  ·simp only[AV.cells,List.length_cons,List.length_nil,Nat.zero_add,Nat.lt_one_iff] at h1
   subst h1;exact hrep
  ·simp[AV.cells] at hz;subst hz;rfl
 | agg cs ds hl h ih=>
  refine⟨fun E v hr=>?_,hl,fun i h1 h2=>(ih i h1 h2).rep,fun e=>by simp[AV.atom] at e,fun hz z PG=>?_⟩
  ·cases hr with
   | agg _ vs hn hat hr=>
    refine .agg ds vs (by omega) (fun z hz=>?_) (fun j hj=>(ih j (by omega) hj).rep E _ (hr j (by omega)));obtain⟨i,hi,rfl⟩:=List.mem_iff_getElem.mp hz;exact(ih i (by omega) hi).atom (hat _ (List.getElem_mem _))
  ·obtain⟨i,hi,rfl⟩:=List.mem_iff_getElem.mp PG
   exact(ih i (by simp only[AV.cells] at hi ⊢;omega) hi).atom (hz _ (List.getElem_mem _))
theorem aM.wk{P:Program}{f:FuncId}{args args':List AV}{r:AV}(h:aM P f args' r)(hw:jM args args'):aM P f args r:=
 h.weak hw.1 (fun j h1 h2 E v hr=>(hw.2 j h1 h2).f.rep E v hr)
inductive bU (gF:Nat→Option aF) (R:Nat→Nat→Prop):AV→AV→Prop
 | fz (x y:AV) (h:Fz gF x y):bU gF R x y
 | wk (x y:AV) (hc:aV x) (h:Wk x y):bU gF R x y
 | own (id j off len:Nat) (h:R j id):bU gF R (.own id off len) (.own j off len)
 | ptr (id j ix c:Nat) (h:R j id):bU gF R (.ptr id ix c) (.ptr j ix c)
 | mp (id j:Nat) (h:R j id):bU gF R (.mp id) (.mp j)
 | agg (cs ds:List AV) (hl:ds.length=cs.length) (h:∀i (h1:i < cs.length) (h2:i < ds.length),bU gF R (cs[i]) (ds[i])):bU gF R (.agg cs) (.agg ds)
 | aL (cs ds:List AV) (hl:ds.length=cs.length) (h:∀i (h1:i < cs.length) (h2:i < ds.length),bU gF R (cs[i]) (ds[i])):bU gF R (.aL cs) (.aL ds)
 | aO (f:FuncId) (tC bs as' bs':List AV) (hl:as'.length=tC.length) (hm:bs'.length=bs.length) (h:∀i (h1:i < tC.length) (h2:i < as'.length),bU gF R (tC[i]) (as'[i]))
   (k:∀i (h1:i < bs.length) (h2:i < bs'.length),bU gF R (bs[i]) (bs'[i])):bU gF R (.aO f tC bs) (.aO f as' bs')
def iX(gF:Nat→Option aF)(R:Nat→Nat→Prop)(xs ys:List AV):Prop:=ys.length=xs.length∧∀i (h1:i < xs.length) (h2:i < ys.length),bU gF R (xs[i]) (ys[i])
section
variable{gF:Nat→Option aF}{R:Nat→Nat→Prop}
theorem bU.cells{x r:AV}(h:bU gF R x r):r.cells.length=x.cells.length∧(x.atom=true→r.atom=true)∧∀i (h1:i < x.cells.length) (h2:i < r.cells.length),bU gF R (x.cells[i]) (r.cells[i]):=by
 cases h with
 | fz _ _ h=>exact⟨h.cells.1,h.cells.2.1,fun i h1 h2=>.fz _ _ (h.cells.2.2 i h1 h2)⟩
 | wk _ _ hc h=>exact⟨h.f.len,h.f.atom,fun i h1 h2=>.wk _ _ (hc.cells _ (List.getElem_mem _)) (h.cells i h1 h2)⟩
 | own id j off len h=>exact⟨rfl,fun _=>rfl,fun i h1 h2=>by simp[AV.cells] at h1;subst h1;exact .own id j off len h⟩
 | ptr id j ix c h=>exact⟨rfl,fun _=>rfl,fun i h1 h2=>by simp[AV.cells] at h1;subst h1;exact .ptr id j ix c h⟩
 | mp id j h=>exact⟨rfl,fun _=>rfl,fun i h1 h2=>by simp[AV.cells] at h1;subst h1;exact .mp id j h⟩
 | agg cs ds hl h=>exact⟨hl,fun e=>by simp[AV.atom] at e,h⟩
 | aL cs ds hl h=>exact⟨rfl,fun e=>by simp[AV.atom] at e,fun i h1 h2=>by simp[AV.cells] at h1;subst h1;exact .aL cs ds hl h⟩
 | aO f tC bs as' bs' hl hm h k=>exact⟨rfl,fun _=>rfl,fun i h1 h2=>by simp[AV.cells] at h1;subst h1;exact .aO f tC bs as' bs' hl hm h k⟩
theorem ZgS:∀{xs zs:List AV},iX gF R xs zs→(flat zs).length=(flat xs).length∧∀k (h1:k < (flat xs).length) (h2:k < (flat zs).length),bU gF R ((flat xs)[k]) ((flat zs)[k])
 | [],[],_=>⟨rfl,fun k h1=>by simp[flat] at h1⟩
 | [],_::_,h=>by have:=h.1;simp at this
 | _::_,[],h=>by have:=h.1;simp at this
 | x::xs,z::zs,h=>by
  obtain⟨i1,i2⟩:=ZgS (xs:=xs) (zs:=zs) ⟨by simpa using h.1,fun i h1 h2=>h.2 (i+1) (by simpa using h1) (by simpa using h2)⟩;obtain⟨c1,_,c3⟩:=(h.2 0 (by simp) (by simp)).cells;simp only[List.getElem_cons_zero] at c1 c3;have e1:flat (x::xs)=x.cells++flat xs:=by simp[flat]
  have e2:flat (z::zs)=z.cells++flat zs:=by simp[flat]
  refine⟨by rw[e1,e2];simp[c1,i1],fun k h1 h2=>?_⟩;simp only[e1,e2] at h1 h2 ⊢;by_cases hk:k < x.cells.length
  ·rw[List.getElem_append_left hk,List.getElem_append_left (by omega)]
   exact c3 k hk (by omega)
  ·rw[List.getElem_append_right (by omega),List.getElem_append_right (by omega)]
   simp only[c1];exact i2 _ _ _
theorem bU.rep{E:Env}{S:St}{w:World}(hS:aU E S w)(hg:∀i k,gF i=some k→S.g i=some k){E2:Env}(hH:∀b cs,E.H b=some cs→E2.H b=some cs)
  (hL:∀id es xs l,gF id=some (.arr es xs)→E.ρ id=some l→∀cs el fz,w.heap[l.b]? = some (.cells cs el fz)→E2.H l.b=some cs)
  (hR:∀j i l,R j i→E.ρ i=some l→E2.ρ j=some l):∀{x r:AV},bU gF R x r→∀{v:Value},aK E x v→aK E2 r v:=by
 intro x r h;induction h with
 | fz x y h=>intro v hr;exact Fz.rep hS hg hH hL h hr
 | wk x y hc h=>intro v hr;exact h.f.rep _ _ (hr.closed hH hc)
 | own id j off len h=>
  intro v hr;cases hr with
  | own _ _ _ A cap l hl hlen hA=>exact .own j off len A cap l (hR _ _ _ h hl) hlen hA
 | ptr id j ix c h=>
  intro v hr;cases hr with
  | ptr _ _ _ l hl=>exact .ptr j ix c l (hR _ _ _ h hl)
 | mp id j h=>
  intro v hr;cases hr with
  | mp _ l hl=>exact .mp j l (hR _ _ _ h hl)
 | agg cs ds hl h ih=>
  intro v hr;cases hr with
  | agg _ vs hn hat hr=>
   refine .agg ds vs (by omega) (fun y hy=>?_) (fun j hj=>ih j (by omega) hj (hr j (by omega)));obtain⟨k,hk,e⟩:=List.mem_iff_getElem.mp hy;rw[←e];exact(h k (by omega) hk).cells.2.1 (hat _ (List.getElem_mem _))
 | aL cs ds hl h ih=>
  intro v hr;cases hr with
  | aL _ vs hn hr=>exact .aL ds vs (by omega) (fun j hj=>ih j (by omega) hj (hr j (by omega)))
 | aO f tC bs as' bs' hl hm h k ih1 ih2=>
  intro v hr;cases hr with
  | aO _ _ _ fv cv hn hm' hf hc=>exact .aO f as' bs' fv cv (by omega) (by omega) (fun j hj=>ih1 j (by omega) hj (hf j (by omega))) (fun j hj=>ih2 j (by omega) hj (hc j (by omega)))
end
inductive DK (gF:Nat→Option aF) (R:Nat→Nat→Prop):aF→aF→Prop
 | arr (es:Nat) (xs ys:List AV) (h:iX gF R xs ys):DK gF R (.arr es xs) (.arr es ys)
 | map (es fs:List (AV×AV)) (hl:fs.length=es.length) (h:∀i (h1:i < es.length) (h2:i < fs.length),bU gF R (es[i]).1 (fs[i]).1∧bU gF R (es[i]).2 (fs[i]).2):DK gF R (.map es) (.map fs)
theorem DK.ok{gF:Nat→Option aF}{R:Nat→Nat→Prop}{E E2:Env}{w:World}{l:Loc}{k k':aF}(h:DK gF R k k')(hrep:∀{x y:AV},bU gF R x y→∀{v:Value},aK E x v→aK E2 y v)(hok:kM E w l k):kM E2 w l k':=by
 cases h with
 | arr es xs ys h=>
  obtain⟨h1,h2,h3,h4,cs,el,h5,h6,h7⟩:=hok;obtain⟨f1,f2⟩:=ZgS h;refine⟨h1,by rw[h.1];exact h2,fun y hy=>?_,fun y hy=>?_,cs,el,h5,h6,fun k hk=>?_⟩
  ·obtain⟨i,hi,rfl⟩:=List.mem_iff_getElem.mp hy
   have hi':i < xs.length:=by have:=h.1;omega
   rw[(h.2 i hi' hi).cells.1];exact h3 _ (List.getElem_mem hi')
  ·obtain⟨i,hi,rfl⟩:=List.mem_iff_getElem.mp hy
   have hi':i < (flat xs).length:=by omega
   exact(f2 i hi' hi).cells.2.1 (h4 _ (List.getElem_mem hi'))
  ·have hi':k < (flat xs).length:=by omega
   obtain⟨v,a,b⟩:=h7 k hi';exact⟨v,a,hrep (f2 k hi' hk) b⟩
 | map es fs hl h=>
  obtain⟨cs,clock,h1,h2,h3⟩:=hok;refine⟨cs,clock,h1,by omega,fun k hk=>?_⟩;obtain⟨e,a,b,c⟩:=h3 k (by omega);exact⟨e,a,hrep (h k (by omega) hk).1 b,hrep (h k (by omega) hk).2 c⟩
def jy:List (Nat×Option aF)→Nat→Option aF
 | [],_=>none
 | (j,b)::l,i=>if i=j then b else jy l i
def oC:List (Nat×AV)→AF
 | [],_=>.junk
 | (j,x)::l,t=>if t=j then x else oC l t
theorem nQ(i:Nat):jy [] i=none:=by simp only[jy]
theorem nk(j:Nat)(b:Option aF)(l:List (Nat×Option aF))(i:Nat):jy ((j,b)::l) i=if i=j then b else jy l i:=by simp only[jy]
theorem lN(t:Nat):oC [] t=.junk:=by simp only[oC]
theorem lu(j:Nat)(x:AV)(l:List (Nat×AV))(t:Nat):oC ((j,x)::l) t=if t=j then x else oC l t:=by simp only[oC]
theorem Uv:∀{l:List (Nat×Option aF)} {i:Nat} {k:aF},jy l i=some k→(i,some k)∈l
 | [],i,k,h=>by simp[jy] at h
 | (j,b)::l,i,k,h=>by
  simp only[jy] at h;split at h
  ·rename_i e;subst e;subst h;simp
  ·exact List.mem_cons_of_mem _ (Uv h)
theorem ZV:∀{l:List (Nat×AV)} {t:Nat},oC l t=.junk∨(t,oC l t)∈l
 | [],t=>.inl rfl
 | (j,x)::l,t=>by
  simp only[oC];split
  ·rename_i e;subst e;exact .inr (by simp)
  ·rcases ZV (l:=l) (t:=t) with h | h
   ·exact .inl h
   ·exact .inr (List.mem_cons_of_mem _ h)
def GJ(o:List (Nat×Nat))(b:Nat)(j i:Nat):Prop:=(j,i)∈o∨(j=i∧i < b)
structure OOk(o:List (Nat×Nat))(F:List Nat)(b N:Nat):Prop where
 a:∀p∈o,p.1 < N∧(p.1 < b→p.2=p.1)∧p.2∉F
 u:o.Pairwise fun p q=>p.1≠q.1∧p.2≠q.2
theorem FC:∀{o:List (Nat×Nat)} (hu:o.Pairwise fun p q=>p.1≠q.1∧p.2≠q.2) {j i:Nat},(j,i)∈o→o.lookup j=some i
 | [],_,j,i,h=>by simp at h
 | (j',i')::o,hu,j,i,h=>by
  rw[List.pairwise_cons] at hu;rw[List.lookup_cons];rcases List.mem_cons.mp h with h | h
  ·cases h;simp
  ·have hne:=(hu.1 _ h).1
   have hb:(j == j')=false:=by simpa using fun e=>hne e.symm
   rw[hb];exact FC hu.2 h
theorem YT:∀{o:List (Nat×Nat)} {j i:Nat},o.lookup j=some i→(j,i)∈o
 | [],j,i,h=>by simp at h
 | (j',i')::o,j,i,h=>by
  rw[List.lookup_cons] at h;split at h
  ·rename_i e;simp only[beq_iff_eq] at e;cases h;subst e;simp
  ·exact List.mem_cons_of_mem _ (YT h)
theorem ZpX{o:List (Nat×Nat)}(hu:o.Pairwise fun p q=>p.1≠q.1∧p.2≠q.2){j1 j2 i1 i2:Nat}(h1:(j1,i1)∈o)(h2:(j2,i2)∈o)(hne:j1≠j2):i1≠i2:=by
 induction o with
 | nil=>simp at h1
 | cons p o ih=>
  rw[List.pairwise_cons] at hu;rcases List.mem_cons.mp h1 with e1 | h1
  ·rcases List.mem_cons.mp h2 with e2 | h2
   ·rw[←e1] at e2;cases e2;exact(hne rfl).elim
   ·have:=(hu.1 _ h2).2;rw[←e1] at this;exact this
  ·rcases List.mem_cons.mp h2 with e2 | h2
   ·have:=(hu.1 _ h1).2;rw[←e2] at this;exact fun e=>this e.symm
   ·exact ih hu.2 h1 h2
def zw(gF:Nat→Option aF)(R:Nat→Nat→Prop)(k:Option aF)(k':Option aF):Prop:=∀b',k'=some b'→∃b,k=some b∧DK gF R b b'
theorem iU.of{b:Nat}{a:AF}{S:St}(o:List (Nat×Nat))(F:List Nat){A:List (Nat×AV)}{N:Nat}{G:List (Nat×Option aF)}(hb:b≤N)(ho:OOk o F b N)
  (hG:∀p∈G,p.2=none∨∃i,(p.1,i)∈o∧zw (only F S.g) (GJ o b) (S.g i) p.2) (hA:∀p∈A,bU (only F S.g) (GJ o b) (a p.1) p.2):iU b a S (oC A) ⟨N,jy G⟩:=by
 intro E w act n hbS hS hF;have hg:∀i k,only F S.g i=some k→S.g i=some k:=Dc
 let ρ':Nat→Option Loc:=fun j=>if j < b then E.ρ j else match o.lookup j with | some i=>E.ρ i | none=>none
 let E2:Env:=⟨ρ',qz E (only F S.g) w⟩
 have hR:∀j i l,GJ o b j i→E.ρ i=some l→E2.ρ j=some l:=by
  intro j i l hji hl;show ρ' j=some l
  simp only[ρ'];rcases hji with h | ⟨rfl,h⟩
  ·split
   ·rename_i hj
    have e:i=j:=(ho.a _ h).2.1 hj;rw[e] at hl;exact hl
   ·rw[FC ho.u h];exact hl
  ·rw[if_pos h];exact hl
 have hH:∀b cs,E.H b=some cs→E2.H b=some cs:=fun b cs e=>zS e
 have hL:∀id es xs l,only F S.g id=some (.arr es xs)→E.ρ id=some l→∀cs el fz,w.heap[l.b]? = some (.cells cs el fz)→E2.H l.b=some cs:=by
  intro id es xs l hgi yM cs el fz hw;obtain⟨l',a1,a2,_⟩:=hS.live id _ (hg _ _ hgi);rw[yM] at a1;cases a1;exact M4 hgi yM a2 hw
 have hrep:∀{x y:AV},bU (only F S.g) (GJ o b) x y→∀{v:Value},aK E x v→aK E2 y v:=fun h _ hv=>h.rep hS hg hH hL hR hv
 have hlive:∀j k',jy G j=some k'→∃i k,(j,i)∈o∧S.g i=some k∧DK (only F S.g) (GJ o b) k k':=by
  intro j k' h;rcases hG _ (Uv h) with h1 | ⟨i,h1,h2⟩
  ·simp at h1
  ·obtain⟨k,h3,h4⟩:=h2 k' rfl
   exact⟨i,k,h1,h3,h4⟩
 refine⟨E2,⟨fun k cs e=>?_,fun j k' e=>?_,fun j1 j2 k1 k2 l1 l2 e1 e2 hne r1 r2=>?_,fun j hj=>?_⟩,⟨hF.size,hF.defers,fun t=>?_⟩,⟨rfl,rfl,rfl,Nat.le_refl _,fun _ _ _=>rfl,fun j l k' e hl=>?_,fun id l hi e=>?_,hH,fun k cs e=>?_,hb,fun id hi e=>?_⟩⟩
 ·rcases y5 e with h1 | ⟨_,h1,_⟩
  ·exact hS.hH k cs h1
  ·exact h1
 ·obtain⟨i,k,h1,h2,h3⟩:=hlive j k' e
  obtain⟨l,a1,a2,a3⟩:=hS.live i k h2;refine⟨l,hR j i l (.inl h1) a1,?_,h3.ok hrep a3⟩;show qz E (only F S.g) w l.b=none
  cases e2:qz E (only F S.g) w l.b with
  | none=>rfl
  | some cs=>
   exfalso;rcases y5 e2 with h4 | ⟨_,_,i2,k2,l2,b1,b2,b3⟩
   ·rw[a2] at h4;cases h4
   ·by_cases hii:i2=i
    ·subst hii
     rw[BJ] at b1;split at b1
     ·rename_i hf;exact(ho.a _ h1).2.2 hf
     ·cases b1
    ·exact hS.kV i2 i k2 k l2 l (hg _ _ b1) h2 hii b2 a1 b3
 ·obtain⟨i1,b1,p1,p2,_⟩:=hlive j1 k1 e1
  obtain⟨i2,b2,q1,q2,_⟩:=hlive j2 k2 e2;obtain⟨m1,a1,_⟩:=hS.live i1 b1 p2;obtain⟨m2,a2,_⟩:=hS.live i2 b2 q2;have c1:=hR j1 i1 m1 (.inl p1) a1;have c2:=hR j2 i2 m2 (.inl q1) a2;rw[c1] at r1;cases r1;rw[c2] at r2;cases r2;exact hS.kV i1 i2 b1 b2 _ _ p2 q2 (ZpX ho.u p1 q1 hne) a1 a2
 ·have hj:N≤j:=hj
  show ρ' j=none
  simp only[ρ'];rw[if_neg (by omega)];cases e:o.lookup j with
  | none=>rfl
  | some i=>have:=(ho.a _ (YT e)).1;simp only at this;omega
 ·rcases ZV (l:=A) (t:=t) with h | h
  ·rw[h];exact .junk _
  ·exact hrep (hA _ h) (hF.at_ t)
 ·obtain⟨i,k,h1,h2,h3⟩:=hlive j k' e
  have hl:E2.ρ j=some l:=hl;obtain⟨l0,a1,_⟩:=hS.live i k h2;have:=hR j i l0 (.inl h1) a1;rw[this] at hl;cases hl;exact .inr ⟨i,_,k,h2,a1,rfl⟩
 ·show ρ' id=some l
  simp only[ρ'];rw[if_pos hi];exact e
 ·rcases y5 e with h1 | ⟨_,_,i2,k2,l2,b1,b2,b3⟩
  ·exact .inl h1
  ·exact .inr (.inr ⟨i2,l2,k2,hg _ _ b1,b2,b3⟩)
 ·show ρ' id=none
  simp only[ρ'];rw[if_pos hi];exact e
structure jJ(g:Nat→Option aF)(n:Nat)(av:List Nat)(vs:List AV)(ls:List (List AV)):Prop where
 len:vs.length=ls.length
 row:∀t (h:t < vs.length) (h':t < ls.length),Vec g vs[t] 1 (ls[t])
 sep:vs.Pairwise (fun a b=>∀i∈a.ids,i∉b.ids)
 out:∀v∈vs,∀i∈v.ids,i < n∧i∉av
theorem jJ.nil{g:Nat→Option aF}{n:Nat}{av:List Nat}:jJ g n av [] []:=⟨rfl,fun t h=>by simp at h,.nil,by simp⟩
theorem jJ.cons{g:Nat→Option aF}{n:Nat}{av:List Nat}{vs:List AV}{ls:List (List AV)}{v:AV}{l:List AV}(hv:Vec g v 1 l)(ho:∀i∈v.ids,i < n∧i∉av)(hs:∀w∈vs,∀i∈v.ids,i∉w.ids)(h:jJ g n av vs ls) :
  jJ g n av (v::vs) (l::ls):=by
 refine⟨by simp[h.len],fun t h1 h2=>?_,List.pairwise_cons.mpr ⟨hs,h.sep⟩,fun w hw=>?_⟩
 ·cases t with
  | zero=>exact hv
  | succ t=>exact h.row t (by simpa using h1) (by simpa using h2)
 ·rcases List.mem_cons.mp hw with rfl | hw
  ·exact ho
  ·exact h.out w hw
theorem jJ.head{g:Nat→Option aF}{n:Nat}{av:List Nat}{vs:List AV}{ls:List (List AV)}{v:AV}{l:List AV}(h:jJ g n av (v::vs) (l::ls)) :
  Vec g v 1 l∧(∀i∈v.ids,i < n∧i∉av)∧(∀w∈vs,∀i∈v.ids,i∉w.ids)∧jJ g n av vs ls:=by
 have hp:=List.pairwise_cons.mp h.sep;refine⟨h.row 0 (by simp) (by simp),h.out v (by simp),hp.1,by have:=h.len;simpa using this,fun t h1 h2=>?_,hp.2,fun w hw=>h.out w (by simp[hw])⟩;exact h.row (t+1) (by simpa using h1) (by simpa using h2)
theorem jJ.frame{g g':Nat→Option aF}{n n':Nat}{av:List Nat}{vs:List AV}{ls:List (List AV)}(h:jJ g n av vs ls)(hn:n≤n')(hg:∀v∈vs,∀i∈v.ids,g' i=g i):jJ g' n' av vs ls:=
 ⟨h.len,fun t h1 h2=>(h.row t h1 h2).frame (fun i hi=>hg _ (List.getElem_mem h1) i hi),h.sep,fun v hv i hi=>⟨Nat.lt_of_lt_of_le (h.out v hv i hi).1 hn,(h.out v hv i hi).2⟩⟩
theorem jJ.snoc{g:Nat→Option aF}{n:Nat}{av:List Nat}{vs:List AV}{ls:List (List AV)}{v:AV}{l:List AV}(h:jJ g n av vs ls)(hv:Vec g v 1 l)(ho:∀i∈v.ids,i < n∧i∉av)(hs:∀w∈vs,∀i∈w.ids,i∉v.ids) :
  jJ g n av (vs++[v]) (ls++[l]):=by
 refine⟨by simp[h.len],fun t h1 h2=>?_,?_,fun w hw=>?_⟩
 ·by_cases ht:t < vs.length
  ·have ht2:t < ls.length:=by rw[←h.len];exact ht
   rw[List.getElem_append_left ht,List.getElem_append_left ht2];exact h.row t ht ht2
  ·have e:t=vs.length:=by simp at h1;omega
   have e2:t=ls.length:=by rw[←h.len];exact e
   rw[List.getElem_append_right (by omega),List.getElem_append_right (by omega)];simp[e,←h.len];exact hv
 ·rw[List.pairwise_append]
  exact⟨h.sep,by simp,fun a ha b hb=>by simp at hb;subst hb;exact hs a ha⟩
 ·rcases List.mem_append.mp hw with hw | hw
  ·exact h.out w hw
  ·simp at hw;subst hw;exact ho
theorem Vec.IL{g:Nat→Option aF}{n:Nat}{v:AV}{es:Nat}{xs:List AV}{aA:Nat}{x:AV}{aC:Nat}(h:Vec g v es xs)(hes:∀z∈xs,z.cells.length=es)(hx:x.cells.length=es)(hok:eY aC xs.length 1) :
  (jC es aC v (.sl true [x])).runT ⟨n,g⟩ aA=some (.own aA 0 (xs.length+1),(St.without ⟨n,g⟩ v).set aA (some (.arr es (xs++[x]))),v.ids,v.ids++[aA]):=by
 rcases h with⟨rfl,rfl⟩ | ⟨id,off,ys,rfl,h1,h2,h3⟩
 ·simp only[List.length_nil] at hok
  simp[jC,Eff.runT,AV.jA,kK,hx,hok,St.without,St.dV,St.iG,AV.ids]
 ·have hl:off+xs.length=ys.length:=by rw[←h3];simp;omega
  simp[jC,Eff.runT,AV.jA,kK,hx,hok,St.without,St.dV,St.iG,h1,hl,h3,AV.ids]
theorem Vec.fzL{g:Nat→Option aF}{v:AV}{es:Nat}{xs zs:List AV}(h:Vec g v es xs)(hl:zs.length=xs.length)(hz:∀i (h1:i < xs.length) (h2:i < zs.length),Fz g (xs[i]) (zs[i])):Fz g v (.sl false zs):=by
 rcases h with⟨rfl,h0⟩ | ⟨id,off,ys,rfl,h1,h2,h3⟩
 ·subst h0
  have:zs=[]:=List.eq_nil_of_length_eq_zero hl;subst this;exact .loose true [] (.sl _ _ (by simp))
 ·have hle:off+xs.length=ys.length:=by rw[←h3];simp;omega
  have ht:(ys.drop off).take xs.length=xs:=by rw[h3,List.take_length]
  refine .own id off _ es ys zs h1 (by omega) hl (fun i k1 k2=>?_);simp only[ht] at k1 ⊢;exact hz i k1 k2
def pR(ds:List Deferred)(a:Act):Act:={ a with defers:=a.defers++ds }
theorem FK(ds:List Deferred)(a:Act)(d:Option Tmp)(v:Value):(pR ds a).put d v=pR ds (a.put d v):=by cases d<;>rfl
theorem Zi(ds:List Deferred)(a:Act):(pR ds a).eval=a.eval:=by
 funext x;cases x<;>rfl
theorem Zm7{P:Program}{o:Oper}{ds:List Deferred}{a:Act}{next next':Act→World→Prop}{Q Q':Exit→Act→World→Prop}(hn:∀a w,next a w→next' (pR ds a) w)(hq:∀e a w,Q e a w→Q' e (pR ds a) w) :
  ∀(r:Result Next),o.upon P a next Q r→o.upon P (pR ds a) next' Q' r:=by
 intro r h;unfold Oper.upon at h ⊢;split at h
 ·rw[FK];exact hn _ _ h
 ·rw[FK];exact hn _ _ h
 ·rename_i d w'
  have:=hn _ _ h;rw[←FK] at this;exact this
 ·refine h.mono fun e w' h2=>?_
  cases e with
  | returned v=>simp only at h2 ⊢;rw[FK];exact hn _ _ h2
  | panicked ch=>exact hq _ _ _ h2
  | outgrown=>obtain⟨a',w2,h3⟩:=h2;exact⟨_,_,hq _ _ _ h3⟩
 ·refine h.mono fun v w' h2=>?_
  rw[FK];exact hn _ _ h2
 ·exact hq _ _ _ h
 ·exact h.elim
theorem MC{P:Program}{ops:Array Oper}{ds:List Deferred}{Q Q':Exit→Act→World→Prop}(hq:∀e a w,Q e a w→Q' e (pR ds a) w):∀(l:List Nat) (a:Act) (w:World),wpOps P ops Q l a w→wpOps P ops Q' l (pR ds a) w
 | [],a,w,h=>hq _ _ _ h
 | i::l,a,w,h=>by
  simp only[wpOps] at h ⊢;split
  ·rename_i ho
   rw[ho] at h;exact MC hq l a w h
  ·rename_i o ho
   rw[ho] at h;simp only at h;have ht:(pR ds a).tmps=a.tmps:=rfl;rw[ht];split at h
   ·rename_i hw
    rw[if_pos hw];rcases h with h | ⟨h1,a',w',h2⟩
    ·left
     unfold Oper.wp at h ⊢;rw[Zi];exact Zm7 (fun a w h=>MC hq l a w h) hq _ h
    ·right
     refine⟨?_,_,_,hq _ _ _ h2⟩;unfold Oper.asks at h1 ⊢;rw[Zi];exact h1
   ·rename_i hw
    rw[if_neg hw,FK];exact MC hq l _ w h
theorem ZhL{P:Program}(hm:P.follows .mixedOrders=true){n:Nat}{ops:Array Oper}{Q:Exit→AF→St→Prop}{a:AF}{S:St}(h:AW P (kL P n false ops) Q a S){E:Env}{w:World}{act:Act}(hG:jd P E.H)(hS:aU E S w)(hF:dR E n a act) :
  wpOps P ops (lD E S w n Q) (List.range ops.size) act w:=by
 unfold kL at h;rw[if_neg (by simp)] at h;split at h
 ·rename_i os hos
  obtain⟨h1,h2⟩:=y8 hos
  have hget:∀k (hk:k < os.length),∃o,ops[k]? = some o∧lC P n ops o=some (os[k]):=fun k hk=>by
   obtain⟨o,a1,a2⟩:=h2 k hk;exact⟨o,by simpa using a1,a2⟩
  split at h
  ·simp only[AW] at h
   exact Jh (id:=0) (p:=none) hget (fun _ e=>by cases e) (by rw[h1];simp) h hG hS hF
  ·simp only[AW] at h
   exact Jh (id:=0) (p:=none) hget (fun _ e=>by cases e) (by rw[h1];simp) (Fu _ _ h) hG hS hF
 ·cases hl:zn P n ops ops.toList.reverse with
  | kL os p=>
   rw[hl] at h;have x:=Zt hl;simp only[AW] at h;exact Jh (id:=0) x.hc x.ht x.hs h hG hS hF
  | bad=>rw[hl] at h;simp only[AW] at h
  | _=>
   exfalso;cases hr:ops.toList.reverse with
   | nil=>rw[hr] at hl;simp[zn] at hl
   | cons o rest=>
    rw[hr] at hl;simp only[zn] at hl;split at hl<;>(try split at hl)<;>cases hl
def BQ:Code→Bool
 | .region _ _ d=>!d
 | .seq a b=>BQ a && BQ b
 | .ret | .skip=>true
 | _=>false
theorem Zn8{P:Program}(hm:P.follows .mixedOrders=true){n:Nat}(ds:List Deferred):∀(c:Code) (ac:AC),vS P n c=some ac→BQ c=true→∀(Q:Exit→AF→St→Prop) (a:AF) (S:St),AW P ac Q a S→∀E w act,jd P E.H→aU E S w→dR E n a act→
  c.wp P (fun e act' w'=>∃J9,act'=pR ds J9∧lD E S w n Q e J9 w') (pR ds act) w:=by
 intro c;induction c with
 | skip=>
  intro ac hc hs Q a S h E w act hG hS hF;simp only[vS,dL,Option.some.injEq] at hc;subst hc;exact wp_skip ⟨act,rfl,a,S,E,h,hS,hF,.refl _ _ _⟩
 | ret=>
  intro ac hc hs Q a S h E w act hG hS hF;simp only[vS,dL,Option.some.injEq] at hc;subst hc;exact wp_ret ⟨act,rfl,a,S,E,h,hS,hF,.refl _ _ _⟩
 | region id ops dr=>
  intro ac hc hs Q a S h E w act hG hS hF;have e:=Fh (R:=kL) hc;subst e;simp only[BQ,Bool.not_eq_true'] at hs;subst hs;exact wp_region (MC (fun e a w hp=>⟨a,rfl,hp⟩) _ _ _ (ZhL hm h hG hS hF))
 | seq x y dU ihy=>
  intro ac hc hs Q a S h E w act hG hS hF;simp only[vS,dL,Option.map_eq_some_iff,Option.bind_eq_some_iff] at hc;obtain⟨X,hX,Y,hY,rfl⟩:=hc;simp only[BQ,Bool.and_eq_true] at hs;simp only[AW] at h;refine wp_seq (wp_mono (dU X hX hs.1 _ a S h E w act hG hS hF) fun e act' w' hp=>?_);obtain⟨J9,rfl,a',S',E',q,s,r,ev⟩:=hp;cases e with
  | normal=>
   exact wp_mono (ihy Y hY hs.2 Q a' S' q E' w' J9 (hG.le ev.bL.le) s r) fun e iR w2 ⟨Eb,e3,hp2⟩=>⟨Eb,e3,hp2.trans ev⟩
  | _=>exact⟨J9,rfl,a',S',E',q,s,r,ev⟩
 | _=>intro ac hc hs;simp[BQ] at hs
def Ns:Code→Option (Nat×Nat×Code)
 | .seq (.region _ ⟨[⟨some d,.call ⟨.builtin .recover,⟨[]⟩,_⟩,_,_,_,none⟩,⟨some e,.assign (.tmp d'),_,_,_,none⟩]⟩ false) rest=>if d'=d then some (d,e,rest) else none
 | _=>none
def Dx(P:Program)(f:FuncId):Option (Nat×Nat×AC×Nat):=
 match P.funcs[f]? with
 | none=>none
 | some fn=>match fn.body with
  | none=>none
  | some c=>if (fn.name == "runtime.NumGoroutine")=false∧fn.results=#[] then match Ns c with
   | none=>none
   | some (d,e,rest)=>if d < fn.ntmps∧e < fn.ntmps then (comp P fn.ntmps rest).map fun ac=>(d,e,ac,fn.ntmps) else none
   else none
theorem ZhJ{c:Code}{d e:Nat}{rest:Code}(h:Ns c=some (d,e,rest)):∃id o p,c=.seq (.region id #[o,p] false) rest∧(∃ts,o.op=.call ⟨.builtin .recover,#[],ts⟩)∧o.guard=none∧o.dst=some d∧p.op=.assign (.tmp d)∧p.guard=none∧p.dst=some e:=by
 unfold Ns at h;split at h
 ·split at h
  ·rename_i hd
   cases h;subst hd;exact⟨_,_,_,rfl,⟨_,rfl⟩,rfl,rfl,rfl,rfl,rfl⟩
  ·cases h
 ·cases h
theorem Zr{P:Program}{f:FuncId}{d e n:Nat}{ac:AC}(h:Dx P f=some (d,e,ac,n)):∃fn c rest,P.funcs[f]? = some fn∧(fn.name == "runtime.NumGoroutine")=false∧fn.body=some c∧fn.results=#[]∧Ns c=some (d,e,rest)∧d < n∧e < n∧comp P n rest=some ac∧fn.ntmps=n:=by
 unfold Dx at h;split at h
 ·cases h
 ·rename_i fn hf
  split at h
  ·cases h
  ·rename_i c hc
   split at h
   ·rename_i hcond
    split at h
    ·cases h
    ·rename_i d' e' rest hr
     split at h
     ·rename_i hlt
      simp only[Option.map_eq_some_iff,Prod.mk.injEq] at h;obtain⟨ac',h1,rfl,rfl,rfl,rfl⟩:=h;exact⟨fn,c,rest,hf,hcond.1,hc,hcond.2,hr,hlt.1,hlt.2,h1,rfl⟩
     ·cases h
   ·cases h
def sW:FrameMode→Value×FrameMode
 | .panicking [{ v,recovered:=false,goexit:=false }]=>(v,.panicking [{ v,recovered:=true }])
 | u=>(.nilIface,u)
theorem Zqg{P:Program}(hm:P.follows .mixedOrders=true){f:FuncId}{d e n:Nat}{ac:AC}(h:Dx P f=some (d,e,ac,n)){args:List AV}(hn:args.length≤n){S:St}{u:FrameMode}(hu:u=.returning∨∃v,u=.panicking [{ v,recovered:=false }])(hs:xX (sW u).1=true){K:St→Prop}
  (hb:AW P ac (fun ex a S'=>(ex=.normal∨ex=.ret)∧K S') (((bC args).put (some d) (.v (sW u).1)).put (some e) (.v (sW u).1)) S) :
  ∀E w vals,jd P E.H→aU E S w→jl E args vals→CallsD P f vals u w fun en u2 w'=>∃S' E' v,en=.returned v∧u2=(sW u).2∧K S'∧aU E' S' w'∧Ev E S w E' S' w':=by
 intro E w vals hG hS hv;obtain⟨fn,c,rest,hf,hnm,hbd,hres,hinv,hd,he,hac,rfl⟩:=Zr h;obtain⟨id,o,p,rfl,⟨ts,ho⟩,hog,hod,hp,hpg,Wt⟩:=ZhJ hinv;refine callsD_of_wpS hf hbd fun c₀ cs hc=>?_
 have GV:=yZ hv hn;have hF1:=(GV.put (dst:=some d) (by intro d' e';cases e';exact hd) (.v (sW u).1 hs)).put (dst:=some e) (by intro d' e';cases e';exact he) (.v (sW u).1 hs)
 have hrun:∀(act:Act) (w:World),(execOp act.eval o).run P w=.ok .recover w:=by
  intro act w;simp only[execOp,ho,resolve,invoke,Sem.run_bind];rfl
 have hrec:∀{Q:Exit→Act→List Frame→World→Prop} {act:Act} {w:World},Q .normal ((act.put (some d) (sW u).1).put (some e) (sW u).1) ({ c₀ with mode:=(sW u).2 }::cs) w→d < act.tmps.size→wpOpsS P #[o,p] Q (List.range 2) act (c₀::cs) w:=by
  intro Q act w hq hsz;have hl:List.range 2=[0,1]:=rfl;have g0:(#[o,p]:Array Oper)[0]? = some o:=rfl;have g1:(#[o,p]:Array Oper)[1]? = some p:=rfl
  have abd:∀(v:Value) (w:World),(execOp (act.put (some d) v).eval p).run P w=.ok (.value v) w:=by
   intro v w;simp only[execOp,hp]
   have:(act.put (some d) v).eval (.tmp d)=v:=by
    simp[Act.put,Act.eval,hsz]
   rw[this];rfl
  have fin:∀(v:Value) (cs':List Frame),Q .normal ((act.put (some d) v).put (some e) v) cs' w→wpOpsS P #[o,p] Q [1] (act.put o.dst v) cs' w:=by
   intro v cs' hq';rw[hod];simp only[wpOpsS,g1,Region.wanted,hpg,if_true,abd];rw[Oper.upon_value,Wt];exact hq'
  rw[hl];unfold wpOpsS;simp only[g0,Region.wanted,hog,if_true,hrun];rcases hu with rfl | ⟨v,rfl⟩
  ·have hr:recoverD (c₀::cs)=none:=by simp only[recoverD,hc]
   rw[hr];have hcc:({ c₀ with mode:=.returning }:Frame)=c₀:=by rw[←hc]
   simp only[sW,hcc] at hq;exact fin _ _ hq
  ·have hr:recoverD (c₀::cs)=some (v,{ c₀ with mode:=.panicking [{ v,recovered:=true }] }::cs):=by simp only[recoverD,hc]
   rw[hr];exact fin _ _ hq
 refine wpS_seq (wpS_region (hrec ?_ ?_))
 ·show(Code.wpS P rest _ _ _ _)
  refine wpS_of_wp (wp_mono (Tn hm ac rest hac _ _ _ hb E w _ hG hS hF1) fun ex act' w' hpost=>?_);obtain⟨a',S',E',⟨hex,hk⟩,hS',hF',hev⟩:=hpost;have hrs:=I6 (P:=P) (fn:=fn) (ts:=[]) (by simpa using hres) act'.tmps w';rcases hex with rfl | rfl
  ·exact⟨hF'.defers,_,rfl,_,hrs,S',E',_,rfl,rfl,hk,hS',hev⟩
  ·exact⟨hF'.defers,_,rfl,_,hrs,S',E',_,rfl,rfl,hk,hS',hev⟩
 ·have:=GV.size
  rw[this];exact hd
structure M1 where
 a0:AC
 ag:AC
 d:Nat
 g:FuncId
 x:Nat
 y:Nat
 ar:AC
 nt:Nat
 rs:List RV
def NA:Code→Option (Code×Code×Nat×FuncId×Nat×Nat×Code)
 | .seq c0 (.seq cg (.seq (.region _ ⟨[⟨some d,.makeFunc (.func g) ⟨[]⟩ ⟨[.tmp x,.tmp y]⟩,_,_,_,none⟩,⟨none,.defer ⟨.value (.tmp d'),⟨[]⟩,_⟩,_,_,_,none⟩]⟩ false) rest))=>if d=d' then some (c0,cg,d,g,x,y,rest) else none
 | _=>none
def GD(P:Program)(f:FuncId):Option M1:=
 match P.funcs[f]? with
 | none=>none
 | some fn=>match fn.body with
  | none=>none
  | some c=>if (fn.name == "runtime.NumGoroutine")=false then match NA c with
   | none=>none
   | some (c0,cg,d,g,x,y,rest)=>if d < fn.ntmps∧BQ rest=true then
     (vS P fn.ntmps c0).bind fun A0=>(vS P fn.ntmps cg).bind fun AG=>(vS P fn.ntmps rest).bind fun AR=>(fn.results.toList.mapM (sZ P)).map fun rs=>⟨A0,AG,d,g,x,y,AR,fn.ntmps,rs⟩
    else none
   else none
theorem Zhs{c c0 cg rest:Code}{d x y:Nat}{g:FuncId}(h:NA c=some (c0,cg,d,g,x,y,rest)):∃id o p,c=.seq c0 (.seq cg (.seq (.region id #[o,p] false) rest))∧o.op=.makeFunc (.func g) #[] #[.tmp x,.tmp y]∧o.guard=none∧o.dst=some d∧
  (∃ts,p.op=.defer ⟨.value (.tmp d),#[],ts⟩)∧p.guard=none∧p.dst=none:=by
 unfold NA at h;split at h
 ·split at h
  ·rename_i hd
   cases h;subst hd;exact⟨_,_,_,rfl,rfl,rfl,rfl,⟨_,rfl⟩,rfl,rfl⟩
  ·cases h
 ·cases h
theorem ZpM{P:Program}{f:FuncId}{m:M1}(h:GD P f=some m):∃fn c c0 cg rest,P.funcs[f]? = some fn∧(fn.name == "runtime.NumGoroutine")=false∧fn.body=some c∧NA c=some (c0,cg,m.d,m.g,m.x,m.y,rest)∧m.d < fn.ntmps∧BQ rest=true∧
  vS P fn.ntmps c0=some m.a0∧vS P fn.ntmps cg=some m.ag∧vS P fn.ntmps rest=some m.ar∧fn.results.toList.mapM (sZ P)=some m.rs∧fn.ntmps=m.nt:=by
 unfold GD at h;split at h
 ·cases h
 ·rename_i fn hf
  split at h
  ·cases h
  ·rename_i c hc
   split at h
   ·rename_i hnm
    split at h
    ·cases h
    ·rename_i c0 cg d g x y rest hd
     split at h
     ·rename_i hcond
      simp only[Option.bind_eq_some_iff,Option.map_eq_some_iff] at h;obtain⟨A0,h0,AG,h1,AR,h2,rs,h3,rfl⟩:=h;exact⟨fn,c,c0,cg,rest,hf,hnm,hc,hd,hcond.1,hcond.2,h0,h1,h2,h3,rfl⟩
     ·cases h
   ·cases h
def EC(P:Program)(wB:AC)(dr er:Nat)(rs:List RV)(cap:List AV)(K:AV→St→Prop)(u:FrameMode)(a':AF)(S':St):Prop:=
 AW P wB (fun ex _ S2=>(ex=.normal∨ex=.ret)∧∃xs,iJ a' S2.g rs=some xs∧K (iO xs) S2) (((bC cap).put (some dr) (.v (sW u).1)).put (some er) (.v (sW u).1)) S'
def NU(P:Program)(wB:AC)(dr er:Nat)(rs:List RV)(cap:List AV)(K:AV→St→Prop):Exit→AF→St→Prop:=fun e a' S'=>
 match e with
 | .ret=>EC P wB dr er rs cap K .returning a' S'
 | .normal=>EC P wB dr er rs cap K .returning a' S'
 | .panic ch=>∃v,ch=[{ v,recovered:=false }]∧xX v=true∧EC P wB dr er rs cap K (.panicking [{ v,recovered:=false }]) a' S'
 | _=>False
def Gt(P:Program)(m:M1)(wB:AC)(dr er:Nat)(K:AV→St→Prop):Exit→AF→St→Prop:=fun e a S=>
 match e with
 | .ret=>∃xs,iJ a S.g m.rs=some xs∧K (iO xs) S
 | .normal=>AW P m.ar (NU P wB dr er m.rs [a m.x,a m.y] K) (a.put (some m.d) (.aO m.g [] [a m.x,a m.y])) S
 | _=>False
def OA(P:Program)(m:M1)(wB:AC)(dr er:Nat)(K:AV→St→Prop):Exit→AF→St→Prop:=fun e a S=>
 match e with
 | .normal=>AW P m.ag (Gt P m wB dr er K) a S
 | _=>False
theorem ZkY{P:Program}(hm:P.follows .mixedOrders=true){f:FuncId}{m:M1}(h:GD P f=some m){dr er nr:Nat}{wB:AC}(h':Dx P m.g=some (dr,er,wB,nr))(hnr:2≤nr){args:List AV}(hn:args.length≤m.nt){S:St}{K:AV→St→Prop}
  (hb:AW P m.a0 (OA P m wB dr er K) (bC args) S):aQ P f args S K:=by
 obtain⟨fn,c,c0,cg,rest,hf,hnm,hbd,hinv,hd,hstr,hc0,hcg,hcr,hrs,hnt⟩:=ZpM h;obtain⟨id,o,p,rfl,ho,hog,hod,⟨ts,hp⟩,hpg,Wt⟩:=Zhs hinv;refine⟨tJ hf hnm hbd,fun E w vals hG hS hv=>?_⟩;rw[←hnt] at hn;refine calls_of_wp_defers hf hbd (wp_seq (wp_mono (SI hm m.a0 c0 hc0 _ _ _ hb E w _ hG hS (yZ hv hn)) fun e act w1 hp1=>?_));obtain⟨a1,S1,E1,q1,hS1,hF1,uN⟩:=hp1;cases e<;>simp only[OA] at q1;refine wp_seq (wp_mono (SI hm m.ag cg hcg _ _ _ q1 E1 w1 act (hG.le uN.bL.le) hS1 hF1) fun e iR w2 hp2=>?_);obtain⟨a2,S2,E2,q2,hS2,hF2,vH⟩:=hp2;cases e<;>simp only[Gt] at q2
 case ret=>
  obtain⟨xs,hx,hk⟩:=q2;obtain⟨val,k1,k2⟩:=yX (P:=P) (fn:=fn) hS2 hF2 hrs hx;show Leaves P fn iR.tmps _ iR.defers .returning w2
  rw[hF2.defers];exact⟨val,k1,val,_,S2,E2,rfl,hk,hS2,k2,uN.trans vH⟩
 case normal=>
  have rx:aK E2 (a2 m.x) (iR.eval (.tmp m.x)):=hF2.at_ m.x
  have ry:aK E2 (a2 m.y) (iR.eval (.tmp m.y)):=hF2.at_ m.y
  have yK:aK E2 (.aO m.g [] [a2 m.x,a2 m.y]) (.func (.func m.g) #[] #[iR.eval (.tmp m.x),iR.eval (.tmp m.y)]):=by
   refine .aO m.g [] [a2 m.x,a2 m.y] #[] #[iR.eval (.tmp m.x),iR.eval (.tmp m.y)] rfl rfl (fun j hj=>by simp at hj) (fun j hj=>?_)
   match j,hj with
   | 0,_=>exact rx
   | 1,_=>exact ry
  have Cc:=hF2.put (dst:=some m.d) (by intro d' e';cases e';exact hd) yK
  let D:Deferred:={ target:=.fn (.func m.g) #[iR.eval (.tmp m.x),iR.eval (.tmp m.y)],args:=#[] }
  have ab9:(execOp iR.eval o).run P w2=.ok (.value (.func (.func m.g) #[] #[iR.eval (.tmp m.x),iR.eval (.tmp m.y)])) w2:=by
   simp[execOp,ho,Instr.makeFunc]
  have hsz:=hF2.size
  have abb:(execOp (iR.put (some m.d) (.func (.func m.g) #[] #[iR.eval (.tmp m.x),iR.eval (.tmp m.y)])).eval p).run P w2=.ok (.defer D) w2:=by
   have he:(iR.put (some m.d) (.func (.func m.g) #[] #[iR.eval (.tmp m.x),iR.eval (.tmp m.y)])).eval (.tmp m.d)=.func (.func m.g) #[] #[iR.eval (.tmp m.x),iR.eval (.tmp m.y)]:=by
    have:m.d < iR.tmps.size:=by rw[hsz];exact hd
    simp[Act.put,Act.eval,this]
   simp only[execOp,hp,Sem.run_bind,CU _ _ _ _ _ he,Result.andThen_ok];simp[D]
  refine wp_seq (wp_region ?_);have hl:List.range (#[o,p]:Array Oper).size=[0,1]:=rfl;have g0:(#[o,p]:Array Oper)[0]? = some o:=rfl;have g1:(#[o,p]:Array Oper)[1]? = some p:=rfl;rw[hl];simp only[wpOps,g0,g1,Region.wanted,hog,hpg,if_true];left;unfold Oper.wp;rw[ab9,Oper.upon_value,hod];left;rw[abb,Oper.upon_defer,Wt]
  have hact:({ (iR.put (some m.d) (.func (.func m.g) #[] #[iR.eval (.tmp m.x),iR.eval (.tmp m.y)])) with defers:=D::(iR.put (some m.d) (.func (.func m.g) #[] #[iR.eval (.tmp m.x),iR.eval (.tmp m.y)])).defers }:Act).put none undef=pR [D] (iR.put (some m.d) (.func (.func m.g) #[] #[iR.eval (.tmp m.x),iR.eval (.tmp m.y)])):=by
   have:=Cc.defers;simp only[Act.put,pR] at this ⊢;rw[this];rfl
  rw[hact];show Code.wp P rest _ _ _
  refine wp_mono (Zn8 hm [D] rest m.ar hcr hstr _ _ _ q2 E2 w2 _ (hG.le (uN.trans vH).bL.le) hS2 Cc) fun e abn w4 hp4=>?_
  obtain⟨yG,rfl,a5,S5,E5,q5,hS5,hF5,O4⟩:=hp4
  have hcap:jl E5 [a2 m.x,a2 m.y] (#[]++#[iR.eval (.tmp m.x),iR.eval (.tmp m.y)]):=by
   refine⟨rfl,fun j hj=>?_⟩
   match j,hj with
   | 0,_=>exact rx.mono O4.bL.le
   | 1,_=>exact ry.mono O4.bL.le
  obtain⟨fr,cr,abC,hfr,ab0,aaH,_⟩:=Zr h';have aaM:qY P m.g:=tJ hfr ab0 aaH
  have aaU:(invoke D.target D.args).run P w4=.ok (.enter m.g (#[]++#[iR.eval (.tmp m.x),iR.eval (.tmp m.y)])) w4:=by
   simp only[invoke];exact CW aaM _ _
  have hdef:(pR [D] yG).defers=[D]:=by
   simp only[pR,hF5.defers,List.nil_append]
  have fin:∀(u:FrameMode),(u=.returning∨∃v,u=.panicking [{ v,recovered:=false }])→settle (sW u).2=.returning→xX (sW u).1=true→EC P wB dr er m.rs [a2 m.x,a2 m.y] K u a5 S5→
    Leaves P fn yG.tmps (fun e w'=>∃v r S' E',e=.returned v∧K r S'∧aU E' S' w'∧aK E' r v∧Ev E S w E' S' w') [D] u w4:=by
   intro u hu hset hsc hq;refine⟨by rcases hu with rfl | ⟨v,rfl⟩<;>simp,_,_,_,_,rfl,aaU,?_⟩;refine(Zqg hm h' (by simp;omega) hu hsc hq E5 w4 _ (hG.le ((uN.trans vH).trans O4).bL.le) hS5 hcap).mono ?_;rintro en u2 w6 ⟨S6,E6,v6,rfl,rfl,⟨xs,hx,hk⟩,hS6,ev6⟩;obtain⟨val,k1,k2⟩:=yX (P:=P) (fn:=fn) hS6 (hF5.mono ev6.bL.le) hrs hx;show Leaves P fn yG.tmps _ [] (settle (sW u).2) w6
   rw[hset];exact⟨val,k1,val,_,S6,E6,rfl,hk,hS6,k2,((uN.trans vH).trans O4).trans ev6⟩
  have Wx:(pR [D] yG).tmps=yG.tmps:=rfl;cases e<;>simp only[NU] at q5
  case normal=>
   show Leaves P fn (pR [D] yG).tmps _ (pR [D] yG).defers .returning w4
   rw[hdef,Wx];exact fin _ (.inl rfl) rfl rfl q5
  case ret=>
   show Leaves P fn (pR [D] yG).tmps _ (pR [D] yG).defers .returning w4
   rw[hdef,Wx];exact fin _ (.inl rfl) rfl rfl q5
  case panic ch=>
   obtain⟨v,rfl,hsc,hq⟩:=q5;show Leaves P fn (pR [D] yG).tmps _ (pR [D] yG).defers (.panicking _) w4
   rw[hdef,Wx];exact fin _ (.inr ⟨v,rfl⟩) rfl hsc hq
end Go.Rf
namespace Go.Rf
def Rm:AC:= (sq [ro 2 (.box 3 (.t 0)),ro 4 (.mv (.c (.v (.bool false))))] (sq [rF 7 1 2,rL 8 7,ro 9 (.len (.t 8)),rF 10 2 2,rL 11 10,ro 12 (.len (.t 11)),ro 13 (.bin .add (.t 9) (.t 12)),rm 5 13] (.seq (sq [ro 6 (.mv (ci 0))] (.block 0 (.loop (.seq (sq [rm 14 6,rF 15 1 2,rL 16 15,ro 17 (.len (.t 16)),ro 18 (.bin .lss (.t 14) (.t 17)),rm 19 18,rg 20 19 true (.mv (.t 5)),rg 21 19 true (.mv (.t 1)),rg 22 19 true (.bin .leq (.t 20) (.t 21)),ro 23 (.pick (.t 19) (.t 22) (.c (.v (.bool false))))] (.cond (.t 23) .skip (.exit 0))) (.seq (.block 1 (.reg none [rm 26 5,rF 27 1 2,rL 28 27,rm 29 6,ro 30 (.aI 1 (.t 28) (.t 29)),rL 31 30,ro 32 (.len (.t 31)),ro 33 (.bin .add (.t 26) (.t 32)),rm 5 33])) (.reg none [rm 24 6,ro 25 (.bin .add (.t 24) (ci 1)),rm 6 25])))))) (sq [rm 34 5,rm 35 1,ro 36 (.bin .gtr (.t 34) (.t 35)),rm 4 36] .ret))))
def zA(l:List (List Int)):Int:=(l.map fun r=>(r.length:Int)).sum
def tQ(d:aB)(i:Nat):Int:=d.next.length+d.fin.length+zA (d.next.take i)
theorem R7:∀l,0≤zA l
 | []=>by simp[zA]
 | r::l=>by have:=R7 l;simp only[zA,List.map_cons,List.sum_cons] at this ⊢;omega
theorem ZhP(d:aB)(i:Nat)(h:i < d.next.length):tQ d (i+1)=tQ d i+(d.next[i]).length:=by
 unfold tQ zA;rw[List.take_add_one,List.getElem?_eq_getElem h,List.map_append,List.sum_append];simp;omega
theorem Zm4(d:aB)(i:Nat):tQ d i≤tQ d d.next.length:=by
 unfold tQ;have h:d.next=d.next.take i++d.next.drop i:=by simp
 have h2:zA d.next=zA (d.next.take i)+zA (d.next.drop i):=by
  conv=>lhs;rw[h]
  simp only[zA,List.map_append,List.sum_append]
 have:=R7 (d.next.drop i);simp;omega
def Dl(d:aB)(most:Int):Bool:=decide (most < tQ d d.next.length)
def ZpI(d:aB)(most:Int)(m:Nat)(f:AF)(S:St):Prop:=
 ∃i:Nat,i≤d.next.length∧m=d.next.length - i∧f 6=ak i∧f 5=ak (tQ d i)∧f 1=ak most∧f 2=.ptr 0 0 0∧S.g 0=some (.arr 3 [aH d])∧tQ d i≤1000000000000000
theorem Z7m(P:Program)(d:aB)(most:Int)(ok:lU d)(hm:most≤3000) :
  AW P Rm (bR [4] (dx (aG (Dl d most)))) (bC [aH d,ak most]) S0:=by
 have h1:=ok.next
 have h2:=ok.fin;unfold Len at h1 h2;have hz:tQ d 0=d.next.length+d.fin.length:=by simp[tQ,zA]
 simp[jv,jk,jO,bZ,dG,dJ,dD,ex,aj,cO,dO,bJ,aD,bE,dn,dN,bM,bX,dA,cK,cB,aY,AV.solid,S0,ak,aG,Rm,aH,aN,bA];rw[aZ _ (by omega)];refine kD (ZpI d most) d.next.length ?_ ?_
 ·refine⟨0,by omega,by omega,?_,?_,?_,?_,?_,by omega⟩<;>simp[aj,bJ,bO,ak,aH,aN,bA,aD,hz]
 ·rintro m f S ⟨i,hi,rfl,e6,e5,e1,e2,eg,hb⟩
  have hnn:0≤tQ d i:=by have:=R7 (d.next.take i);unfold tQ;omega
  have hle2:=Zm4 d i;by_cases hlt:i < d.next.length
  ·have hr:=ok.rows _ (List.getElem_mem hlt)
   unfold Len at hr;have hs:=ZhP d i hlt;by_cases hle:tQ d i≤most
   ·simp[jv,jk,jO,jG,jY,jW,bZ,fq,dG,dJ,dZ,eX,dD,ex,aj,cO,dO,eU,dn,bM,bX,dP,dA,dH,cK,cB,aY,ak,e6,e5,e1,e2,eg,aH,aN,bA,au,hlt,hle]
    rw[aZ _ (by omega),aZ _ (by omega)];refine⟨d.next.length - (i+1),by omega,i+1,by omega,rfl,?_,?_,?_,?_,?_,by omega⟩<;>simp[aj,e1,e2,eg,ak,aH,aN,bA,hs]
   ·have hg:Dl d most=true:=by simp[Dl];omega
    have hgt:most < tQ d i:=by omega
    simp[jv,jk,jG,jP,jI,jN,bZ,eu,d9,eT,eB,dG,dJ,dZ,eX,dD,ex,aj,cO,dn,bM,bX,dA,dH,cK,cB,aY,ak,e6,e5,e1,e2,eg,aH,aN,bA,hlt,hle,hg,hgt];exact iF true _
  ·have hin:i=d.next.length:=by omega
   have hg:Dl d most=decide (most < tQ d i):=by rw[Dl,hin]
   simp[jv,jk,jG,jP,jI,jN,bZ,eu,d9,eT,eB,dG,dJ,dZ,fG,dD,ex,aj,cO,dO,dn,bM,bX,dA,dH,cK,cB,aY,ak,e6,e5,e1,e2,eg,aH,aN,bA,hlt,hg];exact iF _ _
structure Gr where
 next:List (List Int)
 fin:List Bool
def Gr.n(g:Gr):Nat:=g.next.length
def Gr.edge(g:Gr)(s t:Nat):Prop:=∃row,g.next[s]? = some row∧(t:Int)∈row
def Gr.rY(g:Gr)(s:Nat):Bool:=g.fin.getD s false
structure JQ(g:Gr):Prop where
 fin:g.fin.length=g.next.length
 n:g.next.length≤9000
 rows:∀r∈g.next,r.length≤400
 at_:∀r∈g.next,∀t∈r,t = -1∨(0≤t∧t < g.next.length)
def rd(l:List Int)(s:Nat):Int:=l.getD s (-1)
theorem Nr{l:List Int}{k:Nat}(hk:k < l.length)(x:Int)(s:Nat):rd (l.set k x) s=if s=k then x else rd l s:=by
 unfold rd;simp only[List.getD_eq_getElem?_getD,List.getElem?_set];by_cases h:k=s
 ·subst h;simp[hk]
 ·rw[if_neg h,if_neg (Ne.symm h)]
def qG(l:List Int):Nat:=l.countP (fun x=>decide (0≤x))
theorem TP{l:List Int}{k:Nat}(hk:k < l.length)(h:rd l k < 0){x:Int}(hx:0≤x):qG (l.set k x)=qG l+1:=by
 have e:l[k]=rd l k:=by simp[rd,List.getD_eq_getElem?_getD,List.getElem?_eq_getElem hk]
 unfold qG;rw[List.countP_set hk];have h1:decide (0≤l[k])=false:=by simp;omega
 simp[h1,hx]
theorem Jt(l:List Int):qG l≤l.length:=List.countP_le_length
structure lV(g:Gr)(fs:List Int):Prop where
 len:fs.length=g.n
 val:∀s,s < g.n → -1≤rd fs s
 lt:∀s,s < g.n→rd fs s < g.n
 zero:∀s,s < g.n→(rd fs s=0↔g.rY s=true)
 pre:∀s,s < g.n→0 < rd fs s→∃t,t < g.n∧g.edge s t∧rd fs t=rd fs s - 1
 Hw:∀s t,s < g.n→t < g.n→g.edge s t→0≤rd fs t→0≤rd fs s∧rd fs s≤rd fs t+1
structure sK(g:Gr)(far:List Int)(q:List Nat):Prop where
 len:far.length=g.n
 val:∀s,s < g.n → -1≤rd far s
 zero:∀s,s < g.n→(rd far s=0↔g.rY s=true)
 pre:∀s,s < g.n→0 < rd far s→∃t,t < g.n∧g.edge s t∧rd far t=rd far s - 1
 qa:∀s∈q,s < g.n∧0≤rd far s
 sorted:q.Pairwise (fun a b=>rd far a≤rd far b)
 top:∀h t,q=h::t→∀s,s < g.n→rd far s≤rd far h+1
 done:∀u,u < g.n→0≤rd far u→u∉q→∀s,s < g.n→g.edge s u→0≤rd far s∧rd far s≤rd far u+1
 cnt:∀s,s < g.n→0≤rd far s→rd far s < qG far
theorem sK.assign{g:Gr}{far:List Int}{h:Nat}{q:List Nat}(b:sK g far (h::q)){s:Nat}(hs:s < g.n)(he:g.edge s h)(hu:rd far s = -1):sK g (far.set s (rd far h+1)) (h::q++[s]):=by
 have hl:s < far.length:=by rw[b.len];exact hs
 obtain⟨hh,hh0⟩:=b.qa h (by simp);have hr:=fun k=>Nr hl (rd far h+1) k
 have hnq:s∉h::q:=fun hm=>by have:=(b.qa s hm).2;omega
 have old:∀u,u < g.n→0≤rd far u→rd (far.set s (rd far h+1)) u=rd far u:=by
  intro u hu1 hu2;rw[hr,if_neg];intro e;subst e;omega
 have hsame:∀u∈h::q,rd (far.set s (rd far h+1)) u=rd far u:=fun u hu1=>old u (b.qa u hu1).1 (b.qa u hu1).2
 refine⟨by rw[List.length_set];exact b.len,fun u hu1=>?_,fun u hu1=>?_,fun u hu1 hp=>?_,fun u hm=>?_,?_,fun h' t' e u hu1=>?_,fun u hu1 h0 hn p hp hep=>?_,fun u hu1 h0=>?_⟩
 ·rw[hr];split
  ·omega
  ·exact b.val u hu1
 ·rw[hr];split
  ·rename_i e;subst e
   have:=b.zero u hu1;constructor
   ·intro h1;omega
   ·intro h1;have:=this.mpr h1;omega
  ·exact b.zero u hu1
 ·by_cases e:u=s
  ·subst e
   refine⟨h,hh,he,?_⟩;rw[hsame h (by simp),hr,if_pos rfl];omega
  ·rw[hr,if_neg e] at hp
   obtain⟨t,t1,t2,t3⟩:=b.pre u hu1 hp;refine⟨t,t1,t2,?_⟩;rw[old t t1 (by omega),hr,if_neg e];exact t3
 ·rcases List.mem_append.mp hm with hm | hm
  ·have:=b.qa u hm;rw[hsame u hm];exact this
  ·simp at hm;subst hm;refine⟨hs,?_⟩;rw[hr,if_pos rfl];omega
 ·rw[List.pairwise_append]
  refine⟨?_,by simp,fun x hx y hy=>?_⟩
  ·refine List.Pairwise.imp_of_mem (fun {a c} ha hc hac=>?_) b.sorted
   rw[hsame a ha,hsame c hc];exact hac
  ·simp at hy;subst hy
   rw[hsame x hx,hr,if_pos rfl];exact b.top h q rfl x (b.qa x hx).1
 ·simp only[List.cons_append,List.cons.injEq] at e
  obtain⟨rfl,_⟩:=e;rw[hsame h (by simp),hr];split
  ·omega
  ·exact b.top h q rfl u hu1
 ·have KF:u≠s:=fun e=>hn (by subst e;simp)
  rw[hr,if_neg KF] at h0;have hnu:u∉h::q:=fun hm=>hn (List.mem_append_left _ hm)
  obtain⟨d1,d2⟩:=b.done u hu1 h0 hnu p hp hep;rw[old p hp d1,hr,if_neg KF];exact⟨d1,d2⟩
 ·rw[TP hl (by omega) (by omega)]
  rw[hr] at h0 ⊢;have hc:=b.cnt h hh hh0;split
  ·omega
  ·rename_i e
   rw[if_neg e] at h0;have:=b.cnt u hu1 h0;omega
theorem sK.pop{g:Gr}{far:List Int}{h:Nat}{q:List Nat}(b:sK g far (h::q))(hp:∀s,s < g.n→g.edge s h→0≤rd far s):sK g far q:=by
 have hsort:=List.pairwise_cons.mp b.sorted;refine⟨b.len,b.val,b.zero,b.pre,fun s hs=>b.qa s (by simp[hs]),hsort.2,fun h' t' e s hs=>?_,fun u hu h0 hn s hs he=>?_,b.cnt⟩
 ·have h1:=b.top h q rfl s hs
  have h2:=hsort.1 h' (by rw[e];simp);omega
 ·by_cases hh:u=h
  ·subst hh
   exact⟨hp s hs he,b.top u q rfl s hs⟩
  ·exact b.done u hu h0 (by simp[hh,hn]) s hs he
theorem sK.ok{g:Gr}{far:List Int}(b:sK g far []):lV g far:=by
 refine⟨b.len,b.val,fun s hs=>?_,b.zero,b.pre,fun s t hs ht he h0=>b.done t ht h0 (by simp) s hs he⟩;have hc:=Jt far;have hl:=b.len;by_cases h0:0≤rd far s
 ·have:=b.cnt s hs h0;omega
 ·omega
theorem lV.uniq{g:Gr}{a b:List Int}(ha:lV g a)(hb:lV g b):a=b:=by
 have half:∀{a b:List Int},lV g a→lV g b→∀(k:Nat) s,s < g.n→rd a s=k→0≤rd b s∧rd b s≤k:=by
  intro a b ha hb k;induction k with
  | zero=>
   intro s hs e;have:=(hb.zero s hs).mpr ((ha.zero s hs).mp (by simpa using e));omega
  | succ k ih=>
   intro s hs e;obtain⟨t,t1,t2,t3⟩:=ha.pre s hs (by omega);obtain⟨i1,i2⟩:=ih t t1 (by omega);have:=hb.Hw s t hs t1 t2 i1;omega
 have key:∀s,s < g.n→rd a s=rd b s:=by
  intro s hs;have va:=ha.val s hs;have vb:=hb.val s hs;by_cases h1:0≤rd a s
  ·have h2:=half ha hb (rd a s).toNat s hs (by omega)
   have h3:=half hb ha (rd b s).toNat s hs (by omega);omega
  ·by_cases h2:0≤rd b s
   ·have h3:=half hb ha (rd b s).toNat s hs (by omega)
    omega
   ·omega
 refine List.ext_getElem (by rw[ha.len,hb.len]) fun i h1 h2=>?_
 have:=key i (by rw[←ha.len];exact h1);simpa[rd,List.getD_eq_getElem?_getD,List.getElem?_eq_getElem h1,List.getElem?_eq_getElem h2] using this
theorem sK.run{g:Gr}:∀(m k:Nat) {far:List Int} {q:List Nat},g.n - qG far=m→q.length=k→sK g far q→∃fs,lV g fs:=by
 intro m;induction m using Nat.strongRecOn with
 | _ m ihm=>
  intro k;induction k with
  | zero=>
   intro far q _ hq b;have:q=[]:=List.eq_nil_of_length_eq_zero hq;subst this;exact⟨far,b.ok⟩
  | succ k ihk=>
   intro far q hm hq b;cases q with
   | nil=>simp at hq
   | cons h q=>
    by_cases hx:∃s,s < g.n∧g.edge s h∧rd far s = -1
    ·obtain⟨s,hs,he,hu⟩:=hx
     have hl:s < far.length:=by rw[b.len];exact hs
     have hh0:=(b.qa h (by simp)).2;have hc:=TP hl (by omega) (x:=rd far h+1) (by omega);have hle:=Jt (far.set s (rd far h+1));have hlen:=b.len;rw[List.length_set] at hle;exact ihm (g.n - qG (far.set s (rd far h+1))) (by omega) _ rfl rfl (b.assign hs he hu)
    ·refine ihk hm (by simpa using hq) (b.pop fun s hs he=>?_)
     have hv:=b.val s hs;by_cases h1:rd far s = -1
     ·exact(hx ⟨s,hs,he,h1⟩).elim
     ·omega
structure Gj(g:Gr)(far:List Int)(q:List Nat):Prop where
 len:far.length=g.n
 val:∀s,s < g.n→rd far s=if g.rY s=true then 0 else -1
 q:∀s,s∈q↔s < g.n∧g.rY s=true
theorem Gj.bfs{g:Gr}{far:List Int}{q:List Nat}(h:Gj g far q)(hc:∀s,s < g.n→g.rY s=true→0 < qG far):sK g far q:=by
 have hz:∀s,s < g.n→0≤rd far s→g.rY s=true∧rd far s=0:=by
  intro s hs h0;have:=h.val s hs;split at this
  ·exact⟨by assumption,this⟩
  ·omega
 refine⟨h.len,fun s hs=>?_,fun s hs=>?_,fun s hs h0=>?_,fun s hm=>?_,?_,fun a t e s hs=>?_,fun u hu h0 hn=>?_,fun s hs h0=>?_⟩
 ·rw[h.val s hs];split<;>omega
 ·rw[h.val s hs];split<;>simp_all
 ·have:=(hz s hs (by omega)).2;omega
 ·obtain⟨h1,h2⟩:=(h.q s).mp hm
  refine⟨h1,?_⟩;rw[h.val s h1,if_pos h2];exact Int.le_refl _
 ·refine List.Pairwise.imp_of_mem (R:=fun _ _=>True) (fun {a b} ha hb _=>?_) (List.pairwise_of_forall (fun _ _=>trivial))
  obtain⟨a1,a2⟩:=(h.q a).mp ha;obtain⟨b1,b2⟩:=(h.q b).mp hb;rw[h.val a a1,h.val b b1,if_pos a2,if_pos b2];exact Int.le_refl _
 ·obtain⟨a1,a2⟩:=(h.q a).mp (by rw[e];simp)
  rw[h.val a a1,if_pos a2,h.val s hs];split<;>omega
 ·exact(hn ((h.q u).mpr ⟨hu,(hz u hu h0).1⟩)).elim
 ·have:=hz s hs h0
  have:=hc s hs this.1;omega
theorem Zl3{l:List Int}{s:Nat}(hs:s < l.length)(h:0≤rd l s):0 < qG l:=by
 have e:l[s]=rd l s:=by simp[rd,List.getD_eq_getElem?_getD,List.getElem?_eq_getElem hs]
 refine List.countP_pos_iff.mpr ⟨l[s],List.getElem_mem hs,by rw[e];simpa using h⟩
theorem Gj.X9{g:Gr}{far:List Int}{q:List Nat}(h:Gj g far q):sK g far q:=
 h.bfs fun s hs he=>Zl3 (s:=s) (by rw[h.len];exact hs) (by rw[h.val s hs,if_pos he];exact Int.le_refl _)
theorem Zmv(g:Gr):∃fs,lV g fs:=by
 have h:Gj g ((List.range g.n).map fun s=>if g.rY s=true then (0:Int) else -1) ((List.range g.n).filter g.rY):=
  ⟨by simp,fun s hs=>by simp[rd,List.getD_eq_getElem?_getD,hs],fun s=>by simp[List.mem_filter]⟩
 exact h.X9.run _ _ rfl rfl
noncomputable def qj(g:Gr):List Int:=(Zmv g).choose
theorem Ju(g:Gr):lV g (qj g):=(Zmv g).choose_spec
theorem ZiM{g:Gr}{fs:List Int}(h:lV g fs):qj g=fs:=(Ju g).uniq h
end Go.Rf
namespace Go.Rf
open Go.RowKit
def LY(a b:aB)(i k:Nat):Prop:=∀l,Vl a l→jL a (runT a i l)=jL b (runT b k l)
theorem LY.step{a b:aB}{i k:Nat}(h:LY a b i k){s:Int}(h0:0≤s)(hs:s < a.signs):LY a b (bN a i s) (bN b k s):=fun l hl=>by
 have:=h (s::l) (fun x hx=>by
  rcases List.mem_cons.mp hx with rfl | hx
  ·exact⟨h0,hs⟩
  ·exact hl x hx)
 exact this
theorem Zjd{d:aB}(R:bg d):LY (sD d) d 0 0:=by
 obtain⟨k,h1,h2,h3,o⟩:=R6 R;intro l hl;obtain⟨q',_,_,h⟩:=(ZL R).2.2 l 0 0 o.zero hl;exact h
end Go.Rf
namespace Go.Rf
attribute [local simp] jv jk jX jO jG jY jP jI kF jW jN bZ gL eu fq gH d9 fI gI gy eT gD eB fO gG fM dG dJ dZ eX iq iw fG iy fC fB fu dD gT gU gV fJ fK iC gJ fU gZ gW gY gX ig iD fZ iA fP fQ gM iB dh dF fD gu iE ex aj fA cO dO bJ bO aD bE dX eU dn gP gQ gN gK fV bI cZ dw eD eF fF dN bY bM dz bX dP dA dH eO eG eH dY bW dQ cK cB aY AV.solid S0 ak aG
def Zhi:AC:= (.block 0 (.loop (.seq (sq [rm 6 5,rm 7 0,ro 8 (.len (.t 7)),ro 9 (.bin .lss (.t 6) (.t 8)),rm 10 9,rg 11 10 true (.mv (.t 0)),rg 12 10 true (.mv (.t 5)),rg 13 10 true (.aI 1 (.t 11) (.t 12)),rg 14 10 true (.load none (.t 13)),rg 15 10 true (.mv (.t 1)),rg 16 10 true (.bin .lss (.t 14) (.t 15)),ro 17 (.pick (.t 10) (.t 16) (.c (.v (.bool false))))] (.cond (.t 17) .skip (.exit 0))) (.block 1 (.reg none [rm 18 5,ro 19 (.bin .add (.t 18) (ci 1)),rm 5 19])))))
def Zhj:AC:= (.seq (.reg (some [[],[],[],[],[],[true],[false,true],[],[true,false,false,true],[false,true,false,false,true],[false,false,true,false,false,true]]) [ro 33 (.bS 1 0 (.v (.int .i64 0)) []),rm 34 0,rm 35 5,ro 36 (.slc 1 (.t 34) none (some (.t 35))),ro 37 (.app 1 8 (.t 33) (.t 36)),rm 38 1,ro 39 (.bS 1 1 (.v (.int .i64 0)) [(0,(.t 38))]),ro 40 (.app 1 8 (.t 37) (.t 39)),rm 41 0,rm 42 5,ro 43 (.slc 1 (.t 41) (some (.t 42)) none),ro 44 (.app 1 8 (.t 40) (.t 43)),rm 4 44]) .ret)
def Ym:AC:= (sq [ro 4 (.mv (.c (.sl true [])))] (sq [ro 5 (.mv (ci 0))] (.seq Zhi (.seq (sq [rm 20 5,rm 21 0,ro 22 (.len (.t 21)),ro 23 (.bin .lss (.t 20) (.t 22)),rm 24 23,rg 25 24 true (.mv (.t 0)),rg 26 24 true (.mv (.t 5)),rg 27 24 true (.aI 1 (.t 25) (.t 26)),rg 28 24 true (.load none (.t 27)),rg 29 24 true (.mv (.t 1)),rg 30 24 true (.bin .eql (.t 28) (.t 29)),ro 31 (.pick (.t 24) (.t 30) (.c (.v (.bool false))))] (.cond (.t 31) (sq [rm 32 0,rm 4 32] .ret) .skip)) Zhj))))
structure Rg where
 low:Int
 high:Int
deriving DecidableEq
def ZrN(r:Rg):AV:=.agg [ak r.low,ak r.high]
def U4(l:List Rg):AV:=.sl false (l.map ZrN)
theorem Zl2(r:Rg):aV (ZrN r):=.agg _ (by
 intro y hy;simp only[List.mem_cons,List.not_mem_nil,or_false] at hy;rcases hy with rfl | rfl<;>exact aX _)
theorem Ziw(l:List Rg):aV (U4 l):=CY Zl2 l
def yD:List Int→Int→List Int
 | [],n=>[n]
 | x::l,n=>if x < n then x::yD l n else if x=n then x::l else n::x::l
def Iv(g:Nat→Option aF)(v:AV)(l:List Int):Prop:=(∃t,v=.sl t (l.map ak))∨Vec g v 1 (l.map ak)
theorem Iv.frame{g g':Nat→Option aF}{v:AV}{l:List Int}(h:Iv g v l)(hs:∀i∈v.ids,g' i=g i):Iv g' v l:=by
 rcases h with h | h
 ·exact .inl h
 ·exact .inr (h.frame hs)
theorem Iv.fz{g:Nat→Option aF}{v:AV}{l:List Int}(h:Iv g v l):Fz g v (au l):=by
 rcases h with⟨t,rfl⟩ | h
 ·exact .loose t _ (CY aX l)
 ·exact h.fz aX
theorem Iv.only{g:Nat→Option aF}{v:AV}{l:List Int}(h:Iv g v l):Iv (only v.ids g) v l:=h.frame (fun i hi=>by rw[BJ,if_pos hi])
def Mc:AC:= (sq [ro 4 (.mv (ci 0))] (.seq (sq [rm 6 0,ro 7 (.len (.t 6)),ro 8 (.mv (ci 0))] (.block 0 (.loop (sq [ro 9 (.bin .lss (.t 8) (.t 7))] (.seq (.cond (.t 9) .skip (.exit 0)) (.seq (.block 1 (sq [rm 10 8,rm 5 10] (sq [rm 11 1,rm 12 0,rm 13 5,ro 14 (.aI 1 (.t 12) (.t 13)),rL 15 14,⟨(some 16),.mv (.c .junk),none,(some ((.t 11),[(.t 15)]))⟩] (.cond (.t 16) (sq [rm 17 5,rm 4 17] .ret) .skip)))) (.reg none [ro 18 (.bin .add (.t 8) (ci 1)),rm 8 18]))))))) (sq [ro 4 (.mv (ci (-1)))] .ret)))
def L6(P3I:FuncId):AC:= (sq [ro 4 (.mv (.c (.v (.bool false))))] (sq [rm 5 0,rm 6 1,rk 7 P3I [(.t 5),(.t 6)],ro 8 (.bin .geq (.t 7) (ci 0)),rm 4 8] .ret))
def tV{X:Type}(p:X→Bool)(l:List X):Int:=if l.any p=true then (l.findIdx p:Int) else -1
def Zs7{X:Type}(enc:X→AV)(l:List X)(p:X→Bool)(g:FuncId)(cap:List AV)(m:Nat)(f:AF)(S:St):Prop:=
 ∃i:Nat,i≤l.length∧m=l.length - i∧f 8=ak i∧f 7=ak l.length∧f 0=.sl false (l.map enc)∧f 1=.aO g [] cap∧∀k (h:k < l.length),k < i→p l[k]=false
theorem Yk{P:Program}{X:Type}{enc:X→AV}{l:List X}{p:X→Bool}{g:FuncId}{cap:List AV}(hl:Len l)(he:∀x,(enc x).cells=[enc x])(hcl:∀x,aV (enc x))(hcap:∀y∈cap,aV y)
  (hp:∀x∈l,aM P g (enc x::cap) (aG (p x))):AW P Mc (bR [4] (dx (ak (tV p l)))) (bC [.sl false (l.map enc),.aO g [] cap]) S0:=by
 unfold Len at hl;simp[Mc];refine kD (Zs7 enc l p g cap) l.length ?_ ?_
 ·refine⟨0,by omega,by omega,?_,?_,?_,?_,by omega⟩<;>simp[aj,bJ,bO,ak]
 ·rintro m f S ⟨i,hi,rfl,e8,e7,e0,e1,hq⟩
  by_cases hlt:i < l.length
  ·simp[e8,e7,e0,e1,hlt,he]
   refine aQ.pure (hp _ (List.getElem_mem hlt)) (aR (hcl _) hcap) (cu _) ?_;cases hb:p l[i] with
   | true=>
    have hi2:tV p l=i:=by
     have h1:l.any p=true:=List.any_eq_true.mpr ⟨_,List.getElem_mem hlt,hb⟩;have h2:l.findIdx p=i:=(List.findIdx_eq hlt).mpr ⟨hb,fun j hj=>hq j (by omega) hj⟩;simp[tV,h1,h2]
    simp[hi2];exact vv _ _
   | false=>
    simp[e8];rw[aZ _ (by omega)];refine⟨l.length - (i+1),by omega,i+1,by omega,rfl,?_,?_,?_,?_,fun k h hk=>?_⟩
    ·simp[aj,ak]
    ·simp[aj,e7]
    ·simp[aj,e0]
    ·simp[aj,e1]
    ·by_cases hki:k=i
     ·subst hki;exact hb
     ·exact hq k h (by omega)
  ·have hi2:tV p l = -1:=by
    have h1:l.any p=false:=by
     rw[List.any_eq_false];intro x hx;obtain⟨k,hk,rfl⟩:=List.mem_iff_getElem.mp hx;rw[hq k hk (by omega)];simp
    simp[tV,h1]
   simp[e8,e7,hlt,hi2];exact vv _ _
theorem YE{X:Type}(p:X→Bool)(l:List X):decide (0≤tV p l)=l.any p:=by
 unfold tV;cases h:l.any p with
 | true=>simp
 | false=>simp
theorem Yj{P:Program}{X:Type}{enc:X→AV}{l:List X}{p:X→Bool}{g:FuncId}{cap:List AV}(hcl:∀x,aV (enc x))(hcap:∀y∈cap,aV y){fi:FuncId}
  (hf:aM P fi [.sl false (l.map enc),.aO g [] cap] (ak (tV p l))):AW P (L6 fi) (bR [4] (dx (aG (l.any p)))) (bC [.sl false (l.map enc),.aO g [] cap]) S0:=by
 simp[L6];refine aQ.pure hf (aR (CY hcl l) (aR (.aO _ _ _ bB hcap) bB)) (aX _) ?_;simp;rw[←YE p l];exact iF _ _
end Go.Rf
namespace Go.Rf
open Go.RowKit
attribute [local simp] jv jk jX jO jG jY jP jI kF jW jN bZ gL eu fq gH d9 fI gI gy eT gD eB fO gG fM dG dJ dZ eX iq iw fG iy fC fB fu dD gT gU gV fJ fK iC gJ fU gZ gW gY gX ig iD fZ iA fP fQ gM iB dh dF fD gu iE ex aj fA cO dO bJ bO aD bE dX eU dn gP gQ gN gK fV bI cZ dw eD eF fF dN bY bM dz bX dP dA dH eO eG eH dY bW dQ cK cB aY AV.solid S0 ak aG
theorem aQ.bump{P:Program}{f:FuncId}{args:List AV}{S:St}{K:AV→St→Prop}(h:aQ P f args S fun r S'=>∃m,K r ⟨S'.n+m,S'.g⟩):aQ P f args S K:=by
 refine⟨h.1,fun E w vals hG hS hv=>(h.2 E w vals hG hS hv).mono ?_⟩;rintro e w' ⟨v,r,S',E',rfl,⟨m,hk⟩,hS',hr,hev⟩;refine⟨v,r,⟨S'.n+m,S'.g⟩,E',rfl,hk,hS'.reserve m,hr,?_⟩;exact⟨⟨hev.bL.os,hev.bL.tape,hev.bL.output,hev.bL.size,hev.bL.keep,fun id l k hk hl=>hev.bL.grow id l k hk hl,hev.bL.le,hev.bL.hsub⟩,Nat.le_trans hev.jg (Nat.le_add_right _ _),hev.low⟩
def CS(es aC:Nat)(z:AV):AC:= (sq [ro 2 (.mv (.c (.sl true [])))] (.seq (sq [rm 3 0,ro 4 (.Cn true false (.t 3))] (.cond (.t 4) (sq [ro 2 (.mv (.c (.sl true [])))] .ret) .skip)) (sq [ro 5 (.bS es 0 z []),rm 6 0,ro 7 (.app es aC (.t 5) (.t 6)),rm 2 7] .ret)))
def qx(es aC:Nat)(z:AV):AC:= (sq [ro 2 (.mv (.c (.sl true [])))] (sq [rm 3 0,ro 4 (.mv (.c (.v (.bool false))))] (sq [ro 5 (.bS es 0 z []),rm 6 0,ro 7 (.app es aC (.t 5) (.t 6)),rm 2 7] .ret)))
theorem MX{P:Program}{base:Nat}{os:List aT}{i:Nat}{K:AF→St→Prop}{a:AF}{d:Option Nat}{op:jc}{S:St}:Ho P base os i K a d op S none=qF op a fun v=>RG P base os (i+1) K (a.put d v) S:=by simp only[Ho]
theorem Zft(neg t:Bool)(x:AV)(xs:List AV):qy true neg (.sl t (x::xs))=some (.v (.bool neg)):=by simp only[qy]
theorem Zhw(neg t:Bool):qy true neg (.sl t [])=none:=by simp only[qy]
theorem Zhx(neg:Bool)(id off n:Nat):qy true neg (.own id off (n+1))=some (.v (.bool neg)):=by simp only[qy]
theorem Zfu(neg:Bool)(id off:Nat):qy true neg (.own id off 0)=none:=by simp only[qy]
theorem Zji{es id off:Nat}{bs:List aF}{ys:List AV}(h:kK es bs (.own id off 0)=some ys):ys=[]:=by
 simp only[kK] at h;split at h
 ·split at h
  ·simp at h;exact h
  ·cases h
 ·cases h
theorem RN(es:Nat)(z:AV):cZ es 0 z []=some (.sl true []):=by simp[cZ,dw]
theorem ZT{P:Program}(hm:P.follows .mixedOrders=true){f:FuncId}{es aC:Nat}{z:AV}(h:Is P f (CS es aC z) [2] 1):wH P f (qx es aC z) [.t 2] 1:=by
 intro args S K hn hb
 obtain⟨x,rfl⟩:∃x,args=[x]:=by
  match args,hn with
  | [x],_=>exact⟨x,rfl⟩
 refine aQ.bump (h.uV hm rfl ?_)
 have hb1:AW P (qx es aC z) (bR [2] fun r S'=>∃m,K r ⟨S'.n+m,S'.g⟩) (bC [x]) S:=by
  refine xQ _ (fun e a S' h=>?_) hb;cases e<;>simp only[iI,bR] at h ⊢
  all_goals
   obtain⟨xs,h1,h2⟩:=h;simp[iJ,RV.ev] at h1;subst h1;simp only[eB];exact⟨0,h2⟩
 have key:∀y:AV,(∀n aA v S',(jC es aC (.sl true []) y).run ⟨n,S.g⟩ aA=some (v,S')→v=.sl true []∧S'=⟨n,S.g⟩)→AW P (qx es aC z) (iI [.t 2] K) (bC [y]) S→∃m,K (.sl true []) ⟨S.n+4+m,S.g⟩:=by
  intro y hy h;simp[qx] at h;generalize hq:(jC es aC (.sl true []) y).run _ _=q at h;cases q with
  | none=>simp[MX,qF] at h
  | some p=>
   obtain⟨v,S'⟩:=p;obtain⟨rfl,rfl⟩:=hy _ _ _ _ hq;simp at h;obtain⟨xs,h1,h2⟩:=h;simp[iJ,RV.ev,aj] at h1;subst h1;exact⟨3,by simpa[iO,Nat.add_assoc] using h2⟩
 clear hn;cases x with
 | sl t ys=>
  cases ys with
  | nil=>
   obtain⟨m,hk⟩:=key (.sl t []) (fun n aA v S' h=>by
    by_cases ha:eY aC 0 0<;>simp[jC,kK,AV.jA,Eff.run,St.dV,St.iG,ha] at h;exact⟨h.1.symm,h.2.symm⟩) hb
   simp[qx] at hb1;simp[CS,Zhw,MX,qF,MU];exact⟨hb1,m,hk⟩
  | cons y ys=>
   simp[qx] at hb1;simp[CS,Zft];exact hb1
 | own id off len=>
  cases len with
  | zero=>
   obtain⟨m,hk⟩:=key (.own id off 0) (fun n aA v S' h=>by
    simp only[jC,Eff.run] at h;split at h
    ·cases h
    ·rename_i bs hbs
     cases hl:kK es bs (.own id off 0) with
     | none=>rw[hl] at h;simp at h
     | some ys=>
      rw[hl] at h;have h0:ys=[]:=Zji hl;subst h0;by_cases ha:eY aC 0 0<;>simp[AV.jA,St.dV,St.iG,ha] at h;exact⟨h.1.symm,h.2.symm⟩) hb
   simp[qx] at hb1;simp[CS,Zfu,MX,qF,MU];exact⟨hb1,m,hk⟩
  | succ m=>
   simp[qx] at hb1;simp[CS,Zhx];exact hb1
 | _=>
  exfalso;simp[qx] at hb1;simp[jC,kK,AV.jA,Eff.run,MX,qF] at hb1
end Go.Rf
namespace Go.Rf
attribute [local simp] jv jk jX jO jG jY jP jI kF jW jN bZ gL eu fq gH d9 fI gI gy eT gD eB fO gG fM dG dJ dZ eX iq iw fG iy fC fB fu dD gT gU gV fJ fK iC gJ fU gZ gW gY gX ig iD fZ iA fP fQ gM iB dh dF fD gu iE ex aj fA cO dO bJ bO aD bE dX eU dn gP gQ gN gK fV bI cZ dw eD eF fF dN bY bM dz bX dP dA dH eO eG eH dY bW dQ cK cB aY AV.solid S0 ak aG
def L9:AC:= (sq [ro 4 (.mv (.c (.v (.bool false))))] (.seq (sq [rm 6 0,ro 7 (.len (.t 6)),rm 8 1,ro 9 (.len (.t 8)),ro 10 (.bin .neq (.t 7) (.t 9))] (.cond (.t 10) (sq [ro 4 (.mv (.c (.v (.bool false))))] .ret) .skip)) (.seq (sq [ro 5 (.mv (ci 0))] (.block 0 (.loop (.seq (sq [rm 11 5,rm 12 0,ro 13 (.len (.t 12)),ro 14 (.bin .lss (.t 11) (.t 13))] (.cond (.t 14) .skip (.exit 0))) (.seq (.block 1 (.seq (.reg (some []) [rm 17 0,rm 18 5,ro 19 (.aI 1 (.t 17) (.t 18)),rL 20 19,rm 21 1,rm 22 5,ro 23 (.aI 1 (.t 21) (.t 22)),rL 24 23,ro 25 (.bin .neq (.t 20) (.t 24))]) (.cond (.t 25) (sq [ro 4 (.mv (.c (.v (.bool false))))] .ret) .skip))) (.reg none [rm 15 5,ro 16 (.bin .add (.t 15) (ci 1)),rm 5 16])))))) (sq [ro 4 (.mv (.c (.v (.bool true))))] .ret))))
def Zrm(a b:List Int)(m:Nat)(f:AF)(S:St):Prop:=
 ∃i:Nat,i≤a.length∧m=a.length - i∧f 5=ak i∧f 0=au a∧f 1=au b∧a.length=b.length∧a.take i=b.take i
theorem Z7E(P:Program)(a b:List Int)(ha:Len a)(hb:Len b):AW P L9 (bR [4] (dx (aG (a == b)))) (bC [au a,au b]) S0:=by
 unfold Len at ha hb;by_cases hl:a.length=b.length
 ·simp[L9,au,hl]
  refine kD (Zrm a b) a.length ?_ ?_
  ·refine⟨0,by omega,by omega,?_,?_,?_,hl,?_⟩<;>simp[aj,bJ,bO,ak,au]
  ·rintro m f S ⟨i,hi,rfl,e5,e0,e1,_,hp⟩
   by_cases hlt:i < a.length
   ·have hlb:i < b.length:=by omega
    by_cases he:a[i]=b[i]
    ·simp[e5,e0,e1,au,hlt,hlb,he]
     rw[aZ _ (by omega)];refine⟨a.length - (i+1),by omega,i+1,by omega,rfl,?_,?_,?_,hl,?_⟩<;>try simp[aj,e0,e1,ak,au]
     rw[List.take_add_one,List.take_add_one,hp,List.getElem?_eq_getElem hlt,List.getElem?_eq_getElem hlb,he]
    ·have hr:(a == b)=false:=beq_false_of_ne (by rintro rfl;exact he rfl)
     have hc:(a[i] != b[i])=true:=by simp[he]
     simp[e5,e0,e1,au,hlt,hlb,hc,hr];exact iF false _
   ·have hab:a=b:=by
     rw[List.take_of_length_le (by omega),List.take_of_length_le (by omega)] at hp;exact hp
    have hr:(a == b)=true:=by simp[hab]
    simp[e5,e0,au,hlt,hr];exact iF true _
 ·have hr:(a == b)=false:=beq_false_of_ne (by rintro rfl;exact hl rfl)
  have hc:((a.length:Int) != b.length)=true:=by simp;omega
  simp[L9,au,hc,hr];exact iF false _
end Go.Rf
namespace Go.Rf
open Go.RowKit
attribute [local simp] jv jk jX jO jG jY jP jI kF jW jN bZ gL eu fq gH d9 fI gI gy eT gD eB fO gG fM dG dJ dZ eX iq iw fG iy fC fB fu dD gT gU gV fJ fK iC gJ fU gZ gW gY gX ig iD fZ iA fP fQ gM iB dh dF fD gu iE ex aj fA cO dO bJ bO aD bE dX eU dn gP gQ gN gK fV bI cZ dw eD eF fF dN bY bM dz bX dP dA dH eO eG eH dY bW dQ cK cB aY AV.solid S0 ak aG
def RI(wL wI xE:FuncId):AC:= (.loop (sq [ro 9 (.bin .lss (.t 8) (.t 7))] (.seq (.cond (.t 9) .skip (.exit 0)) (.seq (.block 1 (sq [ro 10 (.aI 1 (.t 6) (.t 8)),rL 11 10,rm 5 11] (sq [rm 12 5,rk 13 wL [(.t 12)],rk 14 wI [(.t 3),(.t 13)]] (.reg none [rk 15 xE [(.t 3),(.c (.v (.int .u8 32)))]])))) (.reg none [ro 16 (.bin .add (.t 8) (ci 1)),rm 8 16])))))
def Yp(wL wI xE Cv:FuncId):AC:= (.seq (sq [rm 6 0,ro 7 (.len (.t 6)),ro 8 (.mv (ci 0))] (.block 0 (RI wL wI xE))) (sq [rk 17 Cv [(.t 3)],rm 2 17] .ret))
def Y9(wL wI xE Cv:FuncId):AC:= (sq [ro 2 (.mv (.c (.v (.string ⟨#[]⟩))))] (sq [ro 3 (.alloc (.agg [(.v (.pointer none)),(.sl true [])]) 2)] (Yp wL wI xE Cv)))
def ji(l:List Int):List UInt8:=l.flatMap fun n=>Lib.itoa n++[32]
def ze(P:Program)(f:FuncId)(T:TypeId):Prop:=((P.funcs[f]?).bind (·.body)).bind Di=some T
theorem ZhQ{l:List Int}{j:Nat}(h:j < l.length):ji (l.take (j+1))=ji (l.take j)++(Lib.itoa l[j]++[32]):=by
 have:=List.take_succ_eq_append_getElem h;unfold ji;rw[this,List.flatMap_append];simp only[List.flatMap_cons,List.flatMap_nil,List.append_nil]
theorem Zm6(l:List Int)(j:Nat):(ji (l.take j)).length≤(ji l).length:=by
 have e:ji l=ji (l.take j)++ji (l.drop j):=by
  unfold ji;rw[←List.flatMap_append,List.take_append_drop]
 rw[e,List.length_append];omega
structure Rh(T e B:Nat)(w0:World)(l:List Int)(m:Nat)(a:AF)(w:World)(j:Nat):Prop where
 hj:j≤l.length
 hm:m=l.length - j
 e3:a 3=.ptr 0 0 0
 e6:a 6=au l
 e7:a 7=ak l.length
 e8:a 8=ak j
 bl:uw T e B B w0 (ji (l.take j)) w
 ok:True
def Zr0(T e B:Nat)(w0:World)(H:Nat→Option (Array Value))(l:List Int)(m:Nat)(a:AF)(w:World):Prop:=jF H w∧∃j,Rh T e B w0 l m a w j
theorem Zay{P:Program}{fi fw fb fs:FuncId}{T e:TypeId}{good:Int→Prop}(k:zu P fw fb fs T e)(hi:Ba P fi good){l:List Int}(hg:∀n∈l,good n)(hl:(ji l).length≤140737488355328)(hlen:l.length < 4611686018427387904)
  {E:Env} {B:Nat} {w0:World} (hE:BE E B B) (xu:jd P E.H) {Q:Exit→AF→World→Prop} (hQ:∀a w,Rh T e B w0 l 0 a w l.length→jF E.H w→Q (.exit 0) a w) {a:AF} {w:World} (h:Rh T e B w0 l l.length a w 0) (hH:jF E.H w) :
  jU P E (RI fi fw fb) Q a w:=by
 unfold RI;unfold jU;refine⟨Zr0 T e B w0 E.H l,⟨l.length,hH,0,h⟩,?_⟩;rintro m a w ⟨hH,j,hI⟩;by_cases hj:j < l.length
 ·have h1:(j:Int) < l.length:=by omega
  have hget:(l.map ak)[j]? = some (ak l[j]):=by simp[hj]
  have hw:IntKind.i64.wrap ((j:Int)+1)=j+1:=aZ _ (by omega);have ht:=ZhQ hj;have hle:=Zm6 l (j+1);rw[ht] at hle;simp only[List.length_append,List.length_cons,List.length_nil] at hle;simp[jU,WG,wV,BH,yh,Eff.oP,hI.e3,hI.e6,hI.e7,hI.e8,au,h1,hget];refine rP.itoa hi hE hI.bl (hg _ (List.getElem_mem hj)) xu hH fun w9 b9 Km=>?_
  refine rP.str k hE b9 Km (by omega) fun w1 b1 hH1=>?_
  refine rP.byte k hE b1 hH1 (by rw[List.length_append];omega) (fun w2 b2 hH2=>?_) (c:=32) rfl;refine⟨l.length - (j+1),by have:=hI.hm;omega,hH2,j+1,⟨by omega,rfl,?_,?_,?_,?_,?_,trivial⟩⟩
  ·simp[AF.put,bq,hI.e3]
  ·simp[AF.put,bq,hI.e6]
  ·simp[AF.put,bq,hI.e7]
  ·simp[AF.put,bq,hw,ak]
  ·rw[ht,←List.append_assoc];exact b2
 ·have hj2:j=l.length:=by have:=hI.hj;omega
  subst hj2;have h1:¬((l.length:Int) < l.length):=by omega
  simp[jU,WG,wV,yh,Eff.oP,hI.e7,hI.e8,h1];refine hQ _ _ ⟨Nat.le_refl _,by omega,?_,?_,?_,?_,hI.bl,trivial⟩ hH
  ·simp[AF.put,bq,hI.e3]
  ·simp[AF.put,bq,hI.e6]
  ·simp[AF.put,bq,hI.e7]
  ·simp[AF.put,bq,hI.e8]
theorem Zdm{P:Program}(hm:P.follows .mixedOrders=true){f fi fw fb fs:FuncId}{T e:TypeId}{good:Int→Prop}(h:Is P f (Y9 fi fw fb fs) [2] 1)(hT:ze P f T)(k:zu P fw fb fs T e)(hi:Ba P fi good){l:List Int}
  (hg:∀n∈l,good n) (hl:(ji l).length≤140737488355328) (hlen:l.length < 4611686018427387904):aM P f [au l] (.v (.string ⟨(ji l).toArray⟩)):=by
 obtain⟨fn,c,hf,hnm,hb,hc,hr,hn⟩:=h
 have hT':Di c=some T:=by
  unfold ze at hT;rw[hf] at hT;simpa[hb] using hT
 refine aM.P63 (T:=T) (e:=e) (args:=[au l]) hf hnm hb hc hT' hr hn rfl (fun Q E w=>?_) (fun E B w w0 hE xu hH hB=>?_)
 ·simp[jU,WG,yh,Eff.oP,List.foldl]
 ·unfold Yp
  simp[jU,WG,wV,yh,Eff.oP,List.foldl,au];refine Zay k hi hg hl hlen (w0:=w0) hE xu (fun a w' hI V5=>?_) ⟨Nat.zero_le _,by omega,?_,?_,?_,?_,?_,trivial⟩ hH
  ·simp[wV,BH,hI.e3]
   have hbl:=hI.bl;rw[List.take_length] at hbl;refine rP.string k hE hbl V5 fun w2 h2=>?_
   simp[qh,h2]
  ·simp[AF.put,bq]
  ·simp[AF.put,bq,au]
  ·simp[AF.put,bq,ak]
  ·simp[AF.put,bq,ak]
  ·simpa[ji] using hB
end Go.Rf
namespace Go.Rf
attribute [local simp] jv jk jX jO jG jY jP jI kF jW jN bZ gL eu fq gH d9 fI gI gy eT gD eB fO gG fM dG dJ dZ eX iq iw fG iy fC fB fu dD gT gU gV fJ fK iC gJ fU gZ gW gY gX ig iD fZ iA fP fQ gM iB dh dF fD gu iE ex aj fA cO dO bJ bO aD bE dX eU dn gP gQ gN gK fV bI cZ dw eD eF fF dN bY bM dz bX dP dA dH eO eG eH dY bW dQ cK cB aY AV.solid S0 ak aG
def Md:AC:= (sq [ro 2 (.mv (.c (.v (.bool false))))] (sq [rm 3 0,ro 4 (.bin .lss (.t 3) (ci 0)),rm 5 4,rg 6 5 false (.mv (.t 0)),rg 7 5 false (.bin .gtr (.t 6) (ci 1048576)),ro 8 (.pick (.t 5) (.c (.v (.bool true))) (.t 7)),rm 2 8] .ret))
def E9:AC:= (sq [ro 4 (.mv (.c (.sl true [])))] (.seq (sq [rm 8 1,ro 9 (.bin .lss (.t 8) (ci 1)),rm 10 9,rg 11 10 false (.mv (.t 1)),rg 12 10 false (.mv (.t 0)),rg 13 10 false (.len (.t 12)),rg 14 10 false (.bin .geq (.t 11) (.t 13)),ro 15 (.pick (.t 10) (.c (.v (.bool true))) (.t 14))] (.cond (.t 15) (sq [ro 4 (.mv (.c (.sl true [])))] .ret) .skip)) (sq [ro 5 (.mv (.c (.sl true [])))] (.seq (sq [ro 6 (.mv (ci 0))] (.block 0 (.loop (.seq (sq [rm 16 6,rm 17 0,ro 18 (.len (.t 17)),ro 19 (.bin .lss (.t 16) (.t 18))] (.cond (.t 19) .skip (.exit 0))) (.seq (.block 1 (.seq (sq [rm 22 0,rm 23 6,ro 24 (.aI 1 (.t 22) (.t 23)),rL 25 24,ro 26 (.bin .lss (.t 25) (ci 0)),rm 27 26,rg 28 27 false (.mv (.t 0)),rg 29 27 false (.mv (.t 6)),rg 30 27 false (.aI 1 (.t 28) (.t 29)),rg 31 27 false (.load none (.t 30)),rg 32 27 false (.bin .gtr (.t 31) (ci 1048576)),ro 33 (.pick (.t 27) (.c (.v (.bool true))) (.t 32))] (.cond (.t 33) (sq [ro 4 (.mv (.c (.sl true [])))] .ret) .skip)) (sq [rm 34 0,rm 35 6,ro 36 (.aI 1 (.t 34) (.t 35)),rL 37 36,ro 38 (.bin .mul (ci 2) (.t 37)),rm 7 38] (.seq (sq [rm 39 6,rm 40 1,ro 41 (.bin .eql (.t 39) (.t 40))] (.cond (.t 41) (.reg none [rm 42 7,ro 43 (.bin .add (.t 42) (ci 1)),rm 7 43]) .skip)) (.reg none [rm 44 5,rm 45 7,ro 46 (.bS 1 1 (.v (.int .i64 0)) [(0,(.t 45))]),ro 47 (.app 1 8 (.t 44) (.t 46)),rm 5 47]))))) (.reg none [rm 20 6,ro 21 (.bin .add (.t 20) (ci 1)),rm 6 21])))))) (sq [rm 48 5,rm 4 48] .ret)))))
def Fg(P4t Ic:FuncId):AC:= (sq [ro 4 (.mv (.c (.sl true [])))] (sq [ro 5 (.mv (.c (.aO P4t [] [])))] (.seq (sq [rm 9 1,ro 10 (.bin .lss (.t 9) (ci 1)),rm 11 10,rg 12 11 false (.mv (.t 1)),rg 13 11 false (.mv (.t 0)),rg 14 11 false (.len (.t 13)),rg 15 11 false (.bin .geq (.t 12) (.t 14)),ro 16 (.pick (.t 11) (.c (.v (.bool true))) (.t 15)),rm 17 16,rg 18 17 false (.mv (.t 0)),rg 19 17 false (.mv (.t 5)),rl 20 17 false Ic [(.t 18),(.t 19)],ro 21 (.pick (.t 17) (.c (.v (.bool true))) (.t 20))] (.cond (.t 21) (sq [ro 4 (.mv (.c (.sl true [])))] .ret) .skip)) (sq [ro 6 (.mv (.c (.sl true [])))] (.seq (sq [rm 22 0,ro 23 (.len (.t 22)),ro 24 (.mv (ci 0))] (.block 0 (.loop (sq [ro 25 (.bin .lss (.t 24) (.t 23))] (.seq (.cond (.t 25) .skip (.exit 0)) (.seq (.block 1 (sq [rm 26 24,ro 27 (.aI 1 (.t 22) (.t 24)),rL 28 27,rm 7 26,rm 8 28] (sq [rm 29 6,rm 30 8,ro 31 (.bin .mul (ci 2) (.t 30)),ro 32 (.bS 1 1 (.v (.int .i64 0)) [(0,(.t 31))]),ro 33 (.app 1 8 (.t 29) (.t 32)),rm 6 33] (sq [rm 34 7,rm 35 1,ro 36 (.bin .eql (.t 34) (.t 35))] (.cond (.t 36) (.reg none [rm 37 6,rm 38 7,ro 39 (.aI 1 (.t 37) (.t 38)),rL 40 39,ro 41 (.bin .add (.t 40) (ci 1)),ro 42 (.aI 1 (.t 37) (.t 38)),rn (.store 1 (.t 42) (.t 41))]) .skip))))) (.reg none [ro 43 (.bin .add (.t 24) (ci 1)),rm 24 43]))))))) (sq [rm 44 6,rm 4 44] .ret))))))
def ql(s:Int):Bool:=decide (s < 0) || decide (1048576 < s)
theorem Yn(P:Program)(s:Int):AW P Md (bR [2] (dx (aG (ql s)))) (bC [ak s]) S0:=by
 by_cases h1:s < 0
 ·simp[Md,h1,ql]
  exact iF true _
 ·simp[Md,h1,ql]
  exact iF _ _
def iK(place:Int)(i:Nat):Int:=if (i:Int)=place then 1 else 0
def eP(place:Int):Nat→List Int→List Int
 | _,[]=>[]
 | i,s::l=>(2*s+iK place i)::eP place (i+1) l
theorem qW(place:Int):∀(l:List Int) (i:Nat),(eP place i l).length=l.length
 | [],_=>rfl
 | s::l,i=>by simp[eP,qW place l]
theorem Zh7(place:Int)(s:Int):∀(l:List Int) (i:Nat),eP place i (l++[s])=eP place i l++[2*s+iK place (i+l.length)]
 | [],i=>by simp[eP]
 | t::l,i=>by
  simp only[List.cons_append,eP,Zh7 place s l];simp;congr 1;omega
def bT(signs:List Int)(place:Int):List Int:=
 if 1≤place∧place < signs.length∧signs.any ql=false then eP place 0 signs else []
theorem Uj(place:Int)(l:List Int)(i:Nat)(h:i < l.length):eP place 0 (l.take (i+1))=eP place 0 (l.take i)++[2*l[i]+iK place i]:=by
 rw[List.take_add_one,List.getElem?_eq_getElem h];simp only[Option.toList_some];rw[Zh7];simp;congr 1;omega
def wrI(signs:List Int)(place:Int)(m:Nat)(f:AF)(S:St):Prop:=
 ∃i:Nat,i≤signs.length∧m=signs.length - i∧f 6=ak i∧f 0=au signs∧f 1=ak place∧Vec S.g (f 5) 1 ((eP place 0 (signs.take i)).map ak)∧(signs.take i).any ql=false
theorem Yh(P:Program)(signs:List Int)(place:Int)(hl:signs.length≤1000000):AW P E9 (bR [4] (Ox (au (bT signs place)))) (bC [au signs,ak place]) S0:=by
 by_cases h1:place < 1
 ·have hr:bT signs place=[]:=by rw[bT,if_neg (by omega)]
  simp[E9,au,h1,hr];exact .nil true false (by simp)
 by_cases h2:(signs.length:Int)≤place
 ·have hr:bT signs place=[]:=by rw[bT,if_neg (by omega)]
  simp[E9,au,h1,h2,hr];exact .nil true false (by simp)
 simp[E9,au,h1,h2];refine kD (wrI signs place) signs.length ?_ ?_
 ·refine⟨0,by omega,by omega,?_,?_,?_,?_,by simp⟩<;>simp[aj,bJ,bO,ak,au,eP]
  exact .nil
 ·rintro m f S ⟨i,hi,rfl,e6,e0,e1,hv,hq⟩
  by_cases hlt:i < signs.length
  ·have hodd:ql signs[i]=true→bT signs place=[]:=by
    intro h;rw[bT,if_neg];rintro⟨_,_,h3⟩;rw[List.any_eq_false] at h3;exact h3 _ (List.getElem_mem hlt) h
   by_cases h3:signs[i] < 0
   ·have hr:=hodd (by simp[ql,h3])
    simp[e6,e0,au,hlt,h3,hr];exact .nil true false (by simp)
   by_cases h4:1048576 < signs[i]
   ·have hr:=hodd (by simp[ql,h4])
    simp[e6,e0,au,hlt,h3,h4,hr];exact .nil true false (by simp)
   have hno:ql signs[i]=false:=by simp[ql,h3,h4]
   have hlen:(eP place 0 (signs.take i)).length=i:=by rw[qW];simp;omega
   have happ:=fun(n aA:Nat) (x:AV) (hx:x.cells.length=1)=>Vec.app (n:=n) (aA:=aA) (aC:=8) hv (xS _) hx (Ac (by rw[List.length_map,hlen];omega))
   have hnx:∀(v:Int) (S':St) (id:Nat),2*signs[i]+iK place i=v→Vec (((St.without S' (f 5)).set id (some (.arr 1 ((eP place 0 (signs.take i)).map ak++[ak v])))).g) (.own id 0 (i+1)) 1 ((eP place 0 (signs.take (i+1))).map ak):=by
    intro v S' id hv';refine .mk' ?_ ?_
    ·rw[Uj _ _ _ hlt,hv'];simp[aD]
    ·simp[qW];omega
   by_cases h5:(i:Int)=place
   ·have yJ:((i:Int) == place)=true:=by simpa using h5
    simp[e6,e0,e1,au,hlt,h3,h4,yJ];rw[happ _ _ _ (by simp[AV.cells]),aZ _ (by omega),aZ _ (by omega)];simp[e6];rw[aZ _ (by omega)];refine⟨signs.length - (i+1),by omega,i+1,by omega,rfl,?_,?_,?_,?_,by rw[Yx _ _ _ hlt,hq,hno];rfl⟩
    ·simp[aj,ak]
    ·simp[aj,e0,au]
    ·simp[aj,e1]
    ·simp only[aj]
     simp only[Nat.reduceEqDiff,if_false,if_true];have:=hnx (2*signs[i]+1) ⟨S.n+4+12+6+3+3+5,S.g⟩ (S.n+4+12+6+3+3+3) (by simp[iK,h5]);rw[hlen];exact this
   ·have yJ:((i:Int) == place)=false:=by simpa using h5
    simp[e6,e0,e1,au,hlt,h3,h4,yJ];rw[happ _ _ _ (by simp[AV.cells]),aZ _ (by omega)];simp[e6];rw[aZ _ (by omega)];refine⟨signs.length - (i+1),by omega,i+1,by omega,rfl,?_,?_,?_,?_,by rw[Yx _ _ _ hlt,hq,hno];rfl⟩
    ·simp[aj,ak]
    ·simp[aj,e0,au]
    ·simp[aj,e1]
    ·simp only[aj]
     simp only[Nat.reduceEqDiff,if_false,if_true];have:=hnx (2*signs[i]) ⟨S.n+4+12+6+3+5,S.g⟩ (S.n+4+12+6+3+3) (by simp[iK,h5]);rw[hlen];exact this
  ·have hin:i=signs.length:=by omega
   subst hin;rw[List.take_of_length_le (Nat.le_refl _)] at hq hv;have hr:bT signs place=eP place 0 signs:=by rw[bT,if_pos ⟨by omega,by omega,hq⟩]
   simp[e6,e0,au,hr];exact hv.GR
theorem Z7o(P:Program)(signs:List Int)(place:Int)(hl:signs.length≤1000000):AW P E9 (bR [4] (dx (au (bT signs place)))) (bC [au signs,ak place]) S0:=
 xQ _ (fun e a S h=>Sr (fun r S h=>h.fz) h) (Yh P signs place hl)
def wrJ(signs:List Int)(place:Int)(m:Nat)(f:AF)(S:St):Prop:=
 ∃i:Nat,i≤signs.length∧m=signs.length - i∧f 24=ak i∧f 23=ak signs.length∧f 22=au signs∧f 1=ak place∧Vec S.g (f 6) 1 ((eP place 0 (signs.take i)).map ak)
theorem Yo{P:Program}{f1 fc:FuncId}(signs:List Int)(place:Int)(hl:signs.length≤1000000)
  (hc:aM P fc [au signs,.aO f1 [] []] (aG (signs.any ql))):AW P (Fg f1 fc) (bR [4] (Ox (au (bT signs place)))) (bC [au signs,ak place]) S0:=by
 by_cases h1:place < 1
 ·have hr:bT signs place=[]:=by rw[bT,if_neg (by omega)]
  simp[Fg,au,h1,hr];exact .nil true false (by simp)
 by_cases h2:(signs.length:Int)≤place
 ·have hr:bT signs place=[]:=by rw[bT,if_neg (by omega)]
  simp[Fg,au,h1,h2,hr];exact .nil true false (by simp)
 simp[Fg,au,h1,h2];refine aQ.pure hc (aR (bD signs) (aR (.aO _ _ _ bB bB) bB)) (cu _) ?_;cases hany:signs.any ql with
 | true=>
  have hr:bT signs place=[]:=by rw[bT,if_neg (by simp[hany])]
  simp[hr];exact .nil true false (by simp)
 | false=>
  have hr:bT signs place=eP place 0 signs:=by rw[bT,if_pos ⟨by omega,by omega,hany⟩]
  simp[hr];refine kD (wrJ signs place) signs.length ?_ ?_
  ·refine⟨0,by omega,by omega,?_,?_,?_,?_,?_⟩<;>simp[aj,bJ,bO,ak,au,eP]
   exact .nil
  ·rintro m f S ⟨i,hi,rfl,e24,e23,e22,e1,hv⟩
   by_cases hlt:i < signs.length
   ·have hok:ql signs[i]=false:=by
     rw[List.any_eq_false] at hany;simpa using hany _ (List.getElem_mem hlt)
    have hb:0≤signs[i]∧signs[i]≤1048576:=by simp[ql] at hok;omega
    have hlen:(eP place 0 (signs.take i)).length=i:=by rw[qW];simp;omega
    have happ:=fun(n aA:Nat) (x:AV) (hx:x.cells.length=1)=>Vec.app (n:=n) (aA:=aA) (aC:=8) hv (xS _) hx (Ac (by rw[List.length_map,hlen];omega))
    have hnx:∀(v:Int) (S':St) (id:Nat),2*signs[i]+iK place i=v→Vec (((St.without S' (f 6)).set id (some (.arr 1 ((eP place 0 (signs.take i)).map ak++[ak v])))).g) (.own id 0 (i+1)) 1 ((eP place 0 (signs.take (i+1))).map ak):=by
     intro v S' id hv';refine .mk' ?_ ?_
     ·rw[Uj _ _ _ hlt,hv'];simp[aD]
     ·simp[qW];omega
    simp[e24,e23,e22,au,hlt];rw[happ _ _ _ (by simp[AV.cells]),aZ _ (by omega)];by_cases h5:(i:Int)=place
    ·have yJ:((i:Int) == place)=true:=by simpa using h5
     have hat:((eP place 0 (signs.take i)).map ak++[AV.v (.int .i64 (2*signs[i]))])[i]? = some (AV.v (.int .i64 (2*signs[i]))):=by
      rw[List.getElem?_append_right (by simp[hlen])];simp[hlen]
     have hlt1:(i:Int) < i+1:=by omega
     simp[e24,e1,yJ,hlen,hlt1];rw[aZ _ (by omega),aZ _ (by omega)];refine⟨signs.length - (i+1),by omega,i+1,by omega,rfl,?_,?_,?_,?_,?_⟩
     ·simp[aj,h5,ak]
     ·simp[aj,e23,ak]
     ·simp[aj,e22,au]
     ·simp[aj,e1]
     ·simp only[aj]
      simp only[Nat.reduceEqDiff,if_false,if_true];refine .mk' ?_ ?_
      ·rw[Uj _ _ _ hlt];simp[aD,iK,h5,ak]
      ·simp[qW];omega
    ·have yJ:((i:Int) == place)=false:=by simpa using h5
     simp[e24,e1,yJ];rw[aZ _ (by omega)];refine⟨signs.length - (i+1),by omega,i+1,by omega,rfl,?_,?_,?_,?_,?_⟩
     ·simp[aj,ak]
     ·simp[aj,e23,ak]
     ·simp[aj,e22,au]
     ·simp[aj,e1]
     ·simp only[aj]
      simp only[Nat.reduceEqDiff,if_false,if_true];have:=hnx (2*signs[i]) ⟨S.n+1+5+6,S.g⟩ (S.n+1+5+4) (by simp[iK,h5]);rw[hlen];exact this
   ·have hin:i=signs.length:=by omega
    subst hin;rw[List.take_of_length_le (Nat.le_refl _)] at hv;simp[e24,e23];exact hv.GR
theorem ZbQ{P:Program}{f1 fc:FuncId}(signs:List Int)(place:Int)(hl:signs.length≤1000000)
  (hc:aM P fc [au signs,.aO f1 [] []] (aG (signs.any ql))):AW P (Fg f1 fc) (bR [4] (dx (au (bT signs place)))) (bC [au signs,ak place]) S0:=
 xQ _ (fun e a S h=>Sr (fun r S h=>h.fz) h) (Yo signs place hl hc)
def LZ(P3D:FuncId):AC:= (sq [ro 2 (.box 3 (.t 0)),ro 4 (.mv (.c (.v (.bool false))))] (sq [ro 6 (.load (some 3) (.t 2)),rm 7 1,rk 8 P3D [(.t 6),(.t 7)],rm 5 8] (sq [rm 9 5,ro 10 (.bin .geq (.t 9) (ci 0)),rm 11 10,rg 12 11 true (.bV 2 (.t 2)),rg 13 11 true (.load none (.t 12)),rg 14 11 true (.mv (.t 5)),rg 15 11 true (.aI 1 (.t 13) (.t 14)),rg 16 11 true (.load none (.t 15)),ro 17 (.pick (.t 11) (.t 16) (.c (.v (.bool false)))),rm 4 17] .ret)))
def Rx(yT:FuncId):AC:= (sq [ro 2 (.box 3 (.t 0)),ro 4 (.mv (ci 0))] (.seq (sq [ro 7 (.load (some 3) (.t 2)),rk 8 yT [(.t 7)],ro 9 (.un .not (.t 8))] (.cond (.t 9) (sq [ro 4 (.mv (ci (-1)))] .ret) .skip)) (sq [ro 5 (.mv (ci 0))] (.seq (sq [ro 6 (.mv (ci 0))] (.block 0 (.loop (.seq (sq [rm 10 6,rm 11 1,ro 12 (.len (.t 11)),ro 13 (.bin .lss (.t 10) (.t 12))] (.cond (.t 13) .skip (.exit 0))) (.seq (.block 1 (.seq (.seq (.reg (some []) [rm 16 1,rm 17 6,ro 18 (.aI 1 (.t 16) (.t 17)),rL 19 18,ro 20 (.bin .lss (.t 19) (ci 0)),rm 21 20,rg 22 21 false (.mv (.t 1)),rg 23 21 false (.mv (.t 6)),rg 24 21 false (.aI 1 (.t 22) (.t 23)),rg 25 21 false (.load none (.t 24)),rg 26 21 false (.bV 0 (.t 2)),rg 27 21 false (.load none (.t 26)),rg 28 21 false (.bin .geq (.t 25) (.t 27)),ro 29 (.pick (.t 21) (.c (.v (.bool true))) (.t 28))]) (.cond (.t 29) (sq [ro 4 (.mv (ci (-1)))] .ret) .skip)) (.reg (some []) [rF 30 1 2,rL 31 30,rm 32 5,ro 33 (.aI 1 (.t 31) (.t 32)),rL 34 33,rm 35 1,rm 36 6,ro 37 (.aI 1 (.t 35) (.t 36)),rL 38 37,ro 39 (.aI 1 (.t 34) (.t 38)),rL 40 39,rm 5 40]))) (.reg none [rm 14 6,ro 15 (.bin .add (.t 14) (ci 1)),rm 6 15])))))) (sq [rm 41 5,rm 4 41] .ret)))))
def SQ(Bh:FuncId):AC:= (sq [ro 2 (.box 3 (.t 0)),ro 4 (.mv (ci 0))] (.seq (sq [ro 8 (.load (some 3) (.t 2)),rk 9 Bh [(.t 8)],ro 10 (.un .not (.t 9))] (.cond (.t 10) (sq [ro 4 (.mv (ci (-1)))] .ret) .skip)) (sq [ro 5 (.mv (ci 0))] (.seq (sq [rm 11 1,ro 12 (.len (.t 11)),ro 13 (.mv (ci 0))] (.block 0 (.loop (sq [ro 14 (.bin .lss (.t 13) (.t 12))] (.seq (.cond (.t 14) .skip (.exit 0)) (.seq (.block 1 (sq [ro 15 (.aI 1 (.t 11) (.t 13)),rL 16 15,rm 7 16] (.seq (sq [rm 17 7,ro 18 (.bin .lss (.t 17) (ci 0)),rm 19 18,rg 20 19 false (.mv (.t 7)),rg 21 19 false (.bV 0 (.t 2)),rg 22 19 false (.load none (.t 21)),rg 23 19 false (.bin .geq (.t 20) (.t 22)),ro 24 (.pick (.t 19) (.c (.v (.bool true))) (.t 23))] (.cond (.t 24) (sq [ro 4 (.mv (ci (-1)))] .ret) .skip)) (.reg none [rF 25 1 2,rL 26 25,rm 27 5,ro 28 (.aI 1 (.t 26) (.t 27)),rL 29 28,rm 30 7,ro 31 (.aI 1 (.t 29) (.t 30)),rL 32 31,rm 5 32])))) (.reg none [ro 33 (.bin .add (.t 13) (ci 1)),rm 13 33]))))))) (sq [rm 34 5,rm 4 34] .ret)))))
def Zsa(d:aB)(l:List Int)(m:Nat)(f:AF)(S:St):Prop:=
 ∃i a:Nat,i≤l.length∧m=l.length - i∧a < d.next.length∧f 6=ak i∧f 5=ak a∧f 1=au l∧f 2=.ptr 0 0 0∧S.g 0=some (.arr 3 [aH d])∧nR d 0 l=nR d a (l.drop i)
theorem Z7S{P:Program}{fr:FuncId}(d:aB)(l:List Int)(hl:Len l)(hr:aM P fr [aH d] (aG (fE d))) :
  AW P (Rx fr) (bR [4] (dx (ak (tu (sI d l))))) (bC [aH d,au l]) S0:=by
 unfold Len at hl;simp[Rx,aH,aN,bA];refine aQ.pure hr (aR (dW d) bB) (cu _) ?_;cases hrd:fE d with
 | false=>
  have hres:tu (sI d l) = -1:=by simp[sI,hrd,tu]
  simp[hres];exact vv _ _
 | true=>
  have R:=(wQ d).mp hrd;have hn:=R.n1;have hres:sI d l=nR d 0 l:=by simp[sI,hrd]
  rw[hres];simp;refine kD (Zsa d l) l.length ?_ ?_
  ·refine⟨0,0,by omega,by omega,by omega,?_,?_,?_,?_,?_,by simp⟩<;>simp[aj,bJ,bO,ak,au,aH,aN,bA,aD]
  ·rintro m f S ⟨i,a,hi,rfl,ha,e6,e5,e1,e2,eg,hq⟩
   by_cases hlt:i < l.length
   ·rw[List.drop_eq_getElem_cons hlt,nR] at hq
    by_cases h0:l[i] < 0
    ·rw[if_neg (by omega)] at hq
     simp[e6,e1,au,hlt,h0,hq,tu];exact vv _ _
    by_cases hs:d.signs≤l[i]
    ·rw[if_neg (by omega)] at hq
     simp[e6,e1,e2,eg,au,aH,aN,bA,hlt,h0,hs,hq,tu];exact vv _ _
    rw[if_pos (by omega)] at hq;obtain⟨hj,hst,hsl⟩:=zX R ha (s:=l[i]) (by omega) (by omega);have h0':0≤l[i]:=by omega
    simp[e6,e5,e1,e2,eg,au,aH,aN,bA,hlt,h0,hs,ha,hj,hst,h0'];rw[aZ _ (by omega)];refine⟨l.length - (i+1),by omega,i+1,bN d a l[i],by omega,rfl,hsl,?_,?_,?_,?_,?_,hq⟩<;>simp[aj,e1,e2,eg,ak,au,aH,aN,bA]
   ·rw[List.drop_of_length_le (by omega),nR] at hq
    simp[e6,e5,e1,au,hlt,hq,tu];exact vv _ _
def Zsb(d:aB)(l:List Int)(m:Nat)(f:AF)(S:St):Prop:=
 ∃i a:Nat,i≤l.length∧m=l.length - i∧a < d.next.length∧f 13=ak i∧f 12=ak l.length∧f 11=au l∧f 5=ak a∧f 2=.ptr 0 0 0∧S.g 0=some (.arr 3 [aH d])∧nR d 0 l=nR d a (l.drop i)
theorem Zec{P:Program}{fr:FuncId}(d:aB)(l:List Int)(hl:Len l)(hr:aM P fr [aH d] (aG (fE d))) :
  AW P (SQ fr) (bR [4] (dx (ak (tu (sI d l))))) (bC [aH d,au l]) S0:=by
 unfold Len at hl;simp[SQ,aH,aN,bA];refine aQ.pure hr (aR (dW d) bB) (cu _) ?_;cases hrd:fE d with
 | false=>
  have hres:tu (sI d l) = -1:=by simp[sI,hrd,tu]
  simp[hres];exact vv _ _
 | true=>
  have R:=(wQ d).mp hrd;have hn:=R.n1;have hres:sI d l=nR d 0 l:=by simp[sI,hrd]
  rw[hres];simp[au];refine kD (Zsb d l) l.length ?_ ?_
  ·refine⟨0,0,by omega,by omega,by omega,?_,?_,?_,?_,?_,?_,by simp⟩<;>simp[aj,ak,au,aH,aN,bA,aD]
  ·rintro m f S ⟨i,a,hi,rfl,ha,e13,e12,e11,e5,e2,eg,hq⟩
   by_cases hlt:i < l.length
   ·rw[List.drop_eq_getElem_cons hlt,nR] at hq
    by_cases h0:l[i] < 0
    ·rw[if_neg (by omega)] at hq
     simp[e13,e12,e11,au,hlt,h0,hq,tu];exact vv _ _
    by_cases hs:d.signs≤l[i]
    ·rw[if_neg (by omega)] at hq
     simp[e13,e12,e11,e2,eg,au,aH,aN,bA,hlt,h0,hs,hq,tu];exact vv _ _
    rw[if_pos (by omega)] at hq;obtain⟨hj,hst,hsl⟩:=zX R ha (s:=l[i]) (by omega) (by omega);have h0':0≤l[i]:=by omega
    simp[e13,e12,e11,e5,e2,eg,au,aH,aN,bA,hlt,h0,hs,ha,hj,hst,h0'];rw[aZ _ (by omega)];refine⟨l.length - (i+1),by omega,i+1,bN d a l[i],by omega,rfl,hsl,?_,?_,?_,?_,?_,?_,hq⟩<;>simp[aj,e12,e11,e2,eg,ak,au,aH,aN,bA]
   ·rw[List.drop_of_length_le (by omega),nR] at hq
    simp[e13,e12,e5,hlt,hq,tu];exact vv _ _
theorem Yg{P:Program}{fr:FuncId}(d:aB)(l:List Int)(hr:aM P fr [aH d,au l] (ak (tu (sI d l)))) :
  AW P (LZ fr) (bR [4] (dx (aG (lg d l)))) (bC [aH d,au l]) S0:=by
 simp[LZ,aH,aN,bA];refine aQ.pure hr (aR (dW d) (aR (bD l) bB)) (aX _) ?_;cases hrd:sI d l with
 | none=>
  simp[tu,lg,hrd];exact iF _ _
 | some b=>
  have hb:b < d.fin.length:=by
   unfold sI at hrd;split at hrd
   ·rename_i h
    have R:=(wQ d).mp h;have:=YZ R l 0 (by have:=R.n1;omega) b hrd;have:=R.fin;omega
   ·cases hrd
  have hf:lg d l=d.fin[b]:=by simp[lg,hrd,List.getD_eq_getElem?_getD,List.getElem?_eq_getElem hb]
  simp[tu,hb,hf];exact iF _ _
def TI:AC:= (.block 2 (.loop (sq [ro 47 (.bin .lss (.t 46) (.t 45))] (.seq (.cond (.t 47) .skip (.exit 2)) (.seq (.block 3 (sq [ro 48 (.aI 1 (.t 44) (.t 46)),rL 49 48,rm 9 49] (sq [rm 50 9,ro 51 (.bin .neq (.t 50) (ci (-1)))] (.cond (.t 51) (.reg none [rm 52 4,rm 53 9,rm 54 4,rm 55 9,ro 56 (.aI 1 (.t 54) (.t 55)),rL 57 56,rm 58 6,ro 59 (.bS 1 1 (.v (.int .i64 0)) [(0,(.t 58))]),ro 60 (.app 1 8 (.t 57) (.t 59)),ro 61 (.aI 1 (.t 52) (.t 53)),rn (.store 1 (.t 61) (.t 60))]) .skip)))) (.reg none [ro 62 (.bin .add (.t 46) (ci 1)),rm 46 62]))))))
def Sg:AC:= (.block 6 (.loop (sq [ro 78 (.bin .lss (.t 77) (.t 76))] (.seq (.cond (.t 78) .skip (.exit 6)) (.seq (.block 7 (sq [ro 79 (.aI 1 (.t 75) (.t 77)),rL 80 79,rm 12 80] (sq [rm 81 3,rm 82 12,ro 83 (.aI 1 (.t 81) (.t 82)),rL 84 83,ro 85 (.bin .eql (.t 84) (ci (-1)))] (.cond (.t 85) (sq [rm 86 3,rm 87 12,rm 88 3,rm 89 10,ro 90 (.aI 1 (.t 88) (.t 89)),rL 91 90,ro 92 (.bin .add (.t 91) (ci 1)),ro 93 (.aI 1 (.t 86) (.t 87)),rn (.store 1 (.t 93) (.t 92))] (.reg none [rm 94 5,rm 95 12,ro 96 (.bS 1 1 (.v (.int .i64 0)) [(0,(.t 95))]),ro 97 (.app 1 8 (.t 94) (.t 96)),rm 5 97])) .skip)))) (.reg none [ro 98 (.bin .add (.t 77) (ci 1)),rm 77 98]))))))
def Si:AC:= (.seq (.block 4 (.loop (.seq (sq [rm 64 5,ro 65 (.len (.t 64)),ro 66 (.bin .gtr (.t 65) (ci 0))] (.cond (.t 66) .skip (.exit 4))) (.seq (.block 5 (sq [rm 69 5,ro 70 (.aI 1 (.t 69) (ci 0)),rL 71 70,rm 10 71] (sq [rm 72 4,rm 73 10,ro 74 (.aI 1 (.t 72) (.t 73)),rL 75 74,ro 76 (.len (.t 75)),ro 77 (.mv (ci 0))] Sg))) (.reg none [rm 67 5,ro 68 (.slc 1 (.t 67) (some (ci 1)) none),rm 5 68]))))) (sq [rm 99 3,rm 2 99] .ret))
def RB:AC:= (sq [ro 1 (.box 2 (.t 0)),ro 2 (.mv (.c (.sl true [])))] (sq [rF 13 0 1,rL 14 13,ro 15 (.len (.t 14)),ro 16 (.um 1 8 (.v (.int .i64 0)) (.t 15) (.t 15)),rm 3 16] (sq [rF 17 0 1,rL 18 17,ro 19 (.len (.t 18)),ro 20 (.um 1 24 (.sl true []) (.t 19) (.t 19)),rm 4 20] (sq [ro 5 (.mv (.c (.sl true [])))] (.seq (sq [rF 21 0 1,rL 22 21,ro 23 (.len (.t 22)),ro 24 (.mv (ci 0))] (.block 0 (.loop (sq [ro 25 (.bin .lss (.t 24) (.t 23))] (.seq (.cond (.t 25) .skip (.exit 0)) (.seq (.block 1 (sq [rm 26 24,ro 27 (.aI 1 (.t 22) (.t 24)),rL 28 27,rm 6 26,rm 7 28] (sq [rm 29 3,rm 30 6,ro 31 (.aI 1 (.t 29) (.t 30)),rn (.store 1 (.t 31) (ci (-1)))] (.seq (sq [rF 32 1 1,rL 33 32,rm 34 6,ro 35 (.aI 1 (.t 33) (.t 34)),rL 36 35] (.cond (.t 36) (sq [rm 37 3,rm 38 6,ro 39 (.aI 1 (.t 37) (.t 38)),rn (.store 1 (.t 39) (ci 0))] (.reg none [rm 40 5,rm 41 6,ro 42 (.bS 1 1 (.v (.int .i64 0)) [(0,(.t 41))]),ro 43 (.app 1 8 (.t 40) (.t 42)),rm 5 43])) .skip)) (sq [rm 44 7,ro 45 (.len (.t 44)),ro 46 (.mv (ci 0))] TI))))) (.reg none [ro 63 (.bin .add (.t 24) (ci 1)),rm 24 63]))))))) Si)))))
def vC(g:Gr):AV:=.agg [aN g.next,bA g.fin]
structure B1(g:Gr)(k i j:Nat)(far wl:List Int)(back:List (List Int)):Prop where
 fl:far.length=g.n
 fv:∀u,u < k→rd far u=if g.rY u=true then 0 else -1
 wv:wl=((List.range k).filter g.rY).map Int.ofNat
 bl:back.length=g.n
 bs:∀t x,t < g.n→x∈back.getD t []→∃s,s < g.n∧x=(s:Int)∧g.edge s t
 bc:∀s t,t < g.n→s < i→g.edge s t→(s:Int)∈back.getD t []
 bj:∀t l,t < g.n→g.next[i]? = some l→(t:Int)∈l.take j→(i:Int)∈back.getD t []
 bn:∀t,t < g.n→(back.getD t []).length≤400*i+j
structure Rc(g:Gr)(f:AF)(S:St)(far wl:List Int)(back:List (List Int)):Prop where
 s1:f 1=.ptr 0 0 0
 s3:f 3=.own 5 0 g.n
 s4:f 4=.own 10 0 g.n
 g0:S.g 0=some (.arr 2 [vC g])
 g5:S.g 5=some (.arr 1 (far.map ak))
 rows:∃bv,S.g 10=some (.arr 1 bv)∧Rows S.g S.n [0,5,10] (f 5::bv) (wl::back)
 n:12≤S.n
def Zrf(g:Gr)(m:Nat)(f:AF)(S:St):Prop:=
 ∃i far wl back,i≤g.n∧m=g.n - i∧f 24=ak i∧f 23=ak g.n∧f 22=aN g.next∧B1 g i i 0 far wl back∧Rc g f S far wl back
def Zpz(g:Gr)(i:Nat)(row far wl:List Int)(m:Nat)(f:AF)(S:St):Prop:=
 ∃j back,j≤row.length∧m=row.length - j∧f 46=ak j∧f 45=ak row.length∧f 44=au row∧f 6=ak i∧f 24=ak i∧f 23=ak g.n∧f 22=aN g.next∧B1 g (i+1) i j far wl back∧Rc g f S far wl back
theorem Zmw{P:Program}{g:Gr}(ok:JQ g){i:Nat}{row far wl:List Int}{back:List (List Int)}(hr:g.next[i]? = some row){f:AF}{S:St}{Q:Exit→AF→St→Prop}
  (h0:Zpz g i row far wl row.length f S)
  (hq:∀f' S' GL,f' 24=ak i→f' 23=ak g.n→f' 22=aN g.next→B1 g (i+1) i row.length far wl GL→Rc g f' S' far wl GL→Q .normal f' S'):AW P TI Q f S:=by
 simp[TI];refine kD (Zpz g i row far wl) row.length h0 ?_;rintro m f S ⟨j,back,hj,rfl,e46,e45,e44,e6,e24,e23,e22,b,st⟩;by_cases hlt:j < row.length
 ·by_cases ht:row[j] = -1
  ·have hc:(row[j] != -1)=false:=by simp[ht]
   simp[e46,e45,e44,au,hlt,hc];have hrl:row.length≤400:=ok.rows _ (List.mem_of_getElem? hr);rw[aZ _ (by omega)];refine⟨row.length - (j+1),by omega,j+1,back,by omega,rfl,?_,?_,?_,?_,?_,?_,?_,?_,?_⟩
   ·simp[aj,ak]
   ·simp[aj,e45,ak]
   ·simp[aj,e44,au]
   ·simp[aj,e6,ak]
   ·simp[aj,e24,ak]
   ·simp[aj,e23,ak]
   ·simp[aj,e22]
   ·refine⟨b.fl,b.fv,b.wv,b.bl,b.bs,b.bc,fun t l ht2 hl2 hm=>?_,fun t ht2=>by have:=b.bn t ht2;omega⟩
    rw[hr] at hl2;cases hl2;rw[List.take_add_one,List.getElem?_eq_getElem hlt] at hm;simp only[Option.toList_some,List.mem_append,List.mem_singleton] at hm;rcases hm with hm | hm
    ·exact b.bj t row ht2 hr hm
    ·omega
   ·exact⟨by simp[aj,st.s1],by simp[aj,st.s3],by simp[aj,st.s4],st.g0,st.g5,by
     obtain⟨bv,h1,h2⟩:=st.rows;exact⟨bv,h1,by simpa[aj] using h2.frame (by show S.n≤_;omega) (fun _ _ _=>rfl)⟩,by have:=st.n;simp;omega⟩
  ·have hc:(row[j] != -1)=true:=by simp[ht]
   have hrl:row.length≤400:=ok.rows _ (List.mem_of_getElem? hr)
   have htb:0≤row[j]∧row[j] < g.n:=by
    rcases ok.at_ row (List.mem_of_getElem? hr) row[j] (List.getElem_mem hlt) with h | h
    ·exact(ht h).elim
    ·exact h
   obtain⟨bv,h10,rows⟩:=st.rows;have hbl:=b.bl;have hvl:bv.length=g.n:=by have:=rows.len;simp at this;omega
   have htn:(row[j]).toNat < bv.length:=by omega
   have KE:(row[j]).toNat < back.length:=by omega
   have hv:Vec S.g bv[(row[j]).toNat] 1 ((back[(row[j]).toNat]).map ak):=rows.row ((row[j]).toNat+1) (by simpa using htn) (by simpa using KE)
   have hcell:(bv[(row[j]).toNat]).cells=[bv[(row[j]).toNat]]:=by
    rcases hv with⟨e,_⟩ | ⟨_,_,_,e,_⟩<;>rw[e]<;>rfl
   have hbn:(back[(row[j]).toNat]).length≤400*i+j:=by
    have:=b.bn (row[j]).toNat (by omega);simpa[List.getD_eq_getElem?_getD,List.getElem?_eq_getElem KE] using this
   have hi9:i < 9000:=by
    have:=(List.getElem?_eq_some_iff.mp hr).1;have:=ok.n;omega
   have happ:=fun(n aA:Nat) (x:AV) (hx:x.cells.length=1)=>Vec.app (n:=n) (aA:=aA) (aC:=8) hv (xS _) hx (Ac (by rw[List.length_map];omega))
   simp[e46,e45,e44,e6,st.s4,au,hlt,hc,htb.1,htb.2,h10,hvl,hcell];rw[happ _ _ _ (by simp[AV.cells])]
   have GY:∀(m aA:Nat) (bk:Option aF) (k:Nat),k∈[0,5,10]→12≤aA→((St.without ⟨m,S.g⟩ bv[(row[j]).toNat]).set aA bk).g k=S.g k:=by
    intro m aA bk k hk Pn;exact rows.av (t:=(row[j]).toNat+1) (by simpa using htn) bk hk (by intro e;subst e;simp at hk;omega)
   have abt:=fun(m aA:Nat) (bk:Option aF) (Pn:12≤aA)=>(GY m aA bk 10 (by simp) Pn).trans h10
   have hsn:=st.n
   have hw:∀(m:Nat),(St.without ⟨m,S.g⟩ bv[(row[j]).toNat]).g 10=some (.arr 1 bv):=by
    intro m;rw[kC 10 (fun h6=>(rows.out _ (by simp) 10 h6).2 (by simp))];exact h10
   simp[e46,htb.1,htb.2,hvl,hcell,hw];rw[aZ _ (by omega)]
   have hgd:∀t,(back.set (row[j]).toNat (back[(row[j]).toNat]++[(i:Int)])).getD t []=if t=(row[j]).toNat then back[(row[j]).toNat]++[(i:Int)] else back.getD t []:=by
    intro t;simp only[List.getD_eq_getElem?_getD,List.getElem?_set];by_cases h:(row[j]).toNat=t
    ·subst h;simp[KE]
    ·rw[if_neg h,if_neg (Ne.symm h)]
   have hgt:back.getD (row[j]).toNat []=back[(row[j]).toNat]:=by simp[List.getD_eq_getElem?_getD,List.getElem?_eq_getElem KE]
   refine⟨row.length - (j+1),by omega,j+1,back.set (row[j]).toNat (back[(row[j]).toNat]++[(i:Int)]),by omega,rfl,?_,?_,?_,?_,?_,?_,?_,?_,?_⟩
   ·simp[aj,ak]
   ·simp[aj,e45,ak]
   ·simp[aj,e44,au]
   ·simp[aj,e6,ak]
   ·simp[aj,e24,ak]
   ·simp[aj,e23,ak]
   ·simp[aj,e22]
   ·refine⟨b.fl,b.fv,b.wv,by simpa using b.bl,fun t x ht2 hx=>?_,fun s t ht2 hs he=>?_,fun t l ht2 hl2 hm=>?_,fun t ht2=>?_⟩
    ·rw[hgd] at hx
     split at hx
     ·rename_i e;subst e
      rcases List.mem_append.mp hx with hx | hx
      ·exact b.bs _ x ht2 (by rw[hgt];exact hx)
      ·simp at hx
       exact⟨i,(List.getElem?_eq_some_iff.mp hr).1,hx,row,hr,by rw[Int.toNat_of_nonneg htb.1];exact List.getElem_mem hlt⟩
     ·exact b.bs t x ht2 hx
    ·have:=b.bc s t ht2 hs he
     rw[hgd];split
     ·rename_i e;subst e;rw[hgt] at this;exact List.mem_append_left _ this
     ·exact this
    ·rw[hr] at hl2;cases hl2
     rw[hgd];by_cases e:t=(row[j]).toNat
     ·rw[if_pos e];simp
     ·rw[if_neg e]
      rw[List.take_add_one,List.getElem?_eq_getElem hlt] at hm;simp only[Option.toList_some,List.mem_append,List.mem_singleton] at hm;rcases hm with hm | hm
      ·exact b.bj t row ht2 hr hm
      ·omega
    ·have:=b.bn t ht2
     rw[hgd];split
     ·simp;omega
     ·omega
   ·refine⟨by simp[aj,st.s1],by simp[aj,st.s3],by simp[aj,st.s4],?_,?_,⟨bv.set (row[j]).toNat (.own (S.n+1+3+2+8) 0 ((back[(row[j]).toNat]).length+1)),by simp[aD],?_⟩,by simp[pY]⟩
    ·have:=GY (S.n+1+3+2+11) (S.n+1+3+2+8) (some (aF.arr 1 (List.map ak back[(row[j]).toNat]++[AV.v (Value.int IntKind.i64 i)]))) 0 (by simp) (by omega)
     simp only[aD] at this ⊢;simpa using this.trans st.g0
    ·have:=GY (S.n+1+3+2+11) (S.n+1+3+2+8) (some (aF.arr 1 (List.map ak back[(row[j]).toNat]++[AV.v (Value.int IntKind.i64 i)]))) 5 (by simp) (by omega)
     simp only[aD] at this ⊢;simpa using this.trans st.g5
    ·have h2:=rows.app (t:=(row[j]).toNat+1) (m:=S.n+1+3+2+11) (aA:=S.n+1+3+2+8) (by simpa using htn) (by simpa using KE) (i:Int) (by omega) (by omega) (by simp)
     have h3:=h2.frame (n':=S.n+1+3+2+11+2) (g':=fun k=>if k=10 then some (aF.arr 1 (bv.set (row[j]).toNat (.own (S.n+1+3+2+8) 0 ((back[(row[j]).toNat]).length+1)))) else ((St.without ⟨S.n+1+3+2+11,S.g⟩ bv[(row[j]).toNat]).set (S.n+1+3+2+8) (some (aF.arr 1 (List.map ak back[(row[j]).toNat]++[ak i])))).g k) (by omega) (fun k _ hk=>by
      rw[if_neg (by intro e;subst e;simp at hk)];rfl)
     simp only[aj,pY];simp only[Nat.reduceEqDiff,if_false];exact h3
 ·have:j=row.length:=by omega
  subst this;simp[e46,e45];refine hq _ _ back ?_ ?_ ?_ b ?_
  ·simp[aj,e24,ak]
  ·simp[aj,e23,ak]
  ·simp[aj,e22]
  ·exact⟨by simp[aj,st.s1],by simp[aj,st.s3],by simp[aj,st.s4],st.g0,st.g5,by
    obtain⟨bv,h1,h2⟩:=st.rows;exact⟨bv,h1,by simpa[aj] using h2.frame (by show S.n≤_;omega) (fun _ _ _=>rfl)⟩,by have:=st.n;simp;omega⟩
theorem B1.next{g:Gr}{k i:Nat}{row far wl:List Int}{back:List (List Int)}(b:B1 g k i row.length far wl back)(hr:g.next[i]? = some row)(hl:row.length≤400):B1 g k (i+1) 0 far wl back:=by
 refine⟨b.fl,b.fv,b.wv,b.bl,b.bs,fun s t ht hs he=>?_,by simp,fun t ht=>by have:=b.bn t ht;omega⟩;by_cases h:s=i
 ·subst h
  obtain⟨r,h1,h2⟩:=he;rw[hr] at h1;cases h1;exact b.bj t row ht hr (by rw[List.take_of_length_le (Nat.le_refl _)];exact h2)
 ·exact b.bc s t ht (by omega) he
structure Zmc(g:Gr)(back:List (List Int)):Prop where
 bl:back.length=g.n
 bs:∀t x,t < g.n→x∈back.getD t []→∃s,s < g.n∧x=(s:Int)∧g.edge s t
 bc:∀s t,s < g.n→t < g.n→g.edge s t→(s:Int)∈back.getD t []
 bn:∀t,t < g.n→(back.getD t []).length≤4000000
structure IU(g:Gr)(back:List (List Int))(bv:List AV)(f:AF)(S:St)(far:List Int)(q:List Nat):Prop where
 s3:f 3=.own 5 0 g.n
 s4:f 4=.own 10 0 g.n
 g5:S.g 5=some (.arr 1 (far.map ak))
 g10:S.g 10=some (.arr 1 bv)
 rows:Rows S.g S.n [0,5,10] (f 5::bv) (q.map Int.ofNat::back)
 n:12≤S.n
def U7(g:Gr)(back:List (List Int))(bv:List AV)(m:Nat)(f:AF)(S:St):Prop:=
 ∃far q,sK g far q∧m=2*(g.n - qG far)+q.length∧m≤3*g.n∧IU g back bv f S far q
def ZpA(g:Gr)(back:List (List Int))(bv:List AV)(h:Nat)(row:List Int)(M k:Nat)(f:AF)(S:St):Prop:=
 ∃j far q,j≤row.length∧k=row.length - j∧f 77=ak j∧f 76=ak row.length∧f 10=ak h∧bv[h]? = some (f 75)∧sK g far (h::q)∧2*(g.n - qG far)+q.length+1≤M∧
  (∀x∈row.take j,0≤rd far x.toNat)∧IU g back bv f S far (h::q)
theorem F5{l:List Int}{s:Nat}(h:s < l.length):l[s]=rd l s:=by simp[rd,List.getD_eq_getElem?_getD,List.getElem?_eq_getElem h]
theorem Zgo{P:Program}{g:Gr}(ok:JQ g){back:List (List Int)}{bv:List AV}(bo:Zmc g back){h:Nat}{row:List Int}{M:Nat}(hh:h < g.n)(hr:back[h]? = some row)(hM:M≤3*g.n){f:AF}{S:St}{Q:Exit→AF→St→Prop}
  (h0:ZpA g back bv h row M row.length f S)
  (hq:∀f' S' far q,sK g far (h::q)→2*(g.n - qG far)+q.length+1≤M→(∀x∈row,0≤rd far x.toNat)→IU g back bv f' S' far (h::q)→Q .normal f' S'):AW P Sg Q f S:=by
 have hn:=ok.n;have hgn:g.n=g.next.length:=rfl
 have hrow:back.getD h []=row:=by simp[List.getD_eq_getElem?_getD,hr]
 have hrl:row.length≤4000000:=by have:=bo.bn h hh;rw[hrow] at this;exact this
 simp[Sg];refine kD (ZpA g back bv h row M) row.length h0 ?_;rintro m f S ⟨j,far,q,hj,rfl,O3,Kh,e10,VR,b,GX,hdone,⟨s3,s4,g5,g10,rows,sn⟩⟩;have hfl:=b.len;by_cases hlt:j < row.length
 ·obtain⟨s,hs,hx,aaP⟩:=bo.bs h row[j] hh (by rw[hrow];exact List.getElem_mem hlt)
  have V9:bv.length=g.n:=by have:=rows.len;have:=bo.bl;simp at *;omega
  have hb1:h < bv.length:=by omega
  have hb2:h < back.length:=by rw[bo.bl];exact hh
  have Wy:Vec S.g (f 75) 1 (row.map ak):=by
   have h1:=rows.row (h+1) (by simp;omega) (by simp;omega)
   have h2:(f 5::bv)[h+1]'(by simp;omega)=f 75:=by
    rw[List.getElem_cons_succ];exact(List.getElem?_eq_some_iff.mp VR).2
   have h3:((h::q).map Int.ofNat::back)[h+1]'(by simp;omega)=row:=by
    rw[List.getElem_cons_succ];exact(List.getElem?_eq_some_iff.mp hr).2
   rw[h2,h3] at h1;exact h1
  obtain⟨id,off,ys,aa0,yL,hoff,hdrop⟩:∃id off ys,f 75=.own id off row.length∧S.g id=some (.arr 1 ys)∧off≤ys.length∧ys.drop off=row.map ak:=by
   rcases Wy with⟨_,he⟩ | ⟨id,off,ys,h1,h2,h3,h4⟩
   ·have:row=[]:=by simpa using he
    subst this;simp at hlt
   ·exact⟨id,off,ys,by simpa using h1,h2,h3,h4⟩
  have hys:off+row.length=ys.length:=by have:=congrArg List.length hdrop;simp at this;omega
  have KG:off+row.length≤ys.length:=by omega
  have hget:ys[off+j]? = some (ak row[j]):=by
   have:(ys.drop off)[j]? = some (ak row[j]):=by rw[hdrop];simp[List.getElem?_eq_getElem hlt]
   rwa[List.getElem?_drop] at this
  rw[hx] at hget;simp only[ak] at hget;have hsf:s < far.length:=by omega
  have hhf:h < far.length:=by omega
  have hsI:(s:Int) < g.n:=by omega
  have Eo:(h:Int) < g.n:=by omega
  obtain⟨hqa,hqb⟩:=b.qa h (by simp);have hqc:=b.cnt h hqa hqb;have hcl:=Jt far;have hfh:=F5 hhf;have hgs:far[s]? = some far[s]:=List.getElem?_eq_getElem hsf;have hgh:far[h]? = some far[h]:=List.getElem?_eq_getElem hhf;by_cases hu:far[s] = -1
  ·have hc:(far[s] == -1)=true:=by simp[hu]
   have hw:IntKind.i64.wrap (far[h]+1)=far[h]+1:=aZ _ (by omega);have hv0:Vec S.g (f 5) 1 (((h::q).map Int.ofNat).map ak):=rows.row 0 (by simp) (by simp);have hout:∀k∈[0,5,10],k∉(f 5).ids:=fun k hk h6=>(rows.out (f 5) (by simp) k h6).2 hk
   simp[O3,Kh,e10,hlt,aa0,yL,KG,hget,s3,g5,hsI,Eo,hfl,hgs,hgh,hc,hw];rw[Vec.app (xs:=((h::q).map Int.ofNat).map ak) (hv0.frame (fun k hk=>?_)) (xS _) (by simp[AV.cells]) (Ac (by simp;omega))]
   ·simp[O3]
    rw[aZ _ (by omega)];have hset:∀x,rd (far.set s (rd far h+1)) x=if x=s then rd far h+1 else rd far x:=fun x=>Nr hsf _ x
    have hrs:rd far s = -1:=by rw[←F5 hsf];exact hu
    have hcs:=TP hsf (by omega) (x:=rd far h+1) (by omega);have aaN:=Jt (far.set s (rd far h+1));rw[List.length_set] at aaN;refine⟨row.length - (j+1),by omega,j+1,far.set s (rd far h+1),q++[s],by omega,rfl,?_,?_,?_,?_,?_,?_,?_,?_⟩
    ·simp[aj,ak]
    ·simp[aj,Kh,ak]
    ·simp[aj,e10,ak]
    ·simp[aj,VR]
    ·exact b.assign hs aaP hrs
    ·rw[hcs,List.length_append];simp only[List.length_singleton];omega
    ·intro x hxm
     rw[hset];rw[List.take_add_one,List.getElem?_eq_getElem hlt] at hxm;simp only[Option.toList_some,List.mem_append,List.mem_singleton] at hxm;rcases hxm with hxm | hxm
     ·split
      ·omega
      ·exact hdone x hxm
     ·rw[if_pos (by omega)];omega
    ·have hwo:∀(n1 n2 k:Nat) (b1:Option aF),k≠5→(St.without ⟨n1,(St.set ⟨n2,S.g⟩ 5 b1).g⟩ (f 5)).g k=(St.without ⟨n1,S.g⟩ (f 5)).g k:=by
      intro n1 n2 k b1 hk;cases f 5<;>simp[St.without,aD,hk]
     refine⟨by simp[aj,s3],by simp[aj,s4],?_,?_,?_,by simp[pY]⟩
     ·simp only[aD]
      rw[if_neg (by omega),kC 5 (hout 5 (by simp))];simp[aD,List.map_set,ak,hfh]
     ·simp only[aD]
      rw[if_neg (by omega),kC 10 (hout 10 (by simp))];simp[aD,g10]
     ·have r2:=rows.app (t:=0) (m:=S.n+1+3+5+9+5) (aA:=S.n+1+3+5+9+3) (by simp) (by simp) (s:Int) (by omega) (by omega) (by simp)
      have r3:=r2.frame (n':=S.n+1+3+5+9+5+2) (g':=fun k=>if k=S.n+1+3+5+9+3 then some (aF.arr 1 (AV.v (Value.int IntKind.i64 ↑h)::(List.map (ak ∘ Int.ofNat) q++[AV.v (Value.int IntKind.i64 ↑s)]))) else (St.without ⟨S.n+1+3+5+9+5,(St.set ⟨S.n+1+3+5+9,S.g⟩ 5 (some (aF.arr 1 ((List.map ak far).set s (AV.v (Value.int IntKind.i64 (far[h]+1))))))).g⟩ (f 5)).g k) (by omega) (fun k _ hk=>by
       simp only[aD];by_cases hkn:k=S.n+1+3+5+9+3
       ·rw[if_pos hkn,if_pos hkn];simp[ak]
       ·rw[if_neg hkn,if_neg hkn,hwo _ _ _ _ (by simp at hk;omega)];rfl)
      simp only[aj,pY];simp only[Nat.reduceEqDiff,if_false,if_true];have e1:(f 5::bv).set 0 (AV.own (S.n+1+3+5+9+3) 0 (((h::q).map Int.ofNat::back)[0].length+1))=AV.own (S.n+1+3+5+9+3) 0 (q.length+1+1)::bv:=by simp
      have e2:((h::q).map Int.ofNat::back).set 0 (((h::q).map Int.ofNat::back)[0]++[(s:Int)])=(h::(q++[s])).map Int.ofNat::back:=by simp
      rw[e1,e2] at r3;exact r3
   ·rw[aD,if_neg (by intro e;subst e;exact hout 5 (by simp) hk)]
  ·have hc:(far[s] == -1)=false:=by simp[hu]
   simp[O3,Kh,hlt,aa0,yL,KG,hget,s3,g5,hsI,hfl,hgs,hc];rw[aZ _ (by omega)];refine⟨row.length - (j+1),by omega,j+1,far,q,by omega,rfl,?_,?_,?_,?_,b,GX,?_,?_⟩
   ·simp[aj,ak]
   ·simp[aj,Kh,ak]
   ·simp[aj,e10,ak]
   ·simp[aj,VR]
   ·intro x hxm
    rw[List.take_add_one,List.getElem?_eq_getElem hlt] at hxm;simp only[Option.toList_some,List.mem_append,List.mem_singleton] at hxm;rcases hxm with hxm | hxm
    ·exact hdone x hxm
    ·have e:x.toNat=s:=by omega
     have hv:=b.val s hs;rw[←F5 hsf] at hv;rw[e,←F5 hsf];omega
   ·refine⟨by simp[aj,s3],by simp[aj,s4],g5,g10,?_,by simp;omega⟩
    simpa[aj] using rows.frame (by show S.n≤_;omega) (fun _ _ _=>rfl)
 ·have:j=row.length:=by omega
  subst this;simp[O3,Kh];refine hq _ _ far q b GX (fun x hx=>hdone x (by rw[List.take_length];exact hx)) ?_;refine⟨by simp[aj,s3],by simp[aj,s4],g5,g10,?_,by simp;omega⟩;simpa[aj] using rows.frame (by show S.n≤_;omega) (fun _ _ _=>rfl)
theorem Zlh{P:Program}{g:Gr}(ok:JQ g){back:List (List Int)}{bv:List AV}{far:List Int}{q:List Nat}(bo:Zmc g back)(hb:sK g far q)(G6:q.length≤g.n){f:AF}{S:St}(st:IU g back bv f S far q) :
  AW P Si (bR [2] (dx (au (qj g)))) f S:=by
 have hn:=ok.n;have hgn:g.n=g.next.length:=rfl
 simp[Si];have hcl:=Jt far;have hfl:=hb.len;refine kD (U7 g back bv) (2*(g.n - qG far)+q.length) ⟨far,q,hb,rfl,by omega,st⟩ ?_;rintro m f S ⟨far,q,b,rfl,hm,⟨s3,s4,g5,g10,rows,sn⟩⟩;have hfl:=b.len;have hv0:Vec S.g (f 5) 1 ((q.map Int.ofNat).map ak):=rows.row 0 (by simp) (by simp);cases q with
 | nil=>
  rcases hv0 with⟨e5,_⟩ | ⟨id,off,ys,e5,yL,hoff,hdrop⟩
  ·simp[e5,s3]
   rw[ZiM b.ok];exact(Vec.mk' (xs:=far.map ak) g5 (by simp[hfl])).fz (enc:=ak) (l:=far) aX
  ·have e5':f 5=.own id off 0:=by simpa using e5
   simp[e5',s3];rw[ZiM b.ok];exact(Vec.mk' (xs:=far.map ak) g5 (by simp[hfl])).fz (enc:=ak) (l:=far) aX
 | cons h q=>
  obtain⟨id,off,ys,e5,yL,hoff,hdrop⟩:∃id off ys,f 5=.own id off (q.length+1)∧S.g id=some (.arr 1 ys)∧off≤ys.length∧ys.drop off=((h::q).map Int.ofNat).map ak:=by
   rcases hv0 with⟨_,he⟩ | ⟨id,off,ys,h1,h2,h3,h4⟩
   ·simp at he
   ·exact⟨id,off,ys,by simpa using h1,h2,h3,h4⟩
  have hys:off+(q.length+1)=ys.length:=by have:=congrArg List.length hdrop;simp at this;omega
  have KG:off+(q.length+1)≤ys.length:=by omega
  have hget:ys[off]? = some (.v (.int .i64 h)):=by
   have:(ys.drop off)[0]? = some (ak h):=by rw[hdrop];simp
   rw[List.getElem?_drop] at this;simpa[ak] using this
  have hh:h < g.n:=(b.qa h (by simp)).1;have Eo:(h:Int) < g.n:=by omega
  have V9:bv.length=g.n:=by have:=rows.len;have:=bo.bl;simp at *;omega
  have hb1:h < bv.length:=by omega
  have hb2:h < back.length:=by rw[bo.bl];exact hh
  have aad:bv[h]? = some bv[h]:=List.getElem?_eq_getElem hb1;have hpos:(0:Int) < (q.length:Int)+1:=by omega
  have Wy:Vec S.g bv[h] 1 ((back[h]).map ak):=rows.row (h+1) (by simpa using hb1) (by simpa using hb2);have hrb:back[h]? = some back[h]:=List.getElem?_eq_getElem hb2
  have fin:∀(f':AF) (S':St) (far':List Int) (q':List Nat),sK g far' (h::q')→2*(g.n - qG far')+q'.length+1≤2*(g.n - qG far)+(q.length+1)→(∀x∈back[h],0≤rd far' x.toNat)→IU g back bv f' S' far' (h::q')→
    kE 5 (iW (AW P (.reg none [⟨(some 67),.mv (.t 5),none,none⟩,⟨(some 68),.slc 1 (.t 67) (some (ci 1)) none,none,none⟩,⟨(some 5),.mv (.t 68),none,none⟩]) (iW (vR (U7 g back bv) (2*(g.n - qG far)+(q.length+1))) (kE 4 (iW (AW P (sq [⟨(some 99),.mv (.t 3),none,none⟩,⟨(some 2),.mv (.t 99),none,none⟩] .ret) (bR [2] (dx (au (qj g))))) (bR [2] (dx (au (qj g)))))))) (iW (vR (U7 g back bv) (2*(g.n - qG far)+(q.length+1))) (kE 4 (iW (AW P (sq [⟨(some 99),.mv (.t 3),none,none⟩,⟨(some 2),.mv (.t 99),none,none⟩] .ret) (bR [2] (dx (au (qj g))))) (bR [2] (dx (au (qj g)))))))) .normal f' S':=by
   rintro f' S' far' q' b' hM' hdone ⟨t3,t4,h5,h10,rows',tn⟩;have hv0:Vec S'.g (f' 5) 1 (((h::q').map Int.ofNat).map ak):=rows'.row 0 (by simp) (by simp)
   obtain⟨id,off,ys,e5,yL,hoff,hdrop⟩:∃id off ys,f' 5=.own id off (q'.length+1)∧S'.g id=some (.arr 1 ys)∧off≤ys.length∧ys.drop off=((h::q').map Int.ofNat).map ak:=by
    rcases hv0 with⟨_,he⟩ | ⟨id,off,ys,h1,h2,h3,h4⟩
    ·simp at he
    ·exact⟨id,off,ys,by simpa using h1,h2,h3,h4⟩
   have hys:off+(q'.length+1)=ys.length:=by have:=congrArg List.length hdrop;simp at this;omega
   simp[e5,vT,bnd,yL];refine⟨2*(g.n - qG far')+q'.length,by omega,far',q',b'.pop fun s hs he=>?_,rfl,by simp at hm;omega,⟨by simp[aj,t3],by simp[aj,t4],h5,h10,?_,by simp;omega⟩⟩
   ·have:=bo.bc s h hs hh he
    simp only[List.getD_eq_getElem?_getD,hrb,Option.getD_some] at this;simpa using hdone _ this
   ·have hid:=rows'.out (f' 5) (by simp) id (by rw[e5];simp[AV.ids])
    have r2:=rows'.upd (t:=0) (by simp) (g':=S'.g) (n':=S'.n+3) (v:=.own id (off+1) q'.length) (l:=q'.map Int.ofNat) (.inr ⟨id,off+1,ys,by simp,yL,by omega,by rw[←List.drop_drop,hdrop];simp⟩) (by omega) (fun i hi=>by
     simp only[AV.ids,List.mem_singleton] at hi;subst hi;exact⟨by omega,hid.2,.inl (by show _∈(f' 5).ids;rw[e5];simp[AV.ids])⟩) (fun i _ _ _=>rfl)
    simpa[aj] using r2
  rcases Wy with⟨eb,he⟩ | ⟨id2,off2,ys2,eb,hg2,ho2,hd2⟩
  ·have he':back[h]=[]:=by simpa using he
   have hl0:back[h].length=0:=by rw[he'];rfl
   simp[e5,yL,KG,hget,s4,g10,Eo,V9,eb,hpos,hh];refine Zgo ok bo hh hrb (M:=2*(g.n - qG far)+(q.length+1)) (by simp at hm;omega) ⟨0,far,q,by omega,by omega,?_,?_,?_,?_,b,by omega,by simp,⟨?_,?_,g5,g10,?_,by simp⟩⟩ fin
   ·simp[aj,ak]
   ·simp[aj,ak,hl0]
   ·simp[aj,ak]
   ·simp[aj,aad,eb]
   ·simp[aj,s3]
   ·simp[aj,s4]
   ·have:=rows.frame (n':=S.n+3+4+6) (g':=S.g) (by omega) (fun k _ hk=>rfl)
    simpa[aj] using this
  ·simp[e5,yL,KG,hget,s4,g10,Eo,V9,eb,hpos,hh]
   refine Zgo ok bo hh hrb (M:=2*(g.n - qG far)+(q.length+1)) (by simp at hm;omega) ⟨0,far,q,by omega,by omega,?_,?_,?_,?_,b,by omega,by simp,⟨?_,?_,g5,g10,?_,by simp⟩⟩ fin
   ·simp[aj,ak]
   ·simp[aj,ak]
   ·simp[aj,ak]
   ·simp[aj,aad,eb]
   ·simp[aj,s3]
   ·simp[aj,s4]
   ·have:=rows.frame (n':=S.n+3+4+6) (g':=S.g) (by omega) (fun k _ hk=>rfl)
    simpa[aj] using this
theorem Z94(P:Program)(g:Gr)(ok:JQ g):AW P RB (bR [2] (dx (au (qj g)))) (bC [vC g]) S0:=by
 have h1:=ok.n;have hn:g.n=g.next.length:=rfl
 have q1:(g.next.length:Int)≤9223372036854775807:=by omega
 have q2:8*(g.next.length:Int)≤281474976710656:=by omega
 have q3:24*(g.next.length:Int)≤281474976710656:=by omega
 simp[RB,vC,aN,bA,yj,q1,q2,q3];refine kD (Zrf g) g.n ?_ ?_
 ·refine⟨0,List.replicate g.n 0,[],List.replicate g.n [],by omega,by omega,?_,?_,?_,?_,?_⟩
  ·simp[aj,ak]
  ·simp[aj,ak,hn]
  ·simp[aj,aN]
  ·refine⟨by simp,by omega,by simp,by simp,?_,by omega,by simp,?_⟩
   ·intro t x ht hx
    simp[List.getD_eq_getElem?_getD,ht] at hx
   ·intro t ht
    simp[List.getD_eq_getElem?_getD,ht]
  ·refine⟨by simp[aj],by simp[aj,hn],by simp[aj,hn],?_,?_,⟨List.replicate g.n (.sl true []),?_,?_⟩,by simp⟩
   ·simp[aD,vC,aN,bA]
   ·simp[aD,ak,hn]
   ·simp[aD,hn]
   ·simp only[aj]
    simp only[Nat.reduceEqDiff,if_false,if_true];exact Rows.init (g.n+1)
 ·rintro m f S ⟨i,far,wl,back,hi,rfl,e24,e23,e22,b,st⟩
  obtain⟨s1,s3,s4,g0,g5,⟨bv,g10,rows⟩,sn⟩:=st;have hfl:=b.fl;have abr:=ok.fin;by_cases hlt:i < g.n
  ·have hlt2:i < g.next.length:=hlt
   have hlf:i < g.fin.length:=by omega
   have aa7:i < far.length:=by omega
   have zF:(i:Int) < g.n:=by omega
   have hend:g.rY i=g.fin[i]:=by simp[Gr.rY,List.getD_eq_getElem?_getD,List.getElem?_eq_getElem hlf]
   cases hb:g.fin[i] with
   | true=>
    simp[e24,e23,e22,s1,s3,g0,g5,aN,vC,bA,hlt,hlt2,hlf,zF,hfl,hb,au];have hfin:g.rY i=true:=by rw[hend];exact hb
    have hv0:Vec S.g (f 5) 1 (wl.map ak):=rows.row 0 (by simp) (by simp)
    have hwl:wl.length≤i:=by
     rw[b.wv,List.length_map];exact Nat.le_trans (List.length_filter_le _ _) (by simp)
    rw[Vec.app (xs:=wl.map ak) (hv0.frame (fun k hk=>?_)) (xS _) (by simp[AV.cells]) (Ac (by rw[List.length_map];omega))]
    ·simp
     have r2:=rows.app (t:=0) (m:=S.n+1+5+4+5+4+5) (aA:=S.n+1+5+4+5+4+3) (by simp) (by simp) (i:Int) (by omega) (by omega) (by simp);have hout:∀k∈[0,5,10],k∉(f 5).ids:=fun k hk h6=>(rows.out (f 5) (by simp) k h6).2 hk
     refine Zmw ok (row:=g.next[i]) (far:=far.set i 0) (wl:=wl++[(i:Int)]) (back:=back) (List.getElem?_eq_getElem hlt2) ⟨0,back,by omega,by omega,?_,?_,?_,?_,?_,?_,?_,?_,?_⟩ ?_
     ·simp[aj,ak]
     ·simp[aj,ak]
     ·simp[aj,au]
     ·simp[aj,ak]
     ·simp[aj,e24,ak]
     ·simp[aj,e23,ak]
     ·simp[aj,e22,aN]
     ·refine⟨by simpa using hfl,fun u hu=>?_,?_,b.bl,b.bs,b.bc,by simp,b.bn⟩
      ·rw[Nr aa7]
       split
       ·rename_i e;subst e;rw[hfin];rfl
       ·exact b.fv u (by omega)
      ·rw[List.range_succ,List.filter_append,List.map_append,←b.wv];simp[hfin]
     ·have hwo:∀(n1 n2 n3 k:Nat) (b1 b2:Option aF),k≠5→(St.without ⟨n1,(St.set ⟨n2,(St.set ⟨n3,S.g⟩ 5 b1).g⟩ 5 b2).g⟩ (f 5)).g k=(St.without ⟨n1,S.g⟩ (f 5)).g k:=by
       intro n1 n2 n3 k b1 b2 hk;cases f 5<;>simp[St.without,aD,hk]
      refine⟨by simp[aj,s1],by simp[aj,s3],by simp[aj,s4],?_,?_,⟨bv,?_,?_⟩,by simp[pY]⟩
      ·simp only[aD]
       rw[if_neg (by omega),kC 0 (hout 0 (by simp))];simp[aD,g0]
      ·simp only[aD]
       rw[if_neg (by omega),kC 5 (hout 5 (by simp))];simp[aD,List.map_set,ak]
      ·simp only[aD]
       rw[if_neg (by omega),kC 10 (hout 10 (by simp))];simp[aD,g10]
      ·have r3:=r2.frame (n':=S.n+1+5+4+5+4+5+3) (g':=fun k=>if k=S.n+1+5+4+5+4+3 then some (aF.arr 1 (List.map ak wl++[AV.v (Value.int IntKind.i64 ↑i)])) else (St.without ⟨S.n+1+5+4+5+4+5,(St.set ⟨S.n+1+5+4+5+4,(St.set ⟨S.n+1+5+4,S.g⟩ 5 (some (aF.arr 1 ((List.map ak far).set i (AV.v (Value.int IntKind.i64 (-1))))))).g⟩ 5 (some (aF.arr 1 ((List.map ak far).set i (AV.v (Value.int IntKind.i64 0)))))).g⟩ (f 5)).g k) (by omega) (fun k _ hk=>by
        simp only[aD];by_cases hkn:k=S.n+1+5+4+5+4+3
        ·rw[if_pos hkn,if_pos hkn];simp[ak]
        ·rw[if_neg hkn,if_neg hkn,hwo _ _ _ _ _ _ (by simp at hk;omega)];rfl)
       simp only[aj,pY];simp only[Nat.reduceEqDiff,if_false,if_true];have e1:(f 5::bv).set 0 (AV.own (S.n+1+5+4+5+4+3) 0 ((wl::back)[0].length+1))=AV.own (S.n+1+5+4+5+4+3) 0 (wl.length+1)::bv:=by simp
       have e2:(wl::back).set 0 ((wl::back)[0]++[(i:Int)])=(wl++[(i:Int)])::back:=by simp
       rw[e1,e2] at r3
       first | exact r3 | simpa using r3
     ·intro f' S' GL k24 k23 k22 b' st'
      simp[k24];rw[aZ _ (by omega)];have hrow:(g.next[i]).length≤400:=ok.rows _ (List.getElem_mem hlt2);refine⟨g.n - (i+1),by omega,i+1,far.set i 0,wl++[(i:Int)],GL,by omega,rfl,?_,?_,?_,b'.next (List.getElem?_eq_getElem hlt2) hrow,?_⟩
      ·simp[aj,ak]
      ·simp[aj,k23]
      ·simp[aj,k22]
      ·obtain⟨t1,t3,t4,h0,h5,⟨VO,VX,rows'⟩,tn⟩:=st'
       refine⟨by simp[aj,t1],by simp[aj,t3],by simp[aj,t4],h0,h5,⟨VO,VX,?_⟩,by simp;omega⟩;simpa[aj] using rows'.frame (n':=S'.n+2) (by omega) (fun k _ hk=>rfl)
    ·simp only[aD]
     have hk5:k≠5:=by intro e;subst e;exact(rows.out (f 5) (by simp) 5 hk).2 (by simp)
     simp[hk5]
   | false=>
    simp[e24,e23,e22,s1,s3,g0,g5,aN,vC,bA,hlt,hlt2,hlf,zF,hfl,hb,au];have hfin:g.rY i=false:=by rw[hend];exact hb
    refine Zmw ok (row:=g.next[i]) (far:=far.set i (-1)) (wl:=wl) (back:=back) (List.getElem?_eq_getElem hlt2) ⟨0,back,by omega,by omega,?_,?_,?_,?_,?_,?_,?_,?_,?_⟩ ?_
    ·simp[aj,ak]
    ·simp[aj,ak]
    ·simp[aj,au]
    ·simp[aj,ak]
    ·simp[aj,e24,ak]
    ·simp[aj,e23,ak]
    ·simp[aj,e22,aN]
    ·refine⟨by simpa using hfl,fun u hu=>?_,?_,b.bl,b.bs,b.bc,by simp,b.bn⟩
     ·rw[Nr aa7]
      split
      ·rename_i e;subst e;rw[hfin];rfl
      ·exact b.fv u (by omega)
     ·rw[List.range_succ,List.filter_append,List.map_append,←b.wv];simp[hfin]
    ·refine⟨by simp[aj,s1],by simp[aj,s3],by simp[aj,s4],by simp[aD,g0],by simp[aD,ak,List.map_set],⟨bv,by simp[aD,g10],?_⟩,by simp⟩
     simpa[aj] using rows.frame (n':=S.n+1+5+4+5+3) (by omega) (fun k _ hk=>by simp only[aD];rw[if_neg (by intro e;subst e;simp at hk)])
    ·intro f' S' GL k24 k23 k22 b' st'
     simp[k24];rw[aZ _ (by omega)];have hrow:(g.next[i]).length≤400:=ok.rows _ (List.getElem_mem hlt2);refine⟨g.n - (i+1),by omega,i+1,far.set i (-1),wl,GL,by omega,rfl,?_,?_,?_,b'.next (List.getElem?_eq_getElem hlt2) hrow,?_⟩
     ·simp[aj,ak]
     ·simp[aj,k23]
     ·simp[aj,k22]
     ·obtain⟨t1,t3,t4,h0,h5,⟨VO,VX,rows'⟩,tn⟩:=st'
      refine⟨by simp[aj,t1],by simp[aj,t3],by simp[aj,t4],h0,h5,⟨VO,VX,?_⟩,by simp;omega⟩;simpa[aj] using rows'.frame (n':=S'.n+2) (by omega) (fun k _ hk=>rfl)
  ·have hin:i=g.n:=by omega
   subst hin;simp[e24,e23];refine Zlh ok (back:=back) (bv:=bv) (far:=far) (q:=(List.range g.n).filter g.rY) ⟨b.bl,b.bs,fun s t hs ht he=>b.bc s t ht hs he,fun t ht=>?_⟩ ?_ ?_ ⟨?_,?_,g5,g10,?_,?_⟩
   ·have:=b.bn t ht;omega
   ·refine Gj.X9 ⟨hfl,fun s hs=>b.fv s hs,fun s=>by simp[List.mem_filter]⟩
   ·exact Nat.le_trans (List.length_filter_le _ _) (by simp)
   ·simp[aj,s3]
   ·simp[aj,s4]
   ·have:=rows.frame (n':=S.n+1) (g':=S.g) (by omega) (fun k _ hk=>rfl)
    rw[b.wv] at this;simpa[aj] using this
   ·simp;omega
theorem Zn(g:Gr):aV (vC g):=.agg _ (by
 intro y hy;simp only[List.mem_cons,List.not_mem_nil,or_false] at hy;rcases hy with rfl | rfl
 ·exact jr _
 ·exact kR _)
def Mg:AC:= (sq [ro 3 (.mv (.c (.v (.bool false))))] (sq [rm 4 0,ro 5 (.bin .lss (.t 4) (ci 0)),rm 6 5,rg 7 6 false (.mv (.t 0)),rg 8 6 false (.load none (.t 1)),rg 9 6 false (.bin .geq (.t 7) (.t 8)),ro 10 (.pick (.t 6) (.c (.v (.bool true))) (.t 9)),rm 3 10] .ret))
def Mh(Ic:FuncId):AC:= (sq [ro 4 (.mv (.c (.v (.bool false))))] (sq [rm 5 0,ro 6 (.len (.t 5)),rF 7 0 1,rL 8 7,ro 9 (.bin .neq (.t 6) (.t 8)),rm 10 9,rg 11 10 false (.mv (.t 0)),rg 12 10 false (.load none (.t 2)),rl 13 10 false Ic [(.t 11),(.t 12)],ro 14 (.pick (.t 10) (.c (.v (.bool true))) (.t 13)),rm 4 14] .ret))
def Bn(P4A P4B P1D:FuncId):AC:= (sq [ro 1 (.box 3 (.t 0)),ro 2 (.mv (.c (.v (.bool false))))] (sq [rF 5 1 1,rL 6 5,ro 7 (.len (.t 6)),ro 3 (.alloc (.v (.int .i64 0)) 1),rn (.store 1 (.t 3) (.t 7))] (.seq (sq [rF 8 0 1,rL 9 8,ro 10 (.bin .lss (.t 9) (ci 1)),rm 11 10,rg 12 11 false (.bV 0 (.t 1)),rg 13 11 false (.load none (.t 12)),rg 14 11 false (.bin .gtr (.t 13) (ci 400)),ro 15 (.pick (.t 11) (.c (.v (.bool true))) (.t 14)),rm 16 15,rg 17 16 false (.load none (.t 3)),rg 18 16 false (.bin .eql (.t 17) (ci 0)),ro 19 (.pick (.t 16) (.c (.v (.bool true))) (.t 18)),rm 20 19,rg 21 20 false (.load none (.t 3)),rg 22 20 false (.bin .gtr (.t 21) (ci 3000)),ro 23 (.pick (.t 20) (.c (.v (.bool true))) (.t 22)),rm 24 23,rg 25 24 false (.bV 2 (.t 1)),rg 26 24 false (.load none (.t 25)),rg 27 24 false (.len (.t 26)),rg 28 24 false (.load none (.t 3)),rg 29 24 false (.bin .neq (.t 27) (.t 28)),ro 30 (.pick (.t 24) (.c (.v (.bool true))) (.t 29))] (.cond (.t 30) (sq [ro 2 (.mv (.c (.v (.bool false))))] .ret) .skip)) (sq [ro 31 (.yP P4A [] [(.t 3)]),ro 4 (.alloc (.v .nilFunc) 1),rn (.store 1 (.t 4) (.t 31))] (sq [rF 32 1 1,rL 33 32,ro 34 (.yP P4B [] [(.t 1),(.t 4)]),rk 35 P1D [(.t 33),(.t 34)],ro 36 (.un .not (.t 35)),rm 2 36] .ret)))))
def Ea(k:Nat)(t:Int):Bool:=decide (t < 0) || decide ((k:Int)≤t)
theorem Zaw(P:Program)(t:Int)(k:Nat):AW P Mg (bR [3] (dx (aG (Ea k t)))) (bC [ak t,.bF (ak k) 0]) S0:=by
 by_cases h1:t < 0
 ·simp[Mg,h1,Ea]
  exact iF true _
 ·simp[Mg,h1,Ea]
  exact iF _ _
def zZ(d:aB)(r:List Int):Bool:=((r.length:Int) != d.signs) || r.any (Ea d.next.length)
theorem Zax{P:Program}{f1 fc:FuncId}(d:aB)(r:List Int)(hc:aM P fc [au r,.aO f1 [] [.bF (ak d.next.length) 0]] (aG (r.any (Ea d.next.length)))) :
  AW P (Mh fc) (bR [4] (dx (aG (zZ d r)))) (bC [au r,.bF (aH d) 0,.bF (.aO f1 [] [.bF (ak d.next.length) 0]) 0]) S0:=by
 cases h1:((r.length:Int) != d.signs) with
 | true=>
  simp[Mh,au,aH,h1,zZ];exact iF true _
 | false=>
  simp[Mh,au,aH,h1,zZ];refine aQ.pure hc (aR (bD r) (aR (.aO _ _ _ bB (aR (.bF _ _ (aX _)) bB)) bB)) (cu _) ?_;simp;exact iF _ _
theorem ZjP(d:aB)(r:List Int):wT d r=!zZ d r:=by
 unfold wT zZ;rw[Bool.not_or,List.not_any_eq_all_not];congr 1
 ·by_cases h:(r.length:Int)=d.signs<;>simp[h]
 ·congr 1;funext t
  unfold Ea;by_cases h1:t < 0<;>by_cases h2:(d.next.length:Int)≤t<;>simp[h1,h2]<;>omega
theorem Zc8{P:Program}{f1 f2 fc:FuncId}(d:aB)(ok:lU d)
  (hc:aM P fc [aN d.next,.aO f2 [] [.bF (aH d) 0,.bF (.aO f1 [] [.bF (ak d.next.length) 0]) 0]] (aG (d.next.any (zZ d)))) :
  AW P (Bn f1 f2 fc) (bR [2] (dx (aG (fE d)))) (bC [aH d]) S0:=by
 have k1:=ok.next
 have k2:=ok.fin;have k3:=ok.signs;unfold Len at k1 k2;by_cases h1:d.signs < 1
 ·have hr:fE d=false:=by simp[fE];omega
  simp[Bn,aH,aN,bA,h1,hr];exact iF false _
 by_cases h2:400 < d.signs
 ·have hr:fE d=false:=by simp[fE];omega
  simp[Bn,aH,aN,bA,h1,h2,hr];exact iF false _
 by_cases h3:(d.next.length:Int)=0
 ·have hr:fE d=false:=by simp[fE];omega
  have hc:((d.next.length:Int) == 0)=true:=by simp[h3]
  simp[Bn,aH,aN,bA,h1,h2,hc,hr];exact iF false _
 have hc3:((d.next.length:Int) == 0)=false:=by simpa using h3
 by_cases h4:(3000:Int) < d.next.length
 ·have hr:fE d=false:=by simp[fE];omega
  simp[Bn,aH,aN,bA,h1,h2,hc3,h4,hr];exact iF false _
 by_cases h5:d.fin.length=d.next.length
 ·have yJ:((d.fin.length:Int) != d.next.length)=false:=by simp[h5]
  have hr:fE d=!d.next.any (zZ d):=by
   rw[List.not_any_eq_all_not];have:d.next.all (wT d)=d.next.all (fun r=>!zZ d r):=by congr 1;funext r;exact ZjP d r
   rw[fE,this];have a1:decide (1≤d.signs)=true:=by simp;omega
   have a2:decide (d.signs≤400)=true:=by simp;omega
   have a3:decide (1≤d.next.length)=true:=by simp;omega
   have a4:decide (d.next.length≤3000)=true:=by simp;omega
   simp[a1,a2,a3,a4,h5]
  simp[Bn,aH,aN,bA,h1,h2,hc3,h4,yJ];refine aQ.looks hc (iN.cons (.closed _ (jr _)) (iN.cons (.Q6 (iN.cons (.box _ _ 3 (aH d) _ ?_ (.closed _ (dW d))) (iN.cons (.box _ _ 1 (.aO f1 [] [.ptr 5 0 0]) _ ?_ (.Q6 (iN.cons (.box _ _ 1 (ak d.next.length) _ ?_ (.closed _ (aX _))) iN.nil))) iN.nil))) iN.nil)) (FW _) ?_
  ·simp[aD,aH,aN,bA,ak]
  ·simp[aD]
  ·simp[aD,ak]
  ·simp[hr]
   exact iF _ _
 ·have hr:fE d=false:=by simp[fE];omega
  have yJ:((d.fin.length:Int) != d.next.length)=true:=by simp;omega
  simp[Bn,aH,aN,bA,h1,h2,hc3,h4,yJ,hr];exact iF false _
def Bl:AC:= (sq [ro 1 (.box 3 (.t 0)),ro 2 (.mv (.c (.v (.bool false))))] (sq [rF 6 1 1,rL 7 6,ro 8 (.len (.t 7)),rm 3 8] (.seq (sq [rF 9 0 1,rL 10 9,ro 11 (.bin .lss (.t 10) (ci 1)),rm 12 11,rg 13 12 false (.bV 0 (.t 1)),rg 14 12 false (.load none (.t 13)),rg 15 12 false (.bin .gtr (.t 14) (ci 400)),ro 16 (.pick (.t 12) (.c (.v (.bool true))) (.t 15)),rm 17 16,rg 18 17 false (.mv (.t 3)),rg 19 17 false (.bin .lss (.t 18) (ci 1)),ro 20 (.pick (.t 17) (.c (.v (.bool true))) (.t 19)),rm 21 20,rg 22 21 false (.mv (.t 3)),rg 23 21 false (.bin .gtr (.t 22) (ci 3000)),ro 24 (.pick (.t 21) (.c (.v (.bool true))) (.t 23)),rm 25 24,rg 26 25 false (.bV 2 (.t 1)),rg 27 25 false (.load none (.t 26)),rg 28 25 false (.len (.t 27)),rg 29 25 false (.mv (.t 3)),rg 30 25 false (.bin .neq (.t 28) (.t 29)),ro 31 (.pick (.t 25) (.c (.v (.bool true))) (.t 30))] (.cond (.t 31) (sq [ro 2 (.mv (.c (.v (.bool false))))] .ret) .skip)) (.seq (sq [ro 4 (.mv (ci 0))] (.block 0 (.loop (.seq (sq [rm 32 4,rm 33 3,ro 34 (.bin .lss (.t 32) (.t 33))] (.cond (.t 34) .skip (.exit 0))) (.seq (.block 1 (.seq (.seq (.reg (some []) [rF 37 1 1,rL 38 37,rm 39 4,ro 40 (.aI 1 (.t 38) (.t 39)),rL 41 40,ro 42 (.len (.t 41)),rF 43 0 1,rL 44 43,ro 45 (.bin .neq (.t 42) (.t 44))]) (.cond (.t 45) (sq [ro 2 (.mv (.c (.v (.bool false))))] .ret) .skip)) (sq [ro 5 (.mv (ci 0))] (.block 2 (.loop (.seq (sq [rm 46 5,rF 47 0 1,rL 48 47,ro 49 (.bin .lss (.t 46) (.t 48))] (.cond (.t 49) .skip (.exit 2))) (.seq (.block 3 (sq [rF 52 1 1,rL 53 52,rm 54 4,ro 55 (.aI 1 (.t 53) (.t 54)),rL 56 55,rm 57 5,ro 58 (.aI 1 (.t 56) (.t 57)),rL 59 58,ro 60 (.bin .lss (.t 59) (ci 0)),rm 61 60,rg 62 61 false (.bV 1 (.t 1)),rg 63 61 false (.load none (.t 62)),rg 64 61 false (.mv (.t 4)),rg 65 61 false (.aI 1 (.t 63) (.t 64)),rg 66 61 false (.load none (.t 65)),rg 67 61 false (.mv (.t 5)),rg 68 61 false (.aI 1 (.t 66) (.t 67)),rg 69 61 false (.load none (.t 68)),rg 70 61 false (.mv (.t 3)),rg 71 61 false (.bin .geq (.t 69) (.t 70)),ro 72 (.pick (.t 61) (.c (.v (.bool true))) (.t 71))] (.cond (.t 72) (sq [ro 2 (.mv (.c (.v (.bool false))))] .ret) .skip))) (.reg none [rm 50 5,ro 51 (.bin .add (.t 50) (ci 1)),rm 5 51])))))))) (.reg none [rm 35 4,ro 36 (.bin .add (.t 35) (ci 1)),rm 4 36])))))) (sq [ro 2 (.mv (.c (.v (.bool true))))] .ret)))))
def Zqi(d:aB)(m:Nat)(f:AF)(S:St):Prop:=
 ∃i:Nat,i≤d.next.length∧m=d.next.length - i∧f 4=ak i∧f 3=ak d.next.length∧f 1=.ptr 0 0 0∧S.g 0=some (.arr 3 [aH d])∧(d.next.take i).all (wT d)=true
def Zqj(d:aB)(i:Nat)(r:List Int)(m:Nat)(f:AF)(S:St):Prop:=
 ∃j:Nat,j≤r.length∧m=r.length - j∧f 5=ak j∧f 4=ak i∧f 3=ak d.next.length∧f 1=.ptr 0 0 0∧S.g 0=some (.arr 3 [aH d])∧(r.take j).all (fun t=>decide (0≤t) && decide (t < d.next.length))=true
theorem Z7n(P:Program)(d:aB)(ok:lU d):AW P Bl (bR [2] (dx (aG (fE d)))) (bC [aH d]) S0:=by
 have k1:=ok.next
 have k2:=ok.fin;have k3:=ok.signs;unfold Len at k1 k2;by_cases h1:d.signs < 1
 ·have hr:fE d=false:=by simp[fE];omega
  simp[Bl,aH,aN,bA,h1,hr];exact iF false _
 by_cases h2:400 < d.signs
 ·have hr:fE d=false:=by simp[fE];omega
  simp[Bl,aH,aN,bA,h1,h2,hr];exact iF false _
 by_cases h3:(d.next.length:Int) < 1
 ·have hr:fE d=false:=by simp[fE];omega
  simp[Bl,aH,aN,bA,h1,h2,h3,hr];exact iF false _
 by_cases h4:(3000:Int) < d.next.length
 ·have hr:fE d=false:=by simp[fE];omega
  simp[Bl,aH,aN,bA,h1,h2,h3,h4,hr];exact iF false _
 by_cases h5:d.fin.length=d.next.length
 ·have hc:((d.fin.length:Int) != d.next.length)=false:=by simp[h5]
  simp[Bl,aH,aN,bA,h1,h2,h3,h4,hc];refine kD (Zqi d) d.next.length ?_ ?_
  ·refine⟨0,by omega,by omega,?_,?_,?_,?_,?_⟩<;>simp[aj,ak,aH,aN,bA,aD]
  ·rintro m f S ⟨i,hi,rfl,e4,e3,e1,eg,hp⟩
   by_cases hlt:i < d.next.length
   ·have kr:=ok.rows _ (List.getElem_mem hlt)
    unfold Len at kr
    have Wu:wT d d.next[i]=false→fE d=false:=by
     intro h;simp only[fE]
     have:d.next.all (wT d)=false:=by
      rw[List.all_eq_false];exact⟨_,List.getElem_mem hlt,by simp[h]⟩
     simp[this]
    by_cases hrl:((d.next[i]).length:Int)=d.signs
    ·have hc1:(((d.next[i]).length:Int) != d.signs)=false:=by simp[hrl]
     simp[e4,e3,e1,eg,aH,aN,bA,au,hlt,hc1];refine kD (Zqj d i d.next[i]) (d.next[i]).length ?_ ?_
     ·refine⟨0,by omega,by omega,?_,?_,?_,?_,?_,?_⟩<;>simp[aj,e4,e3,e1,eg,ak,aH,aN,bA]
     ·rintro m f S ⟨j,hj,rfl,e5,e4,e3,e1,eg,hq⟩
      by_cases hjl:j < (d.next[i]).length
      ·have hjs:(j:Int) < d.signs:=by omega
       have hrow:¬(0≤(d.next[i])[j]∧(d.next[i])[j] < d.next.length)→wT d d.next[i]=false:=by
        intro h
        have:(d.next[i]).all (fun t=>decide (0≤t) && decide (t < d.next.length))=false:=by
         rw[List.all_eq_false];refine⟨_,List.getElem_mem hjl,?_⟩;simp only[Bool.and_eq_true,decide_eq_true_eq];exact h
        simp[wT,this]
       by_cases hn:(d.next[i])[j] < 0
       ·have hr:=Wu (hrow (by omega))
        simp[e5,e4,e1,eg,aH,aN,bA,au,hlt,hjl,hjs,hn,hr];exact iF false _
       by_cases hg:(d.next.length:Int)≤(d.next[i])[j]
       ·have hr:=Wu (hrow (by omega))
        simp[e5,e4,e3,e1,eg,aH,aN,bA,au,hlt,hjl,hjs,hn,hg,hr];exact iF false _
       simp[e5,e4,e3,e1,eg,aH,aN,bA,au,hlt,hjl,hjs,hn,hg];rw[aZ _ (by omega)];refine⟨(d.next[i]).length - (j+1),by omega,j+1,by omega,rfl,?_,?_,?_,?_,?_,by rw[Yw _ _ _ hjl,hq];simp;omega⟩<;>simp[aj,e4,e3,e1,eg,ak,aH,aN,bA]
      ·have hjs:¬(j:Int) < d.signs:=by omega
       simp[e5,e4,e1,eg,aH,aN,bA,hjs];rw[aZ _ (by omega)];rw[List.take_of_length_le (by omega)] at hq;refine⟨d.next.length - (i+1),by omega,i+1,by omega,rfl,?_,?_,?_,?_,by rw[Yw _ _ _ hlt,hp,wT,hq];simp[hrl]⟩<;>simp[aj,e3,e1,eg,ak,aH,aN,bA]
    ·have hr:=Wu (by simp[wT,hrl])
     have hc1:(((d.next[i]).length:Int) != d.signs)=true:=by simp[hrl]
     simp[e4,e3,e1,eg,aH,aN,bA,au,hlt,hc1,hr];exact iF false _
   ·have hr:fE d=true:=by
     rw[List.take_of_length_le (by omega)] at hp;simp[fE,hp];omega
    simp[e4,e3,hlt,hr];exact iF true _
 ·have hr:fE d=false:=by simp[fE];omega
  have hc:((d.fin.length:Int) != d.next.length)=true:=by simp;omega
  simp[Bl,aH,aN,bA,h1,h2,h3,h4,hc,hr];exact iF false _
end Go.Rf
namespace Go.Rf
theorem TY{n x:Int}:∀{l:List Int},x∈yD l n↔x=n∨x∈l
 | []=>by simp[yD]
 | y::l=>by
  simp only[yD];split
  ·rw[List.mem_cons,TY,List.mem_cons]
   constructor
   ·rintro(h | h | h)<;>simp[h]
   ·rintro(h | h | h)<;>simp[h]
  ·split
   ·rename_i h;subst h
    constructor
    ·intro h;exact .inr h
    ·rintro(h | h)
     ·rw[h];exact List.mem_cons_self ..
     ·exact h
   ·rw[List.mem_cons]
theorem YK{n:Int}:∀{l:List Int},l.Pairwise (· < ·)→(yD l n).Pairwise (· < ·)
 | [],_=>by simp[yD]
 | x::l,h=>by
  obtain⟨h1,h2⟩:=List.pairwise_cons.mp h;simp only[yD];split
  ·rename_i hx
   refine List.pairwise_cons.mpr ⟨fun y hy=>?_,YK h2⟩;rcases TY.mp hy with h3 | h3
   ·omega
   ·exact h1 y h3
  ·split
   ·exact h
   ·refine List.pairwise_cons.mpr ⟨fun y hy=>?_,h⟩
    rcases List.mem_cons.mp hy with h3 | h3
    ·omega
    ·have:=h1 y h3;omega
theorem Zjm{zs:List Int}{x:Int}:x∈Lib.compact zs↔x∈zs:=by
 have hget:∀j (hj:j < zs.length),zs.toArray[j]! = zs[j]:=fun j hj=>by simp[hj]
 simp only[Lib.compact,Lib.compactUpTo,List.mem_map,List.mem_filter,List.mem_range];constructor
 ·rintro⟨j,⟨hj,_⟩,rfl⟩
  rw[hget j hj];exact List.getElem_mem hj
 ·intro hx
  obtain⟨j,hj,rfl⟩:=List.mem_iff_getElem.mp hx
  have key:∀m,∀j (hj:j < zs.length),j≤m→∃a,(a < zs.length∧Lib.keeps zs.toArray a=true)∧zs.toArray[a]! = zs[j]:=by
   intro m;induction m with
   | zero=>
    intro j hj h0;have:j=0:=by omega
    subst this;exact⟨0,⟨hj,by simp[Lib.keeps]⟩,hget 0 hj⟩
   | succ m ih=>
    intro j hj hm;by_cases hk:Lib.keeps zs.toArray j=true
    ·exact⟨j,⟨hj,hk⟩,hget j hj⟩
    ·have hk':¬(j=0∨zs.toArray[j]!≠zs.toArray[j - 1]!):=by simpa[Lib.keeps] using hk
     have h0:j≠0:=fun e=>hk' (.inl e)
     have he:zs.toArray[j]! = zs.toArray[j - 1]!:=Decidable.byContradiction fun e=>hk' (.inr e)
     obtain⟨a,ha,hb⟩:=ih (j - 1) (by omega) (by omega);refine⟨a,ha,?_⟩;rw[hb,←hget (j - 1) (by omega),←he,hget j hj]
  obtain⟨a,h1,h2⟩:=key j j hj (Nat.le_refl _);exact⟨a,h1,h2⟩
theorem Zpt{zs:List Int}(h:zs.Pairwise (·≤·)):(Lib.compact zs).Pairwise (· < ·):=by
 have hget:∀j (hj:j < zs.length),zs.toArray[j]! = zs[j]:=fun j hj=>by simp[hj]
 have hp:=List.pairwise_iff_getElem.mp h;simp only[Lib.compact,Lib.compactUpTo];rw[List.pairwise_map];refine List.Pairwise.imp_of_mem ?_ (List.Pairwise.filter _ List.pairwise_lt_range);intro a b ha hb hab;simp only[List.mem_filter,List.mem_range] at ha hb;obtain⟨hb1,hb2⟩:=hb;have hk:b=0∨zs.toArray[b]!≠zs.toArray[b - 1]!:=by simpa[Lib.keeps] using hb2
 have h1:zs.toArray[b]!≠zs.toArray[b - 1]!:=by
  rcases hk with h1 | h1
  ·omega
  ·exact h1
 rw[hget b hb1,hget (b - 1) (by omega)] at h1;rw[hget a ha.1,hget b hb1]
 have h2:zs[b - 1]≤zs[b]:=by
  have:=hp (b - 1) b (by omega) hb1 (by omega);exact this
 have h3:zs[a]≤zs[b - 1]:=by
  by_cases e:a=b - 1
  ·subst e;exact Int.le_refl _
  ·exact hp a (b - 1) ha.1 (by omega) (by omega)
 omega
def jm(l:List Int):List Int:=Lib.compact (l.mergeSort fun x y=>decide (x≤y))
theorem FP{l:List Int}{x:Int}:x∈jm l↔x∈l:=by
 unfold jm;rw[Zjm];exact(List.mergeSort_perm _ _).mem_iff
theorem Js(l:List Int):(jm l).Pairwise (· < ·):=by
 refine Zpt ?_;have:=List.pairwise_mergeSort (le:=fun x y:Int=>decide (x≤y)) (by simp;omega) (by simp;omega) l;simpa using this
theorem UO:∀{l m:List Int},l.Pairwise (· < ·)→m.Pairwise (· < ·)→(∀x,x∈l↔x∈m)→l=m
 | [],[],_,_,_=>rfl
 | [],y::m,_,_,h=>by have:=(h y).mpr (by simp);simp at this
 | x::l,[],_,_,h=>by have:=(h x).mp (by simp);simp at this
 | x::l,y::m,hl,hm,h=>by
  have hl2:=List.pairwise_cons.mp hl;have hm2:=List.pairwise_cons.mp hm
  have e:x=y:=by
   have h1:=(h x).mp (by simp);have h2:=(h y).mpr (by simp);rcases List.mem_cons.mp h1 with h1 | h1
   ·exact h1
   ·rcases List.mem_cons.mp h2 with h2 | h2
    ·exact h2.symm
    ·have:=hm2.1 x h1
     have:=hl2.1 y h2;omega
  subst e;congr 1;refine UO hl2.2 hm2.2 fun z=>?_
  constructor
  ·intro hz
   have:=(h z).mp (by simp[hz]);rcases List.mem_cons.mp this with h1 | h1
   ·subst h1;have:=hl2.1 z hz;omega
   ·exact h1
  ·intro hz
   have:=(h z).mpr (by simp[hz]);rcases List.mem_cons.mp this with h1 | h1
   ·subst h1;have:=hm2.1 z hz;omega
   ·exact h1
theorem Zx{l:List Int}:jm l=l↔l.Pairwise (· < ·):=by
 constructor
 ·intro h;rw[←h];exact Js l
 ·intro h;exact UO (Js l) h (fun x=>FP)
theorem TF(l:List Int):(jm l).length≤l.length:=by
 unfold jm;have h1:(Lib.compact (l.mergeSort fun x y=>decide (x≤y))).length≤(l.mergeSort fun x y=>decide (x≤y)).length:=Lib.compact_length_le _;rw[List.length_mergeSort] at h1;exact h1
theorem Zp:∀(l:List Int) {o:List Int},o.Pairwise (· < ·)→(l.foldl yD o).Pairwise (· < ·)
 | [],o,h=>h
 | x::l,o,h=>Zp l (YK h)
theorem YU:∀(l:List Int) {o:List Int} {x:Int},x∈l.foldl yD o↔x∈o∨x∈l
 | [],o,x=>by simp
 | y::l,o,x=>by rw[List.foldl_cons,YU l,TY,List.mem_cons,or_assoc,or_left_comm]
theorem ZjL(l:List Int):l.foldl yD []=jm l:=UO (Zp l .nil) (Js l) (fun x=>by rw[YU,FP];simp)
theorem Np:∀{l:List Int} {a b:Int},l.Pairwise (· < ·)→(∀x∈l,a≤x∧x < b)→(l.length:Int)≤max 0 (b - a)
 | [],a,b,_,_=>by simp;omega
 | x::l,a,b,hl,h=>by
  have hl2:=List.pairwise_cons.mp hl;have hx:=h x (by simp);have:=Np (l:=l) (a:=x+1) (b:=b) hl2.2 (fun y hy=>⟨by have:=hl2.1 y hy;omega,(h y (by simp[hy])).2⟩);simp only[List.length_cons];omega
def qc(l:List Int)(a b:Int):Bool:=decide (l.Pairwise (· < ·)) && l.all fun x=>decide (a≤x) && decide (x < b)
def Jy(l:List Int)(a b:Int):Prop:=l.Pairwise (· < ·)∧∀x∈l,a≤x∧x < b
theorem C8{l:List Int}{a b:Int}:qc l a b=true↔Jy l a b:=by
 simp[qc,Jy,List.all_eq_true]
theorem Jw(place:Int):∀(l:List Int) (i k:Nat) (h:k < l.length) (h':k < (eP place i l).length),(eP place i l)[k]=2*l[k]+iK place (i+k)
 | s::l,i,0,h,h'=>by simp[eP]
 | s::l,i,k+1,h,h'=>by
  simp only[eP,List.getElem_cons_succ];rw[Jw place l (i+1) k (by simpa using h)];congr 2;omega
section
variable{P:Program}{fl fi fb fw:FuncId}{a b:List Int}{place:Int}
end
end Go.Rf
namespace Go.Rf
open Go.RowKit
inductive iT where
 | mk (kind:Int) (set:List Rg) (signs:List Int) (kids:List iT)
def iT.kind:iT→Int | .mk k _ _ _=>k
def iT.set:iT→List Rg | .mk _ s _ _=>s
def iT.signs:iT→List Int | .mk _ _ g _=>g
def iT.kids:iT→List iT | .mk _ _ _ ks=>ks
mutual
def zi:iT→AV
 | .mk k s g ks=>.agg [ak k,U4 s,au g,.sl false (Bw ks)]
def Bw:List iT→List AV
 | []=>[]
 | p::ps=>zi p::Bw ps
end
theorem Ze:∀(ks:List iT),Bw ks=ks.map zi
 | []=>by simp[Bw]
 | p::ps=>by simp[Bw,Ze ps]
theorem Fx(k:Int)(s:List Rg)(g:List Int)(ks:List iT):zi (.mk k s g ks)=.agg [ak k,U4 s,au g,.sl false (ks.map zi)]:=by rw[zi,Ze]
mutual
theorem Zb:∀(p:iT),aV (zi p)
 | .mk k s g ks=>by
  rw[zi];refine .agg _ (fun y hy=>?_);simp only[List.mem_cons,List.not_mem_nil,or_false] at hy;rcases hy with rfl | rfl | rfl | rfl
  ·exact aX _
  ·exact Ziw _
  ·exact bD _
  ·exact .sl _ _ (YN ks)
theorem YN:∀(ks:List iT),∀y∈Bw ks,aV y
 | [],y,h=>by simp[Bw] at h
 | p::ps,y,h=>by
  simp only[Bw,List.mem_cons] at h;rcases h with rfl | h
  ·exact Zb p
  ·exact YN ps y h
end
theorem ZQ:∀(n:Nat) {l:List Int},l.Nodup→(∀x∈l,0≤x∧x < (n:Int))→l.length≤n
 | 0,l,_,h=>by
  cases l with
  | nil=>simp
  | cons x l=>have:=h x (by simp);omega
 | n+1,l,hd,h=>by
  have h1:(l.filter (fun x=>x != (n:Int))).length≤n:=ZQ n (hd.filter _) (fun x hx=>by
   have hm:=List.mem_filter.mp hx;have:=h x hm.1;have hne:x≠(n:Int):=by simpa using hm.2
   omega)
  have h2:(l.filter (fun x=>x == (n:Int))).length≤1:=by
   have hd2:=hd.filter (fun x=>x == (n:Int));have hall:∀x∈l.filter (fun x=>x == (n:Int)),x=(n:Int):=fun x hx=>by simpa using(List.mem_filter.mp hx).2
   generalize l.filter (fun x=>x == (n:Int))=m at *
   match m,hd2,hall with
   | [],_,_=>simp
   | [_],_,_=>simp
   | a::b::m,hd2,hall=>
    exfalso;have:=(List.nodup_cons.mp hd2).1;rw[hall a (by simp)] at this;rw[hall b (by simp)] at this;simp at this
  have h3:l.length=(l.filter (fun x=>x == (n:Int))).length+(l.filter (fun x=>x != (n:Int))).length:=by
   have:=List.length_eq_countP_add_countP (p:=fun x:Int=>x == (n:Int)) (l:=l);rw[List.countP_eq_length_filter,List.countP_eq_length_filter] at this;rw[this];congr 2;exact List.filter_congr (fun x _=>by rw[bne];cases(x == (n:Int))<;>rfl)
  omega
theorem Vec.cel{g:Nat→Option aF}{v:AV}{es:Nat}{xs:List AV}(h:Vec g v es xs):v.cells=[v]∧v.solid=true:=by
 rcases h with⟨rfl,_⟩ | ⟨_,_,_,rfl,_⟩<;>exact⟨rfl,rfl⟩
end Go.Rf
namespace Go.Rf
theorem ZkA{d:aB}(R:bg d)(l:List Int):lg d l=true↔∃s,nR d 0 l=some s∧d.fin.getD s false=true:=by
 have hr:fE d=true:=(wQ d).mpr R;simp only[lg,sI,if_pos hr];cases nR d 0 l with
 | none=>simp
 | some s=>simp
end Go.Rf
