import Derived.Test.YtdmcjhnbmgmgoaaGreatDoorRfLy20
set_option linter.unusedVariables false
set_option linter.unusedSimpArgs false
set_option linter.unusedSectionVars false
namespace Go.Rf
section
variable{K:Type}[BEq K]
def Z5H(s:List K×List Int)(k:K):List K×List Int:=if s.1.contains k then (s.1,s.2++[(s.1.idxOf k:Int)]) else (s.1++[k],s.2++[(s.1.length:Int)])
def Z2l(l:List K):List K×List Int:=l.foldl Z5H ([],[])
theorem Z6G(l:List K)(k:K):Z2l (l++[k])=Z5H (Z2l l) k:=by simp[Z2l]
end
theorem ZoQ{X:Type}{p:List X→Prop}(h0:p [])(h1:∀l x,p l→p (l++[x]))(l:List X):p l:=by
 have:∀r:List X,p r.reverse:=by
  intro r;induction r with
  | nil=>exact h0
  | cons x r ih=>rw[List.reverse_cons];exact h1 _ _ ih
 rw[←List.reverse_reverse l];exact this _
section
variable{K:Type}[BEq K][LawfulBEq K]
structure ZtR(l:List K)(s:List K×List Int):Prop where
 len:s.2.length=l.length
 nd:s.1.Nodup
 mem:∀k,k∈s.1↔k∈l
 at_:∀i (h:i < l.length),s.2[i]? = some ((s.1.idxOf l[i]:Nat):Int)
theorem Z6X(l:List K):ZtR l (Z2l l):=by
 refine ZoQ (p:=fun l=>ZtR l (Z2l l)) ?_ ?_ l
 ·exact⟨rfl,List.nodup_nil,by simp[Z2l],by simp⟩
 ·intro l k ih
  rw[Z6G];unfold Z5H;split
  ·rename_i hc
   have hin:k∈(Z2l l).1:=by simpa using hc
   refine⟨by simp[ih.len],ih.nd,fun x=>?_,fun i hi=>?_⟩
   ·simp only[List.mem_append,List.mem_singleton]
    rw[ih.mem];constructor
    ·exact .inl
    ·rintro(h | rfl)
     ·exact h
     ·exact(ih.mem _).mp hin
   ·simp only
    by_cases hl:i < l.length
    ·rw[List.getElem?_append_left (by rw[ih.len];exact hl),List.getElem_append_left hl];exact ih.at_ i hl
    ·have:i=l.length:=by simp at hi;omega
     subst this;rw[List.getElem?_append_right (by rw[ih.len];omega),ih.len];simp
  ·rename_i hc
   have hin:k∉(Z2l l).1:=by simpa using hc
   refine⟨by simp[ih.len],?_,fun x=>?_,fun i hi=>?_⟩
   ·rw[List.nodup_append]
    exact⟨ih.nd,by simp,fun a ha b hb=>by simp at hb;subst hb;rintro rfl;exact hin ha⟩
   ·simp only[List.mem_append,List.mem_singleton]
    rw[ih.mem]
   ·simp only
    by_cases hl:i < l.length
    ·rw[List.getElem?_append_left (by rw[ih.len];exact hl),List.getElem_append_left hl]
     have hm:l[i]∈(Z2l l).1:=(ih.mem _).mpr (List.getElem_mem hl);rw[List.idxOf_append,if_pos hm];exact ih.at_ i hl
    ·have:i=l.length:=by simp at hi;omega
     subst this;rw[List.getElem?_append_right (by rw[ih.len];omega),ih.len];simp only[List.getElem_concat_length,Nat.sub_self,List.getElem?_cons_zero];rw[List.idxOf_append,if_neg hin];simp
end
theorem ZhC{K M:Type}[BEq K][LawfulBEq K][BEq M][LawfulBEq M]{l:List K}{m:List M}(hl:l.length=m.length)(h:∀i j (h1:i < l.length) (h2:j < l.length),l[i]=l[j]↔m[i]'(by omega)=m[j]'(by omega)) :
  (Z2l l).2=(Z2l m).2∧(Z2l l).1.length=(Z2l m).1.length:=by
 have key:∀n,n≤l.length→(Z2l (l.take n)).2=(Z2l (m.take n)).2∧(Z2l (l.take n)).1.length=(Z2l (m.take n)).1.length ∧
   ∀i (h1:i < n) (h2:i < l.length),((Z2l (l.take n)).1.idxOf l[i])=((Z2l (m.take n)).1.idxOf (m[i]'(by omega))):=by
  intro n;induction n with
  | zero=>intro _;simp[Z2l]
  | succ n ih =>
   intro hn;have hnl:n < l.length:=by omega
   have hnm:n < m.length:=by omega
   obtain⟨i1,i2,i3⟩:=ih (by omega);have e1:l.take (n+1)=l.take n++[l[n]]:=by rw[List.take_add_one,List.getElem?_eq_getElem hnl];rfl
   have e2:m.take (n+1)=m.take n++[m[n]]:=by rw[List.take_add_one,List.getElem?_eq_getElem hnm];rfl
   have o1:=Z6X (l.take n);have o2:=Z6X (m.take n)
   have hmem:l[n]∈(Z2l (l.take n)).1↔m[n]∈(Z2l (m.take n)).1:=by
    rw[o1.mem,o2.mem,List.mem_take_iff_getElem,List.mem_take_iff_getElem];constructor
    ·rintro⟨i,hi,e⟩
     exact⟨i,by omega,(h i n (by omega) hnl).mp e⟩
    ·rintro⟨i,hi,e⟩
     exact⟨i,by omega,(h i n (by omega) hnl).mpr e⟩
   rw[e1,e2,Z6G,Z6G];by_cases hin:l[n]∈(Z2l (l.take n)).1
   ·have hin2:=hmem.mp hin
    obtain⟨i,hi,ei⟩:∃i,∃hi:i < n,l[i]=l[n]:=by
     have:=(o1.mem _).mp hin;rw[List.mem_take_iff_getElem] at this;obtain⟨i,hi,e⟩:=this;exact⟨i,by omega,e⟩
    have em:=(h i n (by omega) hnl).mp ei;have hidx:=i3 i hi (by omega);rw[ei,em] at hidx;have c1:(Z2l (l.take n)).1.contains l[n]=true:=by simpa using hin
    have c2:(Z2l (m.take n)).1.contains m[n]=true:=by simpa using hin2
    simp only[Z5H,c1,c2,if_true];refine⟨by rw[i1,hidx],i2,fun j hj hjl=>?_⟩;by_cases hjn:j < n
    ·exact i3 j hjn hjl
    ·have:j=n:=by omega
     subst this;exact hidx
   ·have hin2:=fun h2=>hin (hmem.mpr h2)
    have c1:(Z2l (l.take n)).1.contains l[n]=false:=by simpa using hin
    have c2:(Z2l (m.take n)).1.contains m[n]=false:=by simpa using hin2
    simp only[Z5H,c1,c2,Bool.false_eq_true,if_false];refine⟨by rw[i1,i2],by simp[i2],fun j hj hjl=>?_⟩;by_cases hjn:j < n
    ·have m1:l[j]∈(Z2l (l.take n)).1:=(o1.mem _).mpr (List.mem_take_iff_getElem.mpr ⟨j,by omega,rfl⟩)
     have m2:m[j]'(by omega)∈(Z2l (m.take n)).1:=(o2.mem _).mpr (List.mem_take_iff_getElem.mpr ⟨j,by omega,rfl⟩);rw[List.idxOf_append,if_pos m1,List.idxOf_append,if_pos m2];exact i3 j hjn hjl
    ·have:j=n:=by omega
     subst this;rw[List.idxOf_append,if_neg hin,List.idxOf_append,if_neg hin2,i2];simp
 obtain⟨a,b,_⟩:=key l.length (Nat.le_refl _);rw[List.take_length,hl,List.take_length] at *;exact⟨a,b⟩
section
variable{K M:Type}[BEq K][LawfulBEq K][BEq M][LawfulBEq M]
theorem ZlL{l:List K}{m:List M}(hl:l.length=m.length)(h:∀i j (h1:i < l.length) (h2:j < l.length),l[i]=l[j]→m[i]'(by omega)=m[j]'(by omega)) :
  (Z2l m).1.length≤(Z2l l).1.length∧((Z2l m).1.length=(Z2l l).1.length→∀i j (h1:i < l.length) (h2:j < l.length),m[i]'(by omega)=m[j]'(by omega)→l[i]=l[j]):=by
 have key:∀n,n≤l.length→(Z2l (m.take n)).1.length≤(Z2l (l.take n)).1.length ∧
   ((Z2l (m.take n)).1.length=(Z2l (l.take n)).1.length→∀i j (h1:i < n) (h2:j < n) (h3:i < l.length) (h4:j < l.length),m[i]'(by omega)=m[j]'(by omega)→l[i]=l[j]):=by
  intro n;induction n with
  | zero=>intro _;exact⟨by simp[Z2l],fun _ i j h1=>by omega⟩
  | succ n ih =>
   intro hn;have hnl:n < l.length:=by omega
   have hnm:n < m.length:=by omega
   obtain⟨i1,i2⟩:=ih (by omega);have e1:l.take (n+1)=l.take n++[l[n]]:=by rw[List.take_add_one,List.getElem?_eq_getElem hnl];rfl
   have e2:m.take (n+1)=m.take n++[m[n]]:=by rw[List.take_add_one,List.getElem?_eq_getElem hnm];rfl
   have o1:=Z6X (l.take n);have o2:=Z6X (m.take n);rw[e1,e2,Z6G,Z6G];by_cases hin:l[n]∈(Z2l (l.take n)).1
   ·obtain⟨i,hi,ei⟩:∃i,∃hi:i < n,l[i]=l[n]:=by
     have:=(o1.mem _).mp hin;rw[List.mem_take_iff_getElem] at this;obtain⟨i,hi,e⟩:=this;exact⟨i,by omega,e⟩
    have em:=h i n (by omega) hnl ei;have hin2:m[n]∈(Z2l (m.take n)).1:=(o2.mem _).mpr (List.mem_take_iff_getElem.mpr ⟨i,by omega,em⟩);have c1:(Z2l (l.take n)).1.contains l[n]=true:=by simpa using hin
    have c2:(Z2l (m.take n)).1.contains m[n]=true:=by simpa using hin2
    simp only[Z5H,c1,c2,if_true];refine⟨i1,fun hc a b ha hb ha2 hb2 hab=>?_⟩;have i3:=i2 hc;by_cases han:a < n
    ·by_cases hbn:b < n
     ·exact i3 a b han hbn ha2 hb2 hab
     ·have:b=n:=by omega
      subst this;rw[←ei];exact i3 a i han hi ha2 (by omega) (hab.trans em.symm)
    ·have:a=n:=by omega
     subst this;by_cases hbn:b < a
     ·rw[←ei]
      exact i3 i b hi hbn (by omega) hb2 (em.trans hab)
     ·have:b=a:=by omega
      subst this;rfl
   ·have c1:(Z2l (l.take n)).1.contains l[n]=false:=by simpa using hin
    cases c2:(Z2l (m.take n)).1.contains m[n] with
    | true =>
     simp only[Z5H,c1,c2,if_true,Bool.false_eq_true,if_false,List.length_append,List.length_cons,List.length_nil];exact⟨by omega,fun hc=>by omega⟩
    | false =>
     simp only[Z5H,c1,c2,Bool.false_eq_true,if_false,List.length_append,List.length_cons,List.length_nil];have hin2:m[n]∉(Z2l (m.take n)).1:=by simpa using c2
     refine⟨by omega,fun hc a b ha hb ha2 hb2 hab=>?_⟩;have i3:=i2 (by omega);by_cases han:a < n
     ·by_cases hbn:b < n
      ·exact i3 a b han hbn ha2 hb2 hab
      ·have:b=n:=by omega
       subst this;exact(hin2 ((o2.mem _).mpr (List.mem_take_iff_getElem.mpr ⟨a,by omega,hab⟩))).elim
     ·have:a=n:=by omega
      subst this;by_cases hbn:b < a
      ·exact(hin2 ((o2.mem _).mpr (List.mem_take_iff_getElem.mpr ⟨b,by omega,hab.symm⟩))).elim
      ·have:b=a:=by omega
       subst this;rfl
 obtain⟨a,b⟩:=key l.length (Nat.le_refl _);have e1:l.take l.length=l:=List.take_length;have e2:m.take l.length=m:=by rw[hl];exact List.take_length
 rw[e1,e2] at a b;exact⟨a,fun hc i j h1 h2=>b hc i j h1 h2 h1 h2⟩
theorem Zro{l:List K}{i j:Nat}(hi:i < l.length)(hj:j < l.length):(Z2l l).2[i]? = (Z2l l).2[j]?↔l[i]=l[j]:=by
 have o:=Z6X l;rw[o.at_ i hi,o.at_ j hj];constructor
 ·intro h
  simp only[Option.some.injEq] at h;have hi2:l[i]∈(Z2l l).1:=(o.mem _).mpr (List.getElem_mem hi);have hj2:l[j]∈(Z2l l).1:=(o.mem _).mpr (List.getElem_mem hj);have h':(Z2l l).1.idxOf l[i]=(Z2l l).1.idxOf l[j]:=by omega
  have a1:=List.getElem_idxOf (List.idxOf_lt_length_of_mem hi2);have a2:=List.getElem_idxOf (List.idxOf_lt_length_of_mem hj2);rw[←a1,←a2];congr 1
 ·intro h;rw[h]
theorem Zoc(l:List K):(Z2l l).1.length≤l.length:=by
 refine ZoQ (p:=fun l=>(Z2l l).1.length≤l.length) (by simp[Z2l]) (fun l x ih=>?_) l;rw[Z6G];unfold Z5H;split<;>simp<;>omega
end
theorem Zqe{K:Type}[BEq K][LawfulBEq K](l:List K):(Z2l (Z2l l).2).2=(Z2l l).2:=by
 have o:=Z6X l;refine(ZhC (l:=(Z2l l).2) (m:=l) o.len (fun i j h1 h2=>?_)).1;have e:=Zro (l:=l) (i:=i) (j:=j) (by rw[←o.len];exact h1) (by rw[←o.len];exact h2);rw[List.getElem?_eq_getElem h1,List.getElem?_eq_getElem h2,Option.some.injEq] at e;exact e
def runT(d:Det)(i:Nat)(l:List Int):Nat:=l.foldl (Z2o d) i
def Z6n(d:Det)(i:Nat):Bool:=d.fin.getD i false
def Vl(d:Det)(l:List Int):Prop:=∀s∈l,0≤s∧s < d.signs
def Zmi(d:Det)(j i k:Nat):Prop:=∀l,Vl d l→l.length≤j→Z6n d (runT d i l)=Z6n d (runT d k l)
def Eqv(d:Det)(i k:Nat):Prop:=∀l,Vl d l→Z6n d (runT d i l)=Z6n d (runT d k l)
theorem Z5Y{d:Det}(R:Z1Q d){a:Nat}(ha:a < d.next.length){s:Int}(h0:0≤s)(hs:s < d.signs):Z2o d a s < d.next.length:=(Zeh R ha h0 hs).2.2
theorem ZhR{d:Det}:∀(l:List Int) (a:Nat),Vl d l→Z9F d a l=some (runT d a l)
 | [],a,_=>rfl
 | s::l,a,h=>by
  rw[Z9F,if_pos (h s (by simp)),ZhR l _ (fun x hx=>h x (by simp[hx]))];rfl
theorem Ze8{d:Det}:∀(l:List Int) (a:Nat),¬Vl d l→Z9F d a l=none
 | [],a,h=>(h (fun s hs=>by simp at hs)).elim
 | s::l,a,h=>by
  rw[Z9F];split
  ·rename_i hs
   refine Ze8 l _ (fun hl=>h fun x hx=>?_);rcases List.mem_cons.mp hx with rfl | hx
   ·exact hs
   ·exact hl x hx
  ·rfl
theorem Zbf{d:Det}{j i k:Nat}:Zmi d (j+1) i k↔Zmi d j i k∧∀s,0≤s→s < d.signs→Zmi d j (Z2o d i s) (Z2o d k s):=by
 constructor
 ·intro h
  refine⟨fun l hl hlen=>h l hl (by omega),fun s h0 hs l hl hlen=>?_⟩;exact h (s::l) (fun x hx=>by rcases List.mem_cons.mp hx with rfl | hx;exact⟨h0,hs⟩;exact hl x hx) (by simp;omega)
 ·rintro⟨h1,h2⟩ l hl hlen
  cases l with
  | nil=>exact h1 [] hl (by simp)
  | cons s l =>
   have hs:=hl s (by simp);exact h2 s hs.1 hs.2 l (fun x hx=>hl x (by simp[hx])) (by simp at hlen;omega)
theorem Zk9{d:Det}{i k:Nat}(h:Eqv d i k){s:Int}(h0:0≤s)(hs:s < d.signs):Eqv d (Z2o d i s) (Z2o d k s):=fun l hl =>
 h (s::l) (fun x hx=>by rcases List.mem_cons.mp hx with rfl | hx;exact⟨h0,hs⟩;exact hl x hx)
theorem Znr{d:Det}:∀(l:List Int) {i k:Nat},Eqv d i k→Vl d l→Eqv d (runT d i l) (runT d k l)
 | [],i,k,h,_=>h
 | s::l,i,k,h,hl=>Znr l (Zk9 h (hl s (by simp)).1 (hl s (by simp)).2) (fun x hx=>hl x (by simp[hx]))
theorem Eqv.refl(d:Det)(i:Nat):Eqv d i i:=fun _ _=>rfl
theorem Eqv.symm{d:Det}{i k:Nat}(h:Eqv d i k):Eqv d k i:=fun l hl=>(h l hl).symm
theorem Eqv.trans{d:Det}{i k m:Nat}(h:Eqv d i k)(h2:Eqv d k m):Eqv d i m:=fun l hl=>(h l hl).trans (h2 l hl)
theorem Zlu{d:Det}(R:Z1Q d){j:Nat}(h:∀i k,i < d.next.length→k < d.next.length→Zmi d j i k→Zmi d (j+1) i k){i k:Nat}(hi:i < d.next.length)(hk:k < d.next.length)(he:Zmi d j i k):Eqv d i k:=by
 have key:∀(l:List Int) (i k:Nat),i < d.next.length→k < d.next.length→Zmi d j i k→Vl d l→Z6n d (runT d i l)=Z6n d (runT d k l):=by
  intro l;induction l with
  | nil=>intro i k hi hk he _;exact he [] (fun s hs=>by simp at hs) (by simp)
  | cons s l ih =>
   intro i k hi hk he hl;have hs:=hl s (by simp);exact ih _ _ (Z5Y R hi hs.1 hs.2) (Z5Y R hk hs.1 hs.2) ((Zbf.mp (h i k hi hk he)).2 s hs.1 hs.2) (fun x hx=>hl x (by simp[hx]))
 exact fun l hl=>key l i k hi hk he hl
def Z7I(d:Det):List Int:=d.fin.map fun b=>if b=true then 1 else 0
def Z9X(d:Det)(c:List Int)(s:Nat):List Int:=c.getD s 0::(d.next.getD s []).map fun t=>c.getD t.toNat 0
def Z5T(d:Det)(c:List Int):List (List Int):=(List.range d.next.length).map (Z9X d c)
def Z4T(d:Det)(c:List Int):List (List Int)×List Int:=Z2l (Z5T d c)
def ZiE(d:Det):Nat→List Int→Nat→List Int
 | 0,c,_=>c
 | f+1,c,n=>if (Z4T d c).1.length=n then (Z4T d c).2 else ZiE d f (Z4T d c).2 (Z4T d c).1.length
def Z3q(d:Det):List Int:=ZiE d (d.next.length+1) (Z7I d) 0
structure Zrz(d:Det)(j:Nat)(c:List Int):Prop where
 len:c.length=d.next.length
 eq:∀i k,i < d.next.length→k < d.next.length→(c.getD i 0=c.getD k 0↔Zmi d j i k)
theorem ZeN{d:Det}(R:Z1Q d):Zrz d 0 (Z7I d):=by
 have hf:=R.fin;refine⟨by simp[Z7I,hf],fun i k hi hk=>?_⟩;have h1:i < d.fin.length:=by omega
 have h2:k < d.fin.length:=by omega
 have e:∀l,Vl d l→l.length≤0→l=[]:=fun l _ hl=>List.eq_nil_of_length_eq_zero (by omega)
 simp only[Z7I,List.getD_eq_getElem?_getD,List.getElem?_map,List.getElem?_eq_getElem h1,List.getElem?_eq_getElem h2,Option.map_some,Option.getD_some];constructor
 ·intro h l hl hlen
  rw[e l hl hlen];simp only[runT,List.foldl_nil,Z6n,List.getD_eq_getElem?_getD,List.getElem?_eq_getElem h1,List.getElem?_eq_getElem h2,Option.getD_some];revert h;cases d.fin[i]<;>cases d.fin[k]<;>simp
 ·intro h
  have:=h [] (fun s hs=>by simp at hs) (by simp);simp only[runT,List.foldl_nil,Z6n,List.getD_eq_getElem?_getD,List.getElem?_eq_getElem h1,List.getElem?_eq_getElem h2,Option.getD_some] at this;rw[this]
theorem ZbD{d:Det}(R:Z1Q d){j:Nat}{c:List Int}(h:Zrz d j c){i k:Nat}(hi:i < d.next.length)(hk:k < d.next.length):Z9X d c i=Z9X d c k↔Zmi d (j+1) i k:=by
 have ri:=R.row i hi;have rk:=R.row k hk;have hs0:=R.s1;rw[Zbf];simp only[Z9X,List.cons.injEq];rw[h.eq i k hi hk];refine and_congr_right fun _=>?_
 simp only[List.getD_eq_getElem?_getD,List.getElem?_eq_getElem hi,List.getElem?_eq_getElem hk,Option.getD_some]
 have st:∀(a:Nat) (ha:a < d.next.length) (s:Nat) (hs:s < (d.next[a]).length),((d.next[a])[s]).toNat=Z2o d a s:=fun a ha s hs=>by
  simp[Z2o,List.getD_eq_getElem?_getD,List.getElem?_eq_getElem ha,List.getElem?_eq_getElem hs]
 constructor
 ·intro he s h0 hs
  have h1:s.toNat < (d.next[i]).length:=by omega
  have h2:s.toNat < (d.next[k]).length:=by omega
  have:=congrArg (fun l=>l[s.toNat]?) he;simp only[List.getElem?_map,List.getElem?_eq_getElem h1,List.getElem?_eq_getElem h2,Option.map_some,Option.some.injEq] at this;rw[st i hi _ h1,st k hk _ h2] at this;have e:((s.toNat:Nat):Int)=s:=by omega
  rw[e] at this;exact(h.eq _ _ (Z5Y R hi h0 hs) (Z5Y R hk h0 hs)).mp (by simpa[List.getD_eq_getElem?_getD] using this)
 ·intro he
  refine List.ext_getElem (by simp;omega) (fun s h1 h2=>?_);simp only[List.length_map] at h1 h2;simp only[List.getElem_map];rw[st i hi s h1,st k hk s h2];have hs:((s:Nat):Int) < d.signs:=by omega
  have:=(h.eq _ _ (Z5Y R hi (by omega) hs) (Z5Y R hk (by omega) hs)).mpr (he s (by omega) hs);simpa[List.getD_eq_getElem?_getD] using this
theorem Z7h(d:Det)(c:List Int):(Z5T d c).length=d.next.length:=by simp[Z5T]
theorem Zba{d:Det}(R:Z1Q d){j:Nat}{c:List Int}(h:Zrz d j c):Zrz d (j+1) (Z4T d c).2:=by
 have o:=Z6X (Z5T d c);have hl:=Z7h d c;refine⟨by rw[←hl];exact o.len,fun i k hi hk=>?_⟩;have e:=Zro (l:=Z5T d c) (i:=i) (j:=k) (by omega) (by omega);have hi2:i < (Z2l (Z5T d c)).2.length:=by rw[o.len];omega
 have hk2:k < (Z2l (Z5T d c)).2.length:=by rw[o.len];omega
 simp only[Z5T,List.getElem_map,List.getElem_range] at e;rw[←ZbD R h hi hk,←e];simp only[Z4T,Z5T,List.getD_eq_getElem?_getD];have hi3:i < (Z2l (List.map (Z9X d c) (List.range d.next.length))).2.length:=hi2;have hk3:k < (Z2l (List.map (Z9X d c) (List.range d.next.length))).2.length:=hk2;rw[List.getElem?_eq_getElem hi3,List.getElem?_eq_getElem hk3];simp
structure Zl4(d:Det)(c:List Int):Prop where
 len:c.length=d.next.length
 eq:∀i k,i < d.next.length→k < d.next.length→(c.getD i 0=c.getD k 0↔Eqv d i k)
 num:(Z2l c).2=c
theorem Zl4.unique{d:Det}{c e:List Int}(h:Zl4 d c)(k:Zl4 d e):c=e:=by
 rw[←h.num,←k.num];refine(ZhC (by rw[h.len,k.len]) (fun i j h1 h2=>?_)).1;have hi:i < d.next.length:=by rw[←h.len];exact h1
 have hj:j < d.next.length:=by rw[←h.len];exact h2
 have a:=h.eq i j hi hj;have b:=k.eq i j hi hj;have g1:i < e.length:=by rw[k.len];exact hi
 have g2:j < e.length:=by rw[k.len];exact hj
 simp only[List.getD_eq_getElem?_getD,List.getElem?_eq_getElem h1,List.getElem?_eq_getElem h2,List.getElem?_eq_getElem g1,List.getElem?_eq_getElem g2,Option.getD_some] at a b;rw[a,b]
theorem ZcM{d:Det}(R:Z1Q d){j:Nat}{c:List Int}(h:Zrz d j c):(Z4T d c).1.length≤(Z4T d (Z4T d c).2).1.length∧(Z4T d c).1.length≤d.next.length∧1≤(Z4T d c).1.length ∧
  ((Z4T d (Z4T d c).2).1.length=(Z4T d c).1.length→Zl4 d (Z4T d (Z4T d c).2).2):=by
 have h1:=Zba R h;have h2:=Zba R h1;have hn:=R.n1
 obtain⟨a,b⟩:=ZlL (l:=Z5T d (Z4T d c).2) (m:=Z5T d c) (by simp[Z5T]) (fun i k hi hk=>by
  rw[Z7h] at hi hk;simp only[Z5T,List.getElem_map,List.getElem_range];intro he;rw[ZbD R h1 hi hk] at he;rw[ZbD R h hi hk];exact(Zbf.mp he).1)
 have hpos:1≤(Z4T d c).1.length:=by
  have o:=Z6X (Z5T d c);have:(Z5T d c)[0]'(by simp[Z5T];omega)∈(Z2l (Z5T d c)).1:=(o.mem _).mpr (List.getElem_mem _);exact List.length_pos_of_mem this
 refine⟨a,by have:=Zoc (Z5T d c);rw[Z7h] at this;exact this,hpos,fun hc=>?_⟩;have b2:=b hc.symm
 have stab:∀i k,i < d.next.length→k < d.next.length→Zmi d (j+1) i k→Zmi d (j+2) i k:=by
  intro i k hi hk he;rw[←ZbD R h hi hk] at he;rw[←ZbD R h1 hi hk];have:=b2 i k (by rw[Z7h];exact hi) (by rw[Z7h];exact hk);simp only[Z5T,List.getElem_map,List.getElem_range] at this;exact this he
 refine⟨h2.len,fun i k hi hk=>?_,Zqe _⟩;rw[h2.eq i k hi hk];constructor
 ·intro he
  exact Zlu R stab hi hk (Zbf.mp he).1
 ·intro he l hl _;exact he l hl
theorem ZjY{d:Det}(R:Z1Q d):∀(f j:Nat) (c:List Int),Zrz d j c→d.next.length < f+(Z4T d c).1.length→Zl4 d (ZiE d f (Z4T d c).2 (Z4T d c).1.length)
 | 0,j,c,h,hf=>by have:=(ZcM R h).2.1;omega
 | f+1,j,c,h,hf=>by
  obtain⟨a1,a2,a3,a4⟩:=ZcM R h;rw[ZiE];split
  ·rename_i he;exact a4 he
  ·rename_i he
   exact ZjY R f (j+1) _ (Zba R h) (by omega)
theorem Z6y{d:Det}(R:Z1Q d):Zl4 d (Z3q d):=by
 have h0:=ZeN R;have hn:=(ZcM R h0).2.2.1;rw[Z3q,ZiE,if_neg (by omega)];exact ZjY R _ 0 _ h0 (by omega)
theorem Zbm:∀(n:Nat) (l:List Nat),l.Nodup→(∀x∈l,x < n)→l.length≤n
 | 0,l,_,h=>by
  cases l with
  | nil=>simp
  | cons x l=>have:=h x (by simp);omega
 | n+1,l,hd,h=>by
  by_cases hn:n∈l
  ·have h1:=List.length_erase_of_mem hn
   have h2:=Zbm n (l.erase n) (hd.erase n) (fun x hx=>by
    have:=(hd.mem_erase_iff).mp hx;have:=h x this.2;omega)
   have:=List.length_pos_of_mem hn;omega
  ·have:=Zbm n l hd (fun x hx=>by
    have:=h x hx;have:x≠n:=fun e=>hn (e ▸ hx)
    omega)
   omega
def Z5I(c:List Int)(q:Nat):Int:=c.getD q 0
def ZbW(c:List Int)(one:List Nat)(to:Nat):List Nat×Nat :=
 if Z5I c to∈one.map (Z5I c) then (one,(one.map (Z5I c)).idxOf (Z5I c to)) else (one++[to],one.length)
def Z9e(c:List Int)(t:Nat→Nat):Nat→List Nat→List Nat×List Int
 | 0,one=>(one,[])
 | k+1,one=>((ZbW c (Z9e c t k one).1 (t k)).1,(Z9e c t k one).2++[((ZbW c (Z9e c t k one).1 (t k)).2:Int)])
abbrev LSt:=List Nat×List (List Int)×List Bool
def lnx(d:Det)(c:List Int)(i:Nat)(st:LSt):LSt:=match st.1[i]? with
 | none=>st
 | some q=>((Z9e c (fun s=>Z2o d q s) d.signs.toNat st.1).1,st.2.1++[(Z9e c (fun s=>Z2o d q s) d.signs.toNat st.1).2],st.2.2++[Z6n d q])
def lsF(d:Det)(c:List Int):Nat→LSt
 | 0=>([0],[],[])
 | i+1=>lnx d c i (lsF d c i)
def lgo(d:Det)(c:List Int):Nat→Nat→LSt→LSt
 | 0,_,st=>st
 | f+1,i,st=>if i=st.1.length then st else lgo d c f (i+1) (lnx d c i st)
def Z4E(d:Det):LSt:=lgo d (Z3q d) (d.next.length+1) 0 ([0],[],[])
def Z5j(d:Det):Det:=⟨d.signs,(Z4E d).2.1,(Z4E d).2.2⟩
theorem Zhq(c:List Int)(one:List Nat)(to:Nat)(hd:(one.map (Z5I c)).Nodup) :
  ((ZbW c one to).1=one∧(ZbW c one to).2 < one.length∧(∃q,one[(ZbW c one to).2]? = some q∧Z5I c q=Z5I c to))∨((ZbW c one to).1=one++[to]∧(ZbW c one to).2=one.length∧Z5I c to∉one.map (Z5I c)):=by
 unfold ZbW;split
 ·rename_i h
  left;have hlt:=List.idxOf_lt_length_of_mem h;have hlt2:=hlt;rw[List.length_map] at hlt2;refine⟨rfl,hlt2,one[(one.map (Z5I c)).idxOf (Z5I c to)],List.getElem?_eq_getElem hlt2,?_⟩;have:=List.getElem_idxOf hlt;rw[List.getElem_map] at this;exact this
 ·rename_i h
  exact .inr ⟨rfl,rfl,h⟩
theorem ZsD{c:List Int}{one:List Nat}(to:Nat)(hd:(one.map (Z5I c)).Nodup):((ZbW c one to).1.map (Z5I c)).Nodup:=by
 rcases Zhq c one to hd with⟨h1,_,_⟩ | ⟨h1,_,h3⟩
 ·rw[h1];exact hd
 ·rw[h1,List.map_append,List.nodup_append]
  exact⟨hd,by simp,fun a ha b hb=>by simp at hb;subst hb;rintro rfl;exact h3 ha⟩
structure ZwU(c:List Int)(t:Nat→Nat)(k:Nat)(one one':List Nat)(r:List Int):Prop where
 pre:∀j q:Nat,one[j]? = some q→one'[j]? = some q
 nd:(one'.map (Z5I c)).Nodup
 len:r.length=k
 at_:∀s,s < k→∃j:Nat,r[s]? = some (j:Int)∧∃q,one'[j]? = some q∧Z5I c q=Z5I c (t s)
 new:∀q∈one',q∈one∨∃s < k,q=t s
 le:one.length≤one'.length
 bor:∀j,one.length≤j→j < one'.length→∃s < k,r[s]? = some (j:Int)
theorem Zg2{c:List Int}{t:Nat→Nat}{one:List Nat}(hd:(one.map (Z5I c)).Nodup):∀k,ZwU c t k one (Z9e c t k one).1 (Z9e c t k one).2
 | 0=>⟨fun _ _ h=>h,hd,rfl,fun s hs=>by omega,fun q h=>.inl h,Nat.le_refl _,fun j h1 h2=>by simp only[Z9e] at h2;omega⟩
 | k+1=>by
  have ih:=Zg2 (t:=t) hd k;have hn:=ZsD (t k) ih.nd;simp only[Z9e];generalize Z9e c t k one=p at ih hn;obtain⟨o1,r1⟩:=p;simp only at ih hn ⊢;rcases Zhq c o1 (t k) ih.nd with⟨h1,h2,q,h3,h4⟩ | ⟨h1,h2,h3⟩
  ·rw[h1] at hn ⊢
   refine⟨ih.pre,hn,by simp[ih.len],fun s hs=>?_,fun q hq=>?_,ih.le,fun j h5 h6=>?_⟩
   ·by_cases hsk:s=k
    ·subst hsk
     refine⟨(ZbW c o1 (t s)).2,?_,q,h3,h4⟩;rw[List.getElem?_append_right (by rw[ih.len];omega),ih.len];simp
    ·obtain⟨j,a1,a2⟩:=ih.at_ s (by omega)
     refine⟨j,?_,a2⟩;rw[List.getElem?_append_left (by rw[ih.len];omega)];exact a1
   ·rcases ih.new q hq with h | ⟨s,hs,h⟩
    ·exact .inl h
    ·exact .inr ⟨s,by omega,h⟩
   ·obtain⟨s,hs,h7⟩:=ih.bor j h5 h6
    exact⟨s,by omega,by rw[List.getElem?_append_left (by rw[ih.len];omega)];exact h7⟩
  ·rw[h1] at hn ⊢
   rw[h2];refine⟨fun j q hq=>?_,hn,by simp[ih.len],fun s hs=>?_,fun q hq=>?_,?_,fun j h5 h6=>?_⟩
   ·have:=ih.pre j q hq
    rw[List.getElem?_append_left (List.getElem?_eq_some_iff.mp this).1];exact this
   ·by_cases hsk:s=k
    ·subst hsk
     refine⟨o1.length,?_,t s,by simp,rfl⟩;rw[List.getElem?_append_right (by rw[ih.len];omega),ih.len];simp
    ·obtain⟨j,a1,q,a2,a3⟩:=ih.at_ s (by omega)
     refine⟨j,?_,q,?_,a3⟩
     ·rw[List.getElem?_append_left (by rw[ih.len];omega)];exact a1
     ·rw[List.getElem?_append_left (List.getElem?_eq_some_iff.mp a2).1];exact a2
   ·rcases List.mem_append.mp hq with hq | hq
    ·rcases ih.new q hq with h | ⟨s,hs,h⟩
     ·exact .inl h
     ·exact .inr ⟨s,by omega,h⟩
    ·simp at hq;exact .inr ⟨k,by omega,hq⟩
   ·have:=ih.le;simp;omega
   ·simp only[List.length_append,List.length_cons,List.length_nil] at h6
    by_cases hj:j < o1.length
    ·obtain⟨s,hs,h7⟩:=ih.bor j h5 hj
     exact⟨s,by omega,by rw[List.getElem?_append_left (by rw[ih.len];omega)];exact h7⟩
    ·have:j=o1.length:=by omega
     subst this;exact⟨k,by omega,by rw[List.getElem?_append_right (by rw[ih.len];omega),ih.len];simp⟩
structure LOk(d:Det)(c:List Int)(i:Nat)(st:LSt):Prop where
 zero:st.1[0]? = some 0
 nd:(st.1.map (Z5I c)).Nodup
 lt:∀q∈st.1,q < d.next.length
 le:i≤st.1.length
 nx:st.2.1.length=i
 en:st.2.2.length=i
 row:∀k,k < i→∃q r,st.1[k]? = some q∧st.2.2[k]? = some (Z6n d q)∧st.2.1[k]? = some r∧r.length=d.signs.toNat ∧
  ∀s,s < d.signs.toNat→∃j:Nat,r[s]? = some (j:Int)∧∃q',st.1[j]? = some q'∧Z5I c q'=Z5I c (Z2o d q s)
 bor:∀j,1≤j→j < st.1.length→∃k < i,k < j∧∃r s,st.2.1[k]? = some r∧s < d.signs.toNat∧r[s]? = some (j:Int)
theorem LOk.len{d:Det}{c:List Int}{i:Nat}{st:LSt}(h:LOk d c i st):st.1.length≤d.next.length:=by
 refine Zbm _ _ ?_ h.lt;have:=h.nd;exact(List.pairwise_map.mp this).imp (fun h e=>h (congrArg _ e))
theorem Zf5{d:Det}(R:Z1Q d)(c:List Int):∀i,(∀m,m < i→m < (lsF d c m).1.length)→LOk d c i (lsF d c i)
 | 0,_=>by
  have hn:=R.n1;exact⟨rfl,by simp[lsF],fun q hq=>by simp[lsF] at hq;omega,by simp,rfl,rfl,fun k hk=>by omega,fun j h1 h2=>by simp[lsF] at h2;omega⟩
 | i+1,hm=>by
  have ih:=Zf5 R c i (fun m h=>hm m (by omega));have hi:=hm i (by omega);have hs1:=R.s1;simp only[lsF,lnx];rw[List.getElem?_eq_getElem hi];simp only;generalize hst:lsF d c i=st at ih hi;obtain⟨one,nx,en⟩:=st;simp only at ih hi ⊢;have ro:=Zg2 (c:=c) (t:=fun s=>Z2o d one[i] s) (one:=one) ih.nd d.signs.toNat;generalize Z9e c (fun s=>Z2o d one[i] s) d.signs.toNat one=p at ro;obtain⟨one',r⟩:=p;simp only at ro ⊢;have hqi:one[i] < d.next.length:=ih.lt _ (List.getElem_mem hi)
  have hen:=ih.en;have hnx:=ih.nx;simp only at hen hnx;refine⟨ro.pre _ _ ih.zero,ro.nd,fun q hq=>?_,by have:=ro.le;simp only;omega,by simp[hnx],by simp[hen],fun k hk=>?_,fun j h1 h2=>?_⟩
  ·rcases ro.new q hq with h | ⟨s,hs,rfl⟩
   ·exact ih.lt q h
   ·exact Z5Y R hqi (by omega) (by omega)
  ·simp only
   by_cases hki:k=i
   ·subst hki
    refine⟨one[k],r,ro.pre _ _ (List.getElem?_eq_getElem hi),?_,?_,ro.len,fun s hs=>ro.at_ s hs⟩
    ·rw[List.getElem?_append_right (by omega)];simp[hen]
    ·rw[List.getElem?_append_right (by omega)];simp[hnx]
   ·obtain⟨q,r',b1,b2,b3,b4,b5⟩:=ih.row k (by omega)
    refine⟨q,r',ro.pre _ _ b1,?_,?_,b4,fun s hs=>?_⟩
    ·rw[List.getElem?_append_left (List.getElem?_eq_some_iff.mp b2).1];exact b2
    ·rw[List.getElem?_append_left (List.getElem?_eq_some_iff.mp b3).1];exact b3
    ·obtain⟨j,c1,q',c2,c3⟩:=b5 s hs
     exact⟨j,c1,q',ro.pre _ _ c2,c3⟩
  ·simp only at h2 ⊢
   by_cases hj:j < one.length
   ·obtain⟨k,hk,hkj,r',s,b1,b2,b3⟩:=ih.bor j h1 hj
    refine⟨k,by omega,hkj,r',s,?_,b2,b3⟩;rw[List.getElem?_append_left (List.getElem?_eq_some_iff.mp b1).1];exact b1
   ·obtain⟨s,hs,h7⟩:=ro.bor j (by omega) h2
    refine⟨i,by omega,by omega,r,s,?_,hs,h7⟩;rw[List.getElem?_append_right (by omega)];simp[hnx]
theorem Zo0{d:Det}(R:Z1Q d)(c:List Int):∀(f i:Nat),(∀m,m < i→m < (lsF d c m).1.length)→d.next.length < f+i→∃k,lgo d c f i (lsF d c i)=lsF d c k∧k=(lsF d c k).1.length∧∀m,m < k→m < (lsF d c m).1.length
 | 0,i,hm,hf=>by
  have o:=Zf5 R c i hm;have:=o.len;have:=o.le;omega
 | f+1,i,hm,hf=>by
  have o:=Zf5 R c i hm;rw[lgo];split
  ·rename_i he;exact⟨i,rfl,he,hm⟩
  ·rename_i he
   have:=o.le
   exact Zo0 R c f (i+1) (fun m h=>by
    by_cases hmi:m=i
    ·subst hmi;omega
    ·exact hm m (by omega)) (by omega)
theorem Z6B{d:Det}(R:Z1Q d):∃k,Z4E d=lsF d (Z3q d) k∧k=(Z4E d).1.length∧(∀m,m < k→m < (lsF d (Z3q d) m).1.length)∧LOk d (Z3q d) k (Z4E d):=by
 obtain⟨k,h1,h2,h3⟩:=Zo0 R (Z3q d) (d.next.length+1) 0 (fun m h=>by omega) (by omega);have e:Z4E d=lsF d (Z3q d) k:=h1;exact⟨k,e,by rw[e];exact h2,h3,by rw[e];exact Zf5 R _ k h3⟩
theorem Zbi{d:Det}(R:Z1Q d):Z1Q (Z5j d)∧(Z5j d).next.length=(Z4E d).1.length ∧
  ∀(l:List Int) (a q:Nat),(Z4E d).1[a]? = some q→Vl d l→∃q',(Z4E d).1[runT (Z5j d) a l]? = some q'∧Eqv d q' (runT d q l)∧Z6n (Z5j d) (runT (Z5j d) a l)=Z6n d (runT d q l):=by
 obtain⟨k,h1,h2,h3,o⟩:=Z6B R;have C:=Z6y R;have hle:=o.len;have h0:=(List.getElem?_eq_some_iff.mp o.zero).1;have hs1:=R.s1;have hn2:=R.n2;have hnx:=o.nx;have hen:=o.en
 have D:Z1Q (Z5j d):=by
  refine⟨R.s1,R.s2,by show 1≤(Z4E d).2.1.length;omega,by show(Z4E d).2.1.length≤3000;omega,by show(Z4E d).2.2.length=(Z4E d).2.1.length;omega,fun i hi=>?_,fun i hi j hj=>?_⟩
  ·have hi':i < (Z4E d).2.1.length:=hi
   obtain⟨q,r,b1,b2,b3,b4,b5⟩:=o.row i (by omega);obtain⟨_,e⟩:=List.getElem?_eq_some_iff.mp b3;show(((Z4E d).2.1[i]'hi').length:Int)=d.signs
   rw[e,b4];omega
  ·have hi':i < (Z4E d).2.1.length:=hi
   obtain⟨q,r,b1,b2,b3,b4,b5⟩:=o.row i (by omega);obtain⟨_,e⟩:=List.getElem?_eq_some_iff.mp b3;subst e;have hj':j < ((Z4E d).2.1[i]'hi').length:=hj;obtain⟨t,c1,q',c2,c3⟩:=b5 j (by omega);obtain⟨_,c4⟩:=List.getElem?_eq_some_iff.mp c1;have ht:=(List.getElem?_eq_some_iff.mp c2).1;show 0≤((Z4E d).2.1[i]'hi')[j]'hj'∧((Z4E d).2.1[i]'hi')[j]'hj' < ((Z4E d).2.1.length:Int)
   rw[c4];omega
 refine⟨D,by show(Z4E d).2.1.length=_;omega,?_⟩;have clsEq:∀p q,p < d.next.length→q < d.next.length→Z5I (Z3q d) p=Z5I (Z3q d) q→Eqv d p q:=fun p q hp hq h=>(C.eq p q hp hq).mp h
 have fin:∀a q,(Z4E d).1[a]? = some q→Z6n (Z5j d) a=Z6n d q:=by
  intro a q ha;have hal:=(List.getElem?_eq_some_iff.mp ha).1;obtain⟨q',r,b1,b2,b3,b4,b5⟩:=o.row a (by omega);rw[ha] at b1;cases b1;show(Z4E d).2.2.getD a false=_
  rw[List.getD_eq_getElem?_getD,b2];rfl
 intro l;induction l with
 | nil =>
  intro a q ha _;exact⟨q,ha,Eqv.refl _ _,fin a q ha⟩
 | cons s l ih =>
  intro a q ha hl;have hs:=hl s (by simp);have hal:=(List.getElem?_eq_some_iff.mp ha).1;have hq:=o.lt q (List.mem_of_getElem? ha);obtain⟨q',r,b1,b2,b3,b4,b5⟩:=o.row a (by omega);rw[ha] at b1;cases b1;obtain⟨j,c1,p,c2,c3⟩:=b5 s.toNat (by omega);have e:((s.toNat:Nat):Int)=s:=by omega
  rw[e] at c3;have hp:=o.lt p (List.mem_of_getElem? c2)
  have hst:Z2o (Z5j d) a s=j:=by
   show(((Z4E d).2.1.getD a []).getD s.toNat 0).toNat=j
   simp only[List.getD_eq_getElem?_getD,b3,Option.getD_some,c1,Int.toNat_natCast]
  have hpe:Eqv d p (Z2o d q s):=clsEq p _ hp (Z5Y R hq hs.1 hs.2) c3;have hl':Vl d l:=fun x hx=>hl x (by simp[hx])
  obtain⟨q2,d1,d2,d3⟩:=ih j p c2 hl';refine⟨q2,?_,d2.trans (Znr l hpe hl'),?_⟩
  ·show(Z4E d).1[runT (Z5j d) (Z2o (Z5j d) a s) l]? = some q2
   rw[hst];exact d1
  ·show Z6n (Z5j d) (runT (Z5j d) (Z2o (Z5j d) a s) l)=Z6n d (runT d (Z2o d q s) l)
   rw[hst,d3];exact hpe l hl'
end Go.Rf
namespace Go.Rf
open Go.RowKit
structure Mk(K:Type) where
 sg:Nat
 b:K→Nat→K
 e:K→Bool
 k0:K
abbrev StK(K:Type):=List K×List (List Int)×List Bool
section
variable{K:Type}[DecidableEq K]
def ZhB(most:Int)(ss:List K)(x:K):Option (List K×Int) :=
 if x∈ss then some (ss,(ss.idxOf x:Int)) else if (ss.length:Int)=most then none else some (ss++[x],(ss.length:Int))
def Zet(most:Int)(b:Nat→K):Nat→List K→Option (List K×List Int)
 | 0,ss=>some (ss,[])
 | k+1,ss=>match Zet most b k ss with
  | none=>none
  | some (s1,r)=>match ZhB most s1 (b k) with
   | none=>none
   | some (s2,j)=>some (s2,r++[j])
def nxK(M:Mk K)(most:Int)(i:Nat)(st:StK K):Option (StK K) :=
 match st.1[i]? with
 | none=>none
 | some x=>match Zet most (M.b x) M.sg st.1 with
  | none=>none
  | some (s2,r)=>some (s2,st.2.1++[r],st.2.2++[M.e x])
def stK(M:Mk K)(most:Int):Nat→Option (StK K)
 | 0=>some ([M.k0],[],[])
 | i+1=>match stK M most i with
  | none=>none
  | some st=>nxK M most i st
def goK(M:Mk K)(most:Int):Nat→Nat→StK K→Option (StK K)
 | 0,_,_=>none
 | f+1,i,st=>if i=st.1.length then some st else match nxK M most i st with
  | none=>none
  | some st'=>goK M most f (i+1) st'
def ZdQ(M:Mk K)(most:Int):Option (StK K):=goK M most (most.toNat+1) 0 ([M.k0],[],[])
structure Mk.Inv(M:Mk K)(V:K→Prop):Prop where
 zero:V M.k0
 next:∀x s,V x→s < M.sg→V (M.b x s)
structure SsK(V:K→Prop)(most:Int)(ss:List K):Prop where
 v:∀s∈ss,V s
 l:(ss.length:Int)≤most
variable{M:Mk K}{V:K→Prop}{most:Int}
theorem ZsO{ss:List K}{x:K}(h:SsK V most ss)(hx:V x){p:List K×Int}(e:ZhB most ss x=some p):SsK V most p.1∧ss.length≤p.1.length:=by
 unfold ZhB at e;split at e
 ·cases e;exact⟨h,Nat.le_refl _⟩
 ·split at e
  ·cases e
  ·cases e
   refine⟨⟨fun s hs=>?_,?_⟩,by simp⟩
   ·rcases List.mem_append.mp hs with hs | hs
    ·exact h.v s hs
    ·simp at hs;subst hs;exact hx
   ·have:=h.l;simp only[List.length_append,List.length_cons,List.length_nil];omega
theorem Zgm{b:Nat→K}{n:Nat}(hb:∀s,s < n→V (b s)){ss:List K}(h:SsK V most ss):∀(k:Nat) {p:List K×List Int},k≤n→Zet most b k ss=some p→SsK V most p.1∧ss.length≤p.1.length∧p.2.length=k
 | 0,p,_,e=>by simp only[Zet,Option.some.injEq] at e;subst e;exact⟨h,Nat.le_refl _,rfl⟩
 | k+1,p,hk,e=>by
  simp only[Zet] at e;split at e
  ·cases e
  ·rename_i s1 r h1
   obtain⟨i1,i2,i3⟩:=Zgm hb h k (by omega) h1;split at e
   ·cases e
   ·rename_i s2 j h2
    cases e;obtain⟨j1,j2⟩:=ZsO i1 (hb k (by omega)) h2;exact⟨j1,Nat.le_trans i2 j2,by simp only at i3;simp[i3]⟩
theorem Ze7{b:Nat→K}{ss:List K}{k:Nat}(h:Zet most b k ss=none):∀m,k≤m→Zet most b m ss=none
 | 0,hm=>by
  have:k=0:=by omega
  subst this;exact h
 | m+1,hm=>by
  by_cases hk:k=m+1
  ·subst hk;exact h
  ·simp only[Zet,Ze7 h m (by omega)]
structure ZrG(M:Mk K)(V:K→Prop)(most:Int)(i:Nat)(st:StK K):Prop where
 ss:SsK V most st.1
 le:i≤st.1.length
 nx:st.2.1.length=i
 en:st.2.2.length=i
 row:∀r∈st.2.1,r.length=M.sg
theorem ZuG(I:M.Inv V){i:Nat}{st st':StK K}(h:ZrG M V most i st)(e:nxK M most i st=some st'):ZrG M V most (i+1) st':=by
 unfold nxK at e;split at e
 ·cases e
 ·rename_i x hs
  obtain⟨hlt,hse⟩:=List.getElem?_eq_some_iff.mp hs;split at e
  ·cases e
  ·rename_i s2 r h1
   cases e;obtain⟨j1,j2,j3⟩:=Zgm (V:=V) (fun s hs=>I.next x s (h.ss.v x (by rw[←hse];exact List.getElem_mem hlt)) hs) h.ss _ (Nat.le_refl _) h1;refine⟨j1,by simp only at j2 ⊢;omega,by simp[h.nx],by simp[h.en],fun r' hr=>?_⟩;rcases List.mem_append.mp hr with hr | hr
   ·exact h.row r' hr
   ·simp at hr;subst hr;exact j3
theorem Zfk(I:M.Inv V)(hm:1≤most):∀(i:Nat) {st:StK K},stK M most i=some st→ZrG M V most i st
 | 0,st,e=>by
  simp only[stK,Option.some.injEq] at e;subst e;exact⟨⟨fun s hs=>by simp at hs;subst hs;exact I.zero,by simpa using hm⟩,by simp,rfl,rfl,by simp⟩
 | i+1,st,e=>by
  simp only[stK] at e;split at e
  ·cases e
  ·rename_i st0 h0
   exact ZuG I (Zfk I hm i h0) e
theorem ZiY(I:M.Inv V)(hm:1≤most):∀(f i:Nat) {st:StK K},stK M most i=some st→most.toNat+1≤f+i→∀j stj,i≤j→stK M most j=some stj→j=stj.1.length→(∀m,i≤m→m < j→∀stm,stK M most m=some stm→m≠stm.1.length)→goK M most f i st=some stj
 | 0,i,st,h,hf,j,stj,hij,hj,hlen,hmin=>by
  have o:=Zfk I hm i h;have:=o.ss.l;have:=o.le;omega
 | f+1,i,st,h,hf,j,stj,hij,hj,hlen,hmin=>by
  simp only[goK];by_cases hi:i=st.1.length
  ·rw[if_pos hi]
   by_cases hij2:i=j
   ·subst hij2;rw[h] at hj;exact hj
   ·exact(hmin i (Nat.le_refl _) (by omega) st h hi).elim
  ·rw[if_neg hi]
   by_cases hij2:i=j
   ·subst hij2;rw[h] at hj;cases hj;exact(hi hlen).elim
   ·have hs1:stK M most (i+1)=nxK M most i st:=by simp only[stK,h]
    cases hn:nxK M most i st with
    | none =>
     exfalso;rw[hn] at hs1
     have key:∀m,i+1≤m→stK M most m=none:=by
      intro m;induction m with
      | zero=>intro hm;omega
      | succ m ih =>
       intro hm';by_cases hmi:m=i
       ·subst hmi;exact hs1
       ·simp only[stK,ih (by omega)]
     rw[key j (by omega)] at hj;cases hj
    | some st' =>
     rw[hn] at hs1;exact ZiY I hm f (i+1) hs1 (by omega) j stj (by omega) hj hlen (fun m h1 h2=>hmin m (by omega) h2)
theorem ZfV:∀(f i:Nat) {st:StK K},stK M most i=some st→∀j,i≤j→stK M most (j+1)=none→(∀m,i≤m→m≤j→∀stm,stK M most m=some stm→m≠stm.1.length)→goK M most f i st=none
 | 0,i,st,h,j,hij,hj,hmin=>rfl
 | f+1,i,st,h,j,hij,hj,hmin=>by
  simp only[goK];rw[if_neg (hmin i (Nat.le_refl _) hij st h)];have hs1:stK M most (i+1)=nxK M most i st:=by simp only[stK,h]
  cases hn:nxK M most i st with
  | none=>rfl
  | some st' =>
   rw[hn] at hs1;simp only;by_cases hij2:i=j
   ·subst hij2;rw[hs1] at hj;cases hj
   ·exact ZfV f (i+1) hs1 j (by omega) hj (fun m h1 h2=>hmin m (by omega) h2)
theorem Zkl:∀(f i:Nat) {st st':StK K},stK M most i=some st→goK M most f i st=some st'→∃j,stK M most j=some st'∧j=st'.1.length
 | 0,i,st,st',h,e=>by cases e
 | f+1,i,st,st',h,e=>by
  simp only[goK] at e;split at e
  ·rename_i hi
   cases e;exact⟨i,h,hi⟩
  ·split at e
   ·cases e
   ·rename_i st1 h1
    exact Zkl f (i+1) (by simp only[stK,h];exact h1) e
theorem Zob{ss ss':List K}{x:K}{j:Int}(h:ZhB most ss x=some (ss',j)):(∀(i:Nat) (y:K),ss[i]? = some y→ss'[i]? = some y)∧∃k:Nat,j=k∧ss'[k]? = some x:=by
 unfold ZhB at h;split at h
 ·rename_i hin
  cases h;have hlt:=List.idxOf_lt_length_of_mem hin;exact⟨fun i y hy=>hy,_,rfl,by rw[List.getElem?_eq_getElem hlt,List.getElem_idxOf hlt]⟩
 ·split at h
  ·cases h
  ·cases h
   refine⟨fun i y hy=>?_,ss.length,rfl,by simp⟩;have hl:=(List.getElem?_eq_some_iff.mp hy).1;rw[List.getElem?_append_left hl];exact hy
theorem ZhQ{b:Nat→K}{ss:List K}:∀(k:Nat) {ss':List K} {r:List Int},Zet most b k ss=some (ss',r) →
  (∀(i:Nat) (y:K),ss[i]? = some y→ss'[i]? = some y)∧r.length=k∧∀s:Nat,s < k→∃j:Nat,r[s]? = some (j:Int)∧ss'[j]? = some (b s)
 | 0,ss',r,h=>by
  simp only[Zet,Option.some.injEq,Prod.mk.injEq] at h;obtain⟨rfl,rfl⟩:=h;exact⟨fun _ _ h=>h,rfl,fun s hs=>by omega⟩
 | k+1,ss',r,h=>by
  simp only[Zet] at h;split at h
  ·cases h
  ·rename_i s1 r1 h1
   obtain⟨i1,i2,i3⟩:=ZhQ k h1;split at h
   ·cases h
   ·rename_i s2 j h2
    cases h;obtain⟨j1,q,rfl,j2⟩:=Zob h2;refine⟨fun i y hy=>j1 i y (i1 i y hy),by simp[i2],fun s hs=>?_⟩;by_cases hsk:s=k
    ·subst hsk
     refine⟨q,?_,j2⟩;rw[List.getElem?_append_right (by omega),i2];simp
    ·obtain⟨j,a1,a2⟩:=i3 s (by omega)
     refine⟨j,?_,j1 _ _ a2⟩;rw[List.getElem?_append_left (by omega)];exact a1
structure ZvL(M:Mk K)(i:Nat)(st:StK K):Prop where
 zero:st.1[0]? = some M.k0
 row:∀k < i,∃x r,st.1[k]? = some x∧st.2.2[k]? = some (M.e x)∧st.2.1[k]? = some r∧r.length=M.sg∧∀s:Nat,s < M.sg→∃j:Nat,r[s]? = some (j:Int)∧st.1[j]? = some (M.b x s)
theorem ZkR(I:M.Inv V)(hm:1≤most):∀(i:Nat) {st:StK K},stK M most i=some st→ZvL M i st
 | 0,st,e=>by
  simp only[stK,Option.some.injEq] at e;subst e;exact⟨rfl,fun k hk=>by omega⟩
 | i+1,st,e=>by
  simp only[stK] at e;split at e
  ·cases e
  ·rename_i st0 h0
   have S:=ZkR I hm i h0;have o:=Zfk I hm i h0;unfold nxK at e;split at e
   ·cases e
   ·rename_i x hs
    split at e
    ·cases e
    ·rename_i s2 r h1
     cases e;obtain⟨i1,i2,i3⟩:=ZhQ _ h1;refine⟨i1 _ _ S.zero,fun k hk=>?_⟩;by_cases hki:k=i
     ·subst hki
      refine⟨x,r,i1 _ _ hs,?_,?_,i2,i3⟩
      ·rw[List.getElem?_append_right (by rw[o.en];omega),o.en];simp
      ·rw[List.getElem?_append_right (by rw[o.nx];omega),o.nx];simp
     ·obtain⟨y,r',a1,a2,a3,a4,a5⟩:=S.row k (by omega)
      refine⟨y,r',i1 _ _ a1,?_,?_,a4,fun s hs=>?_⟩
      ·rw[List.getElem?_append_left (by rw[o.en];omega)];exact a2
      ·rw[List.getElem?_append_left (by rw[o.nx];omega)];exact a3
      ·obtain⟨j,b1,b2⟩:=a5 s hs
       exact⟨j,b1,i1 _ _ b2⟩
def ZwP(M:Mk K)(l:List Int):K:=l.foldl (fun x s=>M.b x s.toNat) M.k0
def ZiI(sg:Int)(st:StK K):Det:=⟨sg,st.2.1,st.2.2⟩
theorem ZlF(I:M.Inv V)(hm:1≤most)(hm2:most≤3000){sg:Int}(hsg:sg=M.sg)(h1:1≤M.sg)(h2:M.sg≤400){st:StK K}(h:ZdQ M most=some st) :
  Z1Q (ZiI sg st)∧((ZiI sg st).next.length:Int)≤most∧∀l,Vl (ZiI sg st) l→Z6n (ZiI sg st) (runT (ZiI sg st) 0 l)=M.e (ZwP M l):=by
 obtain⟨j,hj,hlen⟩:=Zkl _ _ rfl h;have o:=Zfk I hm j hj;have S:=ZkR I hm j hj;have hnx:=o.nx;have hen:=o.en;have hl:=o.ss.l;have h0:=(List.getElem?_eq_some_iff.mp S.zero).1
 have R:Z1Q (ZiI sg st):=by
  refine⟨by show 1≤sg;omega,by show sg≤400;omega,by show 1≤st.2.1.length;omega,by show st.2.1.length≤3000;omega,by show st.2.2.length=st.2.1.length;omega,fun i hi=>?_,fun i hi k hk=>?_⟩
  ·have hi':i < st.2.1.length:=hi
   obtain⟨x,r,a1,a2,a3,a4,a5⟩:=S.row i (by omega);obtain⟨_,e⟩:=List.getElem?_eq_some_iff.mp a3;show((st.2.1[i]'hi').length:Int)=sg
   rw[e,a4,hsg]
  ·have hi':i < st.2.1.length:=hi
   obtain⟨x,r,a1,a2,a3,a4,a5⟩:=S.row i (by omega);obtain⟨_,e⟩:=List.getElem?_eq_some_iff.mp a3;subst e;have hk':k < (st.2.1[i]'hi').length:=hk;obtain⟨q,b1,b2⟩:=a5 k (by omega);obtain⟨_,b3⟩:=List.getElem?_eq_some_iff.mp b1;have b4:=(List.getElem?_eq_some_iff.mp b2).1;show 0≤(st.2.1[i]'hi')[k]'hk'∧(st.2.1[i]'hi')[k]'hk' < (st.2.1.length:Int)
   rw[b3];omega
 refine⟨R,by show(st.2.1.length:Int)≤most;omega,?_⟩
 have key:∀(l:List Int) (a:Nat) (x:K),st.1[a]? = some x→Vl (ZiI sg st) l→Z6n (ZiI sg st) (runT (ZiI sg st) a l)=M.e (l.foldl (fun x s=>M.b x s.toNat) x):=by
  intro l;induction l with
  | nil =>
   intro a x ha _;have hal:=(List.getElem?_eq_some_iff.mp ha).1;obtain⟨y,r,a1,a2,a3,a4,a5⟩:=S.row a (by omega);rw[ha] at a1;cases a1;show st.2.2.getD a false=_
   rw[List.getD_eq_getElem?_getD,a2];rfl
  | cons s l ih =>
   intro a x ha hl';have hs:0≤s∧s < sg:=hl' s (by simp);have hal:=(List.getElem?_eq_some_iff.mp ha).1;obtain⟨y,r,a1,a2,a3,a4,a5⟩:=S.row a (by omega);rw[ha] at a1;cases a1;obtain⟨q,b1,b2⟩:=a5 s.toNat (by omega)
   have hst:Z2o (ZiI sg st) a s=q:=by
    show((st.2.1.getD a []).getD s.toNat 0).toNat=q
    simp only[List.getD_eq_getElem?_getD,a3,Option.getD_some,b1,Int.toNat_natCast]
   show Z6n (ZiI sg st) (runT (ZiI sg st) (Z2o (ZiI sg st) a s) l)=_
   rw[hst];exact ih q _ b2 fun x hx=>hl' x (by simp[hx])
 intro l hl';exact key l 0 _ S.zero hl'
end
def Z5X(b a:Det)(x:Int×Int)(s:Nat):Int×Int :=
 if s % 2=1 then (if x.1=1∧Z6n b x.2.toNat=true then (2,(Z2o a 0 (s / 2:Nat):Int)) else (3,0))
 else if x.1=0∨x.1=1 then (1,(Z2o b x.2.toNat (s / 2:Nat):Int))
 else if x.1=2 then (2,(Z2o a x.2.toNat (s / 2:Nat):Int))
 else (3,0)
def Zcy(a:Det)(x:Int×Int):Bool:=decide (x.1=2) && Z6n a x.2.toNat
def mkM(b a:Det):Mk (Int×Int):=⟨(2*b.signs).toNat,Z5X b a,Zcy a,(0,0)⟩
def vM(b a:Det)(x:Int×Int):Prop:=0≤x.1∧x.1≤3∧0≤x.2∧(x.1≤1→x.2 < b.next.length)∧(x.1=2→x.2 < a.next.length)∧(x.1=3→x.2=0)
theorem Zwf{b a:Det}(Rb:Z1Q b)(Ra:Z1Q a)(hs:b.signs=a.signs):(mkM b a).Inv (vM b a):=by
 have h1:=Rb.n1;have h2:=Ra.n1;refine⟨⟨by simp[mkM],by simp[mkM],by simp[mkM],fun _=>by simp[mkM];omega,fun h=>by simp[mkM] at h,fun h=>by simp[mkM] at h⟩,fun x s hx hlt=>?_⟩;have hlt':s < (2*b.signs).toNat:=hlt;obtain⟨v0,v1,v2,v3,v4,v5⟩:=hx;show vM b a (Z5X b a x s)
 have three:vM b a (3,0):=⟨by simp,by simp,by simp,fun h=>by simp at h,fun h=>by simp at h,fun _=>rfl⟩;unfold Z5X;split
 ·split
  ·have:=Z5Y Ra (a:=0) (by omega) (s:=((s / 2:Nat):Int)) (by omega) (by omega)
   exact⟨by simp,by simp,by simp,fun h=>by simp at h,fun _=>by simp only;omega,fun h=>by simp at h⟩
  ·exact three
 ·split
  ·have:=Z5Y Rb (a:=x.2.toNat) (by have:=v3 (by omega);omega) (s:=((s / 2:Nat):Int)) (by omega) (by omega)
   exact⟨by simp,by simp,by simp,fun _=>by simp only;omega,fun h=>by simp at h,fun h=>by simp at h⟩
  ·split
   ·rename_i h
    have:=Z5Y Ra (a:=x.2.toNat) (by have:=v4 h;omega) (s:=((s / 2:Nat):Int)) (by omega) (by omega);exact⟨by simp,by simp,by simp,fun h=>by simp at h,fun _=>by simp only;omega,fun h=>by simp at h⟩
   ·exact three
def Z4j(b a:Det)(most:Int):Det×Int :=
 if Z2r b=true∧Z2r a=true∧b.signs=a.signs∧b.signs≤200∧1≤most∧most≤3000 then
  match ZdQ (mkM b a) most with
  | some st=>(⟨2*b.signs,st.2.1,st.2.2⟩,0)
  | none=>(⟨0,[],[]⟩,13)
 else (⟨0,[],[]⟩,1)
def Stl(K:AV→St→Prop)(r:AV)(S':St):Prop :=
 ∃z g g2,(∀i k,g i=some k→S'.g i=some k)∧Fz g r z∧(∀i k,g2 i=some k→S'.g i=some k∧g i=none)∧K z ⟨S'.n,g2⟩
theorem Zed{E E':Env}{S S':St}{w w':World}(hS:Sim E' S' w')(hev:Ev E S w E' S' w'){g g2:Nat→Option Blk}(hg:∀i k,g i=some k→S'.g i=some k)(hg2:∀i k,g2 i=some k→S'.g i=some k∧g i=none) :
  ∃H2,Sim ⟨E'.ρ,H2⟩ ⟨S'.n,g2⟩ w'∧Ev E S w ⟨E'.ρ,H2⟩ ⟨S'.n,g2⟩ w'∧∀{x z:AV} {v:Value},Fz g x z→Rep E' x v→Rep ⟨E'.ρ,H2⟩ z v:=by
 have hle:E'.le ⟨E'.ρ,Z6I E' g w'⟩:=⟨fun _ _ e=>e,fun b cs e=>Z71 e⟩;refine⟨Z6I E' g w',⟨fun b cs e=>?_,fun i k e=>?_,fun i j ki kj li lj a b=>hS.dis i j ki kj li lj (hg2 _ _ a).1 (hg2 _ _ b).1,hS.fresh⟩,⟨⟨hev.evo.os,hev.evo.tape,hev.evo.output,hev.evo.size,hev.evo.keep,fun id l k hk hl=>hev.evo.grow id l k (hg2 _ _ hk).1 hl,Env.le_trans hev.evo.le hle,fun b cs e=>?_⟩,hev.nle,hev.low⟩,?_⟩
 ·rcases Z5U e with h1 | ⟨_,h1,_⟩
  ·exact hS.hH b cs h1
  ·exact h1
 ·obtain⟨l,a1,a2,a3⟩:=hS.live i k (hg2 _ _ e).1
  refine⟨l,a1,?_,a3.mono hle rfl⟩;show Z6I E' g w' l.b=none
  cases e2:Z6I E' g w' l.b with
  | none=>rfl
  | some cs =>
   exfalso;rcases Z5U e2 with h2 | ⟨_,_,i2,k2,l2,b1,b2,b3⟩
   ·rw[a2] at h2;cases h2
   ·by_cases hii:i2=i
    ·subst hii;rw[(hg2 _ _ e).2] at b1;cases b1
    ·exact hS.dis i2 i k2 k l2 l (hg _ _ b1) (hg2 _ _ e).1 hii b2 a1 b3
 ·rcases Z5U e with h1 | ⟨_,_,i2,k2,l2,b1,b2,b3⟩
  ·exact hev.evo.hsub b cs h1
  ·rcases hev.evo.grow i2 l2 k2 (hg _ _ b1) b2 with h3 | ⟨id0,l0,k0,c1,c2,c3⟩
   ·right;left;omega
   ·exact .inr (.inr ⟨id0,l0,k0,c1,c2,c3.trans b3⟩)
 ·intro x z v hz hr
  refine Fz.rep hS hg (E2:=⟨E'.ρ,Z6I E' g w'⟩) (fun b cs e=>Z71 e) (fun id es xs l hgi hli cs el fz hw=>?_) hz hr;obtain⟨l',a1,a2,_⟩:=hS.live id _ (hg _ _ hgi);rw[hli] at a1;cases a1;exact Zd2 hgi hli a2 hw
theorem Z0x.settle{P:Program}{f:FuncId}{args:List AV}{S:St}{K:AV→St→Prop}(h:Z0x P f args S (Stl K)):Z0x P f args S K:=by
 refine⟨h.1,fun E w vals h0 h1 h2=>(h.2 E w vals h0 h1 h2).mono ?_⟩;rintro e w' ⟨v,r,S',E',rfl,⟨z,g,g2,hg,hz,hg2,hk⟩,hS,hr,hev⟩;obtain⟨H2,q1,q2,q3⟩:=Zed hS hev hg hg2;exact⟨v,z,⟨S'.n,g2⟩,⟨E'.ρ,H2⟩,rfl,hk,q1,q3 hz hr,q2⟩
theorem Z7o.settle{P:Program}{f:FuncId}{args:List AV}{S:St}{K:AV→St→Prop}{X:Value→St→Prop}(h:Z7o P f args S (Stl K) fun v S'=>∃g2,(∀i k,g2 i=some k→S'.g i=some k)∧X v ⟨S'.n,g2⟩):Z7o P f args S K X:=by
 refine⟨h.1,fun E w vals h0 h1 h2=>(h.2 E w vals h0 h1 h2).mono ?_⟩;rintro e w' ⟨S',E',hS,hev,⟨v,r,rfl,⟨z,g,g2,hg,hz,hg2,hk⟩,hr⟩ | ⟨v,rfl,g2,hg2,hx⟩⟩
 ·obtain⟨H2,q1,q2,q3⟩:=Zed hS hev hg hg2
  exact⟨⟨S'.n,g2⟩,⟨E'.ρ,H2⟩,q1,q2,.inl ⟨v,z,rfl,hk,q3 hz hr⟩⟩
 ·obtain⟨H2,q1,q2,_⟩:=Zed (g:=fun _=>none) hS hev (fun _ _ e=>by cases e) (fun i k e=>⟨hg2 i k e,rfl⟩)
  exact⟨⟨S'.n,g2⟩,⟨E'.ρ,H2⟩,q1,q2,.inr ⟨v,rfl,hx⟩⟩
theorem Z7o.weak{P:Program}{f:FuncId}{args args':List AV}{S:St}{K:AV→St→Prop}{X:Value→St→Prop}(h:Z7o P f args' S K X)(hl:args'.length=args.length)(hr:∀j (h1:j < args.length) (h2:j < args'.length) (E:Env) (v:Value),Rep E (args[j]) v→Rep E (args'[j]) v):Z7o P f args S K X :=
 ⟨h.1,fun E w vals hG hS hv=>h.2 E w vals hG hS ⟨by rw[hv.1,hl],fun j hj=>hr j (by omega) hj E _ (hv.2 j (by omega))⟩⟩
def Zm6(rs:List RV)(K:AV→St→Prop)(X:Value→St→Prop):Exit→AF→St→Prop:=fun e a S =>
 match e with
 | .panic ch=>∃v,ch=[{ v,recovered:=false }]∧X v S
 | e=>Z2L rs K e a S
def IsX(P:Program)(f:FuncId)(ac:AC)(rs:List RV)(n:Nat):Prop :=
 ∃fn c,P.funcs[f]? = some fn∧(fn.name == "runtime.NumGoroutine")=false∧fn.body=some c∧Zct P fn.ntmps c=some ac∧fn.results.toList.mapM (ZlW P)=some rs∧n≤fn.ntmps
theorem IsX.P4D{P:Program}(hm:P.follows .mixedOrders=true){f:FuncId}{ac:AC}{rs:List RV}{n:Nat}(h:IsX P f ac rs n){args:List AV}{S:St}{K:AV→St→Prop}{X:Value→St→Prop}(hn:args.length=n)
  (hb:AW P ac (Zm6 rs K X) (Z53 args) S):Z7o P f args S K X:=by
 obtain⟨fn,c,hf,hnm,hbd,hc,hr,h6⟩:=h;refine⟨Z3b hf hnm hbd,fun E w vals hG hS hv=>?_⟩;refine calls_of_wp hf hbd (wp_mono (Zdi hm ac c hc _ _ _ hb E w _ hG hS (Z6p hv (by omega))) fun e act w' hp=>?_);obtain⟨a,S',E',q,s,r,ev⟩:=hp;cases e with
 | normal =>
  simp only[Zm6,Z2L] at q;obtain⟨xs,q1,q2⟩:=q;obtain⟨val,k1,k2⟩:=Z4K (P:=P) (fn:=fn) s r hr q1;exact⟨r.defers,_,k1,S',E',s,ev,.inl ⟨_,_,rfl,q2,k2⟩⟩
 | ret =>
  simp only[Zm6,Z2L] at q;obtain⟨xs,q1,q2⟩:=q;obtain⟨val,k1,k2⟩:=Z4K (P:=P) (fn:=fn) s r hr q1;exact⟨r.defers,_,k1,S',E',s,ev,.inl ⟨_,_,rfl,q2,k2⟩⟩
 | panic ch =>
  simp only[Zm6] at q;obtain⟨v,rfl,hx⟩:=q;exact⟨r.defers,S',E',s,ev,.inr ⟨v,rfl,hx⟩⟩
 | _=>simp only[Zm6,Z2L] at q
def opX(P:Program)(base:Nat)(p:Option Opd)(os:List Z1x)(i:Nat)(Q:Exit→AF→St→Prop)(a:AF)(d:Option Nat)(op:AOp)(S:St)(r:Option (AV×St)):Prop :=
 match r with
 | some (v,S')=>RGX P base p os (i+1) Q (a.put d v) S'
 | none=>Zer op a fun v=>RGX P base p os (i+1) Q (a.put d v) S
def ZpG(P:Program)(base:Nat)(p:Option Opd)(os:List Z1x)(i:Nat)(Q:Exit→AF→St→Prop)(a:AF)(d:Option Nat):AV→St→Prop:=fun r S'=>RGX P base p os (i+1) Q (a.put d r) S'
def Zvz(Q:Exit→AF→St→Prop)(a:AF):Value→St→Prop:=fun v S'=>Q (pn v) a S'
def P4D(P:Program)(base:Nat)(p:Option Opd)(os:List Z1x)(i:Nat)(Q:Exit→AF→St→Prop)(a:AF)(S:St)(d:Option Nat)(f:AV)(args:List AV):Prop :=
 match f with
 | .clo f first cap=>Z7o P f (first++args++cap) S (ZpG P base p os i Q a d) (Zvz Q a)
 | _=>False
def gdX(P:Program)(base:Nat)(p:Option Opd)(o:Z1x)(os:List Z1x)(i:Nat)(Q:Exit→AF→St→Prop)(a:AF)(S:St)(g:AV)(want:Bool):Prop :=
 match g with
 | .v (.bool b)=>if b=want then RGX P base p (⟨o.dst,o.op,none,o.call⟩::os) i Q a S else RGX P base p os (i+1) Q (a.put o.dst (.tup [])) S
 | .tup []=>RGX P base p os (i+1) Q (a.put o.dst (.tup [])) S
 | _=>False
def Zvv(Q:Exit→AF→St→Prop)(a:AF)(S:St)(x:AV):Prop :=
 match x with
 | .v (.iface t y)=>Q (pn (.iface t y)) a S
 | _=>False
section
variable{P:Program}{Q:Exit→AF→St→Prop}{a:AF}{S:St}{base i:Nat}{os:List Z1x}{d:Option Nat}{op:AOp}{p:Option Opd}{K:AF→St→Prop}
private theorem Zpe:AW P (.regX os p) Q a S=RGX P S.n p os 0 Q a ⟨S.n+os.length,S.g⟩:=rfl
theorem Z2N:AW P (.regX os p) Q a S=RGX P S.n p os 0 Q a ⟨S.n+os.length,S.g⟩:=by rw[Zpe]
theorem Z2S:RGX P base none [] i Q a S=Q .normal a S:=by simp only[RGX]
private theorem Zpk (x:Opd):RGX P base (some x) [] i Q a S=Zvv Q a S (x.ev a):=rfl
theorem Z2T(x:Opd):RGX P base (some x) [] i Q a S=Zvv Q a S (x.ev a):=by rw[Zpk]
theorem Z2X(t:TypeId)(y:Value):Zvv Q a S (.v (.iface t y))=Q (pn (.iface t y)) a S:=by simp only[Zvv]
theorem Z4d:RGX P base p (⟨d,op,none,none⟩::os) i Q a S=opX P base p os i Q a d op S ((ex op a).run S (base+i)):=by
 simp only[RGX,gd,opX];cases(ex op a).run S (base+i)<;>rfl
theorem Z2g(v:AV)(S':St):opX P base p os i Q a d op S (some (v,S'))=RGX P base p os (i+1) Q (a.put d v) S':=by simp only[opX]
private theorem Zmp (G:Opd) (xs:List Opd):RGX P base p (⟨d,op,none,some (G,xs)⟩::os) i Q a S=P4D P base p os i Q a S d (G.ev a) (xs.map (·.ev a)):=rfl
theorem Z2b(G:Opd)(xs:List Opd):RGX P base p (⟨d,op,none,some (G,xs)⟩::os) i Q a S=P4D P base p os i Q a S d (G.ev a) (xs.map (·.ev a)):=by rw[Zmp]
theorem Z1v(f:FuncId)(first cap args:List AV):P4D P base p os i Q a S d (.clo f first cap) args=Z7o P f (first++args++cap) S (ZpG P base p os i Q a d) (Zvz Q a):=by simp only[P4D]
theorem Z2e(r:AV):ZpG P base p os i Q a d r S=RGX P base p os (i+1) Q (a.put d r) S:=by simp only[ZpG]
theorem Z2O(v:Value):Zvz Q a v S=Q (pn v) a S:=by simp only[Zvz]
theorem Z1u(g:Nat)(want:Bool)(c:Option (Opd×List Opd)):RGX P base p (⟨d,op,some (g,want),c⟩::os) i Q a S=gdX P base p ⟨d,op,none,c⟩ os i Q a S (a g) want:=by
 simp only[RGX,gd,gdX];cases h:a g with
 | v x =>
  cases x with
  | bool b =>
   simp only;cases hb:(b == want) with
   | true=>simp only[beq_iff_eq] at hb;rw[if_pos hb]
   | false=>simp only[beq_eq_false_iff_ne,ne_eq] at hb;rw[if_neg hb]
  | _=>rfl
 | tup vs=>cases vs<;>rfl
 | _=>rfl
theorem Z4h(c:Option (Opd×List Opd)):gdX P base p ⟨d,op,none,c⟩ os i Q a S (.v (.bool true)) true=RGX P base p (⟨d,op,none,c⟩::os) i Q a S:=by simp[gdX]
theorem Z4e(c:Option (Opd×List Opd)):gdX P base p ⟨d,op,none,c⟩ os i Q a S (.v (.bool false)) false=RGX P base p (⟨d,op,none,c⟩::os) i Q a S:=by simp[gdX]
theorem Z4i(want:Bool)(c:Option (Opd×List Opd)):gdX P base p ⟨d,op,none,c⟩ os i Q a S (.tup []) want=RGX P base p os (i+1) Q (a.put d (.tup [])) S:=by simp[gdX]
theorem Z4g(c:Option (Opd×List Opd)):gdX P base p ⟨d,op,none,c⟩ os i Q a S (.v (.bool true)) false=RGX P base p os (i+1) Q (a.put d (.tup [])) S:=by simp[gdX]
theorem Z4f(c:Option (Opd×List Opd)):gdX P base p ⟨d,op,none,c⟩ os i Q a S (.v (.bool false)) true=RGX P base p os (i+1) Q (a.put d (.tup [])) S:=by simp[gdX]
theorem Z1G(v:Value):Z7a K Q (pn v) a S=Q (pn v) a S:=by simp only[pn,Z7a]
theorem Z1m(id:Nat)(v:Value):Z6Q id Q (pn v) a S=Q (pn v) a S:=by simp only[pn,Z6Q]
theorem Z2V(rs:List RV)(R:AV→St→Prop)(X:Value→St→Prop)(v:Value):Zm6 rs R X (pn v) a S=X v S:=by
 simp only[Zm6,pn];apply propext;constructor
 ·rintro⟨u,e,h⟩
  simp only[List.cons.injEq,PanicEntry.mk.injEq,and_true] at e;obtain⟨rfl⟩:=e;exact h
 ·intro h;exact⟨v,rfl,h⟩
theorem Z2d(rs:List RV)(R:AV→St→Prop)(X:Value→St→Prop):Zm6 rs R X .ret a S=Z2L rs R .ret a S:=by simp only[Zm6]
theorem Z15(rs:List RV)(R:AV→St→Prop)(X:Value→St→Prop):Zm6 rs R X .normal a S=Z2L rs R .normal a S:=by simp only[Zm6]
end
structure EvB(b:Nat)(E:Env)(S:St)(w:World)(E':Env)(S':St)(w':World):Prop where
 os:w'.os=w.os
 tape:w'.tape=w.tape
 output:w'.output=w.output
 size:w.heap.size≤w'.heap.size
 keep:∀k,k < w.heap.size→(∀id l B,S.g id=some B→E.ρ id=some l→l.b≠k)→w'.heap[k]? = w.heap[k]?
 grow:∀id l B,S'.g id=some B→E'.ρ id=some l→w.heap.size≤l.b∨∃id0 l0 k0,S.g id0=some k0∧E.ρ id0=some l0∧l0.b=l.b
 leB:∀id l,id < b→E.ρ id=some l→E'.ρ id=some l
 leH:∀k cs,E.H k=some cs→E'.H k=some cs
 hsub:∀k cs,E'.H k=some cs→E.H k=some cs∨w.heap.size≤k∨∃id0 l0 k0,S.g id0=some k0∧E.ρ id0=some l0∧l0.b=k
 nle:b≤S'.n
 low:∀id,id < b→E.ρ id=none→E'.ρ id=none
theorem Ev.toB{b:Nat}{E E':Env}{S S':St}{w w':World}(h:Ev E S w E' S' w')(hb:b≤S.n):EvB b E S w E' S' w' :=
 ⟨h.evo.os,h.evo.tape,h.evo.output,h.evo.size,h.evo.keep,h.evo.grow,fun id l _ e=>h.evo.le.1 id l e,h.evo.le.2,h.evo.hsub,Nat.le_trans hb h.nle,fun id hi e=>h.low id (Nat.lt_of_lt_of_le hi hb) e⟩
theorem EvB.ev{E E':Env}{S S':St}{w w':World}(h:EvB S.n E S w E' S' w')(hS:Sim E S w):Ev E S w E' S' w':=by
 refine⟨⟨h.os,h.tape,h.output,h.size,h.keep,h.grow,⟨fun id l e=>h.leB id l ?_ e,h.leH⟩,h.hsub⟩,h.nle,h.low⟩;rcases Nat.lt_or_ge id S.n with h1 | h1
 ·exact h1
 ·rw[hS.fresh id h1] at e;cases e
theorem EvB.refl{b:Nat}(E:Env)(S:St)(w:World)(hb:b≤S.n):EvB b E S w E S w:=(Ev.refl E S w).toB hb
theorem EvB.trans{b:Nat}{E1 E2 E3:Env}{S1 S2 S3:St}{w1 w2 w3:World}(h:EvB b E1 S1 w1 E2 S2 w2)(k:EvB b E2 S2 w2 E3 S3 w3):EvB b E1 S1 w1 E3 S3 w3:=by
 refine⟨k.os.trans h.os,k.tape.trans h.tape,k.output.trans h.output,Nat.le_trans h.size k.size,?_,?_,fun id l hi e=>k.leB id l hi (h.leB id l hi e),fun a cs e=>k.leH a cs (h.leH a cs e),?_,k.nle,fun id hi e=>k.low id hi (h.low id hi e)⟩
 ·intro b hb hn
  rw[k.keep b (Nat.lt_of_lt_of_le hb h.size) ?_,h.keep b hb hn];intro id l kk hk hl e;rcases h.grow id l kk hk hl with hge | ⟨id0,l0,k0,a1,a2,a3⟩
  ·omega
  ·exact hn id0 l0 k0 a1 a2 (a3.trans e)
 ·intro id l kk hk hl
  rcases k.grow id l kk hk hl with hge | ⟨id0,l0,k0,a1,a2,a3⟩
  ·left;exact Nat.le_trans h.size hge
  ·rcases h.grow id0 l0 k0 a1 a2 with hge | ⟨id1,l1,k1,b1,b2,b3⟩
   ·left;omega
   ·right;exact⟨id1,l1,k1,b1,b2,b3.trans a3⟩
 ·intro b cs e
  rcases k.hsub b cs e with e1 | hge | ⟨id0,l0,k0,a1,a2,a3⟩
  ·exact h.hsub b cs e1
  ·right;left;exact Nat.le_trans h.size hge
  ·rcases h.grow id0 l0 k0 a1 a2 with hge | ⟨id1,l1,k1,b1,b2,b3⟩
   ·right;left;omega
   ·right;right;exact⟨id1,l1,k1,b1,b2,b3.trans a3⟩
def Abs(b:Nat)(a:AF)(S:St)(a':AF)(S':St):Prop :=
 ∀(E:Env) (w:World) (act:Act) (n:Nat),b≤S.n→Sim E S w→Z6O E n a act→∃E',Sim E' S' w∧Z6O E' n a' act∧EvB b E S w E' S' w
theorem Abs.refl{b:Nat}(a:AF)(S:St):Abs b a S a S:=fun E w _ _ hb hS hF=>⟨E,hS,hF,.refl _ _ _ hb⟩
def ZtN(I:Nat→AF→St→Prop)(b m:Nat):AF→St→Prop:=fun a S=>∃m' a' S',m' < m∧Abs b a S a' S'∧I m' a' S'
def AWb(P:Program)(b:Nat):AC→(Exit→AF→St→Prop)→AF→St→Prop
 | .seq x y,Q,a,S=>AWb P b x (Z7a (AWb P b y Q) Q) a S
 | .cond c x y,Q,a,S=>match c.ev a with
  | .v (.bool t)=>if t=true then AWb P b x Q a S else AWb P b y Q a S
  | _=>False
 | .block id x,Q,a,S=>AWb P b x (Z6Q id Q) a S
 | .loop x,Q,a,S=>∃I:Nat→AF→St→Prop,(∃m a0 S0',Abs b a S a0 S0'∧I m a0 S0')∧∀m a S,I m a S→AWb P b x (Z7a (ZtN I b m) Q) a S
 | .exit id,Q,a,S=>Q (.exit id) a S
 | .ret,Q,a,S=>Q .ret a S
 | .scp x,Q,a,S=>AWb P b x (Z8t Q) a S
 | .skip,Q,a,S=>Q .normal a S
 | .reg d os,Q,a,S=>AW P (.reg d os) Q a S
 | .regS l,Q,a,S=>AW P (.regS l) Q a S
 | .regX os p,Q,a,S=>AW P (.regX os p) Q a S
 | .bad,_,_,_=>False
def ZdM:AC→Bool
 | .reg .. | .regS .. | .regX .. | .bad=>true
 | _=>false
theorem Zpf{P:Program}{b:Nat}{ac:AC}(h:ZdM ac=true){Q:Exit→AF→St→Prop}{a:AF}{S:St}(k:AWb P b ac Q a S):AW P ac Q a S:=by
 cases ac<;>simp only[ZdM,Bool.false_eq_true] at h<;>simp only[AWb] at k<;>first | exact k | exact k.elim
theorem Z9Y{P:Program}{b:Nat}:∀(ac:AC) {Q Q':Exit→AF→St→Prop} {a:AF} {S:St},(∀e a S,Q e a S→Q' e a S)→AWb P b ac Q a S→AWb P b ac Q' a S:=by
 intro ac;induction ac with
 | skip=>intro Q Q' a S hq h;exact hq _ _ _ h
 | reg d os=>intro Q Q' a S hq h;exact Z9g _ hq h
 | regS l=>intro Q Q' a S hq h;exact Z9g _ hq h
 | regX os p=>intro Q Q' a S hq h;exact Z9g _ hq h
 | seq x y ihx ihy =>
  intro Q Q' a S hq h;refine ihx (Q:=Z7a (AWb P b y Q) Q) (fun e a S h=>?_) h;cases e with
  | normal=>exact ihy hq h
  | _=>exact hq _ _ _ h
 | cond c x y ihx ihy =>
  intro Q Q' a S hq h;simp only[AWb] at h ⊢;split at h
  ·rename_i b hb
   split at h
   ·rename_i hbt;rw[if_pos hbt];exact ihx hq h
   ·rename_i hbt;rw[if_neg hbt];exact ihy hq h
  ·exact h.elim
 | block id x ihx =>
  intro Q Q' a S hq h;refine ihx (Q:=Z6Q id Q) (fun e a S h=>?_) h;cases e with
  | exit j =>
   simp only[Z6Q] at h ⊢;split at h
   ·rename_i hj;rw[if_pos hj];exact hq _ _ _ h
   ·rename_i hj;rw[if_neg hj];exact hq _ _ _ h
  | _=>exact hq _ _ _ h
 | loop x ihx =>
  intro Q Q' a S hq h;obtain⟨I,h1,h2⟩:=h;refine⟨I,h1,fun m a S hi=>ihx (fun e a S h=>?_) (h2 m a S hi)⟩;cases e with
  | normal=>exact h
  | _=>exact hq _ _ _ h
 | exit id=>intro Q Q' a S hq h;exact hq _ _ _ h
 | ret=>intro Q Q' a S hq h;exact hq _ _ _ h
 | scp x ihx =>
  intro Q Q' a S hq h;refine ihx (Q:=Z8t Q) (fun e a S h=>?_) h;cases e with
  | goto l=>exact h
  | _=>exact hq _ _ _ h
 | bad=>intro Q Q' a S hq h;exact h
theorem AW.toB{P:Program}{b:Nat}:∀(ac:AC) {Q:Exit→AF→St→Prop} {a:AF} {S:St},AW P ac Q a S→AWb P b ac Q a S:=by
 intro ac;induction ac with
 | skip=>intro Q a S h;exact h
 | reg d os=>intro Q a S h;exact h
 | regS l=>intro Q a S h;exact h
 | regX os p=>intro Q a S h;exact h
 | seq x y ihx ihy =>
  intro Q a S h
  have h1:AW P x (Z7a (AWb P b y Q) Q) a S:=Z9g _ (fun e a S k=>by
   cases e with
   | normal=>exact ihy k
   | _=>exact k) h
  exact ihx h1
 | cond c x y ihx ihy =>
  intro Q a S h;simp only[AW] at h;simp only[AWb];split at h
  ·rename_i t ht
   split at h
   ·rename_i hbt;simp only[ht,hbt,if_true];exact ihx h
   ·rename_i hbt;simp only[ht,if_neg hbt];exact ihy h
  ·exact h.elim
 | block id x ihx=>intro Q a S h;exact ihx h
 | loop x ihx =>
  intro Q a S h;obtain⟨I,⟨m,h1⟩,h2⟩:=h;refine⟨I,⟨m,a,S,.refl _ _,h1⟩,fun m a S hi=>ihx (Z9g _ (fun e a S k=>?_) (h2 m a S hi))⟩;cases e with
  | normal=>obtain⟨m',k1,k2⟩:=k;exact⟨m',a,S,k1,.refl _ _,k2⟩
  | _=>exact k
 | exit id=>intro Q a S h;exact h
 | ret=>intro Q a S h;exact h
 | scp x ihx=>intro Q a S h;exact ihx h
 | bad=>intro Q a S h;exact h
def Zmo(b:Nat)(E0:Env)(S0:St)(w0:World)(n:Nat)(Q:Exit→AF→St→Prop):Exit→Act→World→Prop :=
 fun e act w=>∃a S E,Q e a S∧Sim E S w∧Z6O E n a act∧EvB b E0 S0 w0 E S w
def ZwR(P:Program)(b n:Nat)(c:Code)(Q:Exit→AF→St→Prop)(a:AF)(S:St):Prop :=
 ∀E w act,Gam P E.H→b≤S.n→Sim E S w→Z6O E n a act→c.wp P (Zmo b E S w n Q) act w
theorem Zmo.trans{b:Nat}{E0 E1:Env}{S0 S1:St}{w0 w1:World}{n:Nat}{Q:Exit→AF→St→Prop}{e:Exit}{act:Act}{w:World}(h:EvB b E0 S0 w0 E1 S1 w1)(k:Zmo b E1 S1 w1 n Q e act w):Zmo b E0 S0 w0 n Q e act w :=
 let ⟨a,S,E,h1,h2,h3,h4⟩:=k;⟨a,S,E,h1,h2,h3,h.trans h4⟩
theorem Zdg{P:Program}{n b:Nat}{R:Program→Nat→Bool→Array Oper→AC}(hR:Zio P n R)(hL:∀d ops,ZdM (R P n d ops)=true):∀(c:Code) (ac:AC),Z3Q R P n c=some ac→∀(Q:Exit→AF→St→Prop) (a:AF) (S:St),AWb P b ac Q a S→ZwR P b n c Q a S:=by
 intro c;induction c with
 | skip =>
  intro ac hc Q a S h E w act hG hb hS hF;simp only[Z3Q,Option.some.injEq] at hc;subst hc;exact wp_skip ⟨a,S,E,h,hS,hF,.refl _ _ _ hb⟩
 | label l =>
  intro ac hc Q a S h E w act hG hb hS hF;simp only[Z3Q,Option.some.injEq] at hc;subst hc;exact wp_label ⟨a,S,E,h,hS,hF,.refl _ _ _ hb⟩
 | region id ops dr =>
  intro ac hc Q a S h E w act hG hb hS hF;rw[Z6E hc] at h;refine wp_mono (hR id ops dr Q a S (Zpf (hL _ _) h) E w act hG hS hF) fun e act' w' hp=>?_
  obtain⟨a',S',E',q,s,r,ev⟩:=hp;exact⟨a',S',E',q,s,r,ev.toB hb⟩
 | seq c1 c2 ihx ihy =>
  intro ac hc Q a S h E w act hG hb hS hF;simp only[Z3Q,Option.map_eq_some_iff,Option.bind_eq_some_iff] at hc;obtain⟨X,hX,Y,hY,rfl⟩:=hc;simp only[AWb] at h;refine wp_seq (wp_mono (ihx X hX _ a S h E w act hG hb hS hF) fun e act' w' hp=>?_);obtain⟨a',S',E',q,s,r,ev⟩:=hp;cases e with
  | normal=>exact wp_mono (ihy Y hY Q a' S' q E' w' act' (hG.sub ev.leH) ev.nle s r) fun e act2 w2 hp2=>hp2.trans ev
  | _=>exact⟨a',S',E',q,s,r,ev⟩
 | cond c0 c1 c2 ihx ihy =>
  intro ac hc Q a S h E w act hG hb hS hF;simp only[Z3Q,Option.map_eq_some_iff,Option.bind_eq_some_iff] at hc;obtain⟨C',hC,X,hX,Y,hY,rfl⟩:=hc;simp only[AWb] at h;split at h
  ·rename_i t ht
   have r:=Z07 hF hC;rw[ht] at r;refine wp_cond (t:=t) r.P0O ?_;cases t with
   | true=>exact ihx X hX Q a S (by simpa using h) E w act hG hb hS hF
   | false=>exact ihy Y hY Q a S (by simpa using h) E w act hG hb hS hF
  ·exact h.elim
 | block id' c1 ihx =>
  intro ac hc Q a S h E w act hG hb hS hF;simp only[Z3Q,Option.map_eq_some_iff] at hc;obtain⟨X,hX,rfl⟩:=hc;simp only[AWb] at h;refine wp_block (wp_mono (ihx X hX _ a S h E w act hG hb hS hF) fun e act' w' hp=>?_);obtain⟨a',S',E',q,s,r,ev⟩:=hp;cases e with
  | exit j =>
   simp only[Z6Q] at q;simp only[Exit.inBlock];split at q
   ·rename_i hj;rw[if_pos hj];exact⟨a',S',E',q,s,r,ev⟩
   ·rename_i hj;rw[if_neg hj];exact⟨a',S',E',q,s,r,ev⟩
  | _=>exact⟨a',S',E',q,s,r,ev⟩
 | loop c1 ihx =>
  intro ac hc Q a S h E w act hG hb hS hF;simp only[Z3Q,Option.map_eq_some_iff] at hc;obtain⟨X,hX,rfl⟩:=hc;simp only[AWb] at h;obtain⟨I,⟨m0,a0,S0',habs,hI0⟩,hround⟩:=h;obtain⟨E0',hS0,hF0,ev0⟩:=habs E w act n hb hS hF;intro bk k cs
  have key:∀m,∀a S E' w' act',Gam P E'.H→I m a S→b≤S.n→Sim E' S w'→Z6O E' n a act' →
    ∃e a' w2,Zmo b E' S w' n Q e a' w2∧Arrives P (lone (bk.at act' (.code c1::.inLoop c1::k)) cs w') bk k cs e a' w2:=by
   intro m;induction m using Nat.strongRecOn with
   | _ m ih =>
    intro a S E' w' act' hG' hI hb' hS' hF';obtain⟨e,act1,w1,hp,harr⟩:=ihx X hX _ a S (hround m a S hI) E' w' act' hG' hb' hS' hF' bk (.inLoop c1::k) cs;obtain⟨a1,S1,E1,q,s,r,ev⟩:=hp;cases e with
    | normal =>
     obtain⟨m',a2,S2,hlt,habs2,hI'⟩:=q;obtain⟨E2,s2,r2,ev2⟩:=habs2 E1 w1 act1 n ev.nle s r;obtain⟨e2,act2,w2,hp2,harr2⟩:=ih m' hlt a2 S2 E2 w1 act1 (hG'.sub (ev.trans ev2).leH) hI' ev2.nle s2 r2;exact⟨e2,act2,w2,hp2.trans (ev.trans ev2),.of_steps (Steps.trans harr (.one step_inLoop)) harr2⟩
    | exit id=>exact⟨_,act1,w1,⟨a1,S1,E1,q,s,r,ev⟩,.pass (x:=.inLoop c1) rfl (fun _ _=>.inl (by simp)) harr⟩
    | goto l=>exact⟨_,act1,w1,⟨a1,S1,E1,q,s,r,ev⟩,.pass (x:=.inLoop c1) rfl (fun _ _=>.inl (by simp)) harr⟩
    | ret=>exact⟨_,act1,w1,⟨a1,S1,E1,q,s,r,ev⟩,.pass (x:=.inLoop c1) rfl (fun _ _=>.inl (by simp)) harr⟩
    | panic ch=>exact⟨_,act1,w1,⟨a1,S1,E1,q,s,r,ev⟩,.pass (x:=.inLoop c1) rfl (fun _ _=>.inl (by simp)) harr⟩
    | outgrown=>exact⟨_,act1,w1,⟨a1,S1,E1,q,s,r,ev⟩,.pass (x:=.inLoop c1) rfl (fun _ _=>.inl (by simp)) harr⟩
  obtain⟨e,a',w',hp,harr⟩:=key m0 a0 S0' E0' w act (hG.sub ev0.leH) hI0 ev0.nle hS0 hF0;exact⟨e,a',w',hp.trans ev0,.of_steps (.one step_loop) harr⟩
 | exit id =>
  intro ac hc Q a S h E w act hG hb hS hF;simp only[Z3Q,Option.some.injEq] at hc;subst hc;exact wp_exit ⟨a,S,E,h,hS,hF,.refl _ _ _ hb⟩
 | ret =>
  intro ac hc Q a S h E w act hG hb hS hF;simp only[Z3Q,Option.some.injEq] at hc;subst hc;exact wp_ret ⟨a,S,E,h,hS,hF,.refl _ _ _ hb⟩
 | scope c1 ihx =>
  intro ac hc Q a S h E w act hG hb hS hF;simp only[Z3Q,Option.map_eq_some_iff] at hc;obtain⟨X,hX,rfl⟩:=hc;simp only[AWb] at h;refine wp_scope_straight (wp_mono (ihx X hX _ a S h E w act hG hb hS hF) fun e act' w' hp=>?_);obtain⟨a',S',E',q,s,r,ev⟩:=hp;cases e with
  | goto l=>exact q
  | _=>exact⟨a',S',E',q,s,r,ev⟩
 | _ =>
  intro ac hc Q a S h;simp only[Z3Q,Option.some.injEq] at hc;subst hc;simp only[AWb] at h
theorem Z7X{P:Program}{n:Nat}(d:Bool)(ops:Array Oper):ZdM (Zii P n d ops)=true:=by
 unfold Zii Zgh;split<;>rfl
theorem ZnW{P:Program}{n:Nat}(d:Bool)(ops:Array Oper):ZdM (ZtG P n d ops)=true:=by
 unfold ZtG;split
 ·split
  ·split
   ·rfl
   ·exact Z7X _ _
  ·exact Z7X _ _
 ·exact Z7X _ _
def ZtS(b:Nat)(ts:List Nat)(K:AV→St→Prop):Exit→AF→St→Prop:=fun e a S=>∃a' S',Abs b a S a' S'∧Z75 ts K e a' S'
def Z86(b:Nat)(rs:List RV)(K:AV→St→Prop):Exit→AF→St→Prop:=fun e a S=>∃a' S',Abs b a S a' S'∧Z2L rs K e a' S'
theorem Is.P2D{P:Program}(hm:P.follows .mixedOrders=true){f:FuncId}{ac:AC}{ts:List Nat}{n:Nat}(h:Is P f ac ts n){args:List AV}(hn:args.length=n){S:St}{K:AV→St→Prop}
  (hb:AWb P S.n ac (ZtS S.n ts K) (Z53 args) S):Z0x P f args S K:=by
 obtain⟨fn,c,hf,hnm,hbd,hc,hr,h6⟩:=h;refine⟨Z3b hf hnm hbd,fun E w vals hG hS hv=>?_⟩;refine calls_of_wp hf hbd (wp_mono (Zdg (Z8Z hm) Z7X c ac hc _ _ _ hb E w _ hG (Nat.le_refl _) hS (Z6p hv (by omega))) fun e act w' hp=>?_);obtain⟨a1,S1,E1,⟨a,S',habs,q⟩,s1,r1,ev1⟩:=hp;obtain⟨E',s,r,ev2⟩:=habs E1 w' act _ ev1.nle s1 r1;have ev:=(ev1.trans ev2).ev hS;have hrr:=Z80 (P:=P) hr act.tmps w';cases e<;>simp only[Z75] at q
 ·exact⟨r.defers,_,hrr,_,_,S',E',rfl,q,s,Z8H r ts,ev⟩
 ·exact⟨r.defers,_,hrr,_,_,S',E',rfl,q,s,Z8H r ts,ev⟩
theorem Is.P1q{P:Program}(hm:P.follows .mixedOrders=true){f:FuncId}{ac:AC}{ts:List Nat}{n:Nat}(h:Is P f ac ts n){args:List AV}(hn:args.length=n){r:AV}
  (hb:AWb P 0 ac (Z75 ts (FzK r)) (Z53 args) S0):Z0t P f args r :=
 .P1h (h.P2D hm hn (Z9Y _ (fun e a S k=>⟨a,S,.refl _ _,k⟩) hb))
theorem ZbP{P:Program}{f:FuncId}{ac:AC}{rs:List RV}{n:Nat}{R:Program→Nat→Bool→Array Oper→AC}(hR:∀k,Zio P k R)(hL:∀k d ops,ZdM (R P k d ops)=true)
  (h:∃fn c,P.funcs[f]? = some fn∧(fn.name == "runtime.NumGoroutine")=false∧fn.body=some c∧Z3Q R P fn.ntmps c=some ac∧fn.results.toList.mapM (ZlW P)=some rs∧n≤fn.ntmps) {args:List AV} (hn:args.length=n) {S:St} {K:AV→St→Prop}
  (hb:AWb P S.n ac (Z86 S.n rs K) (Z53 args) S):Z0x P f args S K:=by
 obtain⟨fn,c,hf,hnm,hbd,hc,hr,h6⟩:=h;refine⟨Z3b hf hnm hbd,fun E w vals hG hS hv=>?_⟩;refine calls_of_wp hf hbd (wp_mono (Zdg (hR _) (hL _) c ac hc _ _ _ hb E w _ hG (Nat.le_refl _) hS (Z6p hv (by omega))) fun e act w' hp=>?_);obtain⟨a1,S1,E1,⟨a,S',habs,q⟩,s1,r1,ev1⟩:=hp;obtain⟨E',s,r,ev2⟩:=habs E1 w' act _ ev1.nle s1 r1;have ev:=(ev1.trans ev2).ev hS;cases e<;>simp only[Z2L] at q
 ·obtain⟨xs,q1,q2⟩:=q
  obtain⟨val,k1,k2⟩:=Z4K (P:=P) (fn:=fn) s r hr q1;exact⟨r.defers,_,k1,_,_,S',E',rfl,q2,s,k2,ev⟩
 ·obtain⟨xs,q1,q2⟩:=q
  obtain⟨val,k1,k2⟩:=Z4K (P:=P) (fn:=fn) s r hr q1;exact⟨r.defers,_,k1,_,_,S',E',rfl,q2,s,k2,ev⟩
theorem IsC.P2D{P:Program}(hm:P.follows .mixedOrders=true){f:FuncId}{ac:AC}{rs:List RV}{n:Nat}(h:IsC P f ac rs n){args:List AV}(hn:args.length=n){S:St}{K:AV→St→Prop}
  (hb:AWb P S.n ac (Z86 S.n rs K) (Z53 args) S):Z0x P f args S K:=ZbP (fun _=>Z8Z hm) (fun _=>Z7X) h hn hb
theorem IsS.P2D{P:Program}(hm:P.follows .mixedOrders=true){f:FuncId}{ac:AC}{rs:List RV}{n:Nat}(h:IsS P f ac rs n){args:List AV}(hn:args.length=n){S:St}{K:AV→St→Prop}
  (hb:AWb P S.n ac (Z86 S.n rs K) (Z53 args) S):Z0x P f args S K:=ZbP (fun _=>Zjd hm) (fun _=>ZnW) h hn hb
theorem IsC.P1q{P:Program}(hm:P.follows .mixedOrders=true){f:FuncId}{ac:AC}{rs:List RV}{n:Nat}(h:IsC P f ac rs n){args:List AV}(hn:args.length=n){r:AV}
  (hb:AWb P 0 ac (Z2L rs (FzK r)) (Z53 args) S0):Z0t P f args r :=
 .P1h (h.P2D hm hn (Z9Y _ (fun e a S k=>⟨a,S,.refl _ _,k⟩) hb))
theorem IsS.P1q{P:Program}(hm:P.follows .mixedOrders=true){f:FuncId}{ac:AC}{rs:List RV}{n:Nat}(h:IsS P f ac rs n){args:List AV}(hn:args.length=n){r:AV}
  (hb:AWb P 0 ac (Z2L rs (FzK r)) (Z53 args) S0):Z0t P f args r :=
 .P1h (h.P2D hm hn (Z9Y _ (fun e a S k=>⟨a,S,.refl _ _,k⟩) hb))
inductive Wk:AV→AV→Prop
 | refl (x:AV):Wk x x
 | sl (t:Bool) (xs ys:List AV) (hl:ys.length=xs.length) (h:∀i (h1:i < xs.length) (h2:i < ys.length),Wk (xs[i]) (ys[i])):Wk (.sl t xs) (.sl false ys)
 | slt (t:Bool) (xs ys:List AV) (hl:ys.length=xs.length) (h:∀i (h1:i < xs.length) (h2:i < ys.length),Wk (xs[i]) (ys[i])):Wk (.sl t xs) (.sl t ys)
 | agg (cs ds:List AV) (hl:ds.length=cs.length) (h:∀i (h1:i < cs.length) (h2:i < ds.length),Wk (cs[i]) (ds[i])):Wk (.agg cs) (.agg ds)
theorem Wk.cells{x y:AV}(h:Wk x y):∀i (h1:i < x.cells.length) (h2:i < y.cells.length),Wk (x.cells[i]) (y.cells[i]):=by
 cases h with
 | refl x=>intro i h1 h2;exact .refl _
 | sl t xs ys hl h=>intro i h1 h2;simp only[AV.cells,List.length_cons,List.length_nil,Nat.zero_add,Nat.lt_one_iff] at h1;subst h1;exact .sl t xs ys hl h
 | slt t xs ys hl h=>intro i h1 h2;simp only[AV.cells,List.length_cons,List.length_nil,Nat.zero_add,Nat.lt_one_iff] at h1;subst h1;exact .slt t xs ys hl h
 | agg cs ds hl h=>exact h
def WkL(a b:List AV):Prop:=b.length=a.length∧∀i (h1:i < a.length) (h2:i < b.length),Wk (a[i]) (b[i])
theorem WkL.nil:WkL [] []:=⟨rfl,fun i h=>by simp at h⟩
theorem WkL.cons{x y:AV}{a b:List AV}(h:Wk x y)(k:WkL a b):WkL (x::a) (y::b):=by
 refine⟨by simp[k.1],fun i h1 h2=>?_⟩;cases i with
 | zero=>exact h
 | succ i=>exact k.2 i (by simpa using h1) (by simpa using h2)
theorem WkL.refl(a:List AV):WkL a a:=⟨rfl,fun _ _ _=>.refl _⟩
theorem Wk.sl'{t:Bool}{xs ys:List AV}(h:WkL xs ys):Wk (.sl t xs) (.sl false ys):=.sl t xs ys h.1 h.2
theorem Wk.agg'{xs ys:List AV}(h:WkL xs ys):Wk (.agg xs) (.agg ys):=.agg xs ys h.1 h.2
def Im(x y:AV):Prop:=∀E v,Rep E x v→Rep E y v
structure WkF(x y:AV):Prop where
 rep:Im x y
 len:y.cells.length=x.cells.length
 cell:∀i (h1:i < x.cells.length) (h2:i < y.cells.length),Im (x.cells[i]) (y.cells[i])
 atom:x.atom=true→y.atom=true
 P64:(∀z∈x.cells,z.atom=true)→∀z∈y.cells,z.atom=true
theorem Zjo:∀{xs ys:List AV},ys.length=xs.length→(∀i (h1:i < xs.length) (h2:i < ys.length),WkF (xs[i]) (ys[i])) →
  (flat ys).length=(flat xs).length∧(∀k (h1:k < (flat xs).length) (h2:k < (flat ys).length),Im ((flat xs)[k]) ((flat ys)[k]))∧((∀z∈flat xs,z.atom=true)→∀z∈flat ys,z.atom=true)
 | [],[],_,_=>⟨rfl,fun k h1=>by simp[flat] at h1,fun _ z hz=>by simp[flat] at hz⟩
 | [],_::_,h,_=>by simp at h
 | _::_,[],h,_=>by simp at h
 | x::xs,y::ys,hl,h=>by
  obtain⟨i1,i2,i3⟩:=Zjo (xs:=xs) (ys:=ys) (by simpa using hl) (fun i h1 h2=>h (i+1) (by simpa using h1) (by simpa using h2));have h0:=h 0 (by simp) (by simp);simp only[List.getElem_cons_zero] at h0;have e1:flat (x::xs)=x.cells++flat xs:=by simp[flat]
  have e2:flat (y::ys)=y.cells++flat ys:=by simp[flat]
  refine⟨by rw[e1,e2];simp[h0.len,i1],fun k h1 h2=>?_,fun hz z hzm=>?_⟩
  ·simp only[e1,e2] at h1 h2 ⊢
   by_cases hk:k < x.cells.length
   ·rw[List.getElem_append_left hk,List.getElem_append_left (by rw[h0.len];exact hk)]
    exact h0.cell k hk (by rw[h0.len];exact hk)
   ·rw[List.getElem_append_right (by omega),List.getElem_append_right (by rw[h0.len];omega)]
    simp only[h0.len];exact i2 _ _ _
  ·rw[e2] at hzm
   rw[e1] at hz;rcases List.mem_append.mp hzm with hm | hm
   ·exact h0.P64 (fun z hz'=>hz z (by simp[hz'])) z hm
   ·exact i3 (fun z hz'=>hz z (by simp[hz'])) z hm
theorem Wk.f{x y:AV}(h:Wk x y):WkF x y:=by
 induction h with
 | refl x=>exact⟨fun _ _ h=>h,rfl,fun _ _ _ _ _ h=>h,id,id⟩
 | sl t xs ys hl h ih =>
  obtain⟨f1,f2,f3⟩:=Zjo hl ih
  have hrep:Im (.sl t xs) (.sl false ys):=by
   intro E v hr;cases hr with
   | sl0 _ A cap ht =>
    have:ys=[]:=List.eq_nil_of_length_eq_zero (by simpa using hl);subst this;exact .sl0 false A cap (by simp)
   | sl _ _ b o cap cs es f hne hb hes hcap ht hat hc hr =>
    have hcount:xs.length=ys.length:=hl.symm;rw[hcount];refine .sl false ys b o cap cs es f (by omega) hb (fun z hz=>?_) (by omega) (by simp) (f3 hat) (fun k hk=>hc k (by omega)) (fun k hk=>f2 k (by omega) hk E _ (hr k (by omega)));obtain⟨i,hi,rfl⟩:=List.mem_iff_getElem.mp hz;rw[(ih i (by omega) hi).len];exact hes _ (List.getElem_mem _)
  refine⟨hrep,rfl,fun i h1 h2=>?_,fun _=>rfl,fun _ z hz=>?_⟩
  ·simp only[AV.cells,List.length_cons,List.length_nil,Nat.zero_add,Nat.lt_one_iff] at h1
   subst h1;exact hrep
  ·simp[AV.cells] at hz;subst hz;rfl
 | slt t xs ys hl h ih =>
  obtain⟨f1,f2,f3⟩:=Zjo hl ih
  have hrep:Im (.sl t xs) (.sl t ys):=by
   intro E v hr;cases hr with
   | sl0 _ A cap ht =>
    have:ys=[]:=List.eq_nil_of_length_eq_zero (by simpa using hl);subst this;exact .sl0 t A cap ht
   | sl _ _ b o cap cs es f hne hb hes hcap ht hat hc hr =>
    have hcount:xs.length=ys.length:=hl.symm;rw[hcount];refine .sl t ys b o cap cs es f (by omega) hb (fun z hz=>?_) (by omega) (fun e=>by rw[ht e];omega) (f3 hat) (fun k hk=>hc k (by omega)) (fun k hk=>f2 k (by omega) hk E _ (hr k (by omega)));obtain⟨i,hi,rfl⟩:=List.mem_iff_getElem.mp hz;rw[(ih i (by omega) hi).len];exact hes _ (List.getElem_mem _)
  refine⟨hrep,rfl,fun i h1 h2=>?_,fun _=>rfl,fun _ z hz=>?_⟩
  ·simp only[AV.cells,List.length_cons,List.length_nil,Nat.zero_add,Nat.lt_one_iff] at h1
   subst h1;exact hrep
  ·simp[AV.cells] at hz;subst hz;rfl
 | agg cs ds hl h ih =>
  refine⟨fun E v hr=>?_,hl,fun i h1 h2=>(ih i h1 h2).rep,fun e=>by simp[AV.atom] at e,fun hz z hzm=>?_⟩
  ·cases hr with
   | agg _ vs hn hat hr =>
    refine .agg ds vs (by omega) (fun z hz=>?_) (fun j hj=>(ih j (by omega) hj).rep E _ (hr j (by omega)));obtain⟨i,hi,rfl⟩:=List.mem_iff_getElem.mp hz;exact(ih i (by omega) hi).atom (hat _ (List.getElem_mem _))
  ·obtain⟨i,hi,rfl⟩:=List.mem_iff_getElem.mp hzm
   exact(ih i (by simp only[AV.cells] at hi ⊢;omega) hi).atom (hz _ (List.getElem_mem _))
theorem Z0t.wk{P:Program}{f:FuncId}{args args':List AV}{r:AV}(h:Z0t P f args' r)(hw:WkL args args'):Z0t P f args r :=
 h.weak hw.1 (fun j h1 h2 E v hr=>(hw.2 j h1 h2).f.rep E v hr)
inductive Z5z (gF:Nat→Option Blk) (R:Nat→Nat→Prop):AV→AV→Prop
 | fz (x y:AV) (h:Fz gF x y):Z5z gF R x y
 | wk (x y:AV) (hc:Z0S x) (h:Wk x y):Z5z gF R x y
 | own (id j off len:Nat) (h:R j id):Z5z gF R (.own id off len) (.own j off len)
 | ptr (id j ix c:Nat) (h:R j id):Z5z gF R (.ptr id ix c) (.ptr j ix c)
 | mp (id j:Nat) (h:R j id):Z5z gF R (.mp id) (.mp j)
 | agg (cs ds:List AV) (hl:ds.length=cs.length) (h:∀i (h1:i < cs.length) (h2:i < ds.length),Z5z gF R (cs[i]) (ds[i])):Z5z gF R (.agg cs) (.agg ds)
 | tup (cs ds:List AV) (hl:ds.length=cs.length) (h:∀i (h1:i < cs.length) (h2:i < ds.length),Z5z gF R (cs[i]) (ds[i])):Z5z gF R (.tup cs) (.tup ds)
 | clo (f:FuncId) (asZ bs as' bs':List AV) (hl:as'.length=asZ.length) (hm:bs'.length=bs.length) (h:∀i (h1:i < asZ.length) (h2:i < as'.length),Z5z gF R (asZ[i]) (as'[i]))
   (k:∀i (h1:i < bs.length) (h2:i < bs'.length),Z5z gF R (bs[i]) (bs'[i])):Z5z gF R (.clo f asZ bs) (.clo f as' bs')
def Z72(gF:Nat→Option Blk)(R:Nat→Nat→Prop)(xs ys:List AV):Prop:=ys.length=xs.length∧∀i (h1:i < xs.length) (h2:i < ys.length),Z5z gF R (xs[i]) (ys[i])
section
variable{gF:Nat→Option Blk}{R:Nat→Nat→Prop}
theorem Z5z.cells{x r:AV}(h:Z5z gF R x r):r.cells.length=x.cells.length∧(x.atom=true→r.atom=true)∧∀i (h1:i < x.cells.length) (h2:i < r.cells.length),Z5z gF R (x.cells[i]) (r.cells[i]):=by
 cases h with
 | fz _ _ h=>exact⟨h.cells.1,h.cells.2.1,fun i h1 h2=>.fz _ _ (h.cells.2.2 i h1 h2)⟩
 | wk _ _ hc h=>exact⟨h.f.len,h.f.atom,fun i h1 h2=>.wk _ _ (hc.cells _ (List.getElem_mem _)) (h.cells i h1 h2)⟩
 | own id j off len h=>exact⟨rfl,fun _=>rfl,fun i h1 h2=>by simp[AV.cells] at h1;subst h1;exact .own id j off len h⟩
 | ptr id j ix c h=>exact⟨rfl,fun _=>rfl,fun i h1 h2=>by simp[AV.cells] at h1;subst h1;exact .ptr id j ix c h⟩
 | mp id j h=>exact⟨rfl,fun _=>rfl,fun i h1 h2=>by simp[AV.cells] at h1;subst h1;exact .mp id j h⟩
 | agg cs ds hl h=>exact⟨hl,fun e=>by simp[AV.atom] at e,h⟩
 | tup cs ds hl h=>exact⟨rfl,fun e=>by simp[AV.atom] at e,fun i h1 h2=>by simp[AV.cells] at h1;subst h1;exact .tup cs ds hl h⟩
 | clo f asZ bs as' bs' hl hm h k=>exact⟨rfl,fun _=>rfl,fun i h1 h2=>by simp[AV.cells] at h1;subst h1;exact .clo f asZ bs as' bs' hl hm h k⟩
theorem ZkF:∀{xs zs:List AV},Z72 gF R xs zs→(flat zs).length=(flat xs).length∧∀k (h1:k < (flat xs).length) (h2:k < (flat zs).length),Z5z gF R ((flat xs)[k]) ((flat zs)[k])
 | [],[],_=>⟨rfl,fun k h1=>by simp[flat] at h1⟩
 | [],_::_,h=>by have:=h.1;simp at this
 | _::_,[],h=>by have:=h.1;simp at this
 | x::xs,z::zs,h=>by
  obtain⟨i1,i2⟩:=ZkF (xs:=xs) (zs:=zs) ⟨by simpa using h.1,fun i h1 h2=>h.2 (i+1) (by simpa using h1) (by simpa using h2)⟩;obtain⟨c1,_,c3⟩:=(h.2 0 (by simp) (by simp)).cells;simp only[List.getElem_cons_zero] at c1 c3;have e1:flat (x::xs)=x.cells++flat xs:=by simp[flat]
  have e2:flat (z::zs)=z.cells++flat zs:=by simp[flat]
  refine⟨by rw[e1,e2];simp[c1,i1],fun k h1 h2=>?_⟩;simp only[e1,e2] at h1 h2 ⊢;by_cases hk:k < x.cells.length
  ·rw[List.getElem_append_left hk,List.getElem_append_left (by omega)]
   exact c3 k hk (by omega)
  ·rw[List.getElem_append_right (by omega),List.getElem_append_right (by omega)]
   simp only[c1];exact i2 _ _ _
theorem Z5z.rep{E:Env}{S:St}{w:World}(hS:Sim E S w)(hg:∀i k,gF i=some k→S.g i=some k){E2:Env}(hH:∀b cs,E.H b=some cs→E2.H b=some cs)
  (hL:∀id es xs l,gF id=some (.arr es xs)→E.ρ id=some l→∀cs el fz,w.heap[l.b]? = some (.cells cs el fz)→E2.H l.b=some cs)
  (hR:∀j i l,R j i→E.ρ i=some l→E2.ρ j=some l):∀{x r:AV},Z5z gF R x r→∀{v:Value},Rep E x v→Rep E2 r v:=by
 intro x r h;induction h with
 | fz x y h=>intro v hr;exact Fz.rep hS hg hH hL h hr
 | wk x y hc h=>intro v hr;exact h.f.rep _ _ (hr.closed hH hc)
 | own id j off len h =>
  intro v hr;cases hr with
  | own _ _ _ A cap l hl hlen hA=>exact .own j off len A cap l (hR _ _ _ h hl) hlen hA
 | ptr id j ix c h =>
  intro v hr;cases hr with
  | ptr _ _ _ l hl=>exact .ptr j ix c l (hR _ _ _ h hl)
 | mp id j h =>
  intro v hr;cases hr with
  | mp _ l hl=>exact .mp j l (hR _ _ _ h hl)
 | agg cs ds hl h ih =>
  intro v hr;cases hr with
  | agg _ vs hn hat hr =>
   refine .agg ds vs (by omega) (fun y hy=>?_) (fun j hj=>ih j (by omega) hj (hr j (by omega)));obtain⟨k,hk,e⟩:=List.mem_iff_getElem.mp hy;rw[←e];exact(h k (by omega) hk).cells.2.1 (hat _ (List.getElem_mem _))
 | tup cs ds hl h ih =>
  intro v hr;cases hr with
  | tup _ vs hn hr=>exact .tup ds vs (by omega) (fun j hj=>ih j (by omega) hj (hr j (by omega)))
 | clo f asZ bs as' bs' hl hm h k ih1 ih2 =>
  intro v hr;cases hr with
  | clo _ _ _ fv cv hn hm' hf hc=>exact .clo f as' bs' fv cv (by omega) (by omega) (fun j hj=>ih1 j (by omega) hj (hf j (by omega))) (fun j hj=>ih2 j (by omega) hj (hc j (by omega)))
end
inductive ZrE (gF:Nat→Option Blk) (R:Nat→Nat→Prop):Blk→Blk→Prop
 | arr (es:Nat) (xs ys:List AV) (h:Z72 gF R xs ys):ZrE gF R (.arr es xs) (.arr es ys)
 | map (es fs:List (AV×AV)) (hl:fs.length=es.length) (h:∀i (h1:i < es.length) (h2:i < fs.length),Z5z gF R (es[i]).1 (fs[i]).1∧Z5z gF R (es[i]).2 (fs[i]).2):ZrE gF R (.map es) (.map fs)
theorem ZrE.ok{gF:Nat→Option Blk}{R:Nat→Nat→Prop}{E E2:Env}{w:World}{l:Loc}{k k':Blk}(h:ZrE gF R k k')(hrep:∀{x y:AV},Z5z gF R x y→∀{v:Value},Rep E x v→Rep E2 y v)(hok:Z6J E w l k):Z6J E2 w l k':=by
 cases h with
 | arr es xs ys h =>
  obtain⟨h1,h2,h3,h4,cs,el,h5,h6,h7⟩:=hok;obtain⟨f1,f2⟩:=ZkF h;refine⟨h1,by rw[h.1];exact h2,fun y hy=>?_,fun y hy=>?_,cs,el,h5,h6,fun k hk=>?_⟩
  ·obtain⟨i,hi,rfl⟩:=List.mem_iff_getElem.mp hy
   have hi':i < xs.length:=by have:=h.1;omega
   rw[(h.2 i hi' hi).cells.1];exact h3 _ (List.getElem_mem hi')
  ·obtain⟨i,hi,rfl⟩:=List.mem_iff_getElem.mp hy
   have hi':i < (flat xs).length:=by omega
   exact(f2 i hi' hi).cells.2.1 (h4 _ (List.getElem_mem hi'))
  ·have hi':k < (flat xs).length:=by omega
   obtain⟨v,a,b⟩:=h7 k hi';exact⟨v,a,hrep (f2 k hi' hk) b⟩
 | map es fs hl h =>
  obtain⟨cs,clock,h1,h2,h3⟩:=hok;refine⟨cs,clock,h1,by omega,fun k hk=>?_⟩;obtain⟨e,a,b,c⟩:=h3 k (by omega);exact⟨e,a,hrep (h k (by omega) hk).1 b,hrep (h k (by omega) hk).2 c⟩
def gOf:List (Nat×Option Blk)→Nat→Option Blk
 | [],_=>none
 | (j,b)::l,i=>if i=j then b else gOf l i
def Z6h:List (Nat×AV)→AF
 | [],_=>.junk
 | (j,x)::l,t=>if t=j then x else Z6h l t
theorem Z41(i:Nat):gOf [] i=none:=by simp only[gOf]
theorem Z1H(j:Nat)(b:Option Blk)(l:List (Nat×Option Blk))(i:Nat):gOf ((j,b)::l) i=if i=j then b else gOf l i:=by simp only[gOf]
theorem Z2q(t:Nat):Z6h [] t=.junk:=by simp only[Z6h]
theorem Z1y(j:Nat)(x:AV)(l:List (Nat×AV))(t:Nat):Z6h ((j,x)::l) t=if t=j then x else Z6h l t:=by simp only[Z6h]
theorem ZiU:∀{l:List (Nat×Option Blk)} {i:Nat} {k:Blk},gOf l i=some k→(i,some k)∈l
 | [],i,k,h=>by simp[gOf] at h
 | (j,b)::l,i,k,h=>by
  simp only[gOf] at h;split at h
  ·rename_i e;subst e;subst h;simp
  ·exact List.mem_cons_of_mem _ (ZiU h)
theorem ZjC:∀{l:List (Nat×AV)} {t:Nat},Z6h l t=.junk∨(t,Z6h l t)∈l
 | [],t=>.inl rfl
 | (j,x)::l,t=>by
  simp only[Z6h];split
  ·rename_i e;subst e;exact .inr (by simp)
  ·rcases ZjC (l:=l) (t:=t) with h | h
   ·exact .inl h
   ·exact .inr (List.mem_cons_of_mem _ h)
def Zpa(o:List (Nat×Nat))(b:Nat)(j i:Nat):Prop:=(j,i)∈o∨(j=i∧i < b)
structure OOk(o:List (Nat×Nat))(F:List Nat)(b N:Nat):Prop where
 a:∀p∈o,p.1 < N∧(p.1 < b→p.2=p.1)∧p.2∉F
 u:o.Pairwise fun p q=>p.1≠q.1∧p.2≠q.2
theorem Z8D:∀{o:List (Nat×Nat)} (hu:o.Pairwise fun p q=>p.1≠q.1∧p.2≠q.2) {j i:Nat},(j,i)∈o→o.lookup j=some i
 | [],_,j,i,h=>by simp at h
 | (j',i')::o,hu,j,i,h=>by
  rw[List.pairwise_cons] at hu;rw[List.lookup_cons];rcases List.mem_cons.mp h with h | h
  ·cases h;simp
  ·have hne:=(hu.1 _ h).1
   have hb:(j == j')=false:=by simpa using fun e=>hne e.symm
   rw[hb];exact Z8D hu.2 h
theorem Zf7:∀{o:List (Nat×Nat)} {j i:Nat},o.lookup j=some i→(j,i)∈o
 | [],j,i,h=>by simp at h
 | (j',i')::o,j,i,h=>by
  rw[List.lookup_cons] at h;split at h
  ·rename_i e;simp only[beq_iff_eq] at e;cases h;subst e;simp
  ·exact List.mem_cons_of_mem _ (Zf7 h)
theorem ZuI{o:List (Nat×Nat)}(hu:o.Pairwise fun p q=>p.1≠q.1∧p.2≠q.2){j1 j2 i1 i2:Nat}(h1:(j1,i1)∈o)(h2:(j2,i2)∈o)(hne:j1≠j2):i1≠i2:=by
 induction o with
 | nil=>simp at h1
 | cons p o ih =>
  rw[List.pairwise_cons] at hu;rcases List.mem_cons.mp h1 with e1 | h1
  ·rcases List.mem_cons.mp h2 with e2 | h2
   ·rw[←e1] at e2;cases e2;exact(hne rfl).elim
   ·have:=(hu.1 _ h2).2;rw[←e1] at this;exact this
  ·rcases List.mem_cons.mp h2 with e2 | h2
   ·have:=(hu.1 _ h1).2;rw[←e2] at this;exact fun e=>this e.symm
   ·exact ih hu.2 h1 h2
def Zmr(gF:Nat→Option Blk)(R:Nat→Nat→Prop)(k:Option Blk)(k':Option Blk):Prop:=∀b',k'=some b'→∃b,k=some b∧ZrE gF R b b'
theorem Abs.of{b:Nat}{a:AF}{S:St}(o:List (Nat×Nat))(F:List Nat){A:List (Nat×AV)}{N:Nat}{G:List (Nat×Option Blk)}(hb:b≤N)(ho:OOk o F b N)
  (hG:∀p∈G,p.2=none∨∃i,(p.1,i)∈o∧Zmr (only F S.g) (Zpa o b) (S.g i) p.2) (hA:∀p∈A,Z5z (only F S.g) (Zpa o b) (a p.1) p.2):Abs b a S (Z6h A) ⟨N,gOf G⟩:=by
 intro E w act n hbS hS hF;have hg:∀i k,only F S.g i=some k→S.g i=some k:=Z8X
 let ρ':Nat→Option Loc:=fun j=>if j < b then E.ρ j else match o.lookup j with | some i=>E.ρ i | none=>none
 let E2:Env:=⟨ρ',Z6I E (only F S.g) w⟩
 have hR:∀j i l,Zpa o b j i→E.ρ i=some l→E2.ρ j=some l:=by
  intro j i l hji hl;show ρ' j=some l
  simp only[ρ'];rcases hji with h | ⟨rfl,h⟩
  ·split
   ·rename_i hj
    have e:i=j:=(ho.a _ h).2.1 hj;rw[e] at hl;exact hl
   ·rw[Z8D ho.u h];exact hl
  ·rw[if_pos h];exact hl
 have hH:∀b cs,E.H b=some cs→E2.H b=some cs:=fun b cs e=>Z71 e
 have hL:∀id es xs l,only F S.g id=some (.arr es xs)→E.ρ id=some l→∀cs el fz,w.heap[l.b]? = some (.cells cs el fz)→E2.H l.b=some cs:=by
  intro id es xs l hgi hli cs el fz hw;obtain⟨l',a1,a2,_⟩:=hS.live id _ (hg _ _ hgi);rw[hli] at a1;cases a1;exact Zd2 hgi hli a2 hw
 have hrep:∀{x y:AV},Z5z (only F S.g) (Zpa o b) x y→∀{v:Value},Rep E x v→Rep E2 y v:=fun h _ hv=>h.rep hS hg hH hL hR hv
 have hlive:∀j k',gOf G j=some k'→∃i k,(j,i)∈o∧S.g i=some k∧ZrE (only F S.g) (Zpa o b) k k':=by
  intro j k' h;rcases hG _ (ZiU h) with h1 | ⟨i,h1,h2⟩
  ·simp at h1
  ·obtain⟨k,h3,h4⟩:=h2 k' rfl
   exact⟨i,k,h1,h3,h4⟩
 refine⟨E2,⟨fun k cs e=>?_,fun j k' e=>?_,fun j1 j2 k1 k2 l1 l2 e1 e2 hne r1 r2=>?_,fun j hj=>?_⟩,⟨hF.size,hF.defers,fun t=>?_⟩,⟨rfl,rfl,rfl,Nat.le_refl _,fun _ _ _=>rfl,fun j l k' e hl=>?_,fun id l hi e=>?_,hH,fun k cs e=>?_,hb,fun id hi e=>?_⟩⟩
 ·rcases Z5U e with h1 | ⟨_,h1,_⟩
  ·exact hS.hH k cs h1
  ·exact h1
 ·obtain⟨i,k,h1,h2,h3⟩:=hlive j k' e
  obtain⟨l,a1,a2,a3⟩:=hS.live i k h2;refine⟨l,hR j i l (.inl h1) a1,?_,h3.ok hrep a3⟩;show Z6I E (only F S.g) w l.b=none
  cases e2:Z6I E (only F S.g) w l.b with
  | none=>rfl
  | some cs =>
   exfalso;rcases Z5U e2 with h4 | ⟨_,_,i2,k2,l2,b1,b2,b3⟩
   ·rw[a2] at h4;cases h4
   ·by_cases hii:i2=i
    ·subst hii
     rw[Zf8] at b1;split at b1
     ·rename_i hf;exact(ho.a _ h1).2.2 hf
     ·cases b1
    ·exact hS.dis i2 i k2 k l2 l (hg _ _ b1) h2 hii b2 a1 b3
 ·obtain⟨i1,b1,p1,p2,_⟩:=hlive j1 k1 e1
  obtain⟨i2,b2,q1,q2,_⟩:=hlive j2 k2 e2;obtain⟨m1,a1,_⟩:=hS.live i1 b1 p2;obtain⟨m2,a2,_⟩:=hS.live i2 b2 q2;have c1:=hR j1 i1 m1 (.inl p1) a1;have c2:=hR j2 i2 m2 (.inl q1) a2;rw[c1] at r1;cases r1;rw[c2] at r2;cases r2;exact hS.dis i1 i2 b1 b2 _ _ p2 q2 (ZuI ho.u p1 q1 hne) a1 a2
 ·have hj:N≤j:=hj
  show ρ' j=none
  simp only[ρ'];rw[if_neg (by omega)];cases e:o.lookup j with
  | none=>rfl
  | some i=>have:=(ho.a _ (Zf7 e)).1;simp only at this;omega
 ·rcases ZjC (l:=A) (t:=t) with h | h
  ·rw[h];exact .junk _
  ·exact hrep (hA _ h) (hF.at_ t)
 ·obtain⟨i,k,h1,h2,h3⟩:=hlive j k' e
  have hl:E2.ρ j=some l:=hl;obtain⟨l0,a1,_⟩:=hS.live i k h2;have:=hR j i l0 (.inl h1) a1;rw[this] at hl;cases hl;exact .inr ⟨i,_,k,h2,a1,rfl⟩
 ·show ρ' id=some l
  simp only[ρ'];rw[if_pos hi];exact e
 ·rcases Z5U e with h1 | ⟨_,_,i2,k2,l2,b1,b2,b3⟩
  ·exact .inl h1
  ·exact .inr (.inr ⟨i2,l2,k2,hg _ _ b1,b2,b3⟩)
 ·show ρ' id=none
  simp only[ρ'];rw[if_pos hi];exact e
def ZeO(P:Program)(b:Nat)(x y:AC)(Q:Exit→AF→St→Prop)(a:AF)(S:St)(c:AV):Prop :=
 match c with
 | .v (.bool t)=>if t=true then AWb P b x Q a S else AWb P b y Q a S
 | _=>False
section
variable{P:Program}{b:Nat}{Q:Exit→AF→St→Prop}{a:AF}{S:St}{os:List Z1x}
theorem Z3j:AWb P b .skip Q a S=Q .normal a S:=by simp only[AWb]
theorem Z4t(x y:AC):AWb P b (.seq x y) Q a S=AWb P b x (Z7a (AWb P b y Q) Q) a S:=by simp only[AWb]
theorem Z4q:AWb P b (.reg none os) Q a S=RG P S.n os 0 (nK Q) a ⟨S.n+os.length,S.g⟩:=by simp only[AWb];rw[Z48]
theorem Z3h(fr:List (List Bool)):AWb P b (.reg (some fr) os) Q a S=RD P S.n os fr 0 [] (nK Q) a ⟨S.n+os.length,S.g⟩:=by simp only[AWb];rw[Z2M]
private theorem Zmd (c:Opd) (x y:AC):AWb P b (.cond c x y) Q a S=ZeO P b x y Q a S (c.ev a):=rfl
theorem Z3f(c:Opd)(x y:AC):AWb P b (.cond c x y) Q a S=ZeO P b x y Q a S (c.ev a):=by rw[Zmd]
theorem Z1D(x y:AC):ZeO P b x y Q a S (.v (.bool true))=AWb P b x Q a S:=by simp[ZeO]
theorem Z1o(x y:AC):ZeO P b x y Q a S (.v (.bool false))=AWb P b y Q a S:=by simp[ZeO]
theorem Z2s(id:Nat)(x:AC):AWb P b (.block id x) Q a S=AWb P b x (Z6Q id Q) a S:=by simp only[AWb]
theorem Z3g(id:Nat):AWb P b (.exit id) Q a S=Q (.exit id) a S:=by simp only[AWb]
theorem Z4r:AWb P b .ret Q a S=Q .ret a S:=by simp only[AWb]
theorem Z4s(x:AC):AWb P b (.scp x) Q a S=AWb P b x (Z8t Q) a S:=by simp only[AWb]
theorem Z3i(p:Option Opd):AWb P b (.regX os p) Q a S=RGX P S.n p os 0 Q a ⟨S.n+os.length,S.g⟩:=by simp only[AWb];rw[Z2N]
theorem Z3n(ts:List Nat)(R:AV→St→Prop):ZtS b ts R .ret a S=∃a' S',Abs b a S a' S'∧R (Z9b ts a') S':=by simp only[ZtS,Z75]
theorem Z1A(ts:List Nat)(R:AV→St→Prop):ZtS b ts R .normal a S=∃a' S',Abs b a S a' S'∧R (Z9b ts a') S':=by simp only[ZtS,Z75]
end
def ZtJ{σ:Type}(b n:Nat)(I:Nat→σ→Prop)(A:Nat→σ→List (Nat×AV))(N:Nat)(G:Nat→σ→List (Nat×Option Blk))(k:Nat):AF→St→Prop :=
 fun f S=>k < n∧∃s,I (k+1) s∧Abs b f S (Z6h (A (k+1) s)) ⟨N,gOf (G (k+1) s)⟩
theorem Z2D{P:Program}{b:Nat}{x:AC}{Q:Exit→AF→St→Prop}{f:AF}{S:St}{σ:Type}(n:Nat)(I:Nat→σ→Prop)(A:Nat→σ→List (Nat×AV))(N:Nat)(G:Nat→σ→List (Nat×Option Blk))(s0:σ)(hI:I 0 s0)
  (h0:Abs b f S (Z6h (A 0 s0)) ⟨N,gOf (G 0 s0)⟩) (h:∀k s,k≤n→I k s→AWb P b x (Z7a (ZtJ b n I A N G k) Q) (Z6h (A k s)) ⟨N,gOf (G k s)⟩):AWb P b (.loop x) Q f S:=by
 refine⟨fun m f S=>∃k s,k≤n∧m=n - k∧I k s∧f=Z6h (A k s)∧S=⟨N,gOf (G k s)⟩,⟨n,_,_,h0,0,s0,by omega,by omega,hI,rfl,rfl⟩,?_⟩;rintro m f S ⟨k,s,hk,rfl,hi,rfl,rfl⟩;refine Z9Y _ (fun e a S' hq=>?_) (h k s hk hi);cases e<;>simp only[Z7a] at hq ⊢<;>first | exact hq | skip
 obtain⟨h1,s',h2,h3⟩:=hq;exact⟨n - (k+1),_,_,by omega,h3,k+1,s',by omega,rfl,h2,rfl,rfl⟩
def ZtV{σ:Type}(b:Nat)(I:Nat→σ→Prop)(A:σ→List (Nat×AV))(N:Nat)(G:σ→List (Nat×Option Blk))(m:Nat):AF→St→Prop :=
 fun f S=>∃m' s,m' < m∧I m' s∧Abs b f S (Z6h (A s)) ⟨N,gOf (G s)⟩
theorem Zgz{P:Program}{b:Nat}{x:AC}{Q:Exit→AF→St→Prop}{f:AF}{S:St}{σ:Type}(I:Nat→σ→Prop)(A:σ→List (Nat×AV))(N:Nat)(G:σ→List (Nat×Option Blk))(m:Nat)(s0:σ)(hI:I m s0)
  (h0:Abs b f S (Z6h (A s0)) ⟨N,gOf (G s0)⟩) (h:∀m s,I m s→AWb P b x (Z7a (ZtV b I A N G m) Q) (Z6h (A s)) ⟨N,gOf (G s)⟩):AWb P b (.loop x) Q f S:=by
 refine⟨fun m f S=>∃s,I m s∧f=Z6h (A s)∧S=⟨N,gOf (G s)⟩,⟨m,_,_,h0,s0,hI,rfl,rfl⟩,?_⟩;rintro m f S ⟨s,hi,rfl,rfl⟩;refine Z9Y _ (fun e a S' hq=>?_) (h m s hi);cases e<;>simp only[Z7a] at hq ⊢<;>first | exact hq | skip
 obtain⟨m',s',h1,h2,h3⟩:=hq;exact⟨m',_,_,h1,h3,s',h2,rfl,rfl⟩
def Cls(xs:List AV):Prop:=∀x∈xs,Z0S x
def Cel(es:Nat)(xs:List AV):Prop:=∀z∈xs,z.cells.length=es
def Ato(xs:List AV):Prop:=∀z∈xs,z.cells=[z]
theorem Z4N:Cls []↔True:=by simp[Cls]
theorem Z3V(x:AV)(xs:List AV):Cls (x::xs)↔Z0S x∧Cls xs:=by simp[Cls]
theorem Z4M(xs ys:List AV):Cls (xs++ys)↔Cls xs∧Cls ys:=⟨fun h=>⟨fun x hx=>h x (by simp[hx]),fun x hx=>h x (by simp[hx])⟩,fun h x hx=>by rcases List.mem_append.mp hx with hx | hx;exact h.1 x hx;exact h.2 x hx⟩
theorem Zax{X:Type}{enc:X→AV}(h:∀x,Z0S (enc x))(l:List X):Cls (l.map enc):=by intro y hy;obtain⟨x,_,rfl⟩:=List.mem_map.mp hy;exact h x
theorem Z5L(l:List Int):Cls (l.map Z06):=Zax Z04 l
theorem Z5W(l:List Bool):Cls (l.map Z1n):=Zax Z0L l
theorem Z3E(l:List (List Int)):Cls (l.map Z03):=Zax Z02 l
theorem Z4O(n:Nat)(x:AV):Cls (List.replicate n x)↔n=0∨Z0S x:=by
 constructor
 ·intro h
  cases n with
  | zero=>exact .inl rfl
  | succ n=>exact .inr (h x (by simp))
 ·rintro(rfl | h) y hy
  ·simp at hy
  ·rw[(List.mem_replicate.mp hy).2];exact h
theorem Z4v:Ato []↔True:=by simp[Ato]
theorem Z3k(x:AV)(xs:List AV):Ato (x::xs)↔x.cells=[x]∧Ato xs:=by simp[Ato]
theorem Z4u(xs ys:List AV):Ato (xs++ys)↔Ato xs∧Ato ys:=⟨fun h=>⟨fun x hx=>h x (by simp[hx]),fun x hx=>h x (by simp[hx])⟩,fun h x hx=>by rcases List.mem_append.mp hx with hx | hx;exact h.1 x hx;exact h.2 x hx⟩
theorem Zim{X:Type}{enc:X→AV}(h:∀x,(enc x).cells=[enc x])(l:List X):Ato (l.map enc):=by intro y hy;obtain⟨x,_,rfl⟩:=List.mem_map.mp hy;exact h x
theorem Z7x(l:List Int):Ato (l.map Z06):=Zim (fun _=>rfl) l
theorem Z7w(l:List Bool):Ato (l.map Z1n):=Zim (fun _=>rfl) l
theorem Z5J(l:List (List Int)):Ato (l.map Z03):=Zim (fun _=>rfl) l
theorem Z4x(es:Nat):Cel es []↔True:=by simp[Cel]
theorem Z3l(es:Nat)(x:AV)(xs:List AV):Cel es (x::xs)↔x.cells.length=es∧Cel es xs:=by simp[Cel]
theorem Z4w(es:Nat)(xs ys:List AV):Cel es (xs++ys)↔Cel es xs∧Cel es ys:=⟨fun h=>⟨fun x hx=>h x (by simp[hx]),fun x hx=>h x (by simp[hx])⟩,fun h x hx=>by rcases List.mem_append.mp hx with hx | hx;exact h.1 x hx;exact h.2 x hx⟩
theorem Zd4{es:Nat}{X:Type}{enc:X→AV}(h:∀x,(enc x).cells.length=es)(l:List X):Cel es (l.map enc):=by intro y hy;obtain⟨x,_,rfl⟩:=List.mem_map.mp hy;exact h x
theorem Z7z(l:List Int):Cel 1 (l.map Z06):=Zd4 (enc:=Z06) (fun _=>rfl) l
theorem Z7y(l:List Bool):Cel 1 (l.map Z1n):=Zd4 (enc:=Z1n) (fun _=>rfl) l
theorem Z5K(l:List (List Int)):Cel 1 (l.map Z03):=Zd4 (enc:=Z03) (fun _=>rfl) l
section
variable{gF g:Nat→Option Blk}{R:Nat→Nat→Prop}
theorem Z72.nil:Z72 gF R [] []:=⟨rfl,fun i h=>by simp at h⟩
theorem Z72.cons{x y:AV}{a b:List AV}(h:Z5z gF R x y)(k:Z72 gF R a b):Z72 gF R (x::a) (y::b):=by
 refine⟨by simp[k.1],fun i h1 h2=>?_⟩;cases i with
 | zero=>exact h
 | succ i=>exact k.2 i (by simpa using h1) (by simpa using h2)
theorem Z5z.cl{x:AV}(h:Z0S x):Z5z gF R x x:=.fz _ _ (.closed _ h)
theorem Z72.cl{xs:List AV}(h:Cls xs):Z72 gF R xs xs:=⟨rfl,fun i h1 _=>.cl (h _ (List.getElem_mem h1))⟩
theorem Z2c{x y:AV}{a b:List AV}:Z72 gF R (x::a) (y::b)↔Z5z gF R x y∧Z72 gF R a b:=by
 refine⟨fun h=>⟨h.2 0 (by simp) (by simp),by simpa using h.1,fun i h1 h2=>h.2 (i+1) (by simpa using h1) (by simpa using h2)⟩,fun h=>.cons h.1 h.2⟩
theorem Z2H:Z72 gF R [] []↔True:=⟨fun _=>trivial,fun _=>.nil⟩
theorem Z62(x y:Value):Z5z gF R (.v x) (.v y)↔x=y:=by
 constructor
 ·intro h
  cases h with
  | fz _ _ h=>cases h;rfl
  | wk _ _ _ h=>cases h;rfl
 ·rintro rfl;exact .cl (.v _)
theorem Z3m(id j o o' l l':Nat):Z5z gF R (.own id o l) (.own j o' l')↔R j id∧o=o'∧l=l':=by
 constructor
 ·intro h
  cases h with
  | fz _ _ h=>cases h with | closed _ h=>cases h
  | wk _ _ h _=>cases h
  | own _ _ _ _ h=>exact⟨h,rfl,rfl⟩
 ·rintro⟨h,rfl,rfl⟩;exact .own _ _ _ _ h
theorem Z3W(id j o o' l l':Nat):Z5z gF R (.ptr id o l) (.ptr j o' l')↔R j id∧o=o'∧l=l':=by
 constructor
 ·intro h
  cases h with
  | fz _ _ h=>cases h with | closed _ h=>cases h
  | wk _ _ h _=>cases h
  | ptr _ _ _ _ h=>exact⟨h,rfl,rfl⟩
 ·rintro⟨h,rfl,rfl⟩;exact .ptr _ _ _ _ h
theorem Z4y(id j:Nat):Z5z gF R (.mp id) (.mp j)↔R j id:=by
 constructor
 ·intro h
  cases h with
  | fz _ _ h=>cases h with | closed _ h=>cases h
  | wk _ _ h _=>cases h
  | mp _ _ h=>exact h
 ·intro h;exact .mp _ _ h
theorem Z2J(cs ds:List AV):Z5z gF R (.agg cs) (.agg ds)↔Z72 gF R cs ds:=by
 constructor
 ·intro h
  cases h with
  | fz _ _ h=>exact⟨h.cells.1,fun i h1 h2=>.fz _ _ (h.cells.2.2 i h1 h2)⟩
  | wk _ _ hc h=>exact⟨h.f.len,fun i h1 h2=>.wk _ _ (hc.cells _ (List.getElem_mem _)) (h.cells i h1 h2)⟩
  | agg _ _ hl h=>exact⟨hl,h⟩
 ·intro h;exact .agg _ _ h.1 h.2
theorem Z2I(k:Option Blk):Zmr gF R k none↔True:=⟨fun _=>trivial,fun _ _ h=>by cases h⟩
theorem Z17(es es':Nat)(xs ys:List AV):Zmr gF R (some (.arr es xs)) (some (.arr es' ys))↔es=es'∧Z72 gF R xs ys:=by
 constructor
 ·intro h
  obtain⟨b,h1,h2⟩:=h _ rfl;cases h1;cases h2 with
  | arr _ _ _ h=>exact⟨rfl,h⟩
 ·rintro⟨rfl,h⟩ b hb
  cases hb;exact⟨_,rfl,.arr _ _ _ h⟩
theorem Z5z.loose{t:Bool}{xs:List AV}(h:∀x∈xs,Z0S x):Z5z gF R (.sl t xs) (.sl false xs):=.fz _ _ (.loose t xs (.sl _ _ h))
theorem Z5z.frz{F:List Nat}{id es len:Nat}{xs:List AV}(hF:id∈F)(hg:g id=some (.arr es xs))(hl:len=xs.length)(hc:Cls xs):Z5z (only F g) R (.own id 0 len) (.sl false xs):=by
 refine .fz _ _ (.own id 0 len es xs xs (by rw[Zf8,if_pos hF];exact hg) (by omega) hl.symm (fun i h1 h2=>?_));simp only[List.drop_zero,hl,List.take_length];exact .closed _ (hc _ (List.getElem_mem _))
end
theorem Z68(o:List (Nat×Nat))(b j i:Nat):Zpa o b j i↔((j,i)∈o∨(j=i∧i < b)):=Iff.rfl
theorem Z3r(x:Value):Z0S (.v x):=.v x
theorem Z1p(t:Bool):Z0S (.sl t []):=.sl _ _ (by simp)
theorem Z2j(l:List Int):Z0S (.sl false (l.map Z06)):=Z02 l
theorem Z1N(l:List (List Int)):Z0S (.sl false (l.map Z03)):=Z0T l
theorem Z2n(l:List Bool):Z0S (.sl false (l.map Z1n)):=Z1w l
def vV(o:Bool)(id:Nat)(xs:List AV):AV:=if o=true then .own id 0 xs.length else .sl true xs
def vB(o:Bool)(es:Nat)(xs:List AV):Option Blk:=if o=true then some (.arr es xs) else none
theorem Z2G(id:Nat)(xs:List AV):vV true id xs=.own id 0 xs.length:=by simp[vV]
theorem Z4k(id:Nat)(xs:List AV):vV false id xs=.sl true xs:=by simp[vV]
theorem Z1S(es:Nat)(xs:List AV):vB true es xs=some (.arr es xs):=by simp[vB]
theorem Z4B(es:Nat)(xs:List AV):vB false es xs=none:=by simp[vB]
theorem Zpv{S:St}{id es by_ len nid:Nat}{xs:List AV}{x:AV}(hg:S.g id=some (.arr es xs))(hl:xs.length=len)(hx:x.cells.length=es)(hok:Z1K by_ len 1) :
  (Z57 es by_ (.own id 0 len) (.sl true [x])).run S nid=some (.own nid 0 (len+1),(S.set id none).set nid (some (.arr es (xs++[x])))):=by
 simp[Z57,Eff.run,AV.oid,Z9f,hx,hok,St.P1B,St.P1P,hg,hl]
theorem ZmG{S:St}{es by_ nid:Nat}{xs:List AV}{x:AV}(hes:Cel es xs)(hx:x.cells.length=es)(hok:Z1K by_ xs.length 1) :
  (Z57 es by_ (.sl true xs) (.sl true [x])).run S nid=some (.own nid 0 (xs.length+1),S.set nid (some (.arr es (xs++[x])))):=by
 simp only[Z57,Eff.run,AV.oid,Z9f,List.mapM_nil,Option.pure_def,List.mem_singleton,forall_eq,hx,if_true,Option.bind_some,List.length_cons,List.length_nil,Nat.zero_add];rw[if_pos ⟨hes,hok⟩];simp[St.P1B,St.P1P]
theorem ZcG{S:St}{o:Bool}{id es by_ nid:Nat}{xs:List AV}{x:AV}(hg:S.g id=vB o es xs)(hes:Cel es xs)(hx:x.cells.length=es)(hok:Z1K by_ xs.length 1) :
  (Z57 es by_ (vV o id xs) (.sl true [x])).run S nid=some (.own nid 0 (xs.length+1),(S.set id none).set nid (some (.arr es (xs++[x])))):=by
 cases o with
 | true=>rw[Z2G];rw[Z1S] at hg;exact Zpv hg rfl hx hok
 | false =>
  rw[Z4k,ZmG hes hx hok];rw[Z4B] at hg
  have:S.set id none=S:=by
   cases S with
   | mk n g =>
    simp only[St.set,St.mk.injEq,true_and];funext j;simp only[Z5e];split
    ·rename_i h;subst h;exact hg.symm
    ·rfl
  rw[this]
theorem Z3u(t:Bool)(xs:List AV):Z3S (.sl t xs)=some (.v (.int .i64 xs.length)):=by simp only[Z3S]
theorem Z2x(id off len:Nat):Z3S (.own id off len)=some (.v (.int .i64 len)):=by simp only[Z3S]
theorem Z2w(es:Nat)(t:Bool)(xs:List AV)(k:IntKind)(n:Int):Z1F es (.sl t xs) (.v (.int k n))=.val ((xs[n.toNat]?).bind fun y=>if 0≤n∧y.cells.length=es then some (.eptr y 0) else none):=by simp only[Z1F]
theorem Z27(es id off len:Nat)(k:IntKind)(n:Int):Z1F es (.own id off len) (.v (.int k n))=.rd id fun
  | .arr es' xs=>if es'=es∧0≤n∧n < len∧off+len≤xs.length then some (.ptr id (off+n.toNat) 0) else none
  | _=>none:=by simp only[Z1F];rfl
theorem Z1E(k:Option Nat)(x:AV)(c:Nat):Z1q k (.eptr x c)=.val (Z51 k x c):=by simp only[Z1q]
theorem Z28(k:Option Nat)(id ix c:Nat):Z1q k (.ptr id ix c)=.rd id fun | .arr _ xs=>(xs[ix]?).bind fun x=>Z51 k x c | _=>none:=by simp only[Z1q];rfl
theorem Z3v(o:Bool)(id:Nat)(xs:List AV):Z3S (vV o id xs)=some (.v (.int .i64 xs.length)):=by cases o<;>simp[vV,Z3S]
def vP(o:Bool)(id i:Nat)(xs:List AV):AV:=if o=true then .ptr id i 0 else .eptr (xs[i]?.getD .junk) 0
theorem ZcH{S:St}{o:Bool}{id es nid:Nat}{xs:List AV}{k:IntKind}{n:Int}(hg:S.g id=vB o es xs)(hn:0≤n)(hlt:n < xs.length)(hes:Cel es xs) :
  (Z1F es (vV o id xs) (.v (.int k n))).run S nid=some (vP o id n.toNat xs,S):=by
 have hl:n.toNat < xs.length:=by omega
 have hx:xs[n.toNat]? = some xs[n.toNat]:=List.getElem?_eq_getElem hl;cases o with
 | true=>rw[Z1S] at hg;simp[vV,vP,Z1F,hg,hn,hlt]
 | false=>simp[vV,vP,Z1F,hx,hn,hes _ (List.getElem_mem hl)]
theorem Z7E{S:St}{o:Bool}{id i nid:Nat}{xs:List AV}(hg:S.g id=vB o 1 xs)(hx:i < xs.length)(hc:Ato xs):(Z1q none (vP o id i xs)).run S nid=some (xs[i]?.getD .junk,S):=by
 have hx':xs[i]? = some xs[i]:=List.getElem?_eq_getElem hx;have hc':=hc _ (List.getElem_mem hx);cases o with
 | true=>rw[Z1S] at hg;simp[vP,Z1q,hg,hx',Z51,hc']
 | false=>simp[vP,Z1q,Z51,hc',hx']
def vF(o:Bool)(l:List Nat):List Nat:=if o=true then l else []
theorem Z5P(o:Bool)(l:List Nat)(j:Nat):j∈vF o l↔o=true∧j∈l:=by cases o<;>simp[vF]
theorem Z7D{S:St}{o:Bool}{id es nid:Nat}{xs:List AV}{k:IntKind}{n:Int}(hg:S.g id=vB o es xs)(hn:0≤n)(hlt:n < xs.length)(hes:Cel es xs) :
  (Z1F es (vV o id xs) (.v (.int k n))).runT S nid=some (vP o id n.toNat xs,S,vF o [id],[]):=by
 have hl:n.toNat < xs.length:=by omega
 have hx:xs[n.toNat]? = some xs[n.toNat]:=List.getElem?_eq_getElem hl;cases o with
 | true=>rw[Z1S] at hg;simp[vV,vP,Z1F,hg,hn,hlt,Z1a,vF]
 | false=>simp[vV,vP,Z1F,hx,hn,hes _ (List.getElem_mem hl),Z0P,vF]
theorem Z5R{S:St}{o:Bool}{id i nid:Nat}{xs:List AV}(hg:S.g id=vB o 1 xs)(hx:i < xs.length)(hc:Ato xs):(Z1q none (vP o id i xs)).runT S nid=some (xs[i]?.getD .junk,S,vF o [id],[]):=by
 have hx':xs[i]? = some xs[i]:=List.getElem?_eq_getElem hx;have hc':=hc _ (List.getElem_mem hx);cases o with
 | true=>rw[Z1S] at hg;simp[vP,Z1q,hg,hx',Z51,hc',Z1a,vF]
 | false=>simp[vP,Z1q,Z51,hc',hx',Z0P,vF]
theorem Z7C{S:St}{o:Bool}{id es by_ nid:Nat}{xs:List AV}{x:AV}(hg:S.g id=vB o es xs)(hes:Cel es xs)(hx:x.cells.length=es)(hok:Z1K by_ xs.length 1) :
  (Z57 es by_ (vV o id xs) (.sl true [x])).runT S nid=some (.own nid 0 (xs.length+1),(S.set id none).set nid (some (.arr es (xs++[x]))),vF o [id],vF o [id]++[nid]):=by
 cases o with
 | true =>
  rw[Z1S] at hg;simp[vV,Z57,Eff.runT,AV.oid,Z9f,hx,hok,St.P1B,St.P1P,hg,vF]
 | false =>
  rw[Z4B] at hg
  have:S.set id none=S:=by
   cases S with
   | mk n g =>
    simp only[St.set,St.mk.injEq,true_and];funext j;simp only[Z5e];split
    ·rename_i h;subst h;exact hg.symm
    ·rfl
  rw[this,Z4k];simp only[Z57,Eff.runT,AV.oid,Z9f,List.mapM_nil,Option.pure_def,List.mem_singleton,forall_eq,hx,if_true,Option.bind_some,List.length_cons,List.length_nil,Nat.zero_add];rw[if_pos ⟨hes,hok⟩];simp[St.P1B,St.P1P,vF]
section
variable{gF g:Nat→Option Blk}{R:Nat→Nat→Prop}
theorem Z5w{o:Bool}{id j:Nat}{xs:List AV}(h:R j id)(hc:Cls xs):Z5z gF R (vV o id xs) (vV o j xs):=by
 cases o with
 | true=>rw[Z2G,Z2G];exact .own _ _ _ _ h
 | false=>rw[Z4k,Z4k];exact .cl (.sl _ _ hc)
theorem Z5m{o:Bool}{es:Nat}{xs:List AV}(hc:Cls xs):Zmr gF R (vB o es xs) (vB o es xs):=by
 cases o with
 | true=>rw[Z1S,Z17];exact⟨rfl,.cl hc⟩
 | false=>rw[Z4B,Z2I];trivial
theorem Z4U{F:List Nat}{id len:Nat}{xs:List AV}(hF:id∈F)(hg:g id=some (.arr 1 xs))(hl:len=xs.length)(hc:Cls xs):Z5z (only F g) R (.own id 0 len) (.sl false xs):=.frz hF hg hl hc
theorem Z5S{F:List Nat}{o:Bool}{id:Nat}{xs:List AV}(hF:id∈F)(hg:g id=vB o 1 xs)(hc:Cls xs):Z5z (only F g) R (vV o id xs) (.sl false xs):=by
 cases o with
 | true=>rw[Z2G];rw[Z1S] at hg;exact .frz hF hg rfl hc
 | false=>rw[Z4k];exact .loose hc
theorem Z4X{F:List Nat}{o:Bool}{id:Nat}{l:List Int}(hF:id∈F)(hg:g id=vB o 1 (l.map Z06)):Z5z (only F g) R (vV o id (l.map Z06)) (Z03 l):=Z5S hF hg (Z5L l)
theorem Z4W{F:List Nat}{o:Bool}{id:Nat}{l:List Bool}(hF:id∈F)(hg:g id=vB o 1 (l.map Z1n)):Z5z (only F g) R (vV o id (l.map Z1n)) (Z2E l):=Z5S hF hg (Z5W l)
theorem Z42{F:List Nat}{id len:Nat}{l:List Int}(hF:id∈F)(hg:g id=some (.arr 1 (l.map Z06)))(hl:len=l.length):Z5z (only F g) R (.own id 0 len) (Z03 l):=.frz hF hg (by simpa using hl) (Z5L l)
theorem Zam{o:Bool}{id:Nat}{xs:List AV}(hg:g id=vB o 1 xs)(hc:Cls xs):Fz g (vV o id xs) (.sl false xs):=by
 cases o with
 | true =>
  rw[Z2G];rw[Z1S] at hg;refine .own id 0 xs.length 1 xs xs hg (by omega) rfl (fun i h1 h2=>?_);simp only[List.drop_zero,List.take_length];exact .closed _ (hc _ (List.getElem_mem _))
 | false=>rw[Z4k];exact .loose true xs (.sl _ _ hc)
theorem Z2U{a b:List AV}{x y:AV}:Z72 gF R (a++[x]) (b++[y])↔Z72 gF R a b∧Z5z gF R x y:=by
 constructor
 ·intro h
  have hl:b.length=a.length:=by have:=h.1;simpa using this
  refine⟨⟨hl,fun i h1 h2=>?_⟩,?_⟩
  ·have:=h.2 i (by simp;omega) (by simp;omega)
   rwa[List.getElem_append_left h1,List.getElem_append_left h2] at this
  ·have:=h.2 a.length (by simp) (by simp[hl])
   rw[List.getElem_append_right (Nat.le_refl _),List.getElem_append_right (by omega)] at this;simpa[hl] using this
 ·rintro⟨h1,h2⟩
  refine⟨by simp[h1.1],fun i k1 k2=>?_⟩;have hl:=h1.1;by_cases hi:i < a.length
  ·rw[List.getElem_append_left hi,List.getElem_append_left (by omega)]
   exact h1.2 i hi (by omega)
  ·have:i=a.length:=by simp at k1;omega
   subst this;rw[List.getElem_append_right (Nat.le_refl _),List.getElem_append_right (by omega)];simpa[hl] using h2
end
theorem Z1z(l:List Int):(Z03 l).cells=[Z03 l]:=rfl
theorem Z2v(l:List (List Int)):(Z0l l).cells=[Z0l l]:=rfl
theorem Z3o(l:List Bool):(Z2E l).cells=[Z2E l]:=rfl
theorem Z3p(o:Bool)(id:Nat)(xs:List AV):(vV o id xs).cells=[vV o id xs]:=by cases o<;>simp[vV,AV.cells]
theorem Z4A(x:Value):(AV.v x).solid=true:=by simp only[AV.solid]
theorem Z3z(t:Bool)(xs:List AV):(AV.sl t xs).solid=true:=by simp only[AV.solid]
theorem Z2B(a b c:Nat):(AV.own a b c).solid=true:=by simp only[AV.solid]
theorem Z2C(a b c:Nat):(AV.ptr a b c).solid=true:=by simp only[AV.solid]
theorem Z29(x:AV)(c:Nat):(AV.eptr x c).solid=true:=by simp only[AV.solid]
theorem Z2z(xs:List AV):(AV.agg xs).solid=true:=by simp only[AV.solid]
theorem Z2A(f:FuncId)(a b:List AV):(AV.clo f a b).solid=true:=by simp only[AV.solid]
theorem Z3y(i:Nat):(AV.mp i).solid=true:=by simp only[AV.solid]
theorem Z1M(l:List Int):(Z03 l).solid=true:=rfl
theorem Z2y(l:List (List Int)):(Z0l l).solid=true:=rfl
theorem Z3x(l:List Bool):(Z2E l).solid=true:=rfl
theorem Z3A(o:Bool)(id:Nat)(xs:List AV):(vV o id xs).solid=true:=by cases o<;>simp[vV,AV.solid]
end Go.Rf
namespace Go.Rf
open Go.RowKit
attribute [local simp] Z4c Z48 Z2M Z2a Z2P Z2R Z2Q Z4a Z4b Z1e Z16 Z0c Z0B Z0q Z08 Z0o Z0h Z09 Z0p Z0i Z0Y Z0j Z0z Z0K Z0k Z0J Z1W Z3U Z0X Z25 Z22 Z24 Z23 Z26 Z1j Z0D Z11 Z12 Z1T Z1U Z1V Z0H Z0I Z1i Z0r Z0W Z20 Z1X Z1Z Z1Y Z21 Z1k Z13 Z1g Z0U Z0V Z0C Z1h Z0P Z1a Z1f Z14 Z1l ex Z00 Z0R Z6K Z6P Z0f Z0g Z0A Z2k Z1d Z10 Z0y Z0F Z0G Z0E Z0s Z0Z Z5y Z0O Z37 Z1c Z1O Z1R Z3s Z0b Z1q Z19 Z0Q Z1F Z3S Z1P Z6A Z3C Z6z Z3w Z2Y Z3t Z6w Z3D Z51 AV.solid S0 Z06 Z1n
def Zdm(P2I:FuncId):AC :=
 (.block 0 (.loop (.seq (.reg none [
  ro 48 (.bin .lss (.t 47) (.t 46))])
  (.seq (.cond (.t 48) .skip (.exit 0))
  (.seq (.block 1 (.seq (.reg none [
   rm 49 47,
   rm 4 49])
  (.seq (.reg (some []) [
   ro 50 (.fieldA 1 (.t 1)),
   ro 51 (.load none (.t 50)),
   rm 52 4,
   ro 53 (.idxA 1 (.t 51) (.t 52)),
   ro 54 (.load none (.t 53)),
   ro 55 (.fieldA 0 (.t 1)),
   ro 56 (.load none (.t 55)),
   rk 57 P2I [(.t 54),(ci 0),(.t 56)],
   ro 58 (.un .not (.t 57)),
   rm 59 58,
   rg 60 59 false (.fieldA 2 (.t 1)),
   rg 61 59 false (.load none (.t 60)),
   rg 62 59 false (.mv (.t 4)),
   rg 63 59 false (.idxA 1 (.t 61) (.t 62)),
   rg 64 59 false (.load none (.t 63)),
   rg 65 59 false (.mv (.t 3)),
   rl 66 59 false P2I [(.t 64),(ci 1),(.t 65)],
   rg 67 59 false (.un .not (.t 66)),
   ro 68 (.pick (.t 59) (.c (.v (.bool true))) (.t 67))])
  (.cond (.t 68) (.seq (.reg none [
   ro 2 (.mv (.c (.v (.bool false))))])
   .ret) .skip))))
  (.reg none [
  ro 69 (.bin .add (.t 47) (ci 1)),
  rm 47 69]))))))
def Z4R(P2I:FuncId):AC :=
 (.seq (.reg none [
 ro 1 (.box 4 (.t 0)),
 ro 2 (.mv (.c (.v (.bool false))))])
 (.seq (.reg none [
 ro 5 (.fieldA 1 (.t 1)),
 ro 6 (.load none (.t 5)),
 ro 7 (.len (.t 6)),
 rm 3 7])
 (.seq (.seq (.reg none [
 ro 8 (.fieldA 0 (.t 1)),
 ro 9 (.load none (.t 8)),
 ro 10 (.bin .lss (.t 9) (ci 1)),
 rm 11 10,
 rg 12 11 false (.fieldA 0 (.t 1)),
 rg 13 11 false (.load none (.t 12)),
 rg 14 11 false (.bin .gtr (.t 13) (ci 400)),
 ro 15 (.pick (.t 11) (.c (.v (.bool true))) (.t 14)),
 rm 16 15,
 rg 17 16 false (.mv (.t 3)),
 rg 18 16 false (.bin .eql (.t 17) (ci 0)),
 ro 19 (.pick (.t 16) (.c (.v (.bool true))) (.t 18)),
 rm 20 19,
 rg 21 20 false (.mv (.t 3)),
 rg 22 20 false (.bin .gtr (.t 21) (ci 301)),
 ro 23 (.pick (.t 20) (.c (.v (.bool true))) (.t 22)),
 rm 24 23,
 rg 25 24 false (.fieldA 2 (.t 1)),
 rg 26 24 false (.load none (.t 25)),
 rg 27 24 false (.len (.t 26)),
 rg 28 24 false (.mv (.t 3)),
 rg 29 24 false (.bin .neq (.t 27) (.t 28)),
 ro 30 (.pick (.t 24) (.c (.v (.bool true))) (.t 29)),
 rm 31 30,
 rg 32 31 false (.fieldA 1 (.t 1)),
 rg 33 31 false (.load none (.t 32)),
 rg 34 31 false (.idxA 1 (.t 33) (ci 0)),
 rg 35 31 false (.load none (.t 34)),
 rg 36 31 false (.len (.t 35)),
 rg 37 31 false (.bin .gtr (.t 36) (ci 0)),
 ro 38 (.pick (.t 31) (.c (.v (.bool true))) (.t 37)),
 rm 39 38,
 rg 40 39 false (.fieldA 3 (.t 1)),
 rg 41 39 false (.load none (.t 40)),
 rg 42 39 false (.mv (.t 3)),
 rl 43 39 false P2I [(.t 41),(ci 0),(.t 42)],
 rg 44 39 false (.un .not (.t 43)),
 ro 45 (.pick (.t 39) (.c (.v (.bool true))) (.t 44))])
 (.cond (.t 45) (.seq (.reg none [
  ro 2 (.mv (.c (.v (.bool false))))])
 .ret) .skip))
 (.seq (.seq (.reg none [
 rm 46 3,
 ro 47 (.mv (ci 0))])
 (Zdm P2I))
 (.seq (.reg none [
 ro 2 (.mv (.c (.v (.bool true))))])
 .ret)))))
def Zdn(P0y:FuncId):AC :=
 (.block 0 (.loop (.seq (.seq (.reg none [
  rm 46 4,
  rm 47 3,
  ro 48 (.bin .lss (.t 46) (.t 47))])
  (.cond (.t 48) .skip (.exit 0)))
  (.seq (.block 1 (.seq (.reg (some []) [
   ro 51 (.fieldA 1 (.t 1)),
   ro 52 (.load none (.t 51)),
   rm 53 4,
   ro 54 (.idxA 1 (.t 52) (.t 53)),
   ro 55 (.load none (.t 54)),
   ro 56 (.fieldA 0 (.t 1)),
   ro 57 (.load none (.t 56)),
   rk 58 P0y [(.t 55),(ci 0),(.t 57)],
   ro 59 (.un .not (.t 58)),
   rm 60 59,
   rg 61 60 false (.fieldA 2 (.t 1)),
   rg 62 60 false (.load none (.t 61)),
   rg 63 60 false (.mv (.t 4)),
   rg 64 60 false (.idxA 1 (.t 62) (.t 63)),
   rg 65 60 false (.load none (.t 64)),
   rg 66 60 false (.mv (.t 3)),
   rl 67 60 false P0y [(.t 65),(ci 1),(.t 66)],
   rg 68 60 false (.un .not (.t 67)),
   ro 69 (.pick (.t 60) (.c (.v (.bool true))) (.t 68))])
  (.cond (.t 69) (.seq (.reg none [
   ro 2 (.mv (.c (.v (.bool false))))])
   .ret) .skip)))
  (.reg none [
  rm 49 4,
  ro 50 (.bin .add (.t 49) (ci 1)),
  rm 4 50])))))
def Z1I(P0y:FuncId):AC :=
 (.seq (.reg none [
 ro 1 (.box 4 (.t 0)),
 ro 2 (.mv (.c (.v (.bool false))))])
 (.seq (.reg none [
 ro 5 (.fieldA 1 (.t 1)),
 ro 6 (.load none (.t 5)),
 ro 7 (.len (.t 6)),
 rm 3 7])
 (.seq (.seq (.reg none [
 ro 8 (.fieldA 0 (.t 1)),
 ro 9 (.load none (.t 8)),
 ro 10 (.bin .lss (.t 9) (ci 1)),
 rm 11 10,
 rg 12 11 false (.fieldA 0 (.t 1)),
 rg 13 11 false (.load none (.t 12)),
 rg 14 11 false (.bin .gtr (.t 13) (ci 400)),
 ro 15 (.pick (.t 11) (.c (.v (.bool true))) (.t 14)),
 rm 16 15,
 rg 17 16 false (.mv (.t 3)),
 rg 18 16 false (.bin .lss (.t 17) (ci 1)),
 ro 19 (.pick (.t 16) (.c (.v (.bool true))) (.t 18)),
 rm 20 19,
 rg 21 20 false (.mv (.t 3)),
 rg 22 20 false (.bin .gtr (.t 21) (ci 301)),
 ro 23 (.pick (.t 20) (.c (.v (.bool true))) (.t 22)),
 rm 24 23,
 rg 25 24 false (.fieldA 2 (.t 1)),
 rg 26 24 false (.load none (.t 25)),
 rg 27 24 false (.len (.t 26)),
 rg 28 24 false (.mv (.t 3)),
 rg 29 24 false (.bin .neq (.t 27) (.t 28)),
 ro 30 (.pick (.t 24) (.c (.v (.bool true))) (.t 29)),
 rm 31 30,
 rg 32 31 false (.fieldA 1 (.t 1)),
 rg 33 31 false (.load none (.t 32)),
 rg 34 31 false (.idxA 1 (.t 33) (ci 0)),
 rg 35 31 false (.load none (.t 34)),
 rg 36 31 false (.len (.t 35)),
 rg 37 31 false (.bin .gtr (.t 36) (ci 0)),
 ro 38 (.pick (.t 31) (.c (.v (.bool true))) (.t 37)),
 rm 39 38,
 rg 40 39 false (.fieldA 3 (.t 1)),
 rg 41 39 false (.load none (.t 40)),
 rg 42 39 false (.mv (.t 3)),
 rl 43 39 false P0y [(.t 41),(ci 0),(.t 42)],
 rg 44 39 false (.un .not (.t 43)),
 ro 45 (.pick (.t 39) (.c (.v (.bool true))) (.t 44))])
 (.cond (.t 45) (.seq (.reg none [
  ro 2 (.mv (.c (.v (.bool false))))])
 .ret) .skip))
 (.seq (.seq (.reg none [
 ro 4 (.mv (ci 0))])
 (Zdn P0y))
 (.seq (.reg none [
 ro 2 (.mv (.c (.v (.bool true))))])
 .ret)))))
structure Net where
 signs:Int
 by_:List (List Int)
 follow:List (List Int)
 last:List Int
 deriving DecidableEq
def Z0M(n:Net):AV:=.agg [Z06 n.signs,Z0l n.by_,Z0l n.follow,Z03 n.last]
theorem Z1J(n:Net):Z0S (Z0M n):=.agg _ (by
 intro y hy;simp only[List.mem_cons,List.not_mem_nil,or_false] at hy;rcases hy with rfl | rfl | rfl | rfl
 ·exact Z04 _
 ·exact Z0T _
 ·exact Z0T _
 ·exact Z02 _)
structure Zpi(n:Net):Prop where
 by_:Len n.by_
 follow:Len n.follow
 last:Len n.last
 byr:∀r∈n.by_,Len r
 P65:∀r∈n.follow,Len r
def Z4p(n:Net):Bool:=decide (1≤n.signs) && decide (n.signs≤400) && decide (1≤n.by_.length) && decide (n.by_.length≤301) && decide (n.follow.length=n.by_.length) && decide ((n.by_.getD 0 []).length=0) && Z4J n.last 0 n.by_.length &&
 (List.range n.by_.length).all fun i=>Z4J (n.by_.getD i []) 0 n.signs && Z4J (n.follow.getD i []) 1 n.by_.length
structure Z4H(n:Net):Prop where
 s1:1≤n.signs
 s2:n.signs≤400
 n1:1≤n.by_.length
 n2:n.by_.length≤301
 len:n.follow.length=n.by_.length
 by0:n.by_.getD 0 []=[]
 last:Zap n.last 0 n.by_.length
 by_:∀i (h:i < n.by_.length),Zap n.by_[i] 0 n.signs
 follow:∀i (h:i < n.follow.length),Zap n.follow[i] 1 n.by_.length
theorem Z5c(n:Net):Z4p n=true↔Z4H n:=by
 simp only[Z4p,Bool.and_eq_true,decide_eq_true_eq,List.all_eq_true,List.mem_range,Z5d];constructor
 ·rintro⟨⟨⟨⟨⟨⟨⟨h1,h2⟩,h3⟩,h4⟩,h5⟩,h6⟩,h7⟩,h8⟩
  refine⟨h1,h2,h3,h4,h5,List.eq_nil_of_length_eq_zero h6,h7,fun i h=>?_,fun i h=>?_⟩
  ·have:=(h8 i h).1
   rw[List.getD_eq_getElem?_getD,List.getElem?_eq_getElem h] at this;exact this
  ·have:=(h8 i (by omega)).2
   rw[List.getD_eq_getElem?_getD,List.getElem?_eq_getElem h] at this;exact this
 ·intro h
  refine⟨⟨⟨⟨⟨⟨⟨h.s1,h.s2⟩,h.n1⟩,h.n2⟩,h.len⟩,by rw[h.by0];rfl⟩,h.last⟩,fun i hi=>⟨?_,?_⟩⟩
  ·have:=h.by_ i hi
   rw[List.getD_eq_getElem?_getD,List.getElem?_eq_getElem hi];exact this
  ·have hi2:i < n.follow.length:=by rw[h.len];exact hi
   have:=h.follow i hi2;rw[List.getD_eq_getElem?_getD,List.getElem?_eq_getElem hi2];exact this
theorem Z4F{n:Net}{x:Prop}(hx:¬x)(h:Z4H n→x):Z4p n=false:=by
 cases hr:Z4p n with
 | false=>rfl
 | true=>exact(hx (h ((Z5c n).mp hr))).elim
def Net.rows(n:Net):List (List Int):=n.last::(n.by_++n.follow)
def Zaa(n:Net)(i:Nat):Bool:=Z4J (n.by_.getD i []) 0 n.signs && Z4J (n.follow.getD i []) 1 n.by_.length
def Zvj(P:Program)(fl:FuncId)(n:Net):Prop:=∀l∈n.rows,∀a b,Z0t P fl [Z03 l,Z06 a,Z06 b] (Z1n (Z4J l a b))
theorem ZsM{P:Program}{fl:FuncId}{n:Net}(hl:Zvj P fl n)(hlen:n.follow.length=n.by_.length)(hk:n.by_.length≤301){f:AF}{S:St}{Q:Exit→AF→St→Prop}(e1:f 1=.ptr 0 0 0)(e3:f 3=Z06 n.by_.length)(e46:f 46=Z06 n.by_.length)(ei:f 47=Z06 0)
  (g0:S.g 0=some (.arr 4 [Z0M n])) (h1:(∀i,i < n.by_.length→Zaa n i=true)→∀f' S',Q .normal f' S') (h2:(¬∀i,i < n.by_.length→Zaa n i=true)→∀f' S',f' 2=Z1n false→Q .ret f' S'):AW P (Zdm fl) Q f S:=by
 simp[Zdm];refine Z7F n.by_.length (fun i f S=>f 1=.ptr 0 0 0∧f 3=Z06 n.by_.length∧(f 46=Z06 n.by_.length)∧f 47=Z06 i∧S.g 0=some (.arr 4 [Z0M n])∧∀j,j < i→Zaa n j=true) ?_ ?_
 ·exact⟨e1,e3,e46,ei,g0,by omega⟩
 ·rintro i f S hi ⟨e1,e3,e46,ei,g0,hq⟩
  simp only[Z0M,Z0l] at g0;by_cases hlt:i < n.by_.length
  ·have hlf:i < n.follow.length:=by omega
   have gb:n.by_.getD i []=n.by_[i]:=by rw[List.getD_eq_getElem?_getD,List.getElem?_eq_getElem hlt];rfl
   have gf:n.follow.getD i []=n.follow[i]:=by rw[List.getD_eq_getElem?_getD,List.getElem?_eq_getElem hlf];rfl
   have k1:=hl n.by_[i] (by simp[Net.rows]) 0 n.signs;have k2:=hl n.follow[i] (by simp[Net.rows]) 1 n.by_.length;have c1:=Z01 (Z02 n.by_[i]) (Z01 (Z04 0) (Z01 (Z04 n.signs) Z0a));have c2:=Z01 (Z02 n.follow[i]) (Z01 (Z04 1) (Z01 (Z04 n.by_.length) Z0a));simp only[Z03,Z06] at k1 k2 c1 c2;have d1:∀m g',Z5A P fl [.sl false ((n.by_[i]).map Z06),.v (.int .i64 0),.v (.int .i64 n.signs)] ⟨m,g'⟩ [] (Z1n (Z4J n.by_[i] 0 n.signs)):=fun m g'=>Z5A.kl k1 c1 (Z0L _)
   have d2:∀m g',Z5A P fl [.sl false ((n.follow[i]).map Z06),.v (.int .i64 1),.v (.int .i64 n.by_.length)] ⟨m,g'⟩ [] (Z1n (Z4J n.follow[i] 1 n.by_.length)):=fun m g'=>Z5A.kl k2 c2 (Z0L _)
   simp[e1,e3,e46,ei,g0,hlt,hlf,Z03];refine⟨_,⟨_,d1 _ _⟩,?_⟩;cases hA:Z4J n.by_[i] 0 n.signs with
   | false =>
    simp[e1,e3,e46,ei,g0,hlt,hlf,Z03];exact h2 (fun h=>by have:=h i hlt;rw[Zaa,gb,hA] at this;cases this) _ _ (by simp[Z00,Z1n])
   | true =>
    simp[e1,e3,e46,ei,g0,hlt,hlf,Z03];refine⟨_,⟨_,d2 _ _⟩,?_⟩;cases hB:Z4J n.follow[i] 1 n.by_.length with
    | false =>
     simp[e1,e3,e46,ei,g0,hlt,hlf,Z03];exact h2 (fun h=>by have:=h i hlt;rw[Zaa,gb,gf,hA,hB] at this;cases this) _ _ (by simp[Z00,Z1n])
    | true =>
     simp[e1,e3,e46,ei,g0,hlt,hlf,Z03];rw[Z0m _ (by omega)];refine⟨hlt,?_,?_,?_,?_,?_,fun j hj=>?_⟩
     ·simp[Z00,e1]
     ·simp[Z00,e3,Z06]
     ·simp[Z00,e46,Z06]
     ·simp[Z00,Z06]
     ·simp[g0,Z0M,Z0l,Z03,Z06]
     ·by_cases e:j=i
      ·subst e;rw[Zaa,gb,gf,hA,hB];rfl
      ·exact hq j (by omega)
  ·simp[e1,e3,e46,ei,g0,hlt]
   exact h1 (fun j hj=>hq j (by omega)) _ _
theorem Ztg{P:Program}{fl:FuncId}{n:Net}(hl:Zvj P fl n)(hlen:n.follow.length=n.by_.length)(hk:n.by_.length≤301){f:AF}{S:St}{Q:Exit→AF→St→Prop}(e1:f 1=.ptr 0 0 0)(e3:f 3=Z06 n.by_.length)(e46:f 1=.ptr 0 0 0)(ei:f 4=Z06 0)
  (g0:S.g 0=some (.arr 4 [Z0M n])) (h1:(∀i,i < n.by_.length→Zaa n i=true)→∀f' S',Q .normal f' S') (h2:(¬∀i,i < n.by_.length→Zaa n i=true)→∀f' S',f' 2=Z1n false→Q .ret f' S'):AW P (Zdn fl) Q f S:=by
 simp[Zdn];refine Z7F n.by_.length (fun i f S=>f 1=.ptr 0 0 0∧f 3=Z06 n.by_.length∧(f 1=.ptr 0 0 0)∧f 4=Z06 i∧S.g 0=some (.arr 4 [Z0M n])∧∀j,j < i→Zaa n j=true) ?_ ?_
 ·exact⟨e1,e3,e46,ei,g0,by omega⟩
 ·rintro i f S hi ⟨e1,e3,e46,ei,g0,hq⟩
  simp only[Z0M,Z0l] at g0;by_cases hlt:i < n.by_.length
  ·have hlf:i < n.follow.length:=by omega
   have gb:n.by_.getD i []=n.by_[i]:=by rw[List.getD_eq_getElem?_getD,List.getElem?_eq_getElem hlt];rfl
   have gf:n.follow.getD i []=n.follow[i]:=by rw[List.getD_eq_getElem?_getD,List.getElem?_eq_getElem hlf];rfl
   have k1:=hl n.by_[i] (by simp[Net.rows]) 0 n.signs;have k2:=hl n.follow[i] (by simp[Net.rows]) 1 n.by_.length;have c1:=Z01 (Z02 n.by_[i]) (Z01 (Z04 0) (Z01 (Z04 n.signs) Z0a));have c2:=Z01 (Z02 n.follow[i]) (Z01 (Z04 1) (Z01 (Z04 n.by_.length) Z0a));simp only[Z03,Z06] at k1 k2 c1 c2;have d1:∀m g',Z5A P fl [.sl false ((n.by_[i]).map Z06),.v (.int .i64 0),.v (.int .i64 n.signs)] ⟨m,g'⟩ [] (Z1n (Z4J n.by_[i] 0 n.signs)):=fun m g'=>Z5A.kl k1 c1 (Z0L _)
   have d2:∀m g',Z5A P fl [.sl false ((n.follow[i]).map Z06),.v (.int .i64 1),.v (.int .i64 n.by_.length)] ⟨m,g'⟩ [] (Z1n (Z4J n.follow[i] 1 n.by_.length)):=fun m g'=>Z5A.kl k2 c2 (Z0L _)
   simp[e1,e3,e46,ei,g0,hlt,hlf,Z03];refine⟨_,⟨_,d1 _ _⟩,?_⟩;cases hA:Z4J n.by_[i] 0 n.signs with
   | false =>
    simp[e1,e3,e46,ei,g0,hlt,hlf,Z03];exact h2 (fun h=>by have:=h i hlt;rw[Zaa,gb,hA] at this;cases this) _ _ (by simp[Z00,Z1n])
   | true =>
    simp[e1,e3,e46,ei,g0,hlt,hlf,Z03];refine⟨_,⟨_,d2 _ _⟩,?_⟩;cases hB:Z4J n.follow[i] 1 n.by_.length with
    | false =>
     simp[e1,e3,e46,ei,g0,hlt,hlf,Z03];exact h2 (fun h=>by have:=h i hlt;rw[Zaa,gb,gf,hA,hB] at this;cases this) _ _ (by simp[Z00,Z1n])
    | true =>
     simp[e1,e3,e46,ei,g0,hlt,hlf,Z03];rw[Z0m _ (by omega)];refine⟨hlt,?_,?_,?_,?_,?_,fun j hj=>?_⟩
     ·simp[Z00,e1]
     ·simp[Z00,e3,Z06]
     ·simp[Z00,e1]
     ·simp[Z00,Z06]
     ·simp[g0,Z0M,Z0l,Z03,Z06]
     ·by_cases e:j=i
      ·subst e;rw[Zaa,gb,gf,hA,hB];rfl
      ·exact hq j (by omega)
  ·simp[e1,e3,e46,ei,g0,hlt]
   exact h1 (fun j hj=>hq j (by omega)) _ _
theorem Zeq{P:Program}{fl:FuncId}(n:Net)(ok:Zpi n)(hl:Zvj P fl n):AW P (Z4R fl) (Z75 [2] (FzK (Z1n (Z4p n)))) (Z53 [Z0M n]) S0:=by
 have l1:=ok.by_;have l2:=ok.follow;unfold Len at l1 l2;by_cases h1:n.signs < 1
 ·have e:=Z4F (n:=n) (x:=1≤n.signs) (by omega) (fun h=>h.s1)
  simp[Z4R,Z0M,Z0l,Z03,h1,e];exact Z2p _ _
 by_cases h2:400 < n.signs
 ·have e:=Z4F (n:=n) (x:=n.signs≤400) (by omega) (fun h=>h.s2)
  simp[Z4R,Z0M,Z0l,Z03,h1,h2,e];exact Z2p _ _
 by_cases h3:n.by_.length=0
 ·have e:=Z4F (n:=n) (x:=1≤n.by_.length) (by omega) (fun h=>h.n1)
  have h3':((n.by_.length:Int) == 0)=true:=by simp;exact List.eq_nil_of_length_eq_zero h3
  have h3'':(n.by_.length:Int) < 1:=by omega
  simp[Z4R,Z0M,Z0l,h1,h2,h3',h3'',e];exact Z2p _ _
 have h3':((n.by_.length:Int) == 0)=false:=by simp;exact fun e=>h3 (by simp[e])
 have h3'':¬(n.by_.length:Int) < 1:=by omega
 by_cases h4:(301:Int) < n.by_.length
 ·have e:=Z4F (n:=n) (x:=n.by_.length≤301) (by omega) (fun h=>h.n2)
  simp[Z4R,Z0M,Z0l,h1,h2,h3',h3'',h4,e];exact Z2p _ _
 by_cases h5:¬(n.follow.length=n.by_.length)
 ·have e:=Z4F (n:=n) h5 (fun h=>h.len)
  have h5':((n.follow.length:Int) != n.by_.length)=true:=by simp;omega
  simp[Z4R,Z0M,Z0l,h1,h2,h3',h3'',h4,h5',e];exact Z2p _ _
 have h5:n.follow.length=n.by_.length:=Decidable.not_not.mp h5;have h5':((n.follow.length:Int) != n.by_.length)=false:=by simp;omega
 have hlt:0 < n.by_.length:=by omega
 have hg0:n.by_[0]? = some n.by_[0]:=List.getElem?_eq_getElem hlt;have gb:n.by_.getD 0 []=n.by_[0]:=by rw[List.getD_eq_getElem?_getD,hg0];rfl
 by_cases h6:(0:Int) < (n.by_[0]).length
 ·have e:=Z4F (n:=n) (x:=n.by_.getD 0 []=[]) (by rw[gb];intro h;rw[h] at h6;simp at h6) (fun h=>h.by0)
  have h6':0 < (n.by_[0]).length:=by omega
  simp[Z4R,Z0M,Z0l,Z03,h1,h2,h3',h3'',h4,h5',hg0,h6,h6',e];exact Z2p _ _
 have h6':¬0 < (n.by_[0]).length:=by omega
 have h60:n.by_[0]=[]:=List.eq_nil_of_length_eq_zero (by omega);have k1:=hl n.last (by simp[Net.rows]) 0 n.by_.length;have c1:=Z01 (Z02 n.last) (Z01 (Z04 0) (Z01 (Z04 n.by_.length) Z0a));simp only[Z03,Z06] at k1 c1;simp[Z4R,Z0M,Z0l,Z03,h1,h2,h3',h3'',h4,h5',hg0,h6,h6',h60];refine Z0x.pure k1 c1 (Z0L _) ?_;cases h7:Z4J n.last 0 n.by_.length with
 | false =>
  have e:=Z4F (n:=n) (x:=Z4J n.last 0 n.by_.length=true) (by rw[h7];simp) (fun h=>Z5d.mpr h.last);simp[Z4R,Z0M,Z0l,Z03,h1,h2,h3',h3'',h4,h5',hg0,h6,h6',e];exact Z2p _ _
 | true =>
  simp;refine ZsM (n:=n) hl h5 (by omega) (by simp[Z00]) (by simp[Z00,Z06]) (by simp[Z00,Z06]) (by simp[Z00,Z06]) (by simp[Z0A,Z0M,Z0l,Z03,Z06]) (fun h f' S'=>?_) (fun h f' S' e2=>?_)
  ·have e:Z4p n=true:=by
    simp only[Z4p,Bool.and_eq_true,decide_eq_true_eq,List.all_eq_true,List.mem_range];refine⟨⟨⟨⟨⟨⟨⟨by omega,by omega⟩,by omega⟩,by omega⟩,h5⟩,by rw[gb,h60];rfl⟩,h7⟩,fun i hi=>?_⟩;have:=h i hi;simpa[Zaa] using this
   simp[e];exact Z2p _ _
  ·have e:=Z4F (n:=n) h (fun R i hi=>by
    have hi2:i < n.follow.length:=by omega
    rw[Zaa,List.getD_eq_getElem?_getD,List.getElem?_eq_getElem hi,List.getD_eq_getElem?_getD,List.getElem?_eq_getElem hi2];simp only[Option.getD_some,Bool.and_eq_true];exact⟨Z5d.mpr (R.by_ i hi),Z5d.mpr (R.follow i hi2)⟩)
   simp[e2,e];exact Z2p _ _
theorem ZgJ{P:Program}{fl:FuncId}(n:Net)(ok:Zpi n)(hl:Zvj P fl n):AW P (Z1I fl) (Z75 [2] (FzK (Z1n (Z4p n)))) (Z53 [Z0M n]) S0:=by
 have l1:=ok.by_;have l2:=ok.follow;unfold Len at l1 l2;by_cases h1:n.signs < 1
 ·have e:=Z4F (n:=n) (x:=1≤n.signs) (by omega) (fun h=>h.s1)
  simp[Z1I,Z0M,Z0l,Z03,h1,e];exact Z2p _ _
 by_cases h2:400 < n.signs
 ·have e:=Z4F (n:=n) (x:=n.signs≤400) (by omega) (fun h=>h.s2)
  simp[Z1I,Z0M,Z0l,Z03,h1,h2,e];exact Z2p _ _
 by_cases h3:n.by_.length=0
 ·have e:=Z4F (n:=n) (x:=1≤n.by_.length) (by omega) (fun h=>h.n1)
  have h3':((n.by_.length:Int) == 0)=true:=by simp;exact List.eq_nil_of_length_eq_zero h3
  have h3'':(n.by_.length:Int) < 1:=by omega
  simp[Z1I,Z0M,Z0l,h1,h2,h3',h3'',e];exact Z2p _ _
 have h3':((n.by_.length:Int) == 0)=false:=by simp;exact fun e=>h3 (by simp[e])
 have h3'':¬(n.by_.length:Int) < 1:=by omega
 by_cases h4:(301:Int) < n.by_.length
 ·have e:=Z4F (n:=n) (x:=n.by_.length≤301) (by omega) (fun h=>h.n2)
  simp[Z1I,Z0M,Z0l,h1,h2,h3',h3'',h4,e];exact Z2p _ _
 by_cases h5:¬(n.follow.length=n.by_.length)
 ·have e:=Z4F (n:=n) h5 (fun h=>h.len)
  have h5':((n.follow.length:Int) != n.by_.length)=true:=by simp;omega
  simp[Z1I,Z0M,Z0l,h1,h2,h3',h3'',h4,h5',e];exact Z2p _ _
 have h5:n.follow.length=n.by_.length:=Decidable.not_not.mp h5;have h5':((n.follow.length:Int) != n.by_.length)=false:=by simp;omega
 have hlt:0 < n.by_.length:=by omega
 have hg0:n.by_[0]? = some n.by_[0]:=List.getElem?_eq_getElem hlt;have gb:n.by_.getD 0 []=n.by_[0]:=by rw[List.getD_eq_getElem?_getD,hg0];rfl
 by_cases h6:(0:Int) < (n.by_[0]).length
 ·have e:=Z4F (n:=n) (x:=n.by_.getD 0 []=[]) (by rw[gb];intro h;rw[h] at h6;simp at h6) (fun h=>h.by0)
  have h6':0 < (n.by_[0]).length:=by omega
  simp[Z1I,Z0M,Z0l,Z03,h1,h2,h3',h3'',h4,h5',hg0,h6,h6',e];exact Z2p _ _
 have h6':¬0 < (n.by_[0]).length:=by omega
 have h60:n.by_[0]=[]:=List.eq_nil_of_length_eq_zero (by omega);have k1:=hl n.last (by simp[Net.rows]) 0 n.by_.length;have c1:=Z01 (Z02 n.last) (Z01 (Z04 0) (Z01 (Z04 n.by_.length) Z0a));simp only[Z03,Z06] at k1 c1;simp[Z1I,Z0M,Z0l,Z03,h1,h2,h3',h3'',h4,h5',hg0,h6,h6',h60];refine Z0x.pure k1 c1 (Z0L _) ?_;cases h7:Z4J n.last 0 n.by_.length with
 | false =>
  have e:=Z4F (n:=n) (x:=Z4J n.last 0 n.by_.length=true) (by rw[h7];simp) (fun h=>Z5d.mpr h.last);simp[Z1I,Z0M,Z0l,Z03,h1,h2,h3',h3'',h4,h5',hg0,h6,h6',e];exact Z2p _ _
 | true =>
  simp;refine Ztg (n:=n) hl h5 (by omega) (by simp[Z00]) (by simp[Z00,Z06]) (by simp[Z00]) (by simp[Z00,Z06]) (by simp[Z0A,Z0M,Z0l,Z03,Z06]) (fun h f' S'=>?_) (fun h f' S' e2=>?_)
  ·have e:Z4p n=true:=by
    simp only[Z4p,Bool.and_eq_true,decide_eq_true_eq,List.all_eq_true,List.mem_range];refine⟨⟨⟨⟨⟨⟨⟨by omega,by omega⟩,by omega⟩,by omega⟩,h5⟩,by rw[gb,h60];rfl⟩,h7⟩,fun i hi=>?_⟩;have:=h i hi;simpa[Zaa] using this
   simp[e];exact Z2p _ _
  ·have e:=Z4F (n:=n) h (fun R i hi=>by
    have hi2:i < n.follow.length:=by omega
    rw[Zaa,List.getD_eq_getElem?_getD,List.getElem?_eq_getElem hi,List.getD_eq_getElem?_getD,List.getElem?_eq_getElem hi2];simp only[Option.getD_some,Bool.and_eq_true];exact⟨Z5d.mpr (R.by_ i hi),Z5d.mpr (R.follow i hi2)⟩)
   simp[e2,e];exact Z2p _ _
end Go.Rf
namespace Go.Rf
open Go.RowKit
theorem Z39(n:Net):(Z0M n).solid=true:=rfl
theorem Z34(n:Net):(Z0M n).cells=[.v (.int .i64 n.signs),Z0l n.by_,Z0l n.follow,Z03 n.last]:=rfl
theorem Z56(n:Net):AV.agg [.v (.int .i64 n.signs),Z0l n.by_,Z0l n.follow,Z03 n.last]=Z0M n:=rfl
theorem Z38(d:Det):(Z0v d).solid=true:=rfl
theorem Z33(d:Det):(Z0v d).cells=[.v (.int .i64 d.signs),Z0l d.next,Z2E d.fin]:=rfl
theorem Z55(d:Det):AV.agg [.v (.int .i64 d.signs),Z0l d.next,Z2E d.fin]=Z0v d:=rfl
theorem Z44(l:List Int):Z3S (Z03 l)=some (.v (.int .i64 l.length)):=by simp[Z03,Z3S]
theorem Z36(l:List (List Int)):Z3S (Z0l l)=some (.v (.int .i64 l.length)):=by simp[Z0l,Z3S]
theorem Z43(l:List Bool):Z3S (Z2E l)=some (.v (.int .i64 l.length)):=by simp[Z2E,Z3S]
theorem Z6j{S:St}{nid:Nat}{l:List Int}{k:IntKind}{n:Int}(hn:0≤n)(hlt:n < l.length):(Z1F 1 (Z03 l) (.v (.int k n))).run S nid=some (.eptr (Z06 (l.getD n.toNat 0)) 0,S):=by
 have hl:n.toNat < l.length:=by omega
 simp[Z03,Z1F,hn,List.getElem?_eq_getElem hl,List.getD_eq_getElem?_getD,AV.cells,Z06]
theorem Z5a{S:St}{nid:Nat}{l:List (List Int)}{k:IntKind}{n:Int}(hn:0≤n)(hlt:n < l.length):(Z1F 1 (Z0l l) (.v (.int k n))).run S nid=some (.eptr (Z03 (l.getD n.toNat [])) 0,S):=by
 have hl:n.toNat < l.length:=by omega
 simp[Z0l,Z1F,hn,List.getElem?_eq_getElem hl,List.getD_eq_getElem?_getD,AV.cells,Z03]
theorem Z6i{S:St}{nid:Nat}{l:List Bool}{k:IntKind}{n:Int}(hn:0≤n)(hlt:n < l.length):(Z1F 1 (Z2E l) (.v (.int k n))).run S nid=some (.eptr (Z1n (l.getD n.toNat false)) 0,S):=by
 have hl:n.toNat < l.length:=by omega
 simp[Z2E,Z1F,hn,List.getElem?_eq_getElem hl,List.getD_eq_getElem?_getD,AV.cells,Z1n]
theorem Z59{S:St}{nid:Nat}{l:List Int}{k:IntKind}{n:Int}(hn:0≤n)(hlt:n < l.length):(Z1F 1 (Z03 l) (.v (.int k n))).runT S nid=some (.eptr (Z06 (l.getD n.toNat 0)) 0,S,[],[]):=by
 have hl:n.toNat < l.length:=by omega
 simp[Z03,Z1F,hn,List.getElem?_eq_getElem hl,List.getD_eq_getElem?_getD,AV.cells,Z06,Z0P]
theorem Z45{S:St}{nid:Nat}{l:List (List Int)}{k:IntKind}{n:Int}(hn:0≤n)(hlt:n < l.length):(Z1F 1 (Z0l l) (.v (.int k n))).runT S nid=some (.eptr (Z03 (l.getD n.toNat [])) 0,S,[],[]):=by
 have hl:n.toNat < l.length:=by omega
 simp[Z0l,Z1F,hn,List.getElem?_eq_getElem hl,List.getD_eq_getElem?_getD,AV.cells,Z03,Z0P]
theorem Z58{S:St}{nid:Nat}{l:List Bool}{k:IntKind}{n:Int}(hn:0≤n)(hlt:n < l.length):(Z1F 1 (Z2E l) (.v (.int k n))).runT S nid=some (.eptr (Z1n (l.getD n.toNat false)) 0,S,[],[]):=by
 have hl:n.toNat < l.length:=by omega
 simp[Z2E,Z1F,hn,List.getElem?_eq_getElem hl,List.getD_eq_getElem?_getD,AV.cells,Z1n,Z0P]
theorem Zrh{l:List Int}{i:Nat}(h:i < l.length):l.getD i 0=l[i]:=by rw[List.getD_eq_getElem?_getD,List.getElem?_eq_getElem h];rfl
def Z2f(p:Int×Int):AV:=.agg [.v (.int .i64 p.1),.v (.int .i64 p.2)]
theorem Zd1(p:Int×Int):(Z2f p).solid=true:=rfl
theorem Z5r(p:Int×Int):(Z2f p).cells=[.v (.int .i64 p.1),.v (.int .i64 p.2)]:=rfl
theorem Z40(p:Int×Int):Z0S (Z2f p):=.agg _ (Z01 (.v _) (Z01 (.v _) Z0a))
theorem Zjt(l:List (Int×Int)):Cel 2 (l.map Z2f):=Zd4 (enc:=Z2f) (fun _=>rfl) l
theorem Z4L(l:List (Int×Int)):Cls (l.map Z2f):=Zax Z40 l
def vQ(o:Bool)(id i c:Nat)(xs:List AV):AV:=if o=true then .ptr id i c else .eptr (xs[i]?.getD .junk) c
theorem ZqI{o:Bool}{id i:Nat}{xs:List AV}{k:IntKind}{n:Int}(h0:0≤n)(h1:n < 2):Z1R 2 1 (vP o id i xs) (.v (.int k n))=some (vQ o id i n.toNat xs):=by
 cases o<;>simp[Z1R,vP,vQ,h0,h1]
section
variable{S:St}{o:Bool}{id i nid:Nat}{l:List (Int×Int)}
theorem vQ0(hg:S.g id=vB o 2 (l.map Z2f))(hx:i < l.length):(Z1q none (vQ o id i 0 (l.map Z2f))).run S nid=some (.v (.int .i64 l[i].1),S):=by
 cases o with
 | true=>rw[Z1S] at hg;simp[vQ,Z1q,hg,hx,Z51,Z5r]
 | false=>simp[vQ,Z1q,Z51,hx,Z5r]
theorem vQ1(hg:S.g id=vB o 2 (l.map Z2f))(hx:i < l.length):(Z1q none (vQ o id i 1 (l.map Z2f))).run S nid=some (.v (.int .i64 l[i].2),S):=by
 cases o with
 | true=>rw[Z1S] at hg;simp[vQ,Z1q,hg,hx,Z51,Z5r]
 | false=>simp[vQ,Z1q,Z51,hx,Z5r]
theorem ZvC(hg:S.g id=vB o 2 (l.map Z2f))(hx:i < l.length):(Z1q (some 2) (vP o id i (l.map Z2f))).run S nid=some (Z2f l[i],S):=by
 cases o with
 | true=>rw[Z1S] at hg;simp[vP,Z1q,hg,hx,Z51,Z5r,Z2f,AV.cells]
 | false=>simp[vP,Z1q,Z51,hx,Z5r,Z2f,AV.cells]
theorem ZvD(hg:S.g id=vB o 2 (l.map Z2f))(hx:i < l.length):(Z1q none (vQ o id i 0 (l.map Z2f))).runT S nid=some (.v (.int .i64 l[i].1),S,vF o [id],[]):=by
 cases o with
 | true=>rw[Z1S] at hg;simp[vQ,Z1q,hg,hx,Z51,Z5r,Z1a,vF]
 | false=>simp[vQ,Z1q,Z51,hx,Z5r,Z0P,vF]
theorem ZvE(hg:S.g id=vB o 2 (l.map Z2f))(hx:i < l.length):(Z1q none (vQ o id i 1 (l.map Z2f))).runT S nid=some (.v (.int .i64 l[i].2),S,vF o [id],[]):=by
 cases o with
 | true=>rw[Z1S] at hg;simp[vQ,Z1q,hg,hx,Z51,Z5r,Z1a,vF]
 | false=>simp[vQ,Z1q,Z51,hx,Z5r,Z0P,vF]
theorem ZqJ(hg:S.g id=vB o 2 (l.map Z2f))(hx:i < l.length):(Z1q (some 2) (vP o id i (l.map Z2f))).runT S nid=some (Z2f l[i],S,vF o [id],[]):=by
 cases o with
 | true=>rw[Z1S] at hg;simp[vP,Z1q,hg,hx,Z51,Z5r,Z2f,AV.cells,Z1a,vF]
 | false=>simp[vP,Z1q,Z51,hx,Z5r,Z2f,AV.cells,Z0P,vF]
end
theorem ZoI(p q:Int×Int):Z3w true [0,1] (Z2f p) (Z2f q)=some (.v (.bool (decide (p≠q)))):=by
 obtain⟨a,b⟩:=p;obtain⟨c,d⟩:=q;by_cases h1:a=c
 ·subst h1
  by_cases h2:b=d
  ·subst h2;simp[Z3w,Z2f,Z2Y]
  ·simp[Z3w,Z2f,Z2Y,h2]
 ·simp[Z3w,Z2f,Z2Y,h1]
theorem ZkK(p:Int×Int)(x y:Int):Z3w true [0,1] (Z2f p) (.agg [.v (.int .i64 x),.v (.int .i64 y)])=some (.v (.bool (decide (p≠(x,y))))):=ZoI p (x,y)
end Go.Rf
namespace Go.Rf
open Go.RowKit
attribute [local simp] Z4c Z48 Z2M Z2a Z2P Z2R Z2Q Z4a Z4b Z1e Z16 Z0c Z0B Z0q Z08 Z0o Z0h Z09 Z0p Z0i Z0Y Z0j Z0z Z0K Z0k Z0J Z1W Z3U Z0X Z25 Z22 Z24 Z23 Z26 Z1j Z0D Z11 Z12 Z1T Z1U Z1V Z0H Z0I Z1i Z0r Z0W Z20 Z1X Z1Z Z1Y Z21 Z1k Z13 Z1g Z0U Z0V Z0C Z1h Z0P Z1a Z1f Z14 Z1l ex Z00 Z0R Z6K Z6P Z0f Z0g Z0A Z2k Z1d Z10 Z0y Z0F Z0G Z0E Z0s Z0Z Z5y Z0O Z37 Z1c Z1O Z1R Z3s Z0b Z1q Z19 Z0Q Z1F Z3S Z1P Z6A Z3C Z6z Z3w Z2Y Z3t Z6w Z3D Z51 AV.solid S0 Z06 Z1n
def Z7V(P0j P01 P03:FuncId):AC :=
 (.loop (.seq (.reg none [
  ro 9 (.bin .lss (.t 8) (.t 7))])
  (.seq (.cond (.t 9) .skip (.exit 0))
  (.seq (.block 1 (.seq (.reg none [
   ro 10 (.idxA 1 (.t 6) (.t 8)),
   ro 11 (.load none (.t 10)),
   rm 5 11])
  (.seq (.reg none [
   rm 12 5,
   rk 13 P0j [(.t 12)],
   rk 14 P01 [(.t 3),(.t 13)]])
  (.reg none [
   rk 15 P03 [(.t 3),(.c (.v (.int .u8 32)))]]))))
  (.reg none [
  ro 16 (.bin .add (.t 8) (ci 1)),
  rm 8 16])))))
def Z9j(P0j P01 P03 P0d:FuncId):AC :=
 (.seq (.seq (.reg none [
 rm 6 0,
 ro 7 (.len (.t 6)),
 ro 8 (.mv (ci 0))])
 (.block 0 (Z7V P0j P01 P03)))
 (.seq (.reg none [
 rk 17 P0d [(.t 3)],
 rm 2 17])
 .ret))
def ZbN(P0j P01 P03 P0d:FuncId):AC :=
 (.seq (.reg none [
 ro 2 (.mv (.c (.v (.string ⟨#[]⟩))))])
 (.seq (.reg none [
 ro 3 (.alloc (.agg [(.v (.pointer none)),(.sl true [])]) 2)])
 (Z9j P0j P01 P03 P0d)))
def Z5Q(l:List Int):List UInt8:=l.flatMap fun n=>Lib.itoa n++[32]
def Z8k(P:Program)(f:FuncId)(T:TypeId):Prop:=((P.funcs[f]?).bind (·.body)).bind Zdc=some T
theorem Zm4{l:List Int}{j:Nat}(h:j < l.length):Z5Q (l.take (j+1))=Z5Q (l.take j)++(Lib.itoa l[j]++[32]):=by
 have:=List.take_succ_eq_append_getElem h;unfold Z5Q;rw[this,List.flatMap_append];simp only[List.flatMap_cons,List.flatMap_nil,List.append_nil]
theorem ZqG(l:List Int)(j:Nat):(Z5Q (l.take j)).length≤(Z5Q l).length:=by
 have e:Z5Q l=Z5Q (l.take j)++Z5Q (l.drop j):=by
  unfold Z5Q;rw[←List.flatMap_append,List.take_append_drop]
 rw[e,List.length_append];omega
structure TxI(T e B:Nat)(w0:World)(l:List Int)(m:Nat)(a:AF)(w:World)(j:Nat):Prop where
 hj:j≤l.length
 hm:m=l.length - j
 e3:a 3=.ptr 0 0 0
 e6:a 6=Z03 l
 e7:a 7=Z06 l.length
 e8:a 8=Z06 j
 bl:Bld T e B B w0 (Z5Q (l.take j)) w
 ok:True
def ZvN(T e B:Nat)(w0:World)(H:Nat→Option (Array Value))(l:List Int)(m:Nat)(a:AF)(w:World):Prop:=HOk H w∧∃j,TxI T e B w0 l m a w j
theorem Zcw{P:Program}{fi fw fb fs:FuncId}{T e:TypeId}{good:Int→Prop}(k:Zp7 P fw fb fs T e)(hi:ItK P fi good){l:List Int}(hg:∀n∈l,good n)(hl:(Z5Q l).length≤140737488355328)(hlen:l.length < 4611686018427387904)
  {E:Env} {B:Nat} {w0:World} (hE:BE E B B) (hGm:Gam P E.H) {Q:Exit→AF→World→Prop} (hQ:∀a w,TxI T e B w0 l 0 a w l.length→HOk E.H w→Q (.exit 0) a w) {a:AF} {w:World} (h:TxI T e B w0 l l.length a w 0) (hH:HOk E.H w) :
  AWW P E (Z7V fi fw fb) Q a w:=by
 unfold Z7V;unfold AWW;refine⟨ZvN T e B w0 E.H l,⟨l.length,hH,0,h⟩,?_⟩;rintro m a w ⟨hH,j,hI⟩;by_cases hj:j < l.length
 ·have h1:(j:Int) < l.length:=by omega
  have hget:(l.map Z06)[j]? = some (Z06 l[j]):=by simp[hj]
  have hw:IntKind.i64.wrap ((j:Int)+1)=j+1:=Z0m _ (by omega);have ht:=Zm4 hj;have hle:=ZqG l (j+1);rw[ht] at hle;simp only[List.length_append,List.length_cons,List.length_nil] at hle;simp[AWW,WG,ZbK,Z8v,Zbq,Eff.P0F,hI.e3,hI.e6,hI.e7,hI.e8,Z03,h1,hget];refine Z8O.itoa hi hE hI.bl (hg _ (List.getElem_mem hj)) hGm hH fun w9 b9 hH9=>?_
  refine Z8O.str k hE b9 hH9 (by omega) fun w1 b1 hH1=>?_
  refine Z8O.byte k hE b1 hH1 (by rw[List.length_append];omega) (fun w2 b2 hH2=>?_) (c:=32) rfl;refine⟨l.length - (j+1),by have:=hI.hm;omega,hH2,j+1,⟨by omega,rfl,?_,?_,?_,?_,?_,trivial⟩⟩
  ·simp[AF.put,Z5e,hI.e3]
  ·simp[AF.put,Z5e,hI.e6]
  ·simp[AF.put,Z5e,hI.e7]
  ·simp[AF.put,Z5e,hw,Z06]
  ·rw[ht,←List.append_assoc];exact b2
 ·have hj2:j=l.length:=by have:=hI.hj;omega
  subst hj2;have h1:¬((l.length:Int) < l.length):=by omega
  simp[AWW,WG,ZbK,Z8v,Zbq,Eff.P0F,hI.e3,hI.e6,hI.e7,hI.e8,Z03,h1];refine hQ _ _ ⟨Nat.le_refl _,by omega,?_,?_,?_,?_,hI.bl,trivial⟩ hH
  ·simp[AF.put,Z5e,hI.e3]
  ·simp[AF.put,Z5e,hI.e6]
  ·simp[AF.put,Z5e,hI.e7]
  ·simp[AF.put,Z5e,hI.e8]
theorem ZfN{P:Program}(hm:P.follows .mixedOrders=true){f fi fw fb fs:FuncId}{T e:TypeId}{good:Int→Prop}(h:Is P f (ZbN fi fw fb fs) [2] 1)(hT:Z8k P f T)(k:Zp7 P fw fb fs T e)(hi:ItK P fi good){l:List Int}
  (hg:∀n∈l,good n) (hl:(Z5Q l).length≤140737488355328) (hlen:l.length < 4611686018427387904):Z0t P f [Z03 l] (.v (.string ⟨(Z5Q l).toArray⟩)):=by
 obtain⟨fn,c,hf,hnm,hb,hc,hr,hn⟩:=h
 have hT':Zdc c=some T:=by
  unfold Z8k at hT;rw[hf] at hT;simpa[hb] using hT
 refine Z0t.P5W (T:=T) (e:=e) (args:=[Z03 l]) hf hnm hb hc hT' hr hn rfl (fun Q E w=>?_) (fun E B w w0 hE hGm hH hB=>?_)
 ·simp[AWW,WG,Zbq,Eff.P0F,List.foldl]
 ·unfold Z9j
  simp[AWW,WG,ZbK,Z8v,Zbq,Eff.P0F,List.foldl,Z03];refine Zcw k hi hg hl hlen (w0:=w0) hE hGm (fun a w' hI hH'=>?_) ⟨Nat.zero_le _,by omega,?_,?_,?_,?_,?_,trivial⟩ hH
  ·simp[AWW,WG,ZbK,Z8v,Zbq,Eff.P0F,hI.e3]
   have hbl:=hI.bl;rw[List.take_length] at hbl;refine Z8O.string k hE hbl hH' fun w2 h2=>?_
   simp[Z8s,h2]
  ·simp[AF.put,Z5e]
  ·simp[AF.put,Z5e,Z53,Z03]
  ·simp[AF.put,Z5e,Z06]
  ·simp[AF.put,Z5e,Z06]
  ·simpa[Z5Q] using hB
end Go.Rf
namespace Go.Rf
open Go.RowKit
attribute [local simp] Z4c Z48 Z2M Z2a Z2P Z2R Z2Q Z4a Z4b Z1e Z16 Z0c Z0B Z0q Z08 Z0o Z0h Z09 Z0p Z0i Z0Y Z0j Z0z Z0K Z0k Z0J Z1W Z3U Z0X Z25 Z22 Z24 Z23 Z26 Z1j Z0D Z11 Z12 Z1T Z1U Z1V Z0H Z0I Z1i Z0r Z0W Z20 Z1X Z1Z Z1Y Z21 Z1k Z13 Z1g Z0U Z0V Z0C Z1h Z0P Z1a Z1f Z14 Z1l ex Z00 Z0R Z6K Z6P Z0f Z0g Z0A Z2k Z1d Z10 Z0y Z0F Z0G Z0E Z0s Z0Z Z5y Z0O Z37 Z1c Z1O Z1R Z3s Z0b Z1q Z19 Z0Q Z1F Z3S Z1P Z6A Z3C Z6z Z3w Z2Y Z3t Z6w Z3D Z51 AV.solid S0 Z06 Z1n
def ZbM(n:Net)(sign:Int)(f:Int):Bool:=(n.by_.getD f.toNat []).contains sign
def Z6v(n:Net)(sign:Int)(p:Int):List Int:=if 0≤p∧p < n.follow.length then (n.follow.getD p.toNat []).filter (ZbM n sign) else []
def Z3P(n:Net)(at_:List Int)(sign:Int):List Int:=at_.flatMap (Z6v n sign)
def Z70(n:Net)(at_:List Int)(sign:Int):List Int:=Z6l (Z3P n at_ sign)
theorem Zhg{n:Net}(R:Z4H n){p k:Nat}(hp:p < n.follow.length)(hk:k < (n.follow[p]).length):1≤(n.follow[p])[k]∧(n.follow[p])[k] < n.by_.length:=(R.follow p hp).2 _ (List.getElem_mem hk)
theorem Za3{n:Net}(R:Z4H n){p:Nat}(hp:p < n.follow.length):(n.follow[p]).length≤301:=by
 have:=Zfd (R.follow p hp).1 (R.follow p hp).2;have:=R.n2;omega
theorem Zcf{n:Net}{at_:List Int}{sign:Int}{i:Nat}(h:i < at_.length):Z3P n (at_.take (i+1)) sign=Z3P n (at_.take i) sign++Z6v n sign at_[i]:=by
 rw[List.take_add_one,List.getElem?_eq_getElem h];unfold Z3P;rw[List.flatMap_append];simp only[Option.toList_some,List.flatMap_cons,List.flatMap_nil,List.append_nil]
theorem Zit{n:Net}(R:Z4H n)(sign p:Int):(Z6v n sign p).length≤301:=by
 unfold Z6v;split
 ·rename_i h
  have hp:p.toNat < n.follow.length:=by omega
  have:=Za3 R hp;have h2:=List.length_filter_le (ZbM n sign) (n.follow.getD p.toNat []);rw[List.getD_eq_getElem?_getD,List.getElem?_eq_getElem hp] at h2 ⊢;simp only[Option.getD_some] at h2 ⊢;omega
 ·simp
theorem ZaC{n:Net}(R:Z4H n)(sign:Int):∀(l:List Int),(Z3P n l sign).length≤301*l.length
 | []=>by simp[Z3P]
 | p::l=>by
  have h1:=Zit R sign p;have h2:=ZaC R sign l;simp only[Z3P,List.flatMap_cons,List.length_append,List.length_cons] at h2 ⊢;omega
end Go.Rf
