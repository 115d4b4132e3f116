import Derived.Test.YtdmcjhnbmgmgoaaGreatDoorRfL6
import Derived.Lib.SlicesCompact
import Derived.Lib.RowBridge
set_option linter.unusedVariables false
set_option linter.unusedSimpArgs false
set_option linter.unusedSectionVars false
namespace Go.Rf
theorem ZfG{zs:List Int}{x:Int}:x∈Lib.compact zs↔x∈zs:=by
 have hget:∀j (hj:j < zs.length),zs.toArray[j]! = zs[j]:=fun j hj=>by simp[hj]
 simp only[Lib.compact,Lib.compactUpTo,List.mem_map,List.mem_filter,List.mem_range];constructor
 ·rintro⟨j,⟨hj,_⟩,rfl⟩
  rw[hget j hj];exact List.getElem_mem hj
 ·intro hx
  obtain⟨j,hj,rfl⟩:=List.mem_iff_getElem.mp hx
  have key:∀m,∀j (hj:j < zs.length),j≤m→∃a,(a < zs.length∧Lib.keeps zs.toArray a=true)∧zs.toArray[a]! = zs[j]:=by
   intro m;induction m with
   | zero=>
    intro j hj h0;have:j=0:=by omega
    subst this;exact⟨0,⟨hj,by simp[Lib.keeps]⟩,hget 0 hj⟩
   | succ m ih=>
    intro j hj hm;by_cases hk:Lib.keeps zs.toArray j=true
    ·exact⟨j,⟨hj,hk⟩,hget j hj⟩
    ·have hk':¬(j=0∨zs.toArray[j]!≠zs.toArray[j - 1]!):=by simpa[Lib.keeps] using hk
     have h0:j≠0:=fun e=>hk' (.inl e)
     have he:zs.toArray[j]! = zs.toArray[j - 1]!:=Decidable.byContradiction fun e=>hk' (.inr e)
     obtain⟨a,ha,hb⟩:=ih (j - 1) (by omega) (by omega);refine⟨a,ha,?_⟩;rw[hb,←hget (j - 1) (by omega),←he,hget j hj]
  obtain⟨a,h1,h2⟩:=key j j hj (Nat.le_refl _);exact⟨a,h1,h2⟩
def vW(ph sign:Nat)(to:Int):Int:=if sign % 2=0 then (if ph=0 then to*3+1 else to*3+ph) else if ph=1 then to*3+2 else -1
def J5(ph:Nat)(l:List Int):List Int:=l.mapIdx fun i t=>vW ph i t
def jf(d:aB)(i:Nat):List Int:=J5 (i % 3) (d.next.getD (i / 3) [])
def qE(d:aB)(i:Nat):Bool:=decide (i % 3=2) && d.fin.getD (i / 3) false
def pg(d:aB):Gr:=⟨(List.range (3*d.next.length)).map (jf d),(List.range (3*d.next.length)).map (qE d)⟩
theorem uM(d:aB):(pg d).n=3*d.next.length:=by simp[pg,Gr.n]
theorem F3{d:aB}{i:Nat}(h:i < 3*d.next.length):(pg d).next[i]? = some (jf d i):=by simp[pg,h]
theorem UM{d:aB}{i:Nat}(h:i < 3*d.next.length):(pg d).rY i=qE d i:=by simp[pg,Gr.rY,List.getD_eq_getElem?_getD,h]
theorem FQ{d:aB}(R:bg d){s ph:Nat}(hs:s < d.next.length)(hp:ph < 3)(a:Nat):(jf d (3*s+ph))[a]? = if (a:Int) < d.signs then some (vW ph a (bN d s a)) else none:=by
 have e1:(3*s+ph) % 3=ph:=by omega
 have e2:(3*s+ph) / 3=s:=by omega
 have hrow:=R.row s hs;have hg:d.next.getD s []=d.next[s]:=by simp[List.getD_eq_getElem?_getD,List.getElem?_eq_getElem hs]
 simp only[jf,e1,e2,J5,hg,List.getElem?_mapIdx];by_cases ha:(a:Int) < d.signs
 ·obtain⟨q1,q2,q3⟩:=zX R hs (s:=(a:Int)) (by omega) ha
  simp only[Int.toNat_natCast] at q1 q2;rw[if_pos ha,List.getElem?_eq_getElem q1,q2];rfl
 ·rw[if_neg ha,List.getElem?_eq_none (by omega)];rfl
theorem OO{d:aB}(R:bg d):JQ (pg d):=by
 have hn2:=R.n2;have hs2:=R.s2;refine⟨by simp[pg],by simp[pg];omega,fun r hr=>?_,fun r hr t ht=>?_⟩
 ·simp only[pg,List.mem_map,List.mem_range] at hr
  obtain⟨i,hi,rfl⟩:=hr;have hs:i / 3 < d.next.length:=by omega
  have:=R.row (i / 3) hs;simp only[jf,J5,List.length_mapIdx,List.getD_eq_getElem?_getD,List.getElem?_eq_getElem hs,Option.getD_some];omega
 ·simp only[pg,List.mem_map,List.mem_range] at hr
  obtain⟨i,hi,rfl⟩:=hr;obtain⟨a,ha,rfl⟩:=List.mem_iff_getElem.mp ht;have hs:i / 3 < d.next.length:=by omega
  have e:i=3*(i / 3)+i % 3:=by omega
  have h1:=FQ R hs (ph:=i % 3) (by omega) a;rw[←e,List.getElem?_eq_getElem ha] at h1;split at h1
  ·rename_i hsg
   obtain⟨q1,q2,q3⟩:=zX R hs (s:=(a:Int)) (by omega) hsg;rw[Option.some.inj h1];have hl:(pg d).next.length=3*d.next.length:=by simp[pg]
   rw[hl];unfold vW;split
   ·split<;>right<;>omega
   ·split
    ·right;omega
    ·left;rfl
  ·cases h1
def yt(d:aB)(i:Nat)(h:Int)(j:Nat):Prop:=∃a:Nat,((a / 2:Nat):Int)=h∧(jf d i)[a]? = some (j:Int)
def Oa(d:aB):Nat→List Int→Nat→Prop
 | i,[],t=>i=t
 | i,h::hs,t=>∃j,yt d i h j∧Oa d j hs t
def Au(d:aB)(i:Nat)(hs:List Int):Prop:=∃t,Oa d i hs t∧qE d t=true
def yA(d:aB)(s:Nat)(l:List Int):Prop:=∃e,nR d s l=some e∧d.fin.getD e false=true
theorem MK{d:aB}{i:Nat}:Au d i []↔qE d i=true:=by simp[Au,Oa]
theorem MF{d:aB}{i:Nat}{h:Int}{hs:List Int}:Au d i (h::hs)↔∃j,yt d i h j∧Au d j hs:=by
 simp only[Au,Oa];constructor
 ·rintro⟨t,⟨j,h1,h2⟩,h3⟩;exact⟨j,h1,t,h2,h3⟩
 ·rintro⟨j,h1,t,h2,h3⟩;exact⟨t,⟨j,h1,h2⟩,h3⟩
theorem ZkB{d:aB}{s:Nat}:yA d s []↔d.fin.getD s false=true:=by simp[yA,nR]
theorem Bo{d:aB}{s:Nat}{x:Int}{l:List Int}:yA d s (x::l)↔(0≤x∧x < d.signs)∧yA d (bN d s x) l:=by
 simp only[yA,nR];constructor
 ·rintro⟨e,h1,h2⟩
  split at h1
  ·rename_i hx;exact⟨hx,e,h1,h2⟩
  ·cases h1
 ·rintro⟨hx,e,h1,h2⟩
  exact⟨e,by rw[if_pos hx];exact h1,h2⟩
theorem xP{d:aB}(R:bg d){s:Nat}(hs:s < d.next.length){x:Int}(h0:0≤x)(h1:x < d.signs):bN d s x < d.next.length:=(zX R hs h0 h1).2.2
theorem FR{d:aB}(R:bg d){i j:Nat}{h:Int}(hi:i < 3*d.next.length)(hh:yt d i h j):j < 3*d.next.length∧(pg d).edge i j∧0≤h:=by
 obtain⟨a,ha,hg⟩:=hh;refine⟨?_,⟨jf d i,F3 hi,List.mem_of_getElem? hg⟩,by omega⟩;rcases(OO R).at_ (jf d i) (List.mem_of_getElem? (F3 hi)) (j:Int) (List.mem_of_getElem? hg) with h1 | h1
 ·omega
 ·have:=uM d;simp only[Gr.n] at this;omega
theorem Br{d:aB}(R:bg d){s ph:Nat}(hs:s < d.next.length)(hp:ph < 3){h:Int}{j:Nat} :
  yt d (3*s+ph) h j↔((0≤h∧2*h < d.signs)∧j=3*bN d s (2*h)+(if ph=0 then 1 else ph))∨(ph=1∧(0≤h∧2*h+1 < d.signs)∧j=3*bN d s (2*h+1)+2):=by
 constructor
 ·rintro⟨a,ha,hg⟩
  rw[FQ R hs hp a] at hg;split at hg
  ·rename_i hsg
   have hj:=Option.some.inj hg;unfold vW at hj;split at hj
   ·rename_i he
    have e:(a:Int)=2*h:=by omega
    left;rw[←e];refine⟨⟨by omega,hsg⟩,?_⟩;split at hj<;>rename_i uh
    ·rw[if_pos uh];omega
    ·rw[if_neg uh];omega
   ·rename_i ho
    have e:(a:Int)=2*h+1:=by omega
    split at hj
    ·rename_i uh
     right;rw[←e];exact⟨uh,⟨by omega,hsg⟩,by omega⟩
    ·omega
  ·cases hg
 ·rintro(⟨⟨h0,h1⟩,hj⟩ | ⟨uh,⟨h0,h1⟩,hj⟩)
  ·refine⟨(2*h).toNat,by omega,?_⟩
   have e:(((2*h).toNat:Nat):Int)=2*h:=by omega
   rw[FQ R hs hp,e,if_pos h1];unfold vW;rw[if_pos (by omega),hj];split<;>congr 1<;>omega
  ·refine⟨(2*h+1).toNat,by omega,?_⟩
   have e:(((2*h+1).toNat:Nat):Int)=2*h+1:=by omega
   rw[FQ R hs hp,e,if_pos h1];unfold vW;rw[if_neg (by omega),if_pos uh,hj];congr 1;omega
theorem Jf(q:Nat):∀(hs:List Int) (i:Nat),eP ((q+1:Nat):Int) (i+1) hs=eP (q:Int) i hs
 | [],i=>rfl
 | h::hs,i=>by
  have e:iK ((q+1:Nat):Int) (i+1)=iK (q:Int) i:=by
   unfold iK;by_cases hc:(i:Int)=q
   ·rw[if_pos hc,if_pos (by omega)]
   ·rw[if_neg hc,if_neg (by omega)]
  simp only[eP];rw[Jf q hs (i+1),e]
theorem TG:∀(hs:List Int) (i:Nat),eP 0 (i+1) hs=hs.map (2 * ·)
 | [],i=>rfl
 | h::hs,i=>by
  have e:iK 0 (i+1)=0:=by
   unfold iK;rw[if_neg (by omega)]
  simp only[eP,List.map_cons];rw[TG hs (i+1),e];congr 1;omega
theorem NK{d:aB}(R:bg d):∀(hs:List Int) (s:Nat),s < d.next.length→(Au d (3*s+2) hs↔yA d s (hs.map (2 * ·)))
 | [],s,hs=>by
  rw[MK,List.map_nil,ZkB];have e1:(3*s+2) % 3=2:=by omega
  have e2:(3*s+2) / 3=s:=by omega
  simp[qE,e1,e2]
 | h::l,s,hs=>by
  rw[MF,List.map_cons,Bo];constructor
  ·rintro⟨j,h1,h2⟩
   rcases(Br R hs (by omega)).mp h1 with⟨h3,hj⟩ | ⟨h3,_⟩
   ·rw[if_neg (by omega)] at hj
    subst hj;exact⟨⟨by omega,h3.2⟩,(NK R l _ (xP R hs (by omega) h3.2)).mp h2⟩
   ·omega
  ·rintro⟨h1,h2⟩
   exact⟨_,(Br R hs (by omega)).mpr (.inl ⟨⟨by omega,h1.2⟩,rfl⟩),by rw[if_neg (by omega)];exact(NK R l _ (xP R hs (by omega) h1.2)).mpr h2⟩
theorem NJ{d:aB}(R:bg d):∀(hs:List Int) (s:Nat),s < d.next.length→(Au d (3*s+1) hs↔∃q:Nat,q < hs.length∧yA d s (eP q 0 hs))
 | [],s,hs=>by
  rw[MK];have e1:(3*s+1) % 3=1:=by omega
  simp[qE,e1]
 | h::l,s,hs=>by
  rw[MF];constructor
  ·rintro⟨j,h1,h2⟩
   rcases(Br R hs (by omega)).mp h1 with⟨h3,hj⟩ | ⟨_,h3,hj⟩
   ·rw[if_neg (by omega)] at hj
    subst hj;obtain⟨q,q1,q2⟩:=(NJ R l _ (xP R hs (by omega) h3.2)).mp h2;refine⟨q+1,by simpa using q1,?_⟩;simp only[eP];rw[Jf,Bo];have e:iK ((q+1:Nat):Int) 0=0:=by unfold iK;rw[if_neg (by omega)]
    rw[e,Int.add_zero];exact⟨⟨by omega,h3.2⟩,q2⟩
   ·subst hj
    have:=(NK R l _ (xP R hs (by omega) h3.2)).mp h2;refine⟨0,by simp,?_⟩;simp only[eP];rw[Bo];have e:iK ((0:Nat):Int) 0=1:=by unfold iK;simp
    have e2:eP ((0:Nat):Int) (0+1) l=l.map (2 * ·):=TG l 0;rw[e,e2];exact⟨⟨by omega,h3.2⟩,this⟩
  ·rintro⟨q,q1,q2⟩
   cases q with
   | zero=>
    simp only[eP] at q2;have e:iK ((0:Nat):Int) 0=1:=by unfold iK;simp
    have e2:eP ((0:Nat):Int) (0+1) l=l.map (2 * ·):=TG l 0;rw[Bo,e,e2] at q2;exact⟨_,(Br R hs (by omega)).mpr (.inr ⟨rfl,⟨by omega,q2.1.2⟩,rfl⟩),(NK R l _ (xP R hs q2.1.1 q2.1.2)).mpr q2.2⟩
   | succ q=>
    simp only[eP] at q2;have e:iK ((q+1:Nat):Int) 0=0:=by unfold iK;rw[if_neg (by omega)]
    rw[Jf,Bo,e,Int.add_zero] at q2;refine⟨_,(Br R hs (by omega)).mpr (.inl ⟨⟨by omega,q2.1.2⟩,rfl⟩),?_⟩;rw[if_neg (by omega)];exact(NJ R l _ (xP R hs q2.1.1 q2.1.2)).mpr ⟨q,by simpa using q1,q2.2⟩
theorem Zr2{d:aB}(R:bg d)(hs:List Int){s:Nat}(h:s < d.next.length):Au d (3*s) hs↔∃q:Nat,1≤q∧q < hs.length∧yA d s (eP q 0 hs):=by
 have e0:3*s=3*s+0:=rfl;cases hs with
 | nil=>
  rw[MK];have e1:(3*s) % 3=0:=by omega
  simp[qE,e1]
 | cons x l=>
  rw[MF];constructor
  ·rintro⟨j,h1,h2⟩
   rw[e0] at h1;rcases(Br R h (by omega)).mp h1 with⟨h3,hj⟩ | ⟨h3,_⟩
   ·rw[if_pos rfl] at hj
    subst hj;obtain⟨q,q1,q2⟩:=(NJ R l _ (xP R h (by omega) h3.2)).mp h2;refine⟨q+1,by omega,by simpa using q1,?_⟩;simp only[eP];rw[Jf,Bo];have e:iK ((q+1:Nat):Int) 0=0:=by unfold iK;rw[if_neg (by omega)]
    rw[e,Int.add_zero];exact⟨⟨by omega,h3.2⟩,q2⟩
   ·omega
  ·rintro⟨q,q0,q1,q2⟩
   obtain⟨q,rfl⟩:∃p,q=p+1:=⟨q - 1,by omega⟩;simp only[eP] at q2;have e:iK ((q+1:Nat):Int) 0=0:=by unfold iK;rw[if_neg (by omega)]
   rw[Jf,Bo,e,Int.add_zero] at q2;refine⟨_,by rw[e0];exact(Br R h (by omega)).mpr (.inl ⟨⟨by omega,q2.1.2⟩,rfl⟩),?_⟩;rw[if_pos rfl];exact(NJ R l _ (xP R h q2.1.1 q2.1.2)).mpr ⟨q,by simpa using q1,q2.2⟩
def jE(d:aB)(far at_:List Int)(h:Nat)(left:Int):List Int:=
 at_.flatMap fun i=>(((jf d i.toNat).drop (2*h)).take 2).filter fun t=>(t != -1) && (rd far t.toNat == left)
theorem FV{d:aB}{far at_:List Int}{h:Nat}{left x:Int}(hx:∀i∈at_,∀t∈jf d i.toNat,-1≤t) :
  x∈jE d far at_ h left↔∃j:Nat,x=(j:Int)∧rd far j=left∧∃i∈at_,yt d i.toNat h j:=by
 simp only[jE,List.mem_flatMap,List.mem_filter,Bool.and_eq_true,bne_iff_ne,beq_iff_eq];constructor
 ·rintro⟨i,hi,hm,h1,h2⟩
  obtain⟨k,he⟩:=List.mem_iff_getElem?.mp hm
  have hk2:k < 2:=by
   by_cases hc:k < 2
   ·exact hc
   ·rw[List.getElem?_eq_none (by simp;omega)] at he;cases he
  rw[List.getElem?_take_of_lt hk2,List.getElem?_drop] at he;have hge:=hx i hi x (List.mem_of_getElem? he);refine⟨x.toNat,by omega,by simpa using h2,i,hi,2*h+k,by omega,?_⟩;rw[he];congr 1;omega
 ·rintro⟨j,rfl,h2,i,hi,a,ha,hg⟩
  refine⟨i,hi,?_,by omega,by simpa using h2⟩;refine List.mem_iff_getElem?.mpr ⟨a - 2*h,?_⟩;rw[List.getElem?_take_of_lt (by omega),List.getElem?_drop];have:2*h+(a - 2*h)=a:=by omega
  rw[this];exact hg
def vO(d:aB)(far at_:List Int)(h:Nat)(left:Int):List Int:=Lib.compact ((jE d far at_ h left).mergeSort fun x y=>decide (x≤y))
theorem Ms{d:aB}{far at_:List Int}{h:Nat}{left x:Int}:x∈vO d far at_ h left↔x∈jE d far at_ h left:=by
 rw[vO,ZfG,List.mem_mergeSort]
def kS(d:aB)(far at_:List Int)(left:Int):Nat:=(List.range (d.signs / 2).toNat).findIdx fun h=>!(jE d far at_ h left).isEmpty
def uE(d:aB)(far:List Int):Nat→List Int→List Int
 | 0,_=>[]
 | k+1,at_=>(kS d far at_ k:Int)::uE d far k (vO d far at_ (kS d far at_ k) k)
theorem IY(d:aB)(far:List Int):∀(k:Nat) (at_:List Int),(uE d far k at_).length=k
 | 0,_=>rfl
 | k+1,at_=>by simp[uE,IY d far k]
structure wW(d:aB)(far at_:List Int)(k:Nat):Prop where
 ne:at_≠[]
 rng:∀x∈at_,0≤x∧x < 3*d.next.length
 far:∀x∈at_,rd far x.toNat=(k:Int)
theorem wW.low{d:aB}(R:bg d){far at_:List Int}{k:Nat}(h:wW d far at_ k):∀i∈at_,∀t∈jf d i.toNat,-1≤t:=by
 intro i hi t ht;obtain⟨h0,h1⟩:=h.rng i hi;rcases(OO R).at_ (jf d i.toNat) (List.mem_of_getElem? (F3 (by omega))) t ht with h2 | h2<;>omega
theorem Zdp{n:Nat}{p:Nat→Bool}(h:∃i∈List.range n,p i=true):(List.range n).findIdx p < n∧p ((List.range n).findIdx p)=true∧∀i,i < (List.range n).findIdx p→p i=false:=by
 have hlt:(List.range n).findIdx p < (List.range n).length:=List.findIdx_lt_length_of_exists h;refine⟨by simpa using hlt,?_,fun i hi=>?_⟩
 ·have:=List.findIdx_getElem (xs:=List.range n) (p:=p) (w:=hlt)
  rw[List.getElem_range] at this;exact this
 ·have:=List.not_of_lt_findIdx (p:=p) (xs:=List.range n) (i:=i) hi
  rw[List.getElem_range] at this;simpa using this
theorem Jp{d:aB}(R:bg d)(hev:d.signs % 2=0){far:List Int}(fo:lV (pg d) far){at_:List Int}{k:Nat}(h:wW d far at_ (k+1)) :
  kS d far at_ k < (d.signs / 2).toNat∧jE d far at_ (kS d far at_ k) k≠[]∧∀h',h' < kS d far at_ k→jE d far at_ h' k=[]:=by
 obtain⟨x,hx⟩:=List.exists_mem_of_ne_nil _ h.ne;obtain⟨h0,h1⟩:=h.rng x hx;have hn:=uM d;obtain⟨t,t1,⟨row,r1,r2⟩,t3⟩:=fo.pre x.toNat (by omega) (by rw[h.far x hx];omega);rw[F3 (by omega)] at r1;cases r1;obtain⟨a,ha,he⟩:=List.mem_iff_getElem.mp r2
 have hlen:(jf d x.toNat).length=d.signs.toNat:=by
  have hs:x.toNat / 3 < d.next.length:=by omega
  have:=R.row _ hs;simp only[jf,J5,List.length_mapIdx,List.getD_eq_getElem?_getD,List.getElem?_eq_getElem hs,Option.getD_some];omega
 have hmem:(t:Int)∈jE d far at_ (a / 2) k:=(FV (h.low R)).mpr ⟨t,rfl,by rw[t3,h.far x hx];omega,x,hx,a,rfl,by rw[List.getElem?_eq_getElem ha,he]⟩
 have hex:∃h∈List.range (d.signs / 2).toNat,(fun h=>!(jE d far at_ h (k:Int)).isEmpty) h=true:=by
  refine⟨a / 2,List.mem_range.mpr (by omega),?_⟩;cases hq:jE d far at_ (a / 2) (k:Int) with
  | nil=>rw[hq] at hmem;simp at hmem
  | cons y ys=>simp[hq]
 obtain⟨q1,q2,q3⟩:=Zdp hex;refine⟨q1,fun e=>?_,fun h' hh'=>?_⟩
 ·have e':jE d far at_ ((List.range (d.signs / 2).toNat).findIdx fun h=>!(jE d far at_ h (k:Int)).isEmpty) k=[]:=e
  rw[e'] at q2;simp at q2
 ·have:=q3 h' hh'
  cases hq:jE d far at_ h' (k:Int) with
  | nil=>rfl
  | cons y ys=>simp[hq] at this
theorem wW.next{d:aB}(R:bg d){far:List Int}{at_:List Int}{k:Nat}(h:wW d far at_ (k+1)){hf:Nat}(hne:jE d far at_ hf k≠[]):wW d far (vO d far at_ hf k) k:=by
 have hm:∀x∈vO d far at_ hf k,∃j:Nat,x=(j:Int)∧rd far j=(k:Int)∧∃i∈at_,yt d i.toNat hf j:=fun x hx=>(FV (h.low R)).mp (Ms.mp hx)
 refine⟨fun e=>?_,fun x hx=>?_,fun x hx=>?_⟩
 ·obtain⟨y,hy⟩:=List.exists_mem_of_ne_nil _ hne
  have:=Ms.mpr hy;rw[e] at this;simp at this
 ·obtain⟨j,rfl,_,i,hi,hs⟩:=hm x hx
  have:=(FR R (by have:=h.rng i hi;omega) hs).1;omega
 ·obtain⟨j,rfl,hr,_⟩:=hm x hx
  simpa using hr
theorem ZgG{d:aB}(R:bg d)(hev:d.signs % 2=0){far:List Int}(fo:lV (pg d) far):∀(k:Nat) (at_:List Int),wW d far at_ k→∃u∈at_,Au d u.toNat (uE d far k at_)
 | 0,at_,h=>by
  obtain⟨x,hx⟩:=List.exists_mem_of_ne_nil _ h.ne;obtain⟨h0,h1⟩:=h.rng x hx;refine⟨x,hx,MK.mpr ?_⟩;rw[←UM (by omega)];exact(fo.zero x.toNat (by have:=uM d;omega)).mp (by simpa using h.far x hx)
 | k+1,at_,h=>by
  obtain⟨e1,e2,_⟩:=Jp R hev fo h;obtain⟨u',hu',hp⟩:=ZgG R hev fo k _ (h.next R e2);obtain⟨j,rfl,hr,i,hi,hs⟩:=(FV (h.low R)).mp (Ms.mp hu');exact⟨i,hi,by rw[uE,MF];exact⟨j,hs,by simpa using hp⟩⟩
theorem ZM{P:Nat→Prop}(h:∃n,P n):∃n,P n∧∀m,m < n→¬P m:=by
 obtain⟨n,hn⟩:=h;induction n using Nat.strongRecOn with
 | _ n ih=>
  by_cases hc:∃m,m < n∧P m
  ·obtain⟨m,h1,h2⟩:=hc;exact ih m h1 h2
  ·exact⟨n,hn,fun m h1 h2=>hc ⟨m,h1,h2⟩⟩
noncomputable def yB(d:aB):List Int:=qj (pg d)
noncomputable def jZ(d:aB):Bool:=fE d && (decide (d.signs % 2=0) && decide (0≤rd (yB d) 0))
noncomputable def jK(d:aB):List Int:=if jZ d=true then uE d (yB d) (rd (yB d) 0).toNat [0] else []
structure zU(d:aB)(s:List Int)(p:Nat):Prop where
 lo:1≤p
 hi:p < s.length
 acc:lg d (bT s p)=true
 fst:∀q:Nat,1≤q→q < p→lg d (bT s q)=false
theorem zU.uniq{d:aB}{s:List Int}{p q:Nat}(h:zU d s p)(k:zU d s q):p=q:=by
 rcases Nat.lt_trichotomy p q with h1 | h1 | h1
 ·have:=k.fst p h.lo h1;rw[h.acc] at this;cases this
 ·exact h1
 ·have:=h.fst q k.lo h1;rw[k.acc] at this;cases this
theorem Y6{d:aB}(R:bg d)(q:Int):∀(hs:List Int) (i s:Nat),s < d.next.length→yA d s (eP q i hs)→hs.any ql=false
 | [],i,s,hs,h=>rfl
 | x::hs,i,s,hlt,h=>by
  simp only[eP] at h;rw[Bo] at h;obtain⟨⟨h1,h2⟩,h3⟩:=h;have ho:iK q i=0∨iK q i=1:=by unfold iK;split<;>simp
  have:=R.s2;have ih:=Y6 R q hs (i+1) _ (xP R hlt h1 h2) h3;rw[List.any_cons,ih];simp[ql];omega
theorem Zme{d:aB}(R:bg d)(l:List Int):lg d l=true↔yA d 0 l:=ZkA R l
theorem Zke{d:aB}(R:bg d){hs:List Int}{q:Nat}(h1:1≤q)(h2:q < hs.length)(h:yA d 0 (eP q 0 hs)):bT hs q=eP q 0 hs:=by
 have:=Y6 R q hs 0 0 (by have:=R.n1;omega) h;unfold bT;rw[if_pos ⟨by omega,by omega,this⟩]
theorem Sm{d:aB}(R:bg d)(hev:d.signs % 2=0):jZ d=true↔0≤rd (yB d) 0:=by
 have hr:fE d=true:=(wQ d).mpr R;simp[jZ,hr,hev]
theorem U2{d:aB}(R:bg d)(h:0≤rd (yB d) 0):wW d (yB d) [0] (rd (yB d) 0).toNat:=by
 have:=R.n1;exact⟨by simp,by simp;omega,by simp;omega⟩
theorem YS{d:aB}(R:bg d)(hev:d.signs % 2=0)(hok:jZ d=true):∃p,zU d (jK d) p:=by
 have fo:=Ju (pg d);have h0:=(Sm R hev).mp hok;have hn:0 < d.next.length:=by have:=R.n1;omega
 obtain⟨u,hu,hp⟩:=ZgG R hev fo _ _ (U2 R h0);have:u=0:=by simpa using hu
 subst this;obtain⟨q,q1,q2,q3⟩:=(Zr2 R _ hn).mp hp;have hS:jK d=uE d (qj (pg d)) (rd (yB d) 0).toNat [0]:=by unfold jK;rw[if_pos hok];rfl
 rw[←hS] at q2 q3;have hw:=Zke R q1 q2 q3;obtain⟨p,⟨p1,p2⟩,p3⟩:=ZM (P:=fun p=>1≤p∧lg d (bT (jK d) p)=true) ⟨q,q1,by rw[hw,Zme R];exact q3⟩
 have hpq:p≤q:=by
  by_cases h:p≤q
  ·exact h
  ·exact(p3 q (by omega) ⟨q1,by rw[hw,Zme R];exact q3⟩).elim
 refine⟨p,p1,by omega,p2,fun q h1 h2=>?_⟩;have:=p3 q h2;cases hb:lg d (bT (jK d) q) with
 | false=>rfl
 | true=>exact(this ⟨h1,hb⟩).elim
end Go.Rf
namespace Go.Rf
open Go.RowKit
theorem Zmf{d:aB}(R:bg d)(l:List Int):lg d l=true↔Vl d l∧jL d (runT d 0 l)=true:=by
 have hr:fE d=true:=(wQ d).mpr R;unfold lg sI;rw[if_pos hr];by_cases hl:Vl d l
 ·rw[Zw l 0 hl]
  constructor
  ·intro h;exact⟨hl,h⟩
  ·intro h;exact h.2
 ·rw[YL l 0 hl]
  constructor
  ·intro h;cases h
  ·intro h;exact(hl h.1).elim
def vL(n:Int)(l:List Int):Prop:=∀x∈l,0≤x∧x < n
theorem vL.take{n:Int}{l:List Int}(h:vL n l)(k:Nat):vL n (l.take k):=fun x hx=>h x (List.mem_of_mem_take hx)
theorem vL.drop{n:Int}{l:List Int}(h:vL n l)(k:Nat):vL n (l.drop k):=fun x hx=>h x (List.mem_of_mem_drop hx)
structure x9(d:aB)(n:Int)(F:List Int→Nat→Bool):Prop where
 R:bg d
 s:d.signs=2*n
 acc:∀w,Vl d w→(jL d (runT d 0 w)=true↔∃l p,vL n l∧1≤p∧p < l.length∧w=eP (p:Nat) 0 l∧F l p=true)
theorem Zqx{l m:List Int}{p q:Nat}(hp:p < l.length)(h:eP (p:Nat) 0 l=eP (q:Nat) 0 m):l=m∧p=q:=by
 have hl:l.length=m.length:=by have:=congrArg List.length h;rwa[qW,qW] at this
 have key:∀k (h1:k < l.length) (h2:k < m.length),2*l[k]+iK p k=2*m[k]+iK q k:=by
  intro k h1 h2;have e1:=Jw (p:Int) l 0 k h1 (by rw[qW];exact h1);have e2:=Jw (q:Int) m 0 k h2 (by rw[qW];exact h2);have:(eP (p:Int) 0 l)[k]'(by rw[qW];exact h1)=(eP (q:Int) 0 m)[k]'(by rw[qW];exact h2):=by simp only[h]
  rw[e1,e2] at this;simpa using this
 have one:∀(r k:Nat),iK (r:Int) k=0∨iK (r:Int) k=1:=fun r k=>by unfold iK;split<;>simp
 refine⟨List.ext_getElem hl fun k h1 h2=>?_,?_⟩
 ·have:=key k h1 h2
  rcases one p k with a | a<;>rcases one q k with b | b<;>rw[a,b] at this<;>omega
 ·have:=key p hp (by omega)
  have hpp:iK (p:Int) p=1:=by simp[iK]
  rw[hpp] at this;rcases one q p with b | b
  ·rw[b] at this;omega
  ·unfold iK at b
   split at b
   ·omega
   ·omega
section
variable{b a:aB}
end
theorem Zmb{n:Int}{l:List Int}{p:Nat}(hp:p < l.length):(∀x∈eP (p:Nat) 0 l,0≤x∧x < 2*n)↔vL n l:=by
 constructor
 ·intro h x hx
  obtain⟨k,hk,rfl⟩:=List.mem_iff_getElem.mp hx;have e:=Jw (p:Int) l 0 k hk (by rw[qW];exact hk);have:=h _ (List.getElem_mem (l:=eP (p:Int) 0 l) (n:=k) (by rw[qW];exact hk));rw[e] at this;have ho:iK (p:Int) (0+k)=0∨iK (p:Int) (0+k)=1:=by unfold iK;split<;>simp
  rcases ho with o | o<;>rw[o] at this<;>omega
 ·intro h x hx
  obtain⟨k,hk,rfl⟩:=List.mem_iff_getElem.mp hx;rw[qW] at hk;rw[Jw (p:Int) l 0 k hk];have ho:iK (p:Int) (0+k)=0∨iK (p:Int) (0+k)=1:=by unfold iK;split<;>simp
  have:=h _ (List.getElem_mem hk);rcases ho with o | o<;>rw[o]<;>omega
namespace x9
theorem congr{d:aB}{n:Int}{F G:List Int→Nat→Bool}(h:x9 d n F)(hf:∀l p,vL n l→1≤p→p < l.length→F l p=G l p):x9 d n G:=by
 refine⟨h.R,h.s,fun w hw=>(h.acc w hw).trans ⟨?_,?_⟩⟩
 ·rintro⟨l,p,a1,a2,a3,a4,a5⟩;exact⟨l,p,a1,a2,a3,a4,by rw[←hf l p a1 a2 a3];exact a5⟩
 ·rintro⟨l,p,a1,a2,a3,a4,a5⟩;exact⟨l,p,a1,a2,a3,a4,by rw[hf l p a1 a2 a3];exact a5⟩
theorem vl{d:aB}{n:Int}{F:List Int→Nat→Bool}(h:x9 d n F){l:List Int}{p:Nat}(hp:p < l.length)(hl:vL n l):Vl d (eP (p:Nat) 0 l):=fun x hx=>by
 have:=(Zmb hp).mpr hl x hx;rw[h.s];exact this
theorem fin{d:aB}{n:Int}{F:List Int→Nat→Bool}(h:x9 d n F){l:List Int}{p:Nat}(h1:1≤p)(hp:p < l.length)(hl:vL n l):jL d (runT d 0 (eP (p:Nat) 0 l))=F l p:=by
 have:=h.acc _ (h.vl hp hl);cases hF:F l p with
 | true=>exact this.mpr ⟨l,p,hl,h1,hp,rfl,hF⟩
 | false=>
  cases hb:jL d (runT d 0 (eP (p:Nat) 0 l)) with
  | false=>rfl
  | true=>
   obtain⟨m,q,a1,a2,a3,a4,a5⟩:=this.mp hb;obtain⟨rfl,rfl⟩:=Zqx hp a4;rw[hF] at a5;cases a5
theorem least{d:aB}{n:Int}{F:List Int→Nat→Bool}(h:x9 d n F):x9 (sD d) n F:=
 ⟨(ZL h.R).1,h.s,fun w hw=>by rw[Zjd h.R w hw];exact h.acc w hw⟩
theorem n1{d:aB}{n:Int}{F:List Int→Nat→Bool}(h:x9 d n F):1≤n∧n≤200:=by
 have:=h.R.s1;have:=h.R.s2;have:=h.s;omega
end x9
def ug(d:aB)(l:List Int)(p:Int):Bool:=decide (0 < (bT l p).length) && lg d (bT l p)
theorem Zoy{n:Int}(hn:n≤200){l:List Int}(h:vL n l):l.any ql=false:=by
 rw[List.any_eq_false];intro x hx;have:=h x hx;simp[ql];omega
theorem x9.at_{d:aB}{n:Int}{F:List Int→Nat→Bool}(h:x9 d n F){l:List Int}(hl:vL n l)(p:Int):ug d l p=(decide (1≤p∧p < l.length) && F l p.toNat):=by
 unfold ug bT;by_cases hp:1≤p∧p < l.length
 ·rw[if_pos ⟨hp.1,hp.2,Zoy h.n1.2 hl⟩]
  obtain⟨q,rfl⟩:∃q:Nat,p=q:=⟨p.toNat,by omega⟩
  have e:lg d (eP (q:Nat) 0 l)=F l q:=by
   have hv:=h.vl (p:=q) (by omega) hl;have hf:=h.fin (p:=q) (by omega) (by omega) hl;cases hF:F l q with
   | true=>exact(Zmf h.R _).mpr ⟨hv,by rw[hf];exact hF⟩
   | false=>
    cases hb:lg d (eP (q:Nat) 0 l) with
    | false=>rfl
    | true=>have:=((Zmf h.R _).mp hb).2;rw[hf,hF] at this;cases this
  rw[e,qW];have h1:decide (0 < l.length)=true:=by simp;omega
  have h2:decide (1≤(q:Int)∧(q:Int) < l.length)=true:=by simp;omega
  rw[h1,h2];rfl
 ·rw[if_neg (fun h=>hp ⟨h.1,h.2.1⟩)]
  have h2:decide (1≤p∧p < (l.length:Int))=false:=by simpa using hp
  rw[h2];rfl
end Go.Rf
namespace Go.Rf
open Go.RowKit
attribute [local simp] jv jk jX jO jG jY jP jI kF jW jN bZ gL eu fq gH d9 fI gI gy eT gD eB fO gG fM dG dJ dZ eX iq iw fG iy fC fB fu dD gT gU gV fJ fK iC gJ fU gZ gW gY gX ig iD fZ iA fP fQ gM iB dh dF fD gu iE ex aj fA cO dO bJ bO aD bE dX eU dn gP gQ gN gK fV bI cZ dw eD eF fF dN bY bM dz bX dP dA dH eO eG eH dY bW dQ cK cB aY AV.solid S0 ak aG
def ZqV(n:Nat)(I:Nat→AF→St→Prop)(k:Nat):AF→St→Prop:=fun f S=>k < n∧I (k+1) f S
theorem z8{P:Program}{x:AC}{Q:Exit→AF→St→Prop}{f:AF}{S:St}(n:Nat)(I:Nat→AF→St→Prop)(h0:I 0 f S)(h:∀k f S,k≤n→I k f S→AW P x (iW (ZqV n I k) Q) f S):AW P (.loop x) Q f S:=by
 refine kD (fun m f S=>∃k,k≤n∧m=n - k∧I k f S) n ⟨0,by omega,by omega,h0⟩ ?_;rintro m f S ⟨k,hk,rfl,hi⟩;refine xQ _ (fun e a S' hq=>?_) (h k f S hk hi);cases e<;>simp only[iW] at hq ⊢<;>first | exact hq | skip
 obtain⟨h1,h2⟩:=hq;exact⟨n - (k+1),by omega,k+1,by omega,rfl,h2⟩
def Rl:AC:= (sq [ro 4 (.mv (ci 0))] (.seq (sq [rm 6 0,ro 7 (.len (.t 6)),ro 8 (.mv (ci 0))] (.block 0 (.loop (sq [ro 9 (.bin .lss (.t 8) (.t 7))] (.seq (.cond (.t 9) .skip (.exit 0)) (.seq (.block 1 (sq [rm 10 8,rm 5 10] (sq [rm 11 1,rm 12 0,rm 13 5,ro 14 (.aI 1 (.t 12) (.t 13)),rL 15 14,ro 16 (.bin .eql (.t 11) (.t 15))] (.cond (.t 16) (sq [rm 17 5,rm 4 17] .ret) .skip)))) (.reg none [ro 18 (.bin .add (.t 8) (ci 1)),rm 8 18]))))))) (sq [ro 4 (.mv (ci (-1)))] .ret)))
def Rk(P2t:FuncId):AC:= (sq [ro 4 (.mv (.c (.v (.bool false))))] (sq [rm 5 0,rm 6 1,rk 7 P2t [(.t 5),(.t 6)],ro 8 (.bin .geq (.t 7) (ci 0)),rm 4 8] .ret))
def L8:AC:= (sq [ro 4 (.mv (.c (.v (.bool false))))] (.seq (sq [rm 6 0,ro 7 (.len (.t 6)),rm 8 1,ro 9 (.len (.t 8)),ro 10 (.bin .neq (.t 7) (.t 9))] (.cond (.t 10) (sq [ro 4 (.mv (.c (.v (.bool false))))] .ret) .skip)) (.seq (sq [rm 11 0,ro 12 (.len (.t 11)),ro 13 (.mv (ci 0))] (.block 0 (.loop (sq [ro 14 (.bin .lss (.t 13) (.t 12))] (.seq (.cond (.t 14) .skip (.exit 0)) (.seq (.block 1 (sq [rm 15 13,rm 5 15] (.seq (.reg (some []) [rm 16 0,rm 17 5,ro 18 (.aI 1 (.t 16) (.t 17)),rL 19 18,rm 20 1,rm 21 5,ro 22 (.aI 1 (.t 20) (.t 21)),rL 23 22,ro 24 (.bin .neq (.t 19) (.t 23))]) (.cond (.t 24) (sq [ro 4 (.mv (.c (.v (.bool false))))] .ret) .skip)))) (.reg none [ro 25 (.bin .add (.t 13) (ci 1)),rm 13 25]))))))) (sq [ro 4 (.mv (.c (.v (.bool true))))] .ret))))
def Yl:AC:= (sq [ro 4 (.mv (.c (.v (.bool false))))] (.seq (sq [ro 5 (.mv (ci 0))] (.block 0 (.loop (.seq (sq [rm 6 5,rm 7 0,ro 8 (.len (.t 7)),ro 9 (.bin .lss (.t 6) (.t 8))] (.cond (.t 9) .skip (.exit 0))) (.seq (.block 1 (sq [rm 12 0,rm 13 5,ro 14 (.aI 1 (.t 12) (.t 13)),rL 15 14,rm 16 1,ro 17 (.bin .eql (.t 15) (.t 16))] (.cond (.t 17) (sq [ro 4 (.mv (.c (.v (.bool true))))] .ret) .skip))) (.reg none [rm 10 5,ro 11 (.bin .add (.t 10) (ci 1)),rm 5 11])))))) (sq [ro 4 (.mv (.c (.v (.bool false))))] .ret)))
def Z8r(wJ:FuncId):AC:= (sq [ro 4 (.mv (.c (.v (.bool false))))] (.seq (sq [rm 6 0,ro 7 (.len (.t 6)),rm 8 1,ro 9 (.len (.t 8)),ro 10 (.bin .neq (.t 7) (.t 9))] (.cond (.t 10) (sq [ro 4 (.mv (.c (.v (.bool false))))] .ret) .skip)) (.seq (sq [ro 5 (.mv (ci 0))] (.block 0 (.loop (.seq (sq [rm 11 5,rm 12 0,ro 13 (.len (.t 12)),ro 14 (.bin .lss (.t 11) (.t 13))] (.cond (.t 14) .skip (.exit 0))) (.seq (.block 1 (.seq (.reg (some []) [rm 17 0,rm 18 5,ro 19 (.aI 1 (.t 17) (.t 18)),rL 20 19,rm 21 1,rm 22 5,ro 23 (.aI 1 (.t 21) (.t 22)),rL 24 23,rk 25 wJ [(.t 20),(.t 24)],ro 26 (.un .not (.t 25))]) (.cond (.t 26) (sq [ro 4 (.mv (.c (.v (.bool false))))] .ret) .skip))) (.reg none [rm 15 5,ro 16 (.bin .add (.t 15) (ci 1)),rm 5 16])))))) (sq [ro 4 (.mv (.c (.v (.bool true))))] .ret))))
def MG(Ie xH xG:FuncId):AC:= (sq [ro 2 (.mv (.c (.sl true [])))] (sq [rm 3 0,rk 4 Ie [(.t 3)],rm 0 4] (sq [rm 5 0,rk 6 xH [(.t 5)]] (sq [rm 7 0,rk 8 xG [(.t 7)],rm 2 8] .ret))))
def FB(pV P2s:FuncId):AC:= (sq [ro 6 (.mv (.c (.v (.bool false))))] (sq [rm 7 0,ro 8 (.len (.t 7)),ro 9 (.bin .eql (.t 8) (ci 0)),rm 10 9,rg 11 10 false (.mv (.t 0)),rg 12 10 false (.aI 1 (.t 11) (ci 0)),rg 13 10 false (.load none (.t 12)),rg 14 10 false (.mv (.t 1)),rg 15 10 false (.bin .geq (.t 13) (.t 14)),rg 16 10 false (.mv (.t 15)),rg 17 16 true (.mv (.t 0)),rg 18 16 true (.mv (.t 0)),rg 19 16 true (.len (.t 18)),rg 20 16 true (.bin .sub (.t 19) (ci 1)),rg 21 16 true (.aI 1 (.t 17) (.t 20)),rg 22 16 true (.load none (.t 21)),rg 23 16 true (.mv (.t 2)),rg 24 16 true (.bin .lss (.t 22) (.t 23)),rg 25 10 false (.pick (.t 16) (.t 24) (.c (.v (.bool false)))),rg 26 10 false (.mv (.t 25)),rg 27 26 true (.mv (.t 0)),rg 28 26 true (.mv (.t 0)),rl 29 26 true pV [(.t 28)],rl 30 26 true P2s [(.t 27),(.t 29)],rg 31 10 false (.pick (.t 26) (.t 30) (.c (.v (.bool false)))),ro 32 (.pick (.t 10) (.c (.v (.bool true))) (.t 31)),rm 6 32] .ret))
def Z7O:AC:= (sq [ro 6 (.mv (.c (.v (.bool false))))] (.seq (sq [ro 7 (.mv (ci 0))] (.block 0 (.loop (.seq (sq [rm 8 7,rm 9 0,ro 10 (.len (.t 9)),ro 11 (.bin .lss (.t 8) (.t 10))] (.cond (.t 11) .skip (.exit 0))) (.seq (.block 1 (.seq (.reg (some []) [rm 14 0,rm 15 7,ro 16 (.aI 1 (.t 14) (.t 15)),rL 17 16,rm 18 1,ro 19 (.bin .lss (.t 17) (.t 18)),rm 20 19,rg 21 20 false (.mv (.t 0)),rg 22 20 false (.mv (.t 7)),rg 23 20 false (.aI 1 (.t 21) (.t 22)),rg 24 20 false (.load none (.t 23)),rg 25 20 false (.mv (.t 2)),rg 26 20 false (.bin .geq (.t 24) (.t 25)),ro 27 (.pick (.t 20) (.c (.v (.bool true))) (.t 26)),rm 28 27,rg 29 28 false (.mv (.t 7)),rg 30 28 false (.bin .gtr (.t 29) (ci 0)),rg 31 28 false (.mv (.t 30)),rg 32 31 true (.mv (.t 0)),rg 33 31 true (.mv (.t 7)),rg 34 31 true (.bin .sub (.t 33) (ci 1)),rg 35 31 true (.aI 1 (.t 32) (.t 34)),rg 36 31 true (.load none (.t 35)),rg 37 31 true (.mv (.t 0)),rg 38 31 true (.mv (.t 7)),rg 39 31 true (.aI 1 (.t 37) (.t 38)),rg 40 31 true (.load none (.t 39)),rg 41 31 true (.bin .geq (.t 36) (.t 40)),rg 42 28 false (.pick (.t 31) (.t 41) (.c (.v (.bool false)))),ro 43 (.pick (.t 28) (.c (.v (.bool true))) (.t 42))]) (.cond (.t 43) (sq [ro 6 (.mv (.c (.v (.bool false))))] .ret) .skip))) (.reg none [rm 12 7,ro 13 (.bin .add (.t 12) (ci 1)),rm 7 13])))))) (sq [ro 6 (.mv (.c (.v (.bool true))))] .ret)))
theorem Zlo(l:List Int)(x:Int):l.any (fun y=>x == y)=l.contains x:=by
 rw[Bool.eq_iff_iff];simp
def ixI(l:List Int)(x:Int)(i:Nat)(f:AF)(S:St):Prop:=f 8=ak i∧f 7=ak l.length∧f 0=au l∧f 1=ak x∧∀k (h:k < l.length),k < i→l[k]≠x
theorem Zac{P:Program}(l:List Int)(x:Int)(hl:Len l):AW P Rl (bR [4] (dx (ak (tV (fun y=>x == y) l)))) (bC [au l,ak x]) S0:=by
 unfold Len at hl;simp[Rl,au];refine z8 l.length (ixI l x) ?_ ?_
 ·refine⟨?_,?_,?_,?_,by omega⟩<;>simp[aj,bJ,bO,ak,au]
 ·rintro i f S hi ⟨e8,e7,e0,e1,hq⟩
  by_cases hlt:i < l.length
  ·by_cases hb:x=l[i]
   ·have hi2:tV (fun y=>x == y) l=i:=by
     have h1:l.any (fun y=>x == y)=true:=List.any_eq_true.mpr ⟨_,List.getElem_mem hlt,by simp[hb]⟩;have h2:l.findIdx (fun y=>x == y)=i:=(List.findIdx_eq hlt).mpr ⟨by simp[hb],fun j hj=>by have:=hq j (by omega) hj;simp;exact fun e=>this e.symm⟩;simp[tV,h1,h2]
    have hb2:(x == l[i])=true:=by simp[hb]
    simp[e8,e7,e0,e1,hlt,au,hb2];simp[hi2];exact vv _ _
   ·have hb2:(x == l[i])=false:=by simp[hb]
    simp[e8,e7,e0,e1,hlt,au,hb2];rw[aZ _ (by omega)];refine⟨hlt,?_,?_,?_,?_,fun k h hk=>?_⟩
    ·simp[aj,ak]
    ·simp[aj,e7]
    ·simp[aj,e0]
    ·simp[aj,e1]
    ·by_cases hki:k=i
     ·subst hki;exact fun e=>hb e.symm
     ·exact hq k h (by omega)
  ·have hi2:tV (fun y=>x == y) l = -1:=by
    have h1:l.any (fun y=>x == y)=false:=by
     rw[List.any_eq_false];intro y hy;obtain⟨k,hk,rfl⟩:=List.mem_iff_getElem.mp hy;have:=hq k hk (by omega);simp;exact fun e=>this e.symm
    simp[tV,h1]
   simp[e8,e7,hlt,hi2];exact vv _ _
theorem Z8B{P:Program}{fi:FuncId}(l:List Int)(x:Int)(h:aM P fi [au l,ak x] (ak (tV (fun y=>x == y) l))):AW P (Rk fi) (bR [4] (dx (aG (l.contains x)))) (bC [au l,ak x]) S0:=by
 simp[Rk];refine aQ.pure h (aR (bD _) (aR (aX _) bB)) (aX _) ?_;simp;have e:decide (x∈l)=decide (0≤tV (fun y=>x == y) l):=by rw[YE,Zlo];simp
 rw[e];exact iF _ _
def eqI(a b:List Int)(i:Nat)(f:AF)(S:St):Prop:=f 13=ak i∧f 12=ak a.length∧f 0=au a∧f 1=au b∧a.take i=b.take i
theorem Zab{P:Program}(a b:List Int)(ha:Len a)(hb:Len b):AW P L8 (bR [4] (dx (aG (a == b)))) (bC [au a,au b]) S0:=by
 unfold Len at ha hb;by_cases hl:a.length=b.length
 ·simp[L8,au,hl]
  refine z8 a.length (eqI a b) ?_ ?_
  ·refine⟨?_,?_,?_,?_,?_⟩<;>simp[aj,bJ,bO,ak,au,hl]
  ·rintro i f S hi ⟨e13,e12,e0,e1,hp⟩
   by_cases hlt:i < a.length
   ·have hlb:i < b.length:=by omega
    by_cases he:a[i]=b[i]
    ·simp[e13,e12,e0,e1,au,hlt,hlb,he]
     rw[aZ _ (by omega)];refine⟨hlt,?_,?_,?_,?_,?_⟩<;>try simp[aj,e12,e0,e1,ak,au]
     rw[List.take_add_one,List.take_add_one,hp,List.getElem?_eq_getElem hlt,List.getElem?_eq_getElem hlb,he]
    ·have hr:(a == b)=false:=beq_false_of_ne (by rintro rfl;exact he rfl)
     have hc:(a[i] != b[i])=true:=by simp[he]
     simp[e13,e12,e0,e1,au,hlt,hlb,hc,hr];exact iF false _
   ·have hab:a=b:=by
     rw[List.take_of_length_le (by omega),List.take_of_length_le (by omega)] at hp;exact hp
    have hr:(a == b)=true:=by simp[hab]
    simp[e13,e12,hlt,hr];exact iF true _
 ·have hr:(a == b)=false:=beq_false_of_ne (by rintro rfl;exact hl rfl)
  have hc:((a.length:Int) != b.length)=true:=by simp;omega
  simp[L8,au,hc,hr];exact iF false _
structure ZrJ(P:Program)(fc fs fm:FuncId):Prop where
 clone:wH P fc (qx 1 8 (.v (.int .i64 0))) [.t 2] 1
 sort:Ak P fs
 comp:Aj P fm
 CQ:aM P fs [.sl true []] (.aL [])
 CP:aM P fm [.sl true []] (.sl true [])
theorem Zev{P:Program}{fc fs fm:FuncId}(H:ZrJ P fc fs fm)(l:List Int)(hl:l.length≤17592186043904):AW P (MG fc fs fm) (bR [2] (dx (au (jm l)))) (bC [au l]) S0:=by
 have hm:(l.mergeSort fun x y=>decide (x≤y)).length=l.length:=List.length_mergeSort _;by_cases h0:l=[]
 ·subst h0
  have hs0:jm []=[]:=List.eq_nil_of_length_eq_zero (by have:=TF [];simpa using this);rw[hs0];simp[MG,au];refine H.clone rfl ?_;have hb:cZ 1 0 (.v (.int .i64 0)) []=some (.sl true []):=RN _ _
  have hr:∀n aA,(jC 1 8 (.sl true []) (.sl false [])).run ⟨n,fun _=>none⟩ aA=some (.sl true [],⟨n,fun _=>none⟩):=by
   intro n aA;simp[jC,kK,AV.jA,Eff.run,St.dV,St.iG,eY]
  simp[qx,hr];refine⟨[.sl true []],by simp[iJ,RV.ev,aj],?_⟩;simp[iO];refine aQ.pure H.CQ (aR (.sl _ _ (by simp)) bB) (.aL _ (by simp)) ?_;simp;refine aQ.pure H.CP (aR (.sl _ _ (by simp)) bB) (.sl _ _ (by simp)) ?_;simp;exact .loose true [] (.sl _ _ (by simp))
 ·have hne:0 < l.length:=List.length_pos_iff.mpr h0
  have hls:=List.length_mergeSort l (le:=fun x y=>decide (x≤y))
  have hne2:(l.mergeSort fun x y=>decide (x≤y))≠[]:=by
   intro e;rw[e] at hm;simp at hm;omega
  simp[MG,au];refine H.clone rfl ?_;have hb:cZ 1 0 (.v (.int .i64 0)) []=some (.sl true []):=RN _ _
  have hr:∀n aA,(jC 1 8 (.sl true []) (.sl false (l.map ak))).run ⟨n,fun _=>none⟩ aA=some (.own aA 0 l.length,(⟨n,fun _=>none⟩:St).set aA (some (.arr 1 (l.map ak)))):=by
   intro n aA;have hc:=xS l;have ha:eY 8 0 l.length:=by unfold eY;omega
   have hc2:∀x∈l.map ak,x.cells.length=1:=hc;have h3:kK 1 [] (.sl false (l.map ak))=some (l.map ak):=by simp only[kK];rw[if_pos hc2]
   have h4:¬(l.map ak).length=0:=by simp;exact h0
   simp only[jC,Eff.run,AV.jA,List.mapM_nil,Option.pure_def,h3,Option.bind_some,List.length_nil,Nat.zero_add,List.length_map,ha,and_true];rw[if_pos (by simp),if_neg (by simpa using h0)];simp[St.dV,St.iG]
  simp[qx,hr];refine⟨[.own 9 0 l.length],by simp[iJ,RV.ev,aj],?_⟩;simp[iO];refine H.sort _ _ 0 (l.map ak) l _ (by simp[aD]) (by simp) h0 hl ?_;simp;have e:l.length=(l.mergeSort fun x y=>decide (x≤y)).length:=hm.symm;rw[e];refine H.comp _ _ 0 ((l.mergeSort fun x y=>decide (x≤y)).map ak) _ _ (by simp[aD]) (by simp) hne2 (by omega) ?_;simp;exact(Vec.mk' (es:=1) (xs:=(jm l).map ak) (by simp[aD,jm]) (by simp[jm])).fz aX
theorem Zdy{P:Program}{fs fe:FuncId}(l:List Int)(a b:Int)(hl:l.length≤17592186043904)(h1:aM P fs [au l] (au (jm l)))(h2:∀x y,Len x→Len y→aM P fe [au x,au y] (aG (x == y))) :
  AW P (FB fs fe) (bR [6] (dx (aG (qc l a b)))) (bC [au l,ak a,ak b]) S0:=by
 by_cases h0:l=[]
 ·subst h0
  simp[FB,au];exact iF _ _
 ·have hne:0 < l.length:=List.length_pos_iff.mpr h0
  have hn:((l.length:Int) == 0)=false:=by simp;exact h0
  have hf:l[0]? = some l[0]:=List.getElem?_eq_getElem hne;have hx:l[l.length - 1]? = some l[l.length - 1]:=List.getElem?_eq_getElem (by omega);have hw:=aZ ((l.length:Int) - 1) (by omega);have hnn:(1:Int)≤(l.length:Int):=by omega
  by_cases hA:a≤l[0]
  ·by_cases hB:l[l.length - 1] < b
   ·have c1:=aR (bD l) bB
    have c2:=aR (bD l) (aR (bD (jm l)) bB);have k2:=h2 l (jm l) (by unfold Len;omega) (by unfold Len;have:=TF l;omega);have c3:=bD (jm l);simp only[au] at c1 c2 c3 h1 k2;simp[FB,au,hn,hf,hA,hw,hnn,hx,hB];refine aQ.pure h1 c1 c3 ?_;simp;refine aQ.pure k2 c2 (cu _) ?_;simp
    have e:(l == jm l)=qc l a b:=by
     rw[Bool.eq_iff_iff,C8,beq_iff_eq];constructor
     ·intro h
      have hp:=Zx.mp h.symm;refine⟨hp,fun x hx=>?_⟩;obtain⟨k,hk,rfl⟩:=List.mem_iff_getElem.mp hx;have hpw:=List.pairwise_iff_getElem.mp hp;constructor
      ·by_cases e:k=0
       ·subst e;exact hA
       ·have:=hpw 0 k hne hk (by omega);omega
      ·by_cases e:k=l.length - 1
       ·subst e;exact hB
       ·have:=hpw k (l.length - 1) hk (by omega) (by omega);omega
     ·intro h;exact(Zx.mpr h.1).symm
    rw[e];exact iF _ _
   ·have e:qc l a b=false:=by
     cases hr:qc l a b with
     | false=>rfl
     | true=>exact(hB ((C8.mp hr).2 _ (List.getElem_mem (by omega))).2).elim
    simp[FB,au,hn,hf,hA,hw,hnn,hx,hB,e];exact iF _ _
  ·have e:qc l a b=false:=by
    cases hr:qc l a b with
    | false=>rfl
    | true=>exact(hA ((C8.mp hr).2 _ (List.getElem_mem hne)).1).elim
   simp[FB,au,hn,hf,hA,e];exact iF _ _
def Ta(IB:FuncId):AC:= (.block 0 (.loop (sq [ro 48 (.bin .lss (.t 47) (.t 46))] (.seq (.cond (.t 48) .skip (.exit 0)) (.seq (.block 1 (sq [rm 49 47,rm 4 49] (.seq (.reg (some []) [rF 50 1 1,rL 51 50,rm 52 4,ro 53 (.aI 1 (.t 51) (.t 52)),rL 54 53,rF 55 0 1,rL 56 55,rk 57 IB [(.t 54),(ci 0),(.t 56)],ro 58 (.un .not (.t 57)),rm 59 58,rg 60 59 false (.bV 2 (.t 1)),rg 61 59 false (.load none (.t 60)),rg 62 59 false (.mv (.t 4)),rg 63 59 false (.aI 1 (.t 61) (.t 62)),rg 64 59 false (.load none (.t 63)),rg 65 59 false (.mv (.t 3)),rl 66 59 false IB [(.t 64),(ci 1),(.t 65)],rg 67 59 false (.un .not (.t 66)),ro 68 (.pick (.t 59) (.c (.v (.bool true))) (.t 67))]) (.cond (.t 68) (sq [ro 2 (.mv (.c (.v (.bool false))))] .ret) .skip)))) (.reg none [ro 69 (.bin .add (.t 47) (ci 1)),rm 47 69]))))))
def zO(IB:FuncId):AC:= (sq [ro 1 (.box 4 (.t 0)),ro 2 (.mv (.c (.v (.bool false))))] (sq [rF 5 1 1,rL 6 5,ro 7 (.len (.t 6)),rm 3 7] (.seq (sq [rF 8 0 1,rL 9 8,ro 10 (.bin .lss (.t 9) (ci 1)),rm 11 10,rg 12 11 false (.bV 0 (.t 1)),rg 13 11 false (.load none (.t 12)),rg 14 11 false (.bin .gtr (.t 13) (ci 400)),ro 15 (.pick (.t 11) (.c (.v (.bool true))) (.t 14)),rm 16 15,rg 17 16 false (.mv (.t 3)),rg 18 16 false (.bin .eql (.t 17) (ci 0)),ro 19 (.pick (.t 16) (.c (.v (.bool true))) (.t 18)),rm 20 19,rg 21 20 false (.mv (.t 3)),rg 22 20 false (.bin .gtr (.t 21) (ci 301)),ro 23 (.pick (.t 20) (.c (.v (.bool true))) (.t 22)),rm 24 23,rg 25 24 false (.bV 2 (.t 1)),rg 26 24 false (.load none (.t 25)),rg 27 24 false (.len (.t 26)),rg 28 24 false (.mv (.t 3)),rg 29 24 false (.bin .neq (.t 27) (.t 28)),ro 30 (.pick (.t 24) (.c (.v (.bool true))) (.t 29)),rm 31 30,rg 32 31 false (.bV 1 (.t 1)),rg 33 31 false (.load none (.t 32)),rg 34 31 false (.aI 1 (.t 33) (ci 0)),rg 35 31 false (.load none (.t 34)),rg 36 31 false (.len (.t 35)),rg 37 31 false (.bin .gtr (.t 36) (ci 0)),ro 38 (.pick (.t 31) (.c (.v (.bool true))) (.t 37)),rm 39 38,rg 40 39 false (.bV 3 (.t 1)),rg 41 39 false (.load none (.t 40)),rg 42 39 false (.mv (.t 3)),rl 43 39 false IB [(.t 41),(ci 0),(.t 42)],rg 44 39 false (.un .not (.t 43)),ro 45 (.pick (.t 39) (.c (.v (.bool true))) (.t 44))] (.cond (.t 45) (sq [ro 2 (.mv (.c (.v (.bool false))))] .ret) .skip)) (.seq (sq [rm 46 3,ro 47 (.mv (ci 0))] (Ta IB)) (sq [ro 2 (.mv (.c (.v (.bool true))))] .ret)))))
def Zin(Ii:FuncId):AC:= (.block 0 (.loop (.seq (sq [rm 46 4,rm 47 3,ro 48 (.bin .lss (.t 46) (.t 47))] (.cond (.t 48) .skip (.exit 0))) (.seq (.block 1 (.seq (.reg (some []) [rF 51 1 1,rL 52 51,rm 53 4,ro 54 (.aI 1 (.t 52) (.t 53)),rL 55 54,rF 56 0 1,rL 57 56,rk 58 Ii [(.t 55),(ci 0),(.t 57)],ro 59 (.un .not (.t 58)),rm 60 59,rg 61 60 false (.bV 2 (.t 1)),rg 62 60 false (.load none (.t 61)),rg 63 60 false (.mv (.t 4)),rg 64 60 false (.aI 1 (.t 62) (.t 63)),rg 65 60 false (.load none (.t 64)),rg 66 60 false (.mv (.t 3)),rl 67 60 false Ii [(.t 65),(ci 1),(.t 66)],rg 68 60 false (.un .not (.t 67)),ro 69 (.pick (.t 60) (.c (.v (.bool true))) (.t 68))]) (.cond (.t 69) (sq [ro 2 (.mv (.c (.v (.bool false))))] .ret) .skip))) (.reg none [rm 49 4,ro 50 (.bin .add (.t 49) (ci 1)),rm 4 50])))))
def Z8s(Ii:FuncId):AC:= (sq [ro 1 (.box 4 (.t 0)),ro 2 (.mv (.c (.v (.bool false))))] (sq [rF 5 1 1,rL 6 5,ro 7 (.len (.t 6)),rm 3 7] (.seq (sq [rF 8 0 1,rL 9 8,ro 10 (.bin .lss (.t 9) (ci 1)),rm 11 10,rg 12 11 false (.bV 0 (.t 1)),rg 13 11 false (.load none (.t 12)),rg 14 11 false (.bin .gtr (.t 13) (ci 400)),ro 15 (.pick (.t 11) (.c (.v (.bool true))) (.t 14)),rm 16 15,rg 17 16 false (.mv (.t 3)),rg 18 16 false (.bin .lss (.t 17) (ci 1)),ro 19 (.pick (.t 16) (.c (.v (.bool true))) (.t 18)),rm 20 19,rg 21 20 false (.mv (.t 3)),rg 22 20 false (.bin .gtr (.t 21) (ci 301)),ro 23 (.pick (.t 20) (.c (.v (.bool true))) (.t 22)),rm 24 23,rg 25 24 false (.bV 2 (.t 1)),rg 26 24 false (.load none (.t 25)),rg 27 24 false (.len (.t 26)),rg 28 24 false (.mv (.t 3)),rg 29 24 false (.bin .neq (.t 27) (.t 28)),ro 30 (.pick (.t 24) (.c (.v (.bool true))) (.t 29)),rm 31 30,rg 32 31 false (.bV 1 (.t 1)),rg 33 31 false (.load none (.t 32)),rg 34 31 false (.aI 1 (.t 33) (ci 0)),rg 35 31 false (.load none (.t 34)),rg 36 31 false (.len (.t 35)),rg 37 31 false (.bin .gtr (.t 36) (ci 0)),ro 38 (.pick (.t 31) (.c (.v (.bool true))) (.t 37)),rm 39 38,rg 40 39 false (.bV 3 (.t 1)),rg 41 39 false (.load none (.t 40)),rg 42 39 false (.mv (.t 3)),rl 43 39 false Ii [(.t 41),(ci 0),(.t 42)],rg 44 39 false (.un .not (.t 43)),ro 45 (.pick (.t 39) (.c (.v (.bool true))) (.t 44))] (.cond (.t 45) (sq [ro 2 (.mv (.c (.v (.bool false))))] .ret) .skip)) (.seq (sq [ro 4 (.mv (ci 0))] (Zin Ii)) (sq [ro 2 (.mv (.c (.v (.bool true))))] .ret)))))
structure Net where
 signs:Int
 aC:List (List Int)
 follow:List (List Int)
 last:List Int
 deriving DecidableEq
def iV(n:Net):AV:=.agg [ak n.signs,aN n.aC,aN n.follow,au n.last]
theorem CX(n:Net):aV (iV n):=.agg _ (by
 intro y hy;simp only[List.mem_cons,List.not_mem_nil,or_false] at hy;rcases hy with rfl | rfl | rfl | rfl
 ·exact aX _
 ·exact jr _
 ·exact jr _
 ·exact bD _)
structure Zp4(n:Net):Prop where
 aC:Len n.aC
 follow:Len n.follow
 last:Len n.last
 byr:∀r∈n.aC,Len r
 P6d:∀r∈n.follow,Len r
def sO(n:Net):Bool:=decide (1≤n.signs) && decide (n.signs≤400) && decide (1≤n.aC.length) && decide (n.aC.length≤301) && decide (n.follow.length=n.aC.length) && decide ((n.aC.getD 0 []).length=0) && qc n.last 0 n.aC.length &&
 (List.range n.aC.length).all fun i=>qc (n.aC.getD i []) 0 n.signs && qc (n.follow.getD i []) 1 n.aC.length
structure pI(n:Net):Prop where
 s1:1≤n.signs
 s2:n.signs≤400
 n1:1≤n.aC.length
 n2:n.aC.length≤301
 len:n.follow.length=n.aC.length
 by0:n.aC.getD 0 []=[]
 last:Jy n.last 0 n.aC.length
 aC:∀i (h:i < n.aC.length),Jy n.aC[i] 0 n.signs
 follow:∀i (h:i < n.follow.length),Jy n.follow[i] 1 n.aC.length
theorem Mt(n:Net):sO n=true↔pI n:=by
 simp only[sO,Bool.and_eq_true,decide_eq_true_eq,List.all_eq_true,List.mem_range,C8];constructor
 ·rintro⟨⟨⟨⟨⟨⟨⟨h1,h2⟩,h3⟩,h4⟩,h5⟩,h6⟩,h7⟩,h8⟩
  refine⟨h1,h2,h3,h4,h5,List.eq_nil_of_length_eq_zero h6,h7,fun i h=>?_,fun i h=>?_⟩
  ·have:=(h8 i h).1
   rw[List.getD_eq_getElem?_getD,List.getElem?_eq_getElem h] at this;exact this
  ·have:=(h8 i (by omega)).2
   rw[List.getD_eq_getElem?_getD,List.getElem?_eq_getElem h] at this;exact this
 ·intro h
  refine⟨⟨⟨⟨⟨⟨⟨h.s1,h.s2⟩,h.n1⟩,h.n2⟩,h.len⟩,by rw[h.by0];rfl⟩,h.last⟩,fun i hi=>⟨?_,?_⟩⟩
  ·have:=h.aC i hi
   rw[List.getD_eq_getElem?_getD,List.getElem?_eq_getElem hi];exact this
  ·have hi2:i < n.follow.length:=by rw[h.len];exact hi
   have:=h.follow i hi2;rw[List.getD_eq_getElem?_getD,List.getElem?_eq_getElem hi2];exact this
theorem Bq{n:Net}{x:Prop}(hx:¬x)(h:pI n→x):sO n=false:=by
 cases hr:sO n with
 | false=>rfl
 | true=>exact(hx (h ((Mt n).mp hr))).elim
def Net.rows(n:Net):List (List Int):=n.last::(n.aC++n.follow)
def BL(n:Net)(i:Nat):Bool:=qc (n.aC.getD i []) 0 n.signs && qc (n.follow.getD i []) 1 n.aC.length
def ZrI(P:Program)(fl:FuncId)(n:Net):Prop:=∀l∈n.rows,∀a b,aM P fl [au l,ak a,ak b] (aG (qc l a b))
theorem Zo7{P:Program}{fl:FuncId}{n:Net}(hl:ZrI P fl n)(hlen:n.follow.length=n.aC.length)(hk:n.aC.length≤301){f:AF}{S:St}{Q:Exit→AF→St→Prop}(e1:f 1=.ptr 0 0 0)(e3:f 3=ak n.aC.length)(e46:f 46=ak n.aC.length)(ei:f 47=ak 0)
  (g0:S.g 0=some (.arr 4 [iV n])) (h1:(∀i,i < n.aC.length→BL n i=true)→∀f' S',Q .normal f' S') (h2:(¬∀i,i < n.aC.length→BL n i=true)→∀f' S',f' 2=aG false→Q .ret f' S'):AW P (Ta fl) Q f S:=by
 simp[Ta];refine z8 n.aC.length (fun i f S=>f 1=.ptr 0 0 0∧f 3=ak n.aC.length∧(f 46=ak n.aC.length)∧f 47=ak i∧S.g 0=some (.arr 4 [iV n])∧∀j,j < i→BL n j=true) ?_ ?_
 ·exact⟨e1,e3,e46,ei,g0,by omega⟩
 ·rintro i f S hi ⟨e1,e3,e46,ei,g0,hq⟩
  simp only[iV,aN] at g0;by_cases hlt:i < n.aC.length
  ·have hlf:i < n.follow.length:=by omega
   have gb:n.aC.getD i []=n.aC[i]:=by rw[List.getD_eq_getElem?_getD,List.getElem?_eq_getElem hlt];rfl
   have gf:n.follow.getD i []=n.follow[i]:=by rw[List.getD_eq_getElem?_getD,List.getElem?_eq_getElem hlf];rfl
   have k1:=hl n.aC[i] (by simp[Net.rows]) 0 n.signs;have k2:=hl n.follow[i] (by simp[Net.rows]) 1 n.aC.length;have c1:=aR (bD n.aC[i]) (aR (aX 0) (aR (aX n.signs) bB));have c2:=aR (bD n.follow[i]) (aR (aX 1) (aR (aX n.aC.length) bB));simp only[au,ak] at k1 k2 c1 c2;have d1:∀m g',kI P fl [.sl false ((n.aC[i]).map ak),.v (.int .i64 0),.v (.int .i64 n.signs)] ⟨m,g'⟩ [] (aG (qc n.aC[i] 0 n.signs)):=fun m g'=>kI.kl k1 c1 (cu _)
   have d2:∀m g',kI P fl [.sl false ((n.follow[i]).map ak),.v (.int .i64 1),.v (.int .i64 n.aC.length)] ⟨m,g'⟩ [] (aG (qc n.follow[i] 1 n.aC.length)):=fun m g'=>kI.kl k2 c2 (cu _)
   simp[e1,e46,ei,g0,hlt,au];refine⟨_,⟨_,d1 _ _⟩,?_⟩;cases hA:qc n.aC[i] 0 n.signs with
   | false=>
    simp;exact h2 (fun h=>by have:=h i hlt;rw[BL,gb,hA] at this;cases this) _ _ (by simp[aj,aG])
   | true=>
    simp[e1,e3,g0,hlf,au];refine⟨_,⟨_,d2 _ _⟩,?_⟩;cases hB:qc n.follow[i] 1 n.aC.length with
    | false=>
     simp;exact h2 (fun h=>by have:=h i hlt;rw[BL,gb,gf,hA,hB] at this;cases this) _ _ (by simp[aj,aG])
    | true=>
     simp[ei];rw[aZ _ (by omega)];refine⟨hlt,?_,?_,?_,?_,?_,fun j hj=>?_⟩
     ·simp[aj,e1]
     ·simp[aj,e3,ak]
     ·simp[aj,e46,ak]
     ·simp[aj]
     ·simp[g0,iV,aN,au,ak]
     ·by_cases e:j=i
      ·subst e;rw[BL,gb,gf,hA,hB];rfl
      ·exact hq j (by omega)
  ·simp[e46,ei,hlt]
   exact h1 (fun j hj=>hq j (by omega)) _ _
theorem Zcc{P:Program}{fl:FuncId}(n:Net)(ok:Zp4 n)(hl:ZrI P fl n):AW P (zO fl) (bR [2] (dx (aG (sO n)))) (bC [iV n]) S0:=by
 have l1:=ok.aC;have l2:=ok.follow;unfold Len at l1 l2;by_cases h1:n.signs < 1
 ·have e:=Bq (n:=n) (x:=1≤n.signs) (by omega) (fun h=>h.s1)
  simp[zO,iV,aN,au,h1,e];exact iF _ _
 by_cases h2:400 < n.signs
 ·have e:=Bq (n:=n) (x:=n.signs≤400) (by omega) (fun h=>h.s2)
  simp[zO,iV,aN,au,h1,h2,e];exact iF _ _
 by_cases h3:n.aC.length=0
 ·have e:=Bq (n:=n) (x:=1≤n.aC.length) (by omega) (fun h=>h.n1)
  have h3':((n.aC.length:Int) == 0)=true:=by simp;exact List.eq_nil_of_length_eq_zero h3
  have aay:(n.aC.length:Int) < 1:=by omega
  simp[zO,iV,aN,h1,h2,h3',e];exact iF _ _
 have h3':((n.aC.length:Int) == 0)=false:=by simp;exact fun e=>h3 (by simp[e])
 have aay:¬(n.aC.length:Int) < 1:=by omega
 by_cases h4:(301:Int) < n.aC.length
 ·have e:=Bq (n:=n) (x:=n.aC.length≤301) (by omega) (fun h=>h.n2)
  simp[zO,iV,aN,h1,h2,h3',h4,e];exact iF _ _
 by_cases h5:¬(n.follow.length=n.aC.length)
 ·have e:=Bq (n:=n) h5 (fun h=>h.len)
  have h5':((n.follow.length:Int) != n.aC.length)=true:=by simp;omega
  simp[zO,iV,aN,h1,h2,h3',h4,h5',e];exact iF _ _
 have h5:n.follow.length=n.aC.length:=Decidable.not_not.mp h5;have h5':((n.follow.length:Int) != n.aC.length)=false:=by simp;omega
 have hlt:0 < n.aC.length:=by omega
 have hg0:n.aC[0]? = some n.aC[0]:=List.getElem?_eq_getElem hlt;have gb:n.aC.getD 0 []=n.aC[0]:=by rw[List.getD_eq_getElem?_getD,hg0];rfl
 by_cases h6:(0:Int) < (n.aC[0]).length
 ·have e:=Bq (n:=n) (x:=n.aC.getD 0 []=[]) (by rw[gb];intro h;rw[h] at h6;simp at h6) (fun h=>h.by0)
  have h6':0 < (n.aC[0]).length:=by omega
  simp[zO,iV,aN,au,h1,h2,h3',h4,h5',hg0,h6',e];exact iF _ _
 have h6':¬0 < (n.aC[0]).length:=by omega
 have h60:n.aC[0]=[]:=List.eq_nil_of_length_eq_zero (by omega);have k1:=hl n.last (by simp[Net.rows]) 0 n.aC.length;have c1:=aR (bD n.last) (aR (aX 0) (aR (aX n.aC.length) bB));simp only[au,ak] at k1 c1;simp[zO,iV,aN,au,h1,h2,h3',h4,h5',hg0,h60];refine aQ.pure k1 c1 (cu _) ?_;cases h7:qc n.last 0 n.aC.length with
 | false=>
  have e:=Bq (n:=n) (x:=qc n.last 0 n.aC.length=true) (by rw[h7];simp) (fun h=>C8.mpr h.last);simp[e];exact iF _ _
 | true=>
  simp;refine Zo7 (n:=n) hl h5 (by omega) (by simp[aj]) (by simp[aj,ak]) (by simp[aj,ak]) (by simp[aj,ak]) (by simp[aD,iV,aN,au,ak]) (fun h f' S'=>?_) (fun h f' S' e2=>?_)
  ·have e:sO n=true:=by
    simp only[sO,Bool.and_eq_true,decide_eq_true_eq,List.all_eq_true,List.mem_range];refine⟨⟨⟨⟨⟨⟨⟨by omega,by omega⟩,by omega⟩,by omega⟩,h5⟩,by rw[gb,h60];rfl⟩,h7⟩,fun i hi=>?_⟩;have:=h i hi;simpa[BL] using this
   simp[e];exact iF _ _
  ·have e:=Bq (n:=n) h (fun R i hi=>by
    have hi2:i < n.follow.length:=by omega
    rw[BL,List.getD_eq_getElem?_getD,List.getElem?_eq_getElem hi,List.getD_eq_getElem?_getD,List.getElem?_eq_getElem hi2];simp only[Option.getD_some,Bool.and_eq_true];exact⟨C8.mpr (R.aC i hi),C8.mpr (R.follow i hi2)⟩)
   simp[e2,e];exact iF _ _
def wu(n:Net)(sign:Int)(f:Int):Bool:=(n.aC.getD f.toNat []).contains sign
def Bv(n:Net)(sign:Int)(p:Int):List Int:=if 0≤p∧p < n.follow.length then (n.follow.getD p.toNat []).filter (wu n sign) else []
def nP(n:Net)(at_:List Int)(sign:Int):List Int:=at_.flatMap (Bv n sign)
def sH(n:Net)(at_:List Int)(sign:Int):List Int:=jm (nP n at_ sign)
theorem ZiR{n:Net}(R:pI n){p k:Nat}(hp:p < n.follow.length)(hk:k < (n.follow[p]).length):1≤(n.follow[p])[k]∧(n.follow[p])[k] < n.aC.length:=(R.follow p hp).2 _ (List.getElem_mem hk)
theorem YQ{n:Net}(R:pI n){p:Nat}(hp:p < n.follow.length):(n.follow[p]).length≤301:=by
 have:=Np (R.follow p hp).1 (R.follow p hp).2;have:=R.n2;omega
theorem Ze2{n:Net}{at_:List Int}{sign:Int}{i:Nat}(h:i < at_.length):nP n (at_.take (i+1)) sign=nP n (at_.take i) sign++Bv n sign at_[i]:=by
 rw[List.take_add_one,List.getElem?_eq_getElem h];unfold nP;rw[List.flatMap_append];simp only[Option.toList_some,List.flatMap_cons,List.flatMap_nil,List.append_nil]
theorem Zf6{n:Net}(R:pI n)(sign p:Int):(Bv n sign p).length≤301:=by
 unfold Bv;split
 ·rename_i h
  have hp:p.toNat < n.follow.length:=by omega
  have:=YQ R hp;have h2:=List.length_filter_le (wu n sign) (n.follow.getD p.toNat []);rw[List.getD_eq_getElem?_getD,List.getElem?_eq_getElem hp] at h2 ⊢;simp only[Option.getD_some] at h2 ⊢;omega
 ·simp
theorem R4{n:Net}(R:pI n)(sign:Int):∀(l:List Int),(nP n l sign).length≤301*l.length
 | []=>by simp[nP]
 | p::l=>by
  have h1:=Zf6 R sign p;have h2:=R4 R sign l;simp only[nP,List.flatMap_cons,List.length_append,List.length_cons] at h2 ⊢;omega
def Znk(H9 uy:FuncId):AC:= (.block 2 (.loop (.seq (sq [rm 43 10,rm 44 9,ro 45 (.len (.t 44)),ro 46 (.bin .lss (.t 43) (.t 45))] (.cond (.t 46) .skip (.exit 2))) (.seq (.block 3 (.seq (.reg (some []) [rF 49 1 3,rL 50 49,rm 51 9,rm 52 10,ro 53 (.aI 1 (.t 51) (.t 52)),rL 54 53,ro 55 (.aI 1 (.t 50) (.t 54)),rL 56 55,rm 57 2,rk 58 H9 [(.t 56),(.t 57)]]) (.cond (.t 58) (.reg none [rm 59 7,rm 60 9,rm 61 10,ro 62 (.aI 1 (.t 60) (.t 61)),rL 63 62,rk 64 uy [(.t 59),(.t 63)],rm 7 64]) .skip))) (.reg none [rm 47 10,ro 48 (.bin .add (.t 47) (ci 1)),rm 10 48])))))
def ZkT(H9 uy:FuncId):AC:= (.block 0 (.loop (.seq (sq [rm 14 8,rm 15 1,ro 16 (.len (.t 15)),ro 17 (.bin .lss (.t 14) (.t 16))] (.cond (.t 17) .skip (.exit 0))) (.seq (.block 1 (.seq (.seq (.reg (some []) [rm 20 1,rm 21 8,ro 22 (.aI 1 (.t 20) (.t 21)),rL 23 22,ro 24 (.bin .lss (.t 23) (ci 0)),rm 25 24,rg 26 25 false (.mv (.t 1)),rg 27 25 false (.mv (.t 8)),rg 28 25 false (.aI 1 (.t 26) (.t 27)),rg 29 25 false (.load none (.t 28)),rg 30 25 false (.bV 2 (.t 3)),rg 31 25 false (.load none (.t 30)),rg 32 25 false (.len (.t 31)),rg 33 25 false (.bin .geq (.t 29) (.t 32)),ro 34 (.pick (.t 25) (.c (.v (.bool true))) (.t 33))]) (.cond (.t 34) (.exit 1) .skip)) (.seq (.reg (some []) [rF 35 2 3,rL 36 35,rm 37 1,rm 38 8,ro 39 (.aI 1 (.t 37) (.t 38)),rL 40 39,ro 41 (.aI 1 (.t 36) (.t 40)),rL 42 41,rm 9 42]) (sq [ro 10 (.mv (ci 0))] (Znk H9 uy))))) (.reg none [rm 18 8,ro 19 (.bin .add (.t 18) (ci 1)),rm 8 19])))))
def Z8P(QB H9 uy:FuncId):AC:= (sq [ro 3 (.box 4 (.t 0)),ro 6 (.mv (.c (.sl true [])))] (sq [ro 7 (.mv (.c (.sl true [])))] (.seq (sq [ro 11 (.load (some 4) (.t 3)),rk 12 QB [(.t 11)],ro 13 (.un .not (.t 12))] (.cond (.t 13) (sq [ro 6 (.mv (.c (.sl true [])))] .ret) .skip)) (.seq (sq [ro 8 (.mv (ci 0))] (ZkT H9 uy)) (sq [rm 65 7,rm 6 65] .ret)))))
def ZmK(o l:List Int):List Int:=l.foldl yD o
theorem Zk9{n:Net}(R:pI n)(l:List Int)(sign:Int):(sH n l sign).length≤301:=by
 have hm:∀x∈sH n l sign,(1:Int)≤x∧x < n.aC.length:=by
  intro x hx;have hx:=FP.mp hx;simp only[nP,List.mem_flatMap] at hx;obtain⟨p,hp,hx⟩:=hx;unfold Bv at hx;split at hx
  ·rename_i h
   have hpl:p.toNat < n.follow.length:=by omega
   rw[List.getD_eq_getElem?_getD,List.getElem?_eq_getElem hpl] at hx;exact(R.follow _ hpl).2 x (List.mem_filter.mp hx).1
  ·simp at hx
 have:=Np (Js (nP n l sign)) hm;have:=R.n2;show(jm (nP n l sign)).length≤301
 omega
theorem ZhI(l:List Int):ZmK [] l=jm l:=ZjL l
def Z8t:AC:= (sq [ro 4 (.mv (.c (.v (.bool false))))] (.seq (sq [rm 6 0,ro 7 (.len (.t 6)),rm 8 1,ro 9 (.len (.t 8)),ro 10 (.bin .neq (.t 7) (.t 9))] (.cond (.t 10) (sq [ro 4 (.mv (.c (.v (.bool false))))] .ret) .skip)) (.seq (sq [ro 5 (.mv (ci 0))] (.block 0 (.loop (.seq (sq [rm 11 5,rm 12 0,ro 13 (.len (.t 12)),ro 14 (.bin .lss (.t 11) (.t 13))] (.cond (.t 14) .skip (.exit 0))) (.seq (.block 1 (.seq (.reg (some []) [rm 17 0,rm 18 5,ro 19 (.aI 1 (.t 17) (.t 18)),rL 20 19,rm 21 1,rm 22 5,ro 23 (.aI 1 (.t 21) (.t 22)),rL 24 23,ro 25 (.beq true (.t 20) (.t 24))]) (.cond (.t 25) (sq [ro 4 (.mv (.c (.v (.bool false))))] .ret) .skip))) (.reg none [rm 15 5,ro 16 (.bin .add (.t 15) (ci 1)),rm 5 16])))))) (sq [ro 4 (.mv (.c (.v (.bool true))))] .ret))))
def Z8Q(P32 P33:FuncId):AC:= (sq [ro 2 (.box 3 (.t 0)),ro 3 (.box 3 (.t 1)),ro 4 (.mv (.c (.v (.bool false))))] (sq [rF 5 0 2,rL 6 5,rF 7 0 3,rL 8 7,ro 9 (.bin .eql (.t 6) (.t 8)),rm 10 9,rg 11 10 true (.bV 1 (.t 2)),rg 12 10 true (.load none (.t 11)),rg 13 10 true (.bV 1 (.t 3)),rg 14 10 true (.load none (.t 13)),rl 15 10 true P32 [(.t 12),(.t 14)],ro 16 (.pick (.t 10) (.t 15) (.c (.v (.bool false)))),rm 17 16,rg 18 17 true (.bV 2 (.t 2)),rg 19 17 true (.load none (.t 18)),rg 20 17 true (.bV 2 (.t 3)),rg 21 17 true (.load none (.t 20)),rl 22 17 true P33 [(.t 19),(.t 21)],ro 23 (.pick (.t 17) (.t 22) (.c (.v (.bool false)))),rm 4 23] .ret))
theorem kI.cd{P:Program}{f:FuncId}{args:List AV}{r:AV}{S:St}(h:aM P f args r)(hc:∀x∈args,aV x)(hr:aV r):kI P f args S [] r:=
 ⟨args,h,rfl,fun j h1 _=>.closed _ (hc _ (List.getElem_mem h1)),.inr (.inl ⟨rfl,hr⟩)⟩
theorem Vec.cell{g:Nat→Option aF}{v:AV}{es:Nat}{xs:List AV}(h:Vec g v es xs):v.cells=[v]∧v.solid=true:=by
 rcases h with⟨rfl,_⟩ | ⟨_,_,_,rfl,_⟩<;>exact⟨rfl,rfl⟩
theorem jJ.cells{g:Nat→Option aF}{n:Nat}{av:List Nat}{vs:List AV}{ls:List (List AV)}(h:jJ g n av vs ls):∀v∈vs,v.cells.length=1:=by
 intro v hv;obtain⟨t,ht,rfl⟩:=List.getElem_of_mem hv;rw[(h.row t ht (by rw[←h.len];exact ht)).cell.1];rfl
def Ni(es aC:Nat)(z:AV):AC:= (sq [ro 4 (.mv (.c (.sl true [])))] (.seq (sq [rm 5 1,ro 6 (.bin .lss (.t 5) (ci 0))] (.cond (.t 6) .bad .skip)) (.seq (sq [rm 8 1,rm 9 0,ro 10 (.cap (.t 9)),rm 11 0,ro 12 (.len (.t 11)),ro 13 (.bin .sub (.t 10) (.t 12)),ro 14 (.bin .sub (.t 8) (.t 13)),rm 1 14] (sq [rm 15 1,ro 16 (.bin .gtr (.t 15) (ci 0))] (.cond (.t 16) (.reg none [rm 17 0,rm 18 0,ro 19 (.cap (.t 18)),ro 20 (.slc es (.t 17) none (some (.t 19))),rm 21 1,ro 22 (.GK es aC z (.t 20) (.t 21)),rm 23 0,ro 24 (.len (.t 23)),ro 25 (.slc es (.t 22) none (some (.t 24))),rm 0 25]) .skip))) (sq [rm 26 0,rm 4 26] .ret))))
def ML(es aC:Nat)(fg:FuncId):AC:= (sq [ro 2 (.mv (.c (.sl true [])))] (sq [ro 3 (.mv (ci 0))] (.seq (sq [rm 9 0,ro 10 (.len (.t 9)),ro 11 (.mv (ci 0))] (.block 0 (.loop (sq [ro 12 (.bin .lss (.t 11) (.t 10))] (.seq (.cond (.t 12) .skip (.exit 0)) (.seq (.block 1 (sq [ro 13 (.aI 1 (.t 9) (.t 11)),rL 14 13,rm 5 14] (sq [rm 15 3,rm 16 5,ro 17 (.len (.t 16)),ro 18 (.bin .add (.t 15) (.t 17)),rm 3 18] (sq [rm 19 3,ro 20 (.bin .lss (.t 19) (ci 0))] (.cond (.t 20) .bad .skip))))) (.reg none [ro 22 (.bin .add (.t 11) (ci 1)),rm 11 22]))))))) (sq [rm 23 3,rk 24 fg [(.c (.sl true [])),(.t 23)],rm 6 24] (.seq (sq [rm 25 0,ro 26 (.len (.t 25)),ro 27 (.mv (ci 0))] (.block 2 (.loop (sq [ro 28 (.bin .lss (.t 27) (.t 26))] (.seq (.cond (.t 28) .skip (.exit 2)) (.seq (.block 3 (sq [ro 29 (.aI 1 (.t 25) (.t 27)),rL 30 29,rm 8 30] (.reg none [rm 31 6,rm 32 8,ro 33 (.app es aC (.t 31) (.t 32)),rm 6 33]))) (.reg none [ro 34 (.bin .add (.t 27) (ci 1)),rm 27 34]))))))) (sq [rm 35 6,rm 2 35] .ret))))))
def yx(g:Nat→Option aF)(v:AV)(es:Nat)(xs:List AV):Prop:=
 (v=.sl true []∧xs=[])∨∃id off ys,v=.own id off xs.length∧g id=some (.arr es ys)∧off+xs.length≤ys.length∧(ys.take (off+xs.length)).drop off=xs
theorem yx.frame{g g':Nat→Option aF}{v:AV}{es:Nat}{xs:List AV}(h:yx g v es xs)(hs:∀i∈v.ids,g' i=g i):yx g' v es xs:=by
 rcases h with h | ⟨id,off,ys,rfl,h1,h2,h3⟩
 ·exact .inl h
 ·exact .inr ⟨id,off,ys,rfl,by rw[hs id (by simp[AV.ids])];exact h1,h2,h3⟩
theorem yx.fz{X:Type}{enc:X→AV}{g:Nat→Option aF}{v:AV}{es:Nat}{l:List X}(h:yx g v es (l.map enc))(hc:∀x,aV (enc x)):Fz g v (.sl false (l.map enc)):=by
 rcases h with⟨rfl,hn⟩ | ⟨id,off,ys,rfl,h1,h2,h3⟩
 ·rw[hn];exact .loose true [] (.sl _ _ (by simp))
 ·rw[List.length_map] at h2 h3 ⊢
  refine .own id off l.length es ys (l.map enc) h1 h2 (by simp) (fun i a b=>?_);have e:(ys.drop off).take l.length=l.map enc:=by rw[←h3,List.drop_take];congr 1;omega
  simp only[e];exact .closed _ (by simp only[List.getElem_map];exact hc _)
def ZmW(S:St)(es:Nat)(z:AV)(n:Nat)(v:AV)(S':St):Prop:=
 S.n≤S'.n∧(∀i,i < S.n→S'.g i=S.g i)∧((n=0∧v=.sl true [])∨∃id,S.n≤id∧id < S'.n∧v=.own id 0 0∧S'.g id=some (.arr es (List.replicate n z)))
def NT(P:Program)(f:FuncId)(es:Nat)(z:AV):Prop:=∀(S:St) (n:Nat) (K:AV→St→Prop),n≤1000000→(∀v S',ZmW S es z n v S'→K v S')→aQ P f [.sl true [],ak n] S K
theorem Zkr{P:Program}(hm:P.follows .mixedOrders=true){f:FuncId}{es aC:Nat}{z:AV}(hes:0 < es)(hz:z.cells.length=es)(hb:aC≤1000)(h:Is P f (Ni es aC z) [4] 2):NT P f es z:=by
 intro S n K hn hk;refine h.uV hm rfl ?_;have hneg:¬((n:Int) < 0):=by omega
 have hw1:=aZ ((n:Int) - 0) (by omega);have hw0:IntKind.i64.wrap 0=0:=aZ 0 (by omega);by_cases h0:n=0
 ·subst h0
  simp[Ni,JH,hw0];exact hk _ _ ⟨by simp;omega,fun i hi=>rfl,.inl ⟨rfl,rfl⟩⟩
 ·have hp:(0:Int) < n:=by omega
  have hp':0 < n:=by omega
  have aaJ:(n:Int)*aC≤140737488355328:=by
   have h1:n*aC≤1000000*1000:=Nat.mul_le_mul hn hb;have:((n*aC:Nat):Int)≤1000000000:=by omega
   rw[Int.natCast_mul] at this;omega
  have hn2:(n:Int)≤140737488355328:=by omega
  have hwn:IntKind.i64.wrap (n:Int)=n:=aZ _ (by omega)
  have aaE:∀S2:St,∀aA,(JD es aC z (.sl true []) (.v (.int .i64 (n:Int)))).run S2 aA=some (.own aA 0 n,S2.set aA (some (.arr es (List.replicate n z)))):=by
   intro S2 aA;simp[JD,Eff.new,Eff.run,hp',aaJ,hn2,hes,hz,St.dV,St.iG]
  have hs1:∀S2:St,∀aA,(vT es (.sl true []) none (some (.v (.int .i64 0)))).run S2 aA=some (.sl true [],S2):=by
   intro S2 aA;simp[vT,bnd,Eff.oP]
  have hs2:∀(S2:St) (aA id:Nat) (ys:List AV),S2.g id=some (.arr es ys)→(vT es (.own id 0 n) none (some (.v (.int .i64 0)))).run S2 aA=some (.own id 0 0,S2):=by
   intro S2 aA id ys hg;simp[vT,bnd,Eff.rd,Eff.run,hg,St.dV,St.iG]
  simp[Ni,JH,hneg,hw0,hwn,hp',hs1,aaE,dA];rw[hs2 _ _ _ (List.replicate n z) (by simp[aD])];simp;refine hk _ _ ⟨by simp;omega,fun i hi=>?_,.inr ⟨S.n+13+5,by omega,by simp,rfl,by simp[aD]⟩⟩;have:¬i=S.n+13+5:=by omega
  simp[aD,this]
theorem yx.app{n aA aC es:Nat}{g:Nat→Option aF}{v:AV}{xs:List AV}(h:yx g v es xs)(t:Bool)(ys:List AV)(hx:∀z∈xs,z.cells.length=es)(hy:∀z∈ys,z.cells.length=es)(hok:eY aC xs.length ys.length) :
  ∃v' S',(jC es aC v (.sl t ys)).run ⟨n,g⟩ aA=some (v',S')∧S'.n=n∧(aA∉v.ids→yx S'.g v' es (xs++ys))∧(∀i,i∉v.ids→i≠aA→S'.g i=g i)∧(∀i∈v'.ids,i∈v.ids∨i=aA):=by
 have hl:kK es [] (.sl t ys)=some ys:=by simp only[kK];rw[if_pos hy]
 rcases h with⟨rfl,rfl⟩ | ⟨id,off,zs,rfl,h1,h2,h3⟩
 ·simp only[List.length_nil] at hok
  by_cases h0:ys.length=0
  ·have:ys=[]:=List.eq_nil_of_length_eq_zero h0
   subst this;refine⟨.sl true [],⟨n,g⟩,?_,rfl,fun _=>.inl ⟨rfl,rfl⟩,fun _ _ _=>rfl,by simp[AV.ids]⟩;simp[jC,AV.jA,Eff.run,hl,St.dV,St.iG,eY]
  ·refine⟨.own aA 0 ys.length,(⟨n,g⟩:St).set aA (some (.arr es ys)),?_,by simp[bE],fun _=>.inr ⟨aA,0,ys,by simp,by simp[aD],by simp,by simp⟩,fun i _ hi=>by simp[aD,hi],by simp[AV.ids]⟩
   simp only[jC,AV.jA,Eff.run,List.mapM_nil,Option.pure_def,hl,Option.bind_some,List.length_nil,Nat.zero_add,hok,and_true];rw[if_pos (by simp),if_neg h0];simp[St.dV,St.iG]
 ·refine⟨.own aA 0 (xs.length+ys.length),((⟨n,g⟩:St).set id none).set aA (some (.arr es (xs++ys))),?_,by simp[bE],fun hn=>.inr ⟨aA,0,xs++ys,by simp,by simp[aD],by simp,by simp[←List.length_append]⟩,fun i hi hn=>?_,by simp[AV.ids]⟩
  ·have ho:(AV.sl t ys).jA=[]:=rfl
   have hne:([]:List Nat)≠[id]:=by simp
   simp only[jC,Eff.run,ho,List.mapM_cons,List.mapM_nil,h1,Option.pure_def,Option.bind_eq_bind,Option.bind_some,hl];by_cases he:off+xs.length=zs.length
   ·rw[if_pos ⟨trivial,he,hok,hne⟩]
    have e:zs.drop off=xs:=by rw[←h3,he,List.take_length]
    simp[St.dV,St.iG,e]
   ·rw[if_neg (fun hh=>he hh.2.1),if_pos ⟨trivial,by omega,hok,hne⟩]
    simp[St.dV,St.iG,h3]
  ·simp only[AV.ids,List.mem_cons,List.not_mem_nil,or_false] at hi
   simp[aD,hi,hn]
def DV(L:List (Bool×List AV)):AV:=.sl true (L.map fun p=>.sl p.1 p.2)
def uK(L:List (Bool×List AV)):Nat:=(L.map fun p=>p.2.length).sum
theorem Zjf(L:List (Bool×List AV))(k:Nat):uK (L.take k)≤uK L:=by
 unfold uK;have h:L=L.take k++L.drop k:=by simp
 conv=>rhs;rw[h]
 rw[List.map_append,List.sum_append];omega
theorem ZN(L:List (Bool×List AV))(k:Nat)(h:k < L.length):uK (L.take (k+1))=uK (L.take k)+(L[k]).2.length:=by
 unfold uK;rw[List.take_add_one,List.getElem?_eq_getElem h,List.map_append,List.sum_append];simp
theorem Zje(L:List (Bool×List AV)):(L.flatMap (·.2)).length=uK L:=by
 unfold uK;rw[List.length_flatMap]
def CtI(L:List (Bool×List AV))(n0:Nat)(g0:Nat→Option aF)(k:Nat)(f:AF)(S:St):Prop:=n0≤S.n∧S.g=g0∧f 0=DV L∧f 9=DV L∧f 10=ak L.length∧f 11=ak k∧f 3=ak (uK (L.take k))∧f 2=.sl true []
def CtJ(L:List (Bool×List AV))(es:Nat)(n0:Nat)(g0:Nat→Option aF)(k:Nat)(f:AF)(S:St):Prop:=f 25=DV L∧f 26=ak L.length∧f 27=ak k∧yx S.g (f 6) es ((L.take k).flatMap (·.2))∧(∀i∈(f 6).ids,n0≤i∧i < S.n)∧(∀i,i < n0→S.g i=g0 i)∧n0≤S.n
def ZhZ(S:St)(es:Nat)(L:List (Bool×List AV))(v:AV)(S':St):Prop:=
 S.n≤S'.n∧(∀i,i < S.n→S'.g i=S.g i)∧yx S'.g v es (L.flatMap (·.2))∧∀i∈v.ids,S.n≤i∧i < S'.n
theorem ZdS{P:Program}(hm:P.follows .mixedOrders=true){f fg:FuncId}{es aC:Nat}{z:AV}(hg:NT P fg es z)(hb:aC≤1000)(h:Is P f (ML es aC fg) [2] 1)
  {S:St} {L:List (Bool×List AV)} (hc:∀p∈L,∀x∈p.2,x.cells.length=es) (hL:L.length≤1000) (ht:uK L≤1000000) {K:AV→St→Prop} (hk:∀v S',ZhZ S es L v S'→K v S'):aQ P f [DV L] S K:=by
 refine h.uV hm rfl ?_;have AB:DV L=.sl true (L.map fun p=>.sl p.1 p.2):=rfl;simp[ML,AB];refine z8 L.length (CtI L S.n S.g) ⟨?_,?_,?_,?_,?_,?_,?_,?_⟩ ?_
 ·simp;omega
 ·simp
 ·simp[aj,bJ,AB]
 ·simp[aj,AB]
 ·simp[aj,ak]
 ·simp[aj,ak]
 ·simp[aj,ak,uK]
 ·simp[aj]
 ·rintro k f S1 hk1 ⟨hn1,hg1,e0,e9,e10,e11,e3,e2⟩
  rw[AB] at e0 e9;by_cases hlt:k < L.length
  ·have hgt:L[k]? = some L[k]:=List.getElem?_eq_getElem hlt
   have h1:=ZN L k hlt;have h2:=Zjf L (k+1);have hw:=aZ ((uK (L.take k):Int)+(L[k]).2.length) (by omega);have hneg:¬((uK (L.take k):Int)+(L[k]).2.length < 0):=by omega
   simp[e9,e10,e11,e3,hlt,hw,hneg];rw[aZ _ (by omega)];refine⟨hlt,?_,?_,?_,?_,?_,?_,?_,?_⟩
   ·simp;omega
   ·simpa using hg1
   ·simp[aj,e0,AB]
   ·simp[aj,e9,AB]
   ·simp[aj,e10]
   ·simp[aj,ak]
   ·simp[aj,ak,h1]
   ·simp[aj,e2]
  ·have hke:k=L.length:=by omega
   subst hke;rw[List.take_length] at e3;simp[e10,e11,e3];refine hg _ (uK L) _ ht (fun v S2 hout=>?_);obtain⟨o1,o2,o3⟩:=hout;simp only at o1 o2 o3
   have hv0:yx S2.g v es ([]:List AV):=by
    rcases o3 with⟨_,rfl⟩ | ⟨id,_,_,rfl,yL⟩
    ·exact .inl ⟨rfl,rfl⟩
    ·exact .inr ⟨id,0,_,rfl,yL,by simp,by simp⟩
   have yO:∀i∈v.ids,S.n≤i∧i < S2.n:=by
    rcases o3 with⟨_,rfl⟩ | ⟨id,a1,a2,rfl,_⟩
    ·simp[AV.ids]
    ·intro i hi;simp[AV.ids] at hi;subst hi;omega
   simp;simp only[e0];simp;refine z8 L.length (CtJ L es S.n S.g) ⟨?_,?_,?_,?_,?_,?_,?_⟩ ?_
   ·simp[aj,AB]
   ·simp[aj,ak]
   ·simp[aj,ak]
   ·simp[aj];exact hv0.frame (fun _ _=>rfl)
   ·intro i hi
    simp[aj] at hi;have:=yO i hi;simp;omega
   ·intro i hi
    have:=o2 i (by omega);simp;rw[this,hg1]
   ·simp;omega
   ·rintro k f S3 hk3 ⟨e25,e26,e27,hv,yO,hfr,hn3⟩
    rw[AB] at e25;by_cases hlt:k < L.length
    ·have hgt:L[k]? = some L[k]:=List.getElem?_eq_getElem hlt
     have h1:=ZN L k hlt;have h2:=Zjf L (k+1);have hlen:=Zje (L.take k)
     have hx:∀z∈(L.take k).flatMap (·.2),z.cells.length=es:=by
      intro z hz;obtain⟨p,hp,hz⟩:=List.mem_flatMap.mp hz;exact hc p (List.mem_of_mem_take hp) z hz
     have hok:eY aC ((L.take k).flatMap (·.2)).length (L[k]).2.length:=by
      unfold eY;have:(((L.take k).flatMap (·.2)).length+(L[k]).2.length)*aC≤1000000*1000:=Nat.mul_le_mul (by omega) hb;omega
     simp[e25,e26,e27,hlt];obtain⟨v',S',hr,q1,q2,q3,q4⟩:=(hv.frame (g':=S3.g) (fun _ _=>rfl)).app (n:=S3.n+1+3+4) (aA:=S3.n+1+3+2) (aC:=aC) (L[k]).1 (L[k]).2 hx (hc _ (List.getElem_mem hlt)) hok;rw[hr];simp[e27];rw[aZ _ (by omega)];have Pn:S3.n+1+3+2∉(f 6).ids:=fun hh=>by have:=yO _ hh;omega
     refine⟨hlt,?_,?_,?_,?_,?_,?_,?_⟩
     ·simp[aj,e25,AB]
     ·simp[aj,e26]
     ·simp[aj,ak]
     ·rw[List.take_add_one,hgt,List.flatMap_append]
      simpa[aj] using(q2 Pn).frame (fun _ _=>rfl)
     ·intro i hi
      simp[aj] at hi;have hi2:=q4 i hi;simp[q1];rcases hi2 with hi2 | hi2
      ·have:=yO i hi2;omega
      ·omega
     ·intro i hi
      have h3:=q3 i (fun hh=>by have:=yO i hh;omega) (by omega);simp[h3,hfr i hi]
     ·simp[q1];omega
    ·have hke:k=L.length:=by omega
     subst hke;rw[List.take_length] at hv;simp[e26,e27];refine hk _ _ ⟨?_,?_,?_,?_⟩
     ·simp;omega
     ·intro i hi;simp[hfr i hi]
     ·exact hv.frame (fun _ _=>rfl)
     ·intro i hi
      have:=yO i hi;simp;omega
end Go.Rf
namespace Go.Rf
attribute [local simp] jv jk jX jO jG jY jP jI kF jW jN bZ gL eu fq gH d9 fI gI gy eT gD eB fO gG fM dG dJ dZ eX iq iw fG iy fC fB fu dD gT gU gV fJ fK iC gJ fU gZ gW gY gX ig iD fZ iA fP fQ gM iB dh dF fD gu iE ex aj fA cO dO bJ bO aD bE dX eU dn gP gQ gN gK fV bI cZ dw eD eF fF dN bY bM dz bX dP dA dH eO eG eH dY bW dQ cK cB aY AV.solid S0 ak aG
def Um:AC:= (.block 4 (.loop (sq [ro 28 (.bin .lss (.t 27) (.t 26))] (.seq (.cond (.t 28) .skip (.exit 4)) (.seq (.block 5 (sq [rm 29 27,ro 30 (.aI 1 (.t 25) (.t 27)),rL 31 30,rm 8 29,rm 9 31] (sq [rm 32 7,rm 33 8,ro 34 (.aI 1 (.t 32) (.t 33)),rn (.store 1 (.t 34) (ci (-1)))] (sq [rm 35 8,ro 36 (.bin .and (.t 35) (ci 1)),ro 37 (.bin .eql (.t 36) (ci 1)),rm 10 37] (.block 6 (sq [rm 39 10,ro 40 (.un .not (.t 39)),rm 41 40,rg 42 41 true (.mv (.t 6)),rg 43 41 true (.bin .eql (.t 42) (ci 0)),ro 44 (.pick (.t 41) (.t 43) (.c (.v (.bool false)))),rm 38 44] (.cond (.t 38) (.reg none [rm 45 7,rm 46 8,rm 47 9,ro 48 (.bin .mul (.t 47) (ci 3)),ro 49 (.bin .add (.t 48) (ci 1)),ro 50 (.aI 1 (.t 45) (.t 46)),rn (.store 1 (.t 50) (.t 49))]) (sq [rm 52 10,ro 53 (.un .not (.t 52)),rm 51 53] (.cond (.t 51) (.reg none [rm 54 7,rm 55 8,rm 56 9,ro 57 (.bin .mul (.t 56) (ci 3)),rm 58 6,ro 59 (.bin .add (.t 57) (.t 58)),ro 60 (.aI 1 (.t 54) (.t 55)),rn (.store 1 (.t 60) (.t 59))]) (sq [rm 62 6,ro 63 (.bin .eql (.t 62) (ci 1)),rm 61 63] (.cond (.t 61) (.reg none [rm 64 7,rm 65 8,rm 66 9,ro 67 (.bin .mul (.t 66) (ci 3)),ro 68 (.bin .add (.t 67) (ci 2)),ro 69 (.aI 1 (.t 64) (.t 65)),rn (.store 1 (.t 69) (.t 68))]) .skip))))))))))) (.reg none [ro 70 (.bin .add (.t 27) (ci 1)),rm 27 70]))))))
def TK:AC:= (.reg (some [[],[],[],[],[],[true],[false,true],[false,false,true],[false,false,false,true],[],[],[],[],[],[],[],[],[],[true]]) [rF 71 0 3,rL 72 71,rm 73 7,ro 74 (.bS 1 1 (.sl true []) [(0,(.t 73))]),ro 75 (.app 1 24 (.t 72) (.t 74)),rF 76 1 3,rL 77 76,rm 78 6,ro 79 (.bin .eql (.t 78) (ci 2)),rm 80 79,rg 81 80 true (.bV 2 (.t 1)),rg 82 80 true (.load none (.t 81)),rg 83 80 true (.mv (.t 4)),rg 84 80 true (.aI 1 (.t 82) (.t 83)),rg 85 80 true (.load none (.t 84)),ro 86 (.pick (.t 80) (.t 85) (.c (.v (.bool false)))),ro 87 (.bS 1 1 (.v (.bool false)) [(0,(.t 86))]),ro 88 (.app 1 1 (.t 77) (.t 87)),rF 89 0 3,rn (.store 1 (.t 89) (.t 75)),rF 90 1 3,rn (.store 1 (.t 90) (.t 88))])
def R5:AC:= (.block 2 (.loop (sq [ro 20 (.bin .lss (.t 19) (ci 3))] (.seq (.cond (.t 20) .skip (.exit 2)) (.seq (.block 3 (sq [rm 21 19,rm 6 21] (sq [rF 22 0 1,rL 23 22,ro 24 (.um 1 8 (.v (.int .i64 0)) (.t 23) (.t 23)),rm 7 24] (.seq (sq [rm 25 5,ro 26 (.len (.t 25)),ro 27 (.mv (ci 0))] Um) TK)))) (.reg none [ro 91 (.bin .add (.t 19) (ci 1)),rm 19 91]))))))
def RS:AC:= (sq [ro 1 (.box 3 (.t 0)),ro 2 (.alloc (.agg [(.sl true []),(.sl true [])]) 2)] (sq [ro 3 (.alloc (.agg [(.sl true []),(.sl true [])]) 2)] (.seq (sq [rF 11 1 1,rL 12 11,ro 13 (.len (.t 12)),ro 14 (.mv (ci 0))] (.block 0 (.loop (sq [ro 15 (.bin .lss (.t 14) (.t 13))] (.seq (.cond (.t 15) .skip (.exit 0)) (.seq (.block 1 (sq [rm 16 14,ro 17 (.aI 1 (.t 12) (.t 14)),rL 18 17,rm 4 16,rm 5 18] (sq [ro 19 (.mv (ci 0))] R5))) (.reg none [ro 92 (.bin .add (.t 14) (ci 1)),rm 14 92]))))))) (sq [ro 93 (.load (some 2) (.t 3)),rn (.store 2 (.t 2) (.t 93))] .ret))))
theorem ZrM(i:Nat)(h:i≤100000):IntKind.i64.wrap ↑(i % 2 ^ IntKind.i64.bits &&& 1 % 2 ^ IntKind.i64.bits)=((i % 2:Nat):Int):=by
 have hb:IntKind.i64.bits=64:=rfl;have e1:i % 2 ^ IntKind.i64.bits=i:=by rw[hb];exact Nat.mod_eq_of_lt (by omega)
 have e2:1 % 2 ^ IntKind.i64.bits=1:=by rw[hb]
 rw[e1,e2,Nat.and_one_is_mod];exact aZ _ (by omega)
structure LW(d:aB)(row:List Int)(s ph:Nat)(f:AF):Prop where
 e1:f 1=.ptr 0 0 0
 e2:f 2=.ptr 1 0 0
 e3:f 3=.ptr 2 0 0
 e4:f 4=ak s
 e5:f 5=au row
 e12:f 12=aN d.next
 e13:f 13=ak d.next.length
 e14:f 14=ak s
 e19:f 19=ak ph
 e6:f 6=ak ph
def uq(d:aB)(sg s ph i:Nat):List Int:=(jf d (3*s+ph)).take i++List.replicate (sg - i) 0
structure Q8(d:aB)(row:List Int)(sg s ph c n0:Nat)(g0:Nat→Option aF)(i:Nat)(f:AF)(S:St):Prop where
 le:i≤sg
 e27:f 27=ak i
 e26:f 26=ak sg
 e25:f 25=au row
 e7:f 7=.own c 0 sg
 gc:S.g c=some (.arr 1 ((uq d sg s ph i).map ak))
 go:∀k,k≠c→k < n0→S.g k=g0 k
 n:n0≤S.n
 ff:LW d row s ph f
def phI(d:aB)(row:List Int)(sg s ph c n0:Nat)(g0:Nat→Option aF)(m:Nat)(f:AF)(S:St):Prop:=∃i,m=sg - i∧Q8 d row sg s ph c n0 g0 i f S
theorem IZ{d:aB}(R:bg d){sg:Nat}(hsg:d.signs=sg){s ph:Nat}(hs:s < d.next.length)(hp:ph < 3):(jf d (3*s+ph)).length=sg:=by
 have e2:(3*s+ph) / 3=s:=by omega
 have:=R.row s hs;simp only[jf,J5,List.length_mapIdx,e2,List.getD_eq_getElem?_getD,List.getElem?_eq_getElem hs,Option.getD_some];omega
theorem Zot{d:aB}(R:bg d){sg:Nat}(hsg:d.signs=sg){s ph i:Nat}(hs:s < d.next.length)(hp:ph < 3)(hi:i < sg)(x:Int)(hx:x=vW ph i (bN d s i)):(uq d sg s ph i).set i x=uq d sg s ph (i+1):=by
 have hlen:=IZ R hsg hs hp;have hat:=FQ R hs hp i;rw[if_pos (by omega)] at hat;unfold uq;rw[List.take_add_one,hat];have e:sg - i=(sg - (i+1))+1:=by omega
 rw[e,List.replicate_succ];simp only[Option.toList_some,List.append_assoc,List.singleton_append];rw[List.set_append_right _ _ (by simp;omega)];have:i - ((jf d (3*s+ph)).take i).length=0:=by simp;omega
 rw[this,hx];rfl
theorem ZhH{d:aB}(R:bg d){sg:Nat}(hsg:d.signs=sg){s ph i:Nat}(hs:s < d.next.length)(hp:ph < 3)(hi:i≤sg):(uq d sg s ph i).length=sg:=by
 have:=IZ R hsg hs hp;simp[uq];omega
theorem Zru{P:Program}{d:aB}(R:bg d){sg:Nat}(hsg:d.signs=sg){row:List Int}{s ph c n0:Nat}{g0:Nat→Option aF}(hs:s < d.next.length)(hrow:d.next[s]=row)(hp:ph < 3)(hc:c < n0){f:AF}{S:St}{Q:Exit→AF→St→Prop}(h0:Q8 d row sg s ph c n0 g0 0 f S)
  (hq:∀f' S',Q8 d row sg s ph c n0 g0 sg f' S'→Q .normal f' S'):AW P Um Q f S:=by
 have hs1:=R.s1;have hs2:=R.s2;have hn2:=R.n2;simp[Um];refine kD (phI d row sg s ph c n0 g0) sg ⟨0,by omega,h0⟩ ?_;rintro m f S ⟨i,rfl,⟨le,e27,e26,e25,e7,gc,go,hn,ff⟩⟩;by_cases hlt:i < sg
 ·have qJ:(i:Int) < sg:=by omega
  obtain⟨q1,q2,q3⟩:=zX R hs (s:=(i:Int)) (by omega) (by omega);simp only[Int.toNat_natCast] at q1 q2;have hgi:row[i]? = some ((bN d s i:Nat):Int):=by rw[←hrow,List.getElem?_eq_getElem q1,q2]
  have hcl:=ZhH R hsg hs hp (Nat.le_of_lt hlt);have hci:i < ((uq d sg s ph i).map ak).length:=by rw[List.length_map,hcl];exact hlt
  have hcl':((uq d sg s ph i).map ak).length=sg:=by rw[List.length_map,hcl]
  have abu:((uq d sg s ph i).map ak)[i]? = some (((uq d sg s ph i).map ak)[i]):=List.getElem?_eq_getElem hci;have ha:=ZrM i (by omega);have hst:∀x:Int,x=vW ph i (bN d s i)→(((uq d sg s ph i).map ak).set i (.v (.int .i64 x)))=(uq d sg s ph (i+1)).map ak:=fun x hx=>by rw[←Zot R hsg hs hp hlt x hx,List.map_set];rfl
  have fin:∀(f2:AF) (S2:St) (x:Int),x=vW ph i (bN d s i)→f2 27=ak ((i:Int)+1)→f2 26=ak sg→f2 25=au row→f2 7=.own c 0 sg→S2.g c=some (.arr 1 (((uq d sg s ph i).map ak).set i (.v (.int .i64 x))))→(∀k,k≠c→k < n0→S2.g k=g0 k)→n0≤S2.n→LW d row s ph f2→vR (phI d row sg s ph c n0 g0) (sg - i) f2 S2:=by
   intro f2 S2 x hx a27 a26 a25 a7 ac ao an af;exact⟨sg - (i+1),by omega,i+1,rfl,⟨by omega,by rw[a27];simp[ak],a26,a25,a7,by rw[ac,hst x hx],ao,an,af⟩⟩
  have hw1:IntKind.i64.wrap ((bN d s i:Int)*3)=(bN d s i:Int)*3:=aZ _ (by omega);have hw2:IntKind.i64.wrap ((bN d s i:Int)*3+1)=(bN d s i:Int)*3+1:=aZ _ (by omega);have hw3:IntKind.i64.wrap ((bN d s i:Int)*3+2)=(bN d s i:Int)*3+2:=aZ _ (by omega);have hw4:IntKind.i64.wrap ((bN d s i:Int)*3+ph)=(bN d s i:Int)*3+ph:=aZ _ (by omega);have PD:IntKind.i64.wrap ((i:Int)+1)=(i:Int)+1:=aZ _ (by omega);by_cases he:i % 2=0
  ·rw[he] at ha
   by_cases uh:ph=0
   ·have hpb:((ph:Int) == 0)=true:=by simp[uh]
    simp[e27,e26,e25,e7,ff.e6,au,qJ,hgi,gc,hcl,hlt,ha,hpb,hw1,hw2,PD];refine fin _ _ ((bN d s i:Int)*3+1) (by unfold vW;rw[if_pos he,if_pos uh]) ?_ ?_ ?_ ?_ ?_ ?_ ?_ ⟨?_,?_,?_,?_,?_,?_,?_,?_,?_,?_⟩
    ·simp[aj,ak]
    ·simp[aj,e26,ak]
    ·simp[aj,e25,au]
    ·simp[aj,e7]
    ·simp[aD]
    ·intro k hk1 hk2;simp[aD,hk1,go k hk1 hk2]
    ·simp;omega
    ·simp[aj,ff.e1]
    ·simp[aj,ff.e2]
    ·simp[aj,ff.e3]
    ·simp[aj,ff.e4]
    ·simp[aj,ff.e5]
    ·simp[aj,ff.e12]
    ·simp[aj,ff.e13]
    ·simp[aj,ff.e14]
    ·simp[aj,ff.e19]
    ·simp[aj,ff.e6]
   ·have hpb:((ph:Int) == 0)=false:=beq_false_of_ne (by omega)
    simp[e27,e26,e25,e7,ff.e6,au,qJ,hgi,gc,hcl,hlt,ha,hpb,hw1,hw4,PD];refine fin _ _ ((bN d s i:Int)*3+ph) (by unfold vW;rw[if_pos he,if_neg uh]) ?_ ?_ ?_ ?_ ?_ ?_ ?_ ⟨?_,?_,?_,?_,?_,?_,?_,?_,?_,?_⟩
    ·simp[aj,ak]
    ·simp[aj,e26,ak]
    ·simp[aj,e25,au]
    ·simp[aj,e7]
    ·simp[aD]
    ·intro k hk1 hk2;simp[aD,hk1,go k hk1 hk2]
    ·simp;omega
    ·simp[aj,ff.e1]
    ·simp[aj,ff.e2]
    ·simp[aj,ff.e3]
    ·simp[aj,ff.e4]
    ·simp[aj,ff.e5]
    ·simp[aj,ff.e12]
    ·simp[aj,ff.e13]
    ·simp[aj,ff.e14]
    ·simp[aj,ff.e19]
    ·simp[aj,ff.e6]
  ·have he1:i % 2=1:=by omega
   rw[he1] at ha;by_cases uh:ph=1
   ·have hpb:((ph:Int) == 1)=true:=by simp[uh]
    simp[e27,e26,e25,e7,ff.e6,au,qJ,hgi,gc,hcl,hlt,ha,hpb,hw1,hw3,PD];refine fin _ _ ((bN d s i:Int)*3+2) (by unfold vW;rw[if_neg he,if_pos uh]) ?_ ?_ ?_ ?_ ?_ ?_ ?_ ⟨?_,?_,?_,?_,?_,?_,?_,?_,?_,?_⟩
    ·simp[aj,ak]
    ·simp[aj,e26,ak]
    ·simp[aj,e25,au]
    ·simp[aj,e7]
    ·simp[aD]
    ·intro k hk1 hk2;simp[aD,hk1,go k hk1 hk2]
    ·simp;omega
    ·simp[aj,ff.e1]
    ·simp[aj,ff.e2]
    ·simp[aj,ff.e3]
    ·simp[aj,ff.e4]
    ·simp[aj,ff.e5]
    ·simp[aj,ff.e12]
    ·simp[aj,ff.e13]
    ·simp[aj,ff.e14]
    ·simp[aj,ff.e19]
    ·simp[aj,ff.e6]
   ·have hpb:((ph:Int) == 1)=false:=beq_false_of_ne (by omega)
    simp[e27,e26,e25,e7,ff.e6,au,qJ,hgi,gc,hcl,hlt,ha,hpb,PD];refine fin _ _ (-1) (by unfold vW;rw[if_neg he,if_neg uh]) ?_ ?_ ?_ ?_ ?_ ?_ ?_ ⟨?_,?_,?_,?_,?_,?_,?_,?_,?_,?_⟩
    ·simp[aj,ak]
    ·simp[aj,e26,ak]
    ·simp[aj,e25,au]
    ·simp[aj,e7]
    ·simp[aD]
    ·intro k hk1 hk2;simp[aD,hk1,go k hk1 hk2]
    ·simp;omega
    ·simp[aj,ff.e1]
    ·simp[aj,ff.e2]
    ·simp[aj,ff.e3]
    ·simp[aj,ff.e4]
    ·simp[aj,ff.e5]
    ·simp[aj,ff.e12]
    ·simp[aj,ff.e13]
    ·simp[aj,ff.e14]
    ·simp[aj,ff.e19]
    ·simp[aj,ff.e6]
 ·have:i=sg:=by omega
  subst this;simp[e27,e26];refine hq _ _ ⟨le,by simp[aj,e27],by simp[aj,e26],by simp[aj,e25],by simp[aj,e7],gc,go,by simp;omega,⟨by simp[aj,ff.e1],by simp[aj,ff.e2],by simp[aj,ff.e3],by simp[aj,ff.e4],by simp[aj,ff.e5],by simp[aj,ff.e12],by simp[aj,ff.e13],by simp[aj,ff.e14],by simp[aj,ff.e19],by simp[aj,ff.e6]⟩⟩
structure E8(d:aB)(k:Nat)(nx en:AV)(rv:List AV)(S:St):Prop where
 g0:S.g 0=some (.arr 3 [aH d])
 g1:S.g 1=some (.arr 2 [.agg [.sl true [],.sl true []]])
 g2:S.g 2=some (.arr 2 [.agg [nx,en]])
 n:3≤S.n
 rows:jJ S.g S.n [0,1,2] (nx::en::rv) (rv::((List.range k).map (qE d)).map aG::(List.range k).map fun i=>(jf d i).map ak)
theorem Zl0{g:Nat→Option aF}{n:Nat}{av:List Nat}{vs:List AV}{ls:List (List AV)}(h:jJ g n av vs ls):∀z∈vs,z.cells.length=1:=by
 intro z hz;obtain⟨t,ht,rfl⟩:=List.mem_iff_getElem.mp hz;rcases h.row t ht (by rw[←h.len];exact ht) with⟨e,_⟩ | ⟨_,_,_,e,_⟩<;>rw[e]<;>rfl
theorem Zqd{P:Program}{d:aB}(R:bg d){sg:Nat}(hsg:d.signs=sg){row:List Int}{s ph c:Nat}(hs:s < d.next.length)(hp:ph < 3){f:AF}{S:St}{Q:Exit→AF→St→Prop}{nx en:AV}{rv:List AV}
  (ff:LW d row s ph f) (e7:f 7=.own c 0 sg) (gc:S.g c=some (.arr 1 ((jf d (3*s+ph)).map ak))) (hc:c < S.n∧c∉[0,1,2]∧∀w∈nx::en::rv,c∉w.ids) (st:E8 d (3*s+ph) nx en rv S)
  (hq:∀f' S' nx' en' rv',LW d row s ph f'→E8 d (3*s+ph+1) nx' en' rv' S'→Q .normal f' S'):AW P TK Q f S:=by
 obtain⟨g0,g1,g2,sn,rows⟩:=st;obtain⟨hv1,ho1,hs1,WC⟩:=rows.head;obtain⟨hv2,ho2,hs2,AQ⟩:=WC.head;have hn2:=R.n2;have hrl:rv.length=3*s+ph:=by have:=AQ.len;simpa using this
 have hfin:s < d.fin.length:=by rw[R.fin];exact hs
 have hfI:(s:Int) < d.fin.length:=by omega
 have hgf:d.fin[s]? = some d.fin[s]:=List.getElem?_eq_getElem hfin;have hcs1:nx.cells=[nx]:=by rcases hv1 with⟨e,_⟩ | ⟨_,_,_,e,_⟩<;>rw[e]<;>rfl
 have hcs2:en.cells=[en]:=by rcases hv2 with⟨e,_⟩ | ⟨_,_,_,e,_⟩<;>rw[e]<;>rfl
 have hb2:(((ph:Int) == 2)=true∧ph=2)∨(((ph:Int) == 2)=false∧ph≠2):=by
  by_cases h:ph=2
  ·left;simp[h]
  ·right;exact⟨beq_false_of_ne (by omega),h⟩
 have hnx:∀k∈[0,1,2],k∉nx.ids:=fun k hk h6=>(ho1 k h6).2 hk
 have hen:∀k∈[0,1,2],k∉en.ids:=fun k hk h6=>(ho2 k h6).2 hk
 have aa2:=hnx 2 (by simp);have hw2:∀m,(St.without ⟨m,S.g⟩ nx).g 2=some (.arr 2 [.agg [nx,en]]):=fun m=>by rw[kC 2 aa2];exact g2
 have hw0:∀m,(St.without ⟨m,S.g⟩ nx).g 0=some (.arr 3 [aH d]):=fun m=>by rw[kC 0 (hnx 0 (by simp))];exact g0
 have Wv:¬(2=S.n+4):=by omega
 have Px:¬(S.n+4=2):=by omega
 have hx:∀j∈nx.ids,j≠2:=fun j hj e=>aa2 (e ▸ hj)
 have aau:∀m m' b,(St.without ⟨m,((St.without ⟨m',S.g⟩ nx).set (S.n+4) b).g⟩ en).g 2=some (.arr 2 [.agg [nx,en]]):=fun m m' b=>by
  rw[kC 2 (hen 2 (by simp)),aD,if_neg Wv];exact hw2 m'
 have abA:¬(2=S.n+17):=by omega
 have aap:∀m b,Vec ((St.without ⟨m,S.g⟩ nx).set (S.n+4) b).g en 1 (((List.range (3*s+ph)).map (qE d)).map aG):=fun m b=>hv2.frame (fun j hj=>by
  rw[aD,if_neg (by have:=(ho2 j hj).1;omega),kC j (fun h6=>hs1 en (by simp) j h6 hj)])
 have ab8:=IZ R hsg hs hp
 have key:∀(T:St) (b:Bool),b=qE d (3*s+ph)→S.n+22≤T.n→T.g 2=some (.arr 2 [.agg [.own (S.n+4) 0 (3*s+ph+1),.own (S.n+17) 0 (3*s+ph+1)]])→(∀k,k < S.n→k≠2→k∉nx.ids→k∉en.ids→T.g k=S.g k)→
   T.g (S.n+4)=some (.arr 1 (rv++[.own c 0 sg]))→T.g (S.n+17)=some (.arr 1 (((List.range (3*s+ph)).map (qE d)).map aG++[aG b]))→E8 d (3*s+ph+1) (.own (S.n+4) 0 (3*s+ph+1)) (.own (S.n+17) 0 (3*s+ph+1)) (rv++[.own c 0 sg]) T:=by
  intro T b hb hTn hT2 O8 hT4 aaA
  have aaB:∀v∈rv,∀i∈v.ids,T.g i=S.g i:=fun v hv i hi=>by
   obtain⟨o1,o2⟩:=AQ.out v hv i hi;exact O8 i o1 (by intro e;subst e;simp at o2) (fun h6=>hs1 v (by simp[hv]) i h6 hi) (fun h6=>hs2 v hv i h6 hi)
  have r1:jJ T.g T.n [0,1,2] rv ((List.range (3*s+ph)).map fun i=>(jf d i).map ak):=AQ.frame (by omega) aaB;have hTc:T.g c=S.g c:=O8 c hc.1 (by intro e;subst e;simp at hc) (hc.2.2 nx (by simp)) (hc.2.2 en (by simp))
  have r2:=r1.snoc (v:=.own c 0 sg) (l:=(jf d (3*s+ph)).map ak) (.mk' (by rw[hTc];exact gc) (by simp[ab8])) (fun i hi=>by
   simp only[AV.ids,List.mem_singleton] at hi;subst hi;exact⟨by omega,hc.2.1⟩) (fun w hw i hi h6=>by
   simp only[AV.ids,List.mem_singleton] at h6;subst h6;exact hc.2.2 w (by simp[hw]) hi)
  have r3:=r2.cons (v:=.own (S.n+17) 0 (3*s+ph+1)) (l:=((List.range (3*s+ph)).map (qE d)).map aG++[aG b]) (.mk' aaA (by simp)) (fun i hi=>by
   simp only[AV.ids,List.mem_singleton] at hi;subst hi;exact⟨by omega,by simp⟩) (fun w hw i hi h6=>by
   simp only[AV.ids,List.mem_singleton] at hi;subst hi;have:=(r2.out w hw _ h6);rcases List.mem_append.mp hw with hw | hw
   ·have:=(AQ.out w hw _ h6).1;omega
   ·simp at hw;subst hw;simp[AV.ids] at h6;omega)
  have r4:=r3.cons (v:=.own (S.n+4) 0 (3*s+ph+1)) (l:=rv++[.own c 0 sg]) (.mk' hT4 (by simp[hrl])) (fun i hi=>by
   simp only[AV.ids,List.mem_singleton] at hi;subst hi;exact⟨by omega,by simp⟩) (fun w hw i hi h6=>by
   simp only[AV.ids,List.mem_singleton] at hi;subst hi;rcases List.mem_cons.mp hw with hw | hw
   ·subst hw;simp[AV.ids] at h6
   ·rcases List.mem_append.mp hw with hw | hw
    ·have:=(AQ.out w hw _ h6).1;omega
    ·simp at hw;subst hw;simp[AV.ids] at h6;omega)
  refine⟨?_,?_,hT2,by omega,?_⟩
  ·rw[O8 0 (by omega) (by omega) (hnx 0 (by simp)) (hen 0 (by simp))];exact g0
  ·rw[O8 1 (by omega) (by omega) (hnx 1 (by simp)) (hen 1 (by simp))];exact g1
  ·have e1:((List.range (3*s+ph+1)).map (qE d)).map aG=((List.range (3*s+ph)).map (qE d)).map aG++[aG b]:=by
    rw[List.range_succ];simp[hb]
   have e2:((List.range (3*s+ph+1)).map fun i=>(jf d i).map ak)=((List.range (3*s+ph)).map fun i=>(jf d i).map ak)++[(jf d (3*s+ph)).map ak]:=by
    rw[List.range_succ];simp
   rw[e1,e2];exact r4
 have hwo:∀(m m':Nat) (b:Option aF) (k:Nat),k < S.n→k∉nx.ids→k∉en.ids→(St.without ⟨m,((St.without ⟨m',S.g⟩ nx).set (S.n+4) b).g⟩ en).g k=S.g k:=by
  intro m m' b k hk h1 h2;rw[kC k h2,aD,if_neg (by omega),kC k h1]
 have hw4:∀(m m':Nat) (b:Option aF),(St.without ⟨m,((St.without ⟨m',S.g⟩ nx).set (S.n+4) b).g⟩ en).g (S.n+4)=b:=by
  intro m m' b;rw[kC _ (fun h6=>by have:=(ho2 _ h6).1;omega),aD,if_pos rfl]
 have aa6:∀(j:Nat),j∈nx.ids∨j=S.n+4→¬j=2:=by
  rintro j (h | h)
  ·exact hx j h
  ·omega
 simp[TK,ff.e3,e7,g2];rw[Vec.IL hv1 (Zl0 AQ) (by simp[AV.cells]) (by unfold eY;omega)];rcases hb2 with⟨hb,uh⟩ | ⟨hb,uh⟩
 ·simp[ff.e1,ff.e3,ff.e4,ff.e6,hw0,hw2,hb,aH,bA,hgf]
  refine⟨aa6,?_⟩;rw[Vec.IL (xs:=((List.range (3*s+ph)).map (qE d)).map aG) (aap _ _) (by intro z hz;obtain⟨b,_,rfl⟩:=List.mem_map.mp hz;rfl) (by simp[AV.cells]) (by unfold eY;simp;omega)];simp[ff.e3,aau];refine hq _ _ _ _ _ ⟨?_,?_,?_,?_,?_,?_,?_,?_,?_,?_⟩ (key _ d.fin[s] ?_ ?_ ?_ ?_ ?_ ?_)
  ·simp[aj,ff.e1]
  ·simp[aj,ff.e2]
  ·simp[aj,ff.e3]
  ·simp[aj,ff.e4]
  ·simp[aj,ff.e5]
  ·simp[aj,ff.e12]
  ·simp[aj,ff.e13]
  ·simp[aj,ff.e14]
  ·simp[aj,ff.e19]
  ·simp[aj,ff.e6]
  ·have e1:(3*s+ph) % 3=2:=by omega
   have e2:(3*s+ph) / 3=s:=by omega
   simp[qE,e1,e2,hgf]
  ·simp[bE,pY]
  ·simp[aD,hrl]
  ·intro k hk h1 h2 h3
   simp only[aD];rw[if_neg h1,if_neg h1,if_neg (by omega)];exact hwo _ _ _ k hk h2 h3
  ·simp only[aD]
   rw[if_neg Px,if_neg Px,if_neg (by omega)];exact hw4 _ _ _
  ·simp only[aD]
   rw[if_neg (by omega),if_neg (by omega)];simp[aG]
 ·simp[ff.e3,ff.e6,hw2,hb]
  refine⟨aa6,?_⟩;rw[Vec.IL (xs:=((List.range (3*s+ph)).map (qE d)).map aG) (aap _ _) (by intro z hz;obtain⟨b,_,rfl⟩:=List.mem_map.mp hz;rfl) (by simp[AV.cells]) (by unfold eY;simp;omega)];simp[ff.e3,aau];refine hq _ _ _ _ _ ⟨?_,?_,?_,?_,?_,?_,?_,?_,?_,?_⟩ (key _ false ?_ ?_ ?_ ?_ ?_ ?_)
  ·simp[aj,ff.e1]
  ·simp[aj,ff.e2]
  ·simp[aj,ff.e3]
  ·simp[aj,ff.e4]
  ·simp[aj,ff.e5]
  ·simp[aj,ff.e12]
  ·simp[aj,ff.e13]
  ·simp[aj,ff.e14]
  ·simp[aj,ff.e19]
  ·simp[aj,ff.e6]
  ·have e1:¬(3*s+ph) % 3=2:=by omega
   unfold qE;rw[decide_eq_false e1];rfl
  ·simp[bE,pY]
  ·simp[aD,hrl]
  ·intro k hk h1 h2 h3
   simp only[aD];rw[if_neg h1,if_neg h1,if_neg (by omega)];exact hwo _ _ _ k hk h2 h3
  ·simp only[aD]
   rw[if_neg Px,if_neg Px,if_neg (by omega)];exact hw4 _ _ _
  ·simp only[aD]
   rw[if_neg (by omega),if_neg (by omega)];simp[aG]
def phP(d:aB)(row:List Int)(s:Nat)(m:Nat)(f:AF)(S:St):Prop:=
 ∃ph nx en rv,ph≤3∧m=3 - ph∧f 1=.ptr 0 0 0∧f 2=.ptr 1 0 0∧f 3=.ptr 2 0 0∧f 4=ak s∧f 5=au row∧f 12=aN d.next∧f 13=ak d.next.length∧f 14=ak s∧f 19=ak ph∧E8 d (3*s+ph) nx en rv S
theorem ZjH{P:Program}{d:aB}(R:bg d){sg:Nat}(hsg:d.signs=sg){row:List Int}{s:Nat}(hs:s < d.next.length)(hrow:d.next[s]=row){f:AF}{S:St}{Q:Exit→AF→St→Prop}(h0:phP d row s 3 f S)
  (hq:∀f' S' nx en rv,f' 1=.ptr 0 0 0→f' 2=.ptr 1 0 0→f' 3=.ptr 2 0 0→f' 12=aN d.next→f' 13=ak d.next.length→f' 14=ak s→E8 d (3*(s+1)) nx en rv S'→Q .normal f' S'):AW P R5 Q f S:=by
 have hs1:=R.s1;have hs2:=R.s2;have hrl:row.length=sg:=by have:=R.row s hs;rw[hrow] at this;omega
 have q1:(sg:Int)≤9223372036854775807:=by omega
 have q2:8*(sg:Int)≤281474976710656:=by omega
 simp[R5];refine kD (phP d row s) 3 h0 ?_;rintro m f S ⟨ph,nx,en,rv,hp,rfl,e1,e2,e3,e4,e5,e12,e13,e14,e19,st⟩;by_cases hlt:ph < 3
 ·have Ws:(ph:Int) < 3:=by omega
  have g0:=st.g0;simp[e1,e5,e19,g0,aH,Ws,hsg,yj,q1,q2,au,hrl];refine Zru R hsg (row:=row) (c:=S.n+1+2+2) (n0:=S.n+1+2+4+3) (g0:=(St.set ⟨S.n+1+2+4,S.g⟩ (S.n+1+2+2) (some (aF.arr 1 (List.replicate sg (AV.v (Value.int IntKind.i64 0)))))).g) hs hrow hlt (by omega) ⟨by omega,?_,?_,?_,?_,?_,fun _ _ _=>rfl,by simp,⟨?_,?_,?_,?_,?_,?_,?_,?_,?_,?_⟩⟩ ?_
  ·simp[aj,ak]
  ·simp[aj,ak]
  ·simp[aj,au]
  ·simp[aj]
  ·simp[aD,uq,ak]
  ·simp[aj,e1]
  ·simp[aj,e2]
  ·simp[aj,e3]
  ·simp[aj,e4]
  ·simp[aj,e5]
  ·simp[aj,e12]
  ·simp[aj,e13]
  ·simp[aj,e14]
  ·simp[aj,e19]
  ·simp[aj,ak]
  ·rintro f' S' ⟨_,_,_,_,k7,kc,ko,kn,kf⟩
   obtain⟨g0,g1,g2,sn,rows⟩:=st
   have hko:∀k,k < S.n→S'.g k=S.g k:=fun k hk=>by
    rw[ko k (by omega) (by omega),aD,if_neg (by omega)]
   have hfull:uq d sg s ph sg=jf d (3*s+ph):=by
    unfold uq;rw[List.take_of_length_le (by rw[IZ R hsg hs hlt];exact Nat.le_refl _)];simp
   rw[hfull] at kc;simp only[bZ];refine Zqd R hsg hs hlt kf k7 kc ⟨by omega,by simp<;>omega,fun w hw h6=>by have:=(rows.out w hw _ h6).1;omega⟩ ⟨by rw[hko 0 (by omega)];exact g0,by rw[hko 1 (by omega)];exact g1,by rw[hko 2 (by omega)];exact g2,by omega,rows.frame (by omega) (fun v hv i hi=>hko i (rows.out v hv i hi).1)⟩ ?_;intro f2 S2 nx' en' rv' AL st2;have w1:IntKind.i64.wrap ((ph:Int)+1)=(ph:Int)+1:=aZ _ (by omega);simp[AL.e19,w1];obtain⟨g0,g1,g2,sn,rows⟩:=st2;refine⟨3 - (ph+1),by omega,ph+1,nx',en',rv',by omega,rfl,?_,?_,?_,?_,?_,?_,?_,?_,?_,⟨g0,g1,g2,by simp<;>omega,rows.frame (by simp) (fun _ _ _ _=>rfl)⟩⟩
   ·simp[aj,AL.e1]
   ·simp[aj,AL.e2]
   ·simp[aj,AL.e3]
   ·simp[aj,AL.e4]
   ·simp[aj,AL.e5]
   ·simp[aj,AL.e12]
   ·simp[aj,AL.e13]
   ·simp[aj,AL.e14]
   ·simp[aj,ak]
 ·have:ph=3:=by omega
  subst this;simp[e19];refine hq _ _ nx en rv (by simp[aj,e1]) (by simp[aj,e2]) (by simp[aj,e3]) (by simp[aj,e12]) (by simp[aj,e13]) (by simp[aj,e14]) ?_;obtain⟨g0,g1,g2,sn,rows⟩:=st;exact⟨g0,g1,g2,by simp;omega,rows.frame (by simp) (fun _ _ _ _=>rfl)⟩
def phO(d:aB)(m:Nat)(f:AF)(S:St):Prop:=
 ∃s nx en rv,s≤d.next.length∧m=d.next.length - s∧f 1=.ptr 0 0 0∧f 2=.ptr 1 0 0∧f 3=.ptr 2 0 0∧f 12=aN d.next∧f 13=ak d.next.length∧f 14=ak s∧E8 d (3*s) nx en rv S
theorem ZaB{P:Program}(d:aB)(R:bg d):AW P RS (iI [.c 2 (some 2)] (dx (vC (pg d)))) (bC [aH d]) S0:=by
 obtain⟨sg,hsg⟩:∃sg:Nat,d.signs=sg:=⟨d.signs.toNat,by have:=R.s1;omega⟩;have hn2:=R.n2;simp[RS,aH,aN];refine kD (phO d) d.next.length ⟨0,.sl true [],.sl true [],[],by omega,by omega,?_,?_,?_,?_,?_,?_,⟨?_,?_,?_,?_,?_⟩⟩ ?_
 ·simp[aj]
 ·simp[aj]
 ·simp[aj]
 ·simp[aj,aN]
 ·simp[aj,ak]
 ·simp[aj,ak]
 ·simp[aD,aH,ak,aN]
 ·simp[aD]
 ·simp[aD]
 ·simp
 ·exact .cons .nil (by simp[AV.ids]) (by simp[AV.ids]) (.cons .nil (by simp[AV.ids]) (by simp[AV.ids]) .nil)
 ·rintro m f S ⟨s,nx,en,rv,hsl,rfl,e1,e2,e3,e12,e13,e14,st⟩
  by_cases hlt:s < d.next.length
  ·have hsI:(s:Int) < d.next.length:=by omega
   have hgs:d.next[s]? = some d.next[s]:=List.getElem?_eq_getElem hlt
   simp[e12,e13,e14,aN,hsI,hgs,au];refine ZjH R hsg hlt (row:=d.next[s]) rfl ⟨0,nx,en,rv,by omega,rfl,?_,?_,?_,?_,?_,?_,?_,?_,?_,?_⟩ ?_
   ·simp[aj,e1]
   ·simp[aj,e2]
   ·simp[aj,e3]
   ·simp[aj,ak]
   ·simp[aj,au]
   ·simp[aj,e12,aN]
   ·simp[aj,e13]
   ·simp[aj,e14]
   ·simp[aj,ak]
   ·obtain⟨g0,g1,g2,sn,rows⟩:=st
    exact⟨g0,g1,g2,by simp<;>omega,rows.frame (by simp<;>omega) (fun _ _ _ _=>rfl)⟩
   ·intro f' S' nx' en' rv' k1 k2 k3 k12 k13 k14 st'
    have w1:IntKind.i64.wrap ((s:Int)+1)=(s:Int)+1:=aZ _ (by omega);simp[k14,w1];obtain⟨g0,g1,g2,sn,rows⟩:=st';refine⟨d.next.length - (s+1),by omega,s+1,nx',en',rv',by omega,rfl,?_,?_,?_,?_,?_,?_,⟨g0,g1,g2,by simp;omega,rows.frame (by simp) (fun _ _ _ _=>rfl)⟩⟩
    ·simp[aj,k1]
    ·simp[aj,k2]
    ·simp[aj,k3]
    ·simp[aj,k12]
    ·simp[aj,k13]
    ·simp[aj,ak]
  ·have:s=d.next.length:=by omega
   subst this;obtain⟨g0,g1,g2,sn,rows⟩:=st;simp[e13,e14,e2,e3,g1,g2];obtain⟨hv1,_,_,WC⟩:=rows.head;obtain⟨hv2,ho2,hs2,AQ⟩:=WC.head;have hno:∀v∈nx::en::rv,∀i∈v.ids,i≠1:=fun v hv i hi e=>(rows.out v hv i hi).2 (by subst e;simp)
   have hfr:∀{v:AV} {es:Nat} {xs:List AV},v∈nx::en::rv→Vec S.g v es xs→Vec (St.set ⟨S.n+1+2,S.g⟩ 1 (some (aF.arr 2 [AV.agg [nx,en]]))).g v es xs:=fun hv h=>h.frame (fun i hi=>by
    rw[aD,if_neg (hno _ hv i hi)])
   refine⟨[.agg [nx,en]],by simp[iJ,RV.ev,jD,aj,e2,aD,aY,dn],?_⟩;have hrl:rv.length=3*d.next.length:=by have:=AQ.len;simpa using this
   refine Fz.agg _ _ rfl (fun i h1 h2=>?_)
   match i,h1 with
   | 0,_=>
    refine(hfr (by simp) hv1).fzL (zs:=(pg d).next.map au) (by simp[pg,hrl]) (fun i k1 k2=>?_);have hv:=AQ.row i k1 (by simp;omega);simp only[List.getElem_map,List.getElem_range] at hv;have:=(hfr (v:=rv[i]) (by simp) hv).fz aX;simpa[pg,au] using this
   | 1,_=>
    have:=(hfr (by simp) hv2).fz (enc:=aG) cu;simpa[pg,bA] using this
def S9:AC:= (.block 6 (.loop (sq [ro 66 (.bin .lss (.t 65) (.t 64))] (.seq (.cond (.t 66) .skip (.exit 6)) (.seq (.block 7 (sq [ro 67 (.aI 1 (.t 63) (.t 65)),rL 68 67,rm 14 68] (sq [rm 69 14,ro 70 (.bin .neq (.t 69) (ci (-1))),rm 71 70,rg 72 71 true (.mv (.t 6)),rg 73 71 true (.mv (.t 14)),rg 74 71 true (.aI 1 (.t 72) (.t 73)),rg 75 71 true (.load none (.t 74)),rg 76 71 true (.mv (.t 8)),rg 77 71 true (.bin .eql (.t 75) (.t 76)),ro 78 (.pick (.t 71) (.t 77) (.c (.v (.bool false))))] (.cond (.t 78) (.reg none [rm 79 10,rm 80 14,ro 81 (.bS 1 1 (.v (.int .i64 0)) [(0,(.t 80))]),ro 82 (.app 1 8 (.t 79) (.t 81)),rm 10 82]) .skip)))) (.reg none [ro 83 (.bin .add (.t 65) (ci 1)),rm 65 83]))))))
def Ul:AC:= (.block 4 (.loop (sq [ro 50 (.bin .lss (.t 49) (.t 48))] (.seq (.cond (.t 50) .skip (.exit 4)) (.seq (.block 5 (sq [ro 51 (.aI 1 (.t 47) (.t 49)),rL 52 51,rm 12 52] (sq [rF 53 0 5,rL 54 53,rm 55 12,ro 56 (.aI 1 (.t 54) (.t 55)),rL 57 56,rm 58 9,ro 59 (.bin .mul (ci 2) (.t 58)),rm 60 9,ro 61 (.bin .mul (ci 2) (.t 60)),ro 62 (.bin .add (.t 61) (ci 2)),ro 63 (.slc 1 (.t 57) (some (.t 59)) (some (.t 62))),ro 64 (.len (.t 63)),ro 65 (.mv (ci 0))] S9))) (.reg none [ro 84 (.bin .add (.t 49) (ci 1)),rm 49 84]))))))
def Fv(xH xG:FuncId):AC:= (sq [rm 85 10,ro 86 (.len (.t 85)),ro 87 (.bin .gtr (.t 86) (ci 0))] (.cond (.t 87) (sq [rm 88 10,rk 89 xH [(.t 88)]] (sq [rm 90 10,rk 91 xG [(.t 90)],rm 7 91] (sq [rm 92 2,rm 93 9,ro 94 (.bS 1 1 (.v (.int .i64 0)) [(0,(.t 93))]),ro 95 (.app 1 8 (.t 92) (.t 94)),rm 2 95] (.exit 1)))) .skip))
def SX(xH xG:FuncId):AC:= (.block 2 (.loop (sq [ro 45 (.bin .lss (.t 44) (.t 43))] (.seq (.cond (.t 45) .skip (.exit 2)) (.seq (.block 3 (sq [rm 46 44,rm 9 46] (sq [ro 10 (.mv (.c (.sl true [])))] (.seq (sq [rm 47 7,ro 48 (.len (.t 47)),ro 49 (.mv (ci 0))] Ul) (Fv xH xG))))) (.reg none [ro 96 (.bin .add (.t 44) (ci 1)),rm 44 96]))))))
def SY(xH xG:FuncId):AC:= (.block 0 (.loop (.seq (sq [rm 37 8,ro 38 (.bin .geq (.t 37) (ci 0))] (.cond (.t 38) .skip (.exit 0))) (.seq (.block 1 (sq [rF 41 0 1,rL 42 41,ro 43 (.bin .quo (.t 42) (ci 2)),ro 44 (.mv (ci 0))] (SX xH xG))) (.reg none [rm 39 8,ro 40 (.bin .sub (.t 39) (ci 1)),rm 8 40])))))
def Za(CF Cz:FuncId):AC:= (.block 8 (.loop (.seq (.seq (.reg (some []) [ro 97 (.load (some 3) (.t 1)),rm 98 2,rm 99 3,rk 100 CF [(.t 98),(.t 99)],rk 101 Cz [(.t 97),(.t 100)],ro 102 (.un .not (.t 101))]) (.cond (.t 102) .skip (.exit 8))) (.seq (.block 9 .skip) (.reg none [rm 103 3,ro 104 (.bin .add (.t 103) (ci 1)),rm 3 104])))))
def TJ(CF Cz:FuncId):AC:= (.seq (sq [ro 3 (.mv (ci 1))] (Za CF Cz)) (sq [rm 105 2,rm 106 3,rm 2 105,rm 3 106,ro 4 (.mv (.c (.v (.bool true))))] .ret))
def CV(Bh P4F P4c xH xG CF Cz:FuncId):AC:= (sq [ro 1 (.box 3 (.t 0)),ro 2 (.mv (.c (.sl true []))),ro 3 (.mv (ci 0)),ro 4 (.mv (.c (.v (.bool false))))] (.scp (.seq (sq [ro 15 (.load (some 3) (.t 1)),rk 16 Bh [(.t 15)],ro 17 (.un .not (.t 16)),rm 18 17,rg 19 18 false (.bV 0 (.t 1)),rg 20 18 false (.load none (.t 19)),rg 21 18 false (.bin .and (.t 20) (ci 1)),rg 22 18 false (.bin .eql (.t 21) (ci 1)),ro 23 (.pick (.t 18) (.c (.v (.bool true))) (.t 22))] (.cond (.t 23) (sq [ro 2 (.mv (.c (.sl true []))),ro 3 (.mv (ci 0)),ro 4 (.mv (.c (.v (.bool false))))] .ret) .skip)) (sq [ro 24 (.load (some 3) (.t 1)),rk 25 P4F [(.t 24)],ro 5 (.alloc (.agg [(.sl true []),(.sl true [])]) 2),rn (.store 2 (.t 5) (.t 25))] (sq [ro 26 (.load (some 2) (.t 5)),rk 27 P4c [(.t 26)],rm 6 27] (.seq (sq [rm 28 6,ro 29 (.aI 1 (.t 28) (ci 0)),rL 30 29,ro 31 (.bin .eql (.t 30) (ci (-1)))] (.cond (.t 31) (sq [ro 2 (.mv (.c (.sl true []))),ro 3 (.mv (ci 0)),ro 4 (.mv (.c (.v (.bool false))))] .ret) .skip)) (sq [ro 32 (.bS 1 1 (.v (.int .i64 0)) [(0,(ci 0))]),rm 7 32] (.seq .skip (.seq (sq [rm 33 6,ro 34 (.aI 1 (.t 33) (ci 0)),rL 35 34,ro 36 (.bin .sub (.t 35) (ci 1)),rm 8 36] (SY xH xG)) (TJ CF Cz))))))))))
def EB(g:Nat→Option aF)(v:AV)(l:List Int):Prop:=v=.sl true (l.map ak)∨∃id off ys,v=.own id off l.length∧g id=some (.arr 1 ys)∧off+l.length=ys.length∧ys.drop off=l.map ak
theorem EB.frame{g g':Nat→Option aF}{v:AV}{l:List Int}(h:EB g v l)(hs:∀i∈v.ids,g' i=g i):EB g' v l:=by
 rcases h with h | ⟨id,off,ys,rfl,h1,h2,h3⟩
 ·exact .inl h
 ·exact .inr ⟨id,off,ys,rfl,by rw[hs id (by simp[AV.ids])];exact h1,h2,h3⟩
structure Bc(d:aB)(far:List Int)(left:Int)(half:Nat)(hn:Nat)(v2 va:AV)(f:AF):Prop where
 e1:f 1=.ptr 0 0 0
 e2:f 2=v2
 e5:f 5=.ptr 15 0 0
 e6:f 6=au far
 e7:f 7=va
 e8:f 8=ak left
 e9:f 9=ak half
 e43:f 43=ak hn
 e44:f 44=ak half
structure Hf(nB:Nat)(gB:Nat→Option aF)(to:List Int)(f:AF)(S:St):Prop where
 go:∀k,k < nB→S.g k=gB k
 n:nB≤S.n
 v:Vec S.g (f 10) 1 (to.map ak)
 ids:∀i∈(f 10).ids,nB≤i∧i < S.n
def tH(far:List Int)(left:Int)(t:Int):Bool:=(t != -1) && (rd far t.toNat == left)
def WA(d:aB)(far:List Int)(left:Int)(half hn:Nat)(v2 va:AV)(nB:Nat)(gB:Nat→Option aF)(zJ pair:List Int)(AY:AV)(AP j:Nat)(m:Nat)(f:AF)(S:St):Prop:=
 ∃k t,k≤pair.length∧m=pair.length - k∧f 65=ak k∧f 64=ak pair.length∧f 63=.sl t (pair.map ak)∧f 47=AY∧f 48=ak AP∧f 49=ak j∧Bc d far left half hn v2 va f∧Hf nB gB (zJ++(pair.take k).filter (tH far left)) f S
theorem Zjq{P:Program}{d:aB}{far:List Int}{left:Int}{half hn:Nat}{v2 va:AV}{nB:Nat}{gB:Nat→Option aF}{zJ pair:List Int}{AY:AV}{AP j:Nat}(hp:pair.length≤2)(hin:∀t∈pair,-1≤t∧t < far.length)(hto:zJ.length≤1000000){f:AF}{S:St}{Q:Exit→AF→St→Prop}
  (h0:WA d far left half hn v2 va nB gB zJ pair AY AP j pair.length f S)
  (hq:∀f' S',f' 47=AY→f' 48=ak AP→f' 49=ak j→Bc d far left half hn v2 va f'→Hf nB gB (zJ++pair.filter (tH far left)) f' S'→Q .normal f' S'):AW P S9 Q f S:=by
 simp[S9];refine kD (WA d far left half hn v2 va nB gB zJ pair AY AP j) pair.length h0 ?_;rintro m f S ⟨k,t,hk,rfl,e65,e64,e63,e47,e48,e49,ff,hf⟩;by_cases hlt:k < pair.length
 ·have Cg:(k:Int) < pair.length:=by omega
  have Pf:pair[k]? = some pair[k]:=List.getElem?_eq_getElem hlt;obtain⟨i1,i2⟩:=hin _ (List.getElem_mem hlt);have w1:IntKind.i64.wrap ((k:Int)+1)=(k:Int)+1:=aZ _ (by omega)
  have htake:(pair.take (k+1)).filter (tH far left)=(pair.take k).filter (tH far left)++(if tH far left pair[k]=true then [pair[k]] else []):=by
   rw[List.take_add_one,Pf,List.filter_append];simp only[Option.toList_some,List.filter_cons,List.filter_nil]
  have fin:∀(f2:AF) (S2:St),f2 65=ak ((k:Int)+1)→f2 64=ak pair.length→f2 63=.sl t (pair.map ak)→f2 47=AY→f2 48=ak AP→f2 49=ak j→Bc d far left half hn v2 va f2→
    Hf nB gB (zJ++((pair.take k).filter (tH far left)++(if tH far left pair[k]=true then [pair[k]] else []))) f2 S2→vR (WA d far left half hn v2 va nB gB zJ pair AY AP j) (pair.length - k) f2 S2:=by
   intro f2 S2 a65 a64 a63 a47 a48 a49 af ah;exact⟨pair.length - (k+1),by omega,k+1,t,by omega,rfl,by rw[a65];simp[ak],a64,a63,a47,a48,a49,af,by rw[htake];exact ah⟩
  by_cases hno:pair[k] = -1
  ·have hb:(pair[k] != -1)=false:=by simp[hno]
   have hok:tH far left pair[k]=false:=by unfold tH;rw[hb];rfl
   rw[hok] at fin;simp[e65,e64,e63,Cg,Pf,hb,w1];refine fin _ _ ?_ ?_ ?_ ?_ ?_ ?_ ⟨?_,?_,?_,?_,?_,?_,?_,?_,?_⟩ ?_
   ·simp[aj,ak]
   ·simp[aj,e64,ak]
   ·simp[aj,e63]
   ·simp[aj,e47]
   ·simp[aj,e48]
   ·simp[aj,e49]
   ·simp[aj,ff.e1]
   ·simp[aj,ff.e2]
   ·simp[aj,ff.e5]
   ·simp[aj,ff.e6,au]
   ·simp[aj,ff.e7]
   ·simp[aj,ff.e8]
   ·simp[aj,ff.e9]
   ·simp[aj,ff.e43]
   ·simp[aj,ff.e44]
   ·obtain⟨go,n,v,ids⟩:=hf
    refine⟨go,by simp<;>omega,by simpa[aj] using v,fun i hi=>?_⟩;have:=ids i (by simpa[aj] using hi);simp;omega
  ·have hb:(pair[k] != -1)=true:=by simp[hno]
   have h0t:0≤pair[k]:=by omega
   have htf:(pair[k]).toNat < far.length:=by omega
   have hgt:far[(pair[k]).toNat]? = some far[(pair[k]).toNat]:=List.getElem?_eq_getElem htf;have hrt:=F5 htf;by_cases hl:far[(pair[k]).toNat]=left
   ·have hlb:(far[(pair[k]).toNat] == left)=true:=by simp[hl]
    have hok:tH far left pair[k]=true:=by unfold tH;rw[hb,←hrt,hlb];rfl
    rw[hok] at fin
    have happ:=fun(n aA:Nat)=>Vec.app (n:=n) (aA:=aA) (x:=.v (.int .i64 pair[k])) (aC:=8) hf.v (xS _) (by simp[AV.cells]) (Ac (by
     rw[List.length_map,List.length_append];have:=List.length_filter_le (tH far left) (pair.take k);simp at this;omega))
    have hnB:=hf.n;simp[e65,e64,e63,ff.e6,ff.e8,Cg,Pf,hb,au,h0t,i2,hlb];rw[happ];simp[e65,w1];refine fin _ _ ?_ ?_ ?_ ?_ ?_ ?_ ⟨?_,?_,?_,?_,?_,?_,?_,?_,?_⟩ ?_
    ·simp[aj,ak]
    ·simp[aj,e64,ak]
    ·simp[aj,e63]
    ·simp[aj,e47]
    ·simp[aj,e48]
    ·simp[aj,e49]
    ·simp[aj,ff.e1]
    ·simp[aj,ff.e2]
    ·simp[aj,ff.e5]
    ·simp[aj,ff.e6,au]
    ·simp[aj,ff.e7]
    ·simp[aj,ff.e8]
    ·simp[aj,ff.e9]
    ·simp[aj,ff.e43]
    ·simp[aj,ff.e44]
    ·refine⟨fun k hk=>?_,by simp[pY]<;>omega,?_,fun i hi=>?_⟩
     ·simp only[aD]
      rw[if_neg (by omega),kC k (fun h6=>by have:=(hf.ids k h6).1;omega)];exact hf.go k hk
     ·simp only[aj]
      simp only[Nat.reduceEqDiff,if_false,if_true];refine .mk' (by simp[aD,ak]) (by simp;omega)
     ·simp[aj,AV.ids] at hi
      subst hi;simp[pY];omega
   ·have hlb:(far[(pair[k]).toNat] == left)=false:=by simp[hl]
    have hok:tH far left pair[k]=false:=by unfold tH;rw[hb,←hrt,hlb];rfl
    rw[hok] at fin;simp[e65,e64,e63,ff.e6,ff.e8,Cg,Pf,hb,w1,au,h0t,i2,hlb];refine fin _ _ ?_ ?_ ?_ ?_ ?_ ?_ ⟨?_,?_,?_,?_,?_,?_,?_,?_,?_⟩ ?_
    ·simp[aj,ak]
    ·simp[aj,e64,ak]
    ·simp[aj,e63]
    ·simp[aj,e47]
    ·simp[aj,e48]
    ·simp[aj,e49]
    ·simp[aj,ff.e1]
    ·simp[aj,ff.e2]
    ·simp[aj,ff.e5]
    ·simp[aj,ff.e6,au]
    ·simp[aj,ff.e7]
    ·simp[aj,ff.e8]
    ·simp[aj,ff.e9]
    ·simp[aj,ff.e43]
    ·simp[aj,ff.e44]
    ·obtain⟨go,n,v,ids⟩:=hf
     refine⟨go,by simp<;>omega,by simpa[aj] using v,fun i hi=>?_⟩;have:=ids i (by simpa[aj] using hi);simp;omega
 ·have:k=pair.length:=by omega
  subst this;simp[e65,e64];obtain⟨go,n,v,ids⟩:=hf;rw[List.take_length] at v
  refine hq _ _ (by simp[aj,e47]) (by simp[aj,e48]) (by simp[aj,e49]) ⟨by simp[aj,ff.e1],by simp[aj,ff.e2],by simp[aj,ff.e5],by simp[aj,ff.e6],by simp[aj,ff.e7],by simp[aj,ff.e8],by simp[aj,ff.e9],by simp[aj,ff.e43],by simp[aj,ff.e44]⟩
   ⟨go,by simp;omega,by simpa[aj] using v,fun i hi=>by
    have:=ids i (by simpa[aj] using hi);simp;omega⟩
def PU(d:aB)(far:List Int)(left:Int)(half hn:Nat)(v2 va:AV)(nB:Nat)(gB:Nat→Option aF)(at_:List Int)(m:Nat)(f:AF)(S:St):Prop:=
 ∃j,j≤at_.length∧m=at_.length - j∧f 47=va∧f 48=ak at_.length∧f 49=ak j∧Bc d far left half hn v2 va f∧Hf nB gB (jE d far (at_.take j) half left) f S
theorem Sq(d:aB)(far:List Int)(h:Nat)(left:Int):∀at_:List Int,(jE d far at_ h left).length≤2*at_.length
 | []=>by simp[jE]
 | x::l=>by
  have ih:=Sq d far h left l;have h1:=List.length_filter_le (fun t=>(t != -1) && (rd far t.toNat == left)) (((jf d x.toNat).drop (2*h)).take 2);simp only[jE,List.flatMap_cons,List.length_append,List.length_cons] at ih ⊢;simp at h1;omega
theorem ZpN{P:Program}{d:aB}(R:bg d){sg:Nat}(hsg:d.signs=sg){far:List Int}(hfl:far.length=3*d.next.length){left:Int}{half hn:Nat}(hh:half < hn)(hhn:2*hn≤sg){v2 va:AV}{nB:Nat}{gB:Nat→Option aF}{at_:List Int}
  (hat:∀x∈at_,0≤x∧x < 3*d.next.length) (hal:at_.length≤100000) (hva:EB gB va at_) (yO:∀i∈va.ids,i < nB) (g15:gB 15=some (.arr 2 [vC (pg d)])) (h15:15 < nB) {f:AF} {S:St} {Q:Exit→AF→St→Prop}
  (h0:PU d far left half hn v2 va nB gB at_ at_.length f S) (hq:∀f' S',Bc d far left half hn v2 va f'→Hf nB gB (jE d far at_ half left) f' S'→Q .normal f' S'):AW P Ul Q f S:=by
 have hs2:=R.s2;simp[Ul];refine kD (PU d far left half hn v2 va nB gB at_) at_.length h0 ?_
 rintro m f S ⟨j,hj,rfl,e47,e48,e49,ff,hf⟩;by_cases hlt:j < at_.length
 ·have hjI:(j:Int) < at_.length:=by omega
  have hga:at_[j]? = some at_[j]:=List.getElem?_eq_getElem hlt
  obtain⟨x0,x1⟩:=hat _ (List.getElem_mem hlt);have hgx:(pg d).next[(at_[j]).toNat]? = some (jf d (at_[j]).toNat):=F3 (by omega)
  have hrl:(jf d (at_[j]).toNat).length=sg:=by
   have e:(at_[j]).toNat=3*((at_[j]).toNat / 3)+(at_[j]).toNat % 3:=by omega
   rw[e];exact IZ R hsg (by omega) (by omega)
  have Er:EB S.g va at_:=hva.frame (fun i hi=>hf.go i (yO i hi))
  have aac:S.g 15=some (.arr 2 [.agg [.sl false ((pg d).next.map au),bA (pg d).fin]]):=by rw[hf.go 15 h15];exact g15
  have w1:IntKind.i64.wrap (2*(half:Int))=2*(half:Int):=aZ _ (by omega);have w2:IntKind.i64.wrap (2*(half:Int)+2)=2*(half:Int)+2:=aZ _ (by omega);have w3:IntKind.i64.wrap ((j:Int)+1)=(j:Int)+1:=aZ _ (by omega);have n1:(2*(half:Int)).toNat=2*half:=by omega
  have n2:(2*(half:Int)+2).toNat=2*half+2:=by omega
  have n3:(0:Int)≤2*(half:Int):=by omega
  have n4:(0:Int)≤2*(half:Int)+2:=by omega
  have n5:2*half+2≤sg:=by omega
  have hpl:(((jf d (at_[j]).toNat).drop (2*half)).take 2).length=2:=by simp;omega
  have hpe:List.drop (2*half) (List.take (2*half+2) (List.map ak (jf d (at_[j]).toNat)))=(((jf d (at_[j]).toNat).drop (2*half)).take 2).map ak:=by
   rw[List.drop_take,←List.map_drop,←List.map_take];congr 2;omega
  have aaj:∀t∈((jf d (at_[j]).toNat).drop (2*half)).take 2,-1≤t∧t < far.length:=by
   intro t ht;have hm:=List.mem_of_mem_drop (List.mem_of_mem_take ht);have hl:(pg d).next.length=3*d.next.length:=by simp[pg]
   rcases(OO R).at_ _ (List.mem_of_getElem? hgx) t hm with h1 | h1<;>omega
  have hto:(jE d far (at_.take j) half left).length≤1000000:=by
   have:=Sq d far half left (at_.take j);simp at this;omega
  have htk:jE d far (at_.take (j+1)) half left=jE d far (at_.take j) half left++(((jf d (at_[j]).toNat).drop (2*half)).take 2).filter (tH far left):=by
   rw[List.take_add_one,hga];simp only[Option.toList_some,jE,List.flatMap_append,List.flatMap_cons,List.flatMap_nil,List.append_nil];rfl
  have hfr:Hf nB gB (jE d far (at_.take j) half left++((((jf d (at_[j]).toNat).drop (2*half)).take 2).take 0).filter (tH far left)) f S:=by simpa using hf
  have fin:∀(f':AF) (S':St),f' 47=va→f' 48=ak at_.length→f' 49=ak j→Bc d far left half hn v2 va f'→Hf nB gB (jE d far (at_.take j) half left++(((jf d (at_[j]).toNat).drop (2*half)).take 2).filter (tH far left)) f' S'→
    kE 5 (iW (AW P (.reg none [⟨(some 84),.bin .add (.t 49) (ci 1),none,none⟩,⟨(some 49),.mv (.t 84),none,none⟩]) (iW (vR (PU d far left half hn v2 va nB gB at_) (at_.length - j)) (kE 4 Q))) (iW (vR (PU d far left half hn v2 va nB gB at_) (at_.length - j)) (kE 4 Q))) .normal f' S':=by
   intro f' S' k47 k48 k49 kf kh;simp[k49,w3];obtain⟨go,n,v,ids⟩:=kh;refine⟨at_.length - (j+1),by omega,j+1,by omega,rfl,?_,?_,?_,⟨?_,?_,?_,?_,?_,?_,?_,?_,?_⟩,⟨go,by simp<;>omega,?_,fun i hi=>?_⟩⟩
   ·simp[aj,k47]
   ·simp[aj,k48]
   ·simp[aj,ak]
   ·simp[aj,kf.e1]
   ·simp[aj,kf.e2]
   ·simp[aj,kf.e5]
   ·simp[aj,kf.e6]
   ·simp[aj,kf.e7]
   ·simp[aj,kf.e8]
   ·simp[aj,kf.e9]
   ·simp[aj,kf.e43]
   ·simp[aj,kf.e44]
   ·rw[htk];simpa[aj] using v
   ·have:=ids i (by simpa[aj] using hi)
    simp;omega
  rcases Er with Er | ⟨id,off,ys,Er,hgi,hoy,hdy⟩
  ·rw[Er] at e47
   simp[e47,e48,e49,ff.e5,ff.e9,hjI,hga,aac,x0,hgx,au,w1,w2,n1,n2,n3,n4,n5,hrl,vT,bnd];refine Zjq (zJ:=jE d far (at_.take j) half left) (pair:=((jf d (at_[j]).toNat).drop (2*half)).take 2) (AY:=va) (AP:=at_.length) (j:=j) (Nat.le_of_eq hpl) aaj hto ⟨0,false,by omega,by omega,?_,?_,?_,?_,?_,?_,⟨?_,?_,?_,?_,?_,?_,?_,?_,?_⟩,?_⟩ fin
   ·simp[aj,ak]
   ·simp[aj,hpl,ak]
   ·simp[aj,hpe]
   ·simp[aj,e47,Er]
   ·simp[aj,e48,ak]
   ·simp[aj,e49,ak]
   ·simp[aj,ff.e1]
   ·simp[aj,ff.e2]
   ·simp[aj,ff.e5]
   ·simp[aj,ff.e6]
   ·simp[aj,ff.e7]
   ·simp[aj,ff.e8]
   ·simp[aj,ff.e9]
   ·simp[aj,ff.e43]
   ·simp[aj,ff.e44]
   ·obtain⟨go,n,v,ids⟩:=hfr
    refine⟨go,by simp<;>omega,by simpa[aj] using v,fun i hi=>?_⟩;have:=ids i (by simpa[aj] using hi);simp;omega
  ·rw[Er] at e47
   have ab6:off+at_.length≤ys.length:=by omega
   have hgy:ys[off+j]? = some (.v (.int .i64 at_[j])):=by
    have:(ys.drop off)[j]? = some (ak at_[j]):=by rw[hdy];simp[hga]
    rwa[List.getElem?_drop] at this
   simp[e47,e48,e49,ff.e5,ff.e9,hjI,hgi,hgy,ab6,aac,x0,hgx,au,w1,w2,n1,n2,n3,n4,n5,hrl,vT,bnd];refine Zjq (zJ:=jE d far (at_.take j) half left) (pair:=((jf d (at_[j]).toNat).drop (2*half)).take 2) (AY:=va) (AP:=at_.length) (j:=j) (Nat.le_of_eq hpl) aaj hto ⟨0,false,by omega,by omega,?_,?_,?_,?_,?_,?_,⟨?_,?_,?_,?_,?_,?_,?_,?_,?_⟩,?_⟩ fin
   ·simp[aj,ak]
   ·simp[aj,hpl,ak]
   ·simp[aj,hpe]
   ·simp[aj,e47,Er]
   ·simp[aj,e48,ak]
   ·simp[aj,e49,ak]
   ·simp[aj,ff.e1]
   ·simp[aj,ff.e2]
   ·simp[aj,ff.e5]
   ·simp[aj,ff.e6]
   ·simp[aj,ff.e7]
   ·simp[aj,ff.e8]
   ·simp[aj,ff.e9]
   ·simp[aj,ff.e43]
   ·simp[aj,ff.e44]
   ·obtain⟨go,n,v,ids⟩:=hfr
    refine⟨go,by simp<;>omega,by simpa[aj] using v,fun i hi=>?_⟩;have:=ids i (by simpa[aj] using hi);simp;omega
 ·have:j=at_.length:=by omega
  subst this;rw[List.take_length] at hf;simp[e48,e49];obtain⟨go,n,v,ids⟩:=hf
  refine hq _ _ ⟨by simp[aj,ff.e1],by simp[aj,ff.e2],by simp[aj,ff.e5],by simp[aj,ff.e6],by simp[aj,ff.e7],by simp[aj,ff.e8],by simp[aj,ff.e9],by simp[aj,ff.e43],by simp[aj,ff.e44]⟩
   ⟨go,by simp<;>omega,by simpa[aj] using v,fun i hi=>by
    have:=ids i (by simpa[aj] using hi);simp;omega⟩
structure yw(d:aB)(v2 va:AV)(aW at_:List Int)(N:Nat)(g:Nat→Option aF):Prop where
 g0:g 0=some (.arr 3 [aH d])
 g15:g 15=some (.arr 2 [vC (pg d)])
 n:16≤N
 v:Vec g v2 1 (aW.map ak)
 vi:∀i∈v2.ids,i < N∧i≠0∧i≠15
 a:EB g va at_
 ai:∀i∈va.ids,i < N∧i≠0∧i≠15
 kV:∀i∈v2.ids,i∉va.ids
theorem yw.frame{d:aB}{v2 va:AV}{aW at_:List Int}{n n':Nat}{g g':Nat→Option aF}(h:yw d v2 va aW at_ n g)(hn:n≤n')(hg:∀k,k < n→g' k=g k):yw d v2 va aW at_ n' g':=by
 have:=h.n;exact⟨by rw[hg 0 (by omega)];exact h.g0,by rw[hg 15 (by omega)];exact h.g15,by omega,h.v.frame (fun i hi=>hg i (h.vi i hi).1),fun i hi=>⟨by have:=(h.vi i hi).1;omega,(h.vi i hi).2⟩,h.a.frame (fun i hi=>hg i (h.ai i hi).1),fun i hi=>⟨by have:=(h.ai i hi).1;omega,(h.ai i hi).2⟩,h.kV⟩
structure EF(d:aB)(far:List Int)(left:Int)(v2 va:AV)(f:AF):Prop where
 e1:f 1=.ptr 0 0 0
 e2:f 2=v2
 e5:f 5=.ptr 15 0 0
 e6:f 6=au far
 e7:f 7=va
 e8:f 8=ak left
def Hg(d:aB)(far:List Int)(k hn:Nat)(v2 va:AV)(aW at_:List Int)(m:Nat)(f:AF)(S:St):Prop:=
 ∃h,h≤hn∧m=hn - h∧f 43=ak hn∧f 44=ak h∧EF d far k v2 va f∧yw d v2 va aW at_ S.n S.g∧∀h',h' < h→jE d far at_ h' k=[]
theorem Zo3{P:Program}{fs fc:FuncId}(Hs:Ak P fs)(Hc:Aj P fc){d:aB}{far:List Int}{k h hn nB:Nat}{gB:Nat→Option aF}{v2 va:AV}{aW at_ to:List Int}
  (hsl:aW.length≤100000) (htl:to.length≤1000000) {f:AF} {S:St} {Q:Exit→AF→St→Prop} (ff:Bc d far k h hn v2 va f) (sn:yw d v2 va aW at_ nB gB) (hf:Hf nB gB to f S)
  (hq0:to=[]→∀f' S',f' 43=ak hn→f' 44=ak h→EF d far k v2 va f'→yw d v2 va aW at_ S'.n S'.g→Q .normal f' S')
  (hq1:to≠[]→∀f' S' AU AX,EF d far k AU AX f'→yw d AU AX (aW++[(h:Int)]) (Lib.compact (to.mergeSort fun x y=>decide (x≤y))) S'.n S'.g→Q (.exit 1) f' S'):AW P (Fv fs fc) Q f S:=by
 obtain⟨go,hn1,v,ids⟩:=hf;have hsn:=sn.n;have WE:yw d v2 va aW at_ S.n S.g:=sn.frame hn1 go
 rcases v with⟨e10,hnil⟩ | ⟨id,off,ys,e10,hg,ho,hd⟩
 ·have hnil':to=[]:=by simpa using hnil
  simp[Fv,e10];refine hq0 hnil' _ _ (by simp[aj,ff.e43]) (by simp[aj,ff.e44]) ⟨by simp[aj,ff.e1],by simp[aj,ff.e2],by simp[aj,ff.e5],by simp[aj,ff.e6],by simp[aj,ff.e7],by simp[aj,ff.e8]⟩ (WE.frame (by simp) (fun _ _=>rfl))
 ·rw[List.length_map] at e10
  by_cases hnil':to=[]
  ·have hl0:to.length=0:=by rw[hnil'];rfl
   simp[Fv,e10,hl0];refine hq0 hnil' _ _ (by simp[aj,ff.e43]) (by simp[aj,ff.e44]) ⟨by simp[aj,ff.e1],by simp[aj,ff.e2],by simp[aj,ff.e5],by simp[aj,ff.e6],by simp[aj,ff.e7],by simp[aj,ff.e8]⟩ (WE.frame (by simp) (fun _ _=>rfl))
  ·have hlp:(0:Int) < to.length:=by have:=List.length_pos_iff.mpr hnil';omega
   have hsl1:(to.mergeSort fun x y=>decide (x≤y)).length=to.length:=List.length_mergeSort _;have aag:=ids id (by rw[e10];simp[AV.ids]);have hdl:decide (0 < to.length)=true:=decide_eq_true (List.length_pos_iff.mpr hnil');simp[Fv,e10,hdl];refine Hs _ id off ys to _ hg hd hnil' (Nat.le_trans htl (by decide)) ?_;simp[e10]
   have hd2:(ys.take off++(to.mergeSort fun x y=>decide (x≤y)).map ak).drop off=(to.mergeSort fun x y=>decide (x≤y)).map ak:=by
    rw[List.drop_append_of_le_length (by simp;omega)];simp
   have Wv:(to.mergeSort fun x y=>decide (x≤y))≠[]:=by
    intro e;rw[e] at hsl1;exact hnil' (List.eq_nil_of_length_eq_zero hsl1.symm)
   have hcall:=fun S K=>Hc S id off (ys.take off++(to.mergeSort fun x y=>decide (x≤y)).map ak) (to.mergeSort fun x y=>decide (x≤y)) K
   simp only[hsl1] at hcall;refine hcall _ _ ?_ hd2 Wv (Nat.le_trans htl (by decide)) ?_
   ·simp[aD]
   have aaq:id∉v2.ids:=fun h6=>by have:=(sn.vi id h6).1;omega
   have hvv:Vec S.g v2 1 (aW.map ak):=WE.v
   have htk:List.take off (List.take off ys++List.map ak (to.mergeSort fun x y=>decide (x≤y)))=List.take off ys:=by
    have hl:off≤(ys.take off).length:=by rw[List.length_take];omega
    rw[List.take_append_of_le_length hl,List.take_take,Nat.min_self]
   simp[ff.e2,ff.e9];rw[Vec.app (xs:=aW.map ak) (hvv.frame (fun j hj=>?_)) (xS _) (by simp[AV.cells]) (Ac (by rw[List.length_map];omega))]
   ·simp
    have hgo:∀(n1 n2 n3:Nat) (b1 b2 b3:Option aF) (j:Nat),j < nB→j∉v2.ids→((St.without ⟨n1,(St.set ⟨n2,(St.set ⟨n3,S.g⟩ id b1).g⟩ id b2).g⟩ v2).set (S.n+3+2+3+3) b3).g j=gB j:=by
     intro n1 n2 n3 b1 b2 b3 j hj hj2;rw[aD,if_neg (by omega),kC j hj2];simp only[aD];rw[if_neg (by omega),if_neg (by omega)];exact go j hj
    refine hq1 hnil' _ _ (.own (S.n+3+2+3+3) 0 (aW.length+1)) (.own id off (Lib.compact (to.mergeSort fun x y=>decide (x≤y))).length) ⟨?_,?_,?_,?_,?_,?_⟩ ⟨?_,?_,?_,?_,?_,?_,?_,?_⟩
    ·simp[aj,ff.e1]
    ·simp[aj]
    ·simp[aj,ff.e5]
    ·simp[aj,ff.e6]
    ·simp[aj]
    ·simp[aj,ff.e8]
    ·rw[hgo _ _ _ _ _ _ 0 (by omega) (fun h6=>(sn.vi 0 h6).2.1 rfl)];exact sn.g0
    ·rw[hgo _ _ _ _ _ _ 15 (by omega) (fun h6=>(sn.vi 15 h6).2.2 rfl)];exact sn.g15
    ·simp[bE,pY];omega
    ·exact .mk' (by simp[aD,ak]) (by simp)
    ·intro i hi
     simp only[AV.ids,List.mem_singleton] at hi;subst hi;simp[bE,pY];omega
    ·have hl:off≤(ys.take off).length:=by rw[List.length_take];omega
     refine .inr ⟨id,off,ys.take off++(Lib.compact (to.mergeSort fun x y=>decide (x≤y))).map ak,rfl,?_,?_,?_⟩
     ·rw[aD,if_neg (by omega),kC id aaq,aD,if_pos rfl,htk]
     ·rw[List.length_append,List.length_map,List.length_take];omega
     ·rw[List.drop_append_of_le_length hl];simp
    ·intro i hi
     simp only[AV.ids,List.mem_singleton] at hi;subst hi;simp[bE,pY];omega
    ·intro i hi h6
     simp only[AV.ids,List.mem_singleton] at hi h6;omega
   ·simp only[aD]
    have hj2:j≠id:=fun e=>aaq (e ▸ hj)
    rw[if_neg hj2,if_neg hj2]
theorem Zo1{P:Program}{fs fc:FuncId}(Hs:Ak P fs)(Hc:Aj P fc){d:aB}(R:bg d)(hev:d.signs % 2=0){sg hn:Nat}(hsg:d.signs=sg)(hhn:2*hn=sg){far:List Int}(fo:lV (pg d) far){k:Nat}{v2 va:AV}{aW at_:List Int}
  (hat:wW d far at_ (k+1)) (hal:at_.length≤100000) (hsl:aW.length≤100000) {f:AF} {S:St} {Q:Exit→AF→St→Prop} (h0:Hg d far k hn v2 va aW at_ hn f S)
  (hq:∀f' S' AU AX,EF d far k AU AX f'→yw d AU AX (aW++[(kS d far at_ k:Int)]) (vO d far at_ (kS d far at_ k) k) S'.n S'.g→Q (.exit 1) f' S'):AW P (SX fs fc) Q f S:=by
 have hs2:=R.s2;have hfl:far.length=3*d.next.length:=by rw[fo.len,uM]
 obtain⟨b1,b2,b3⟩:=Jp R hev fo hat;have b1':kS d far at_ k < hn:=by omega
 simp[SX];refine kD (Hg d far k hn v2 va aW at_) hn h0 ?_;rintro m f S ⟨h,hh,rfl,e43,e44,gg,sn,hno⟩
 have hlt:h < hn:=by
  by_cases hc:h < hn
  ·exact hc
  ·exact(b2 (hno _ (by omega))).elim
 have Eo:(h:Int) < hn:=by omega
 have w3:IntKind.i64.wrap ((h:Int)+1)=(h:Int)+1:=aZ _ (by omega)
 have hlen:dA va=some (.v (.int .i64 at_.length)):=by
  rcases sn.a with e | ⟨id,off,ys,e,_⟩<;>rw[e]<;>simp[dA]
 have htl:(jE d far at_ h k).length≤1000000:=by have:=Sq d far h k at_;omega
 have fin:∀(f':AF) (S':St),Bc d far k h hn v2 va f'→Hf (S.n+1+2+1+3) S.g (jE d far at_ h k) f' S'→iW (AW P (Fv fs fc) (kE 3 (iW (AW P (.reg none [⟨(some 96),.bin .add (.t 44) (ci 1),none,none⟩,⟨(some 44),.mv (.t 96),none,none⟩]) (iW (vR (Hg d far k hn v2 va aW at_) (hn - h)) (kE 2 Q))) (iW (vR (Hg d far k hn v2 va aW at_) (hn - h)) (kE 2 Q)))))
   (kE 3 (iW (AW P (.reg none [⟨(some 96),.bin .add (.t 44) (ci 1),none,none⟩,⟨(some 44),.mv (.t 96),none,none⟩]) (iW (vR (Hg d far k hn v2 va aW at_) (hn - h)) (kE 2 Q))) (iW (vR (Hg d far k hn v2 va aW at_) (hn - h)) (kE 2 Q)))) .normal f' S':=by
  intro f' S' kf kh;simp only[bZ];refine Zo3 Hs Hc hsl htl kf (sn.frame (by omega) (fun _ _=>rfl)) kh (fun hnil f2 S2 k43 k44 kg ks=>?_) (fun hne f2 S2 AU AX kg ks=>?_)
  ·simp[k44,w3]
   refine⟨hn - (h+1),by omega,h+1,by omega,rfl,?_,?_,⟨?_,?_,?_,?_,?_,?_⟩,ks.frame (by simp) (fun _ _=>rfl),fun h' hh'=>?_⟩
   ·simp[aj,k43]
   ·simp[aj,ak]
   ·simp[aj,kg.e1]
   ·simp[aj,kg.e2]
   ·simp[aj,kg.e5]
   ·simp[aj,kg.e6]
   ·simp[aj,kg.e7]
   ·simp[aj,kg.e8]
   ·by_cases e:h'=h
    ·subst e;exact hnil
    ·exact hno h' (by omega)
  ·have he:kS d far at_ k=h:=by
    by_cases hc:kS d far at_ k < h
    ·exact(b2 (hno _ hc)).elim
    ·by_cases hc2:h < kS d far at_ k
     ·exact(hne (b3 h hc2)).elim
     ·omega
   simp[d9,eu];have:=hq f2 S2 AU AX kg;rw[he] at this;exact this ks
 have aa9:Hf (S.n+1+2+1+3) S.g (jE d far (at_.take 0) h k) (fun _=>.sl true []) ⟨S.n+1+2+1+3,S.g⟩:=⟨fun _ _=>rfl,Nat.le_refl _,by simp[jE];exact .nil,by simp[AV.ids]⟩;rcases sn.a with ea | ⟨id,off,ys,ea,_⟩
 ·have e7:=gg.e7.trans ea
  simp[e43,e44,e7,Eo];refine ZpN R hsg hfl hlt (Nat.le_of_eq hhn) hat.rng hal sn.a (fun i hi=>by have:=(sn.ai i hi).1;omega) sn.g15 (by have:=sn.n;omega) (nB:=S.n+1+2+1+3) (v2:=v2) ⟨0,by omega,by omega,?_,?_,?_,⟨?_,?_,?_,?_,?_,?_,?_,?_,?_⟩,?_⟩ fin
  ·simp[aj,ea]
  ·simp[aj,ak]
  ·simp[aj,ak]
  ·simp[aj,gg.e1]
  ·simp[aj,gg.e2]
  ·simp[aj,gg.e5]
  ·simp[aj,gg.e6]
  ·simp[aj,gg.e7]
  ·simp[aj,gg.e8]
  ·simp[aj,ak]
  ·simp[aj,e43]
  ·simp[aj,e44]
  ·obtain⟨q1,q2,q3,q4⟩:=aa9
   exact⟨q1,q2,by simpa[aj] using q3,by simp[aj,AV.ids]⟩
 ·have e7:=gg.e7.trans ea
  simp[e43,e44,e7,Eo];refine ZpN R hsg hfl hlt (Nat.le_of_eq hhn) hat.rng hal sn.a (fun i hi=>by have:=(sn.ai i hi).1;omega) sn.g15 (by have:=sn.n;omega) (nB:=S.n+1+2+1+3) (v2:=v2) ⟨0,by omega,by omega,?_,?_,?_,⟨?_,?_,?_,?_,?_,?_,?_,?_,?_⟩,?_⟩ fin
  ·simp[aj,ea]
  ·simp[aj,ak]
  ·simp[aj,ak]
  ·simp[aj,gg.e1]
  ·simp[aj,gg.e2]
  ·simp[aj,gg.e5]
  ·simp[aj,gg.e6]
  ·simp[aj,gg.e7]
  ·simp[aj,gg.e8]
  ·simp[aj,ak]
  ·simp[aj,e43]
  ·simp[aj,e44]
  ·obtain⟨q1,q2,q3,q4⟩:=aa9
   exact⟨q1,q2,by simpa[aj] using q3,by simp[aj,AV.ids]⟩
theorem Zgw:∀(l:List Int) (a b:Int),l.Pairwise (· < ·)→(∀x∈l,a≤x∧x < b)→a≤b→(l.length:Int)≤b - a
 | [],a,b,_,_,h=>by simp;omega
 | x::l,a,b,hp,hb,h=>by
  have h1:=List.pairwise_cons.mp hp;have hx:=hb x (by simp);have:=Zgw l (x+1) b h1.2 (fun y hy=>⟨by have:=h1.1 y hy;omega,(hb y (by simp[hy])).2⟩) (by omega);simp;omega
theorem Zea{zs:List Int}(hs:zs.Pairwise (·≤·)):(Lib.compact zs).Pairwise (· < ·):=by
 have hget:∀j (hj:j < zs.length),zs.toArray[j]! = zs[j]:=fun j hj=>by simp[hj]
 simp only[Lib.compact,Lib.compactUpTo,List.pairwise_map];refine List.Pairwise.imp_of_mem (R:=(· < ·)) (fun {a b} ha hb hab=>?_) (List.Pairwise.filter _ List.pairwise_lt_range);simp only[List.mem_filter,List.mem_range] at ha hb;obtain⟨hb1,hb2⟩:=hb;have hk:b=0∨zs.toArray[b]!≠zs.toArray[b - 1]!:=by simpa[Lib.keeps] using hb2
 have hk':zs.toArray[b]!≠zs.toArray[b - 1]!:=by
  rcases hk with h | h
  ·omega
  ·exact h
 rw[hget b hb1,hget (b - 1) (by omega)] at hk';rw[hget a ha.1,hget b hb1];have hpw:=List.pairwise_iff_getElem.mp hs
 have h1:zs[a]≤zs[b - 1]:=by
  by_cases e:a=b - 1
  ·subst e;exact Int.le_refl _
  ·exact hpw a (b - 1) ha.1 (by omega) (by omega)
 have h2:zs[b - 1]≤zs[b]:=hpw (b - 1) b (by omega) hb1 (by omega);omega
theorem Zm1(l:List Int):(l.mergeSort fun x y=>decide (x≤y)).Pairwise (·≤·):=by
 have:=List.pairwise_mergeSort (le:=fun x y:Int=>decide (x≤y)) (fun a b c h1 h2=>by simp at *;omega) (fun a b=>by simp;omega) l;exact this.imp (fun h=>by simpa using h)
theorem ZhC{d:aB}{far at_:List Int}{h:Nat}{left:Int}{N:Nat}(hr:∀x∈vO d far at_ h left,0≤x∧x < N):(vO d far at_ h left).length≤N:=by
 have:=Zgw _ 0 N (Zea (Zm1 _)) hr (by omega);simp only[vO] at this ⊢;omega
def mkL(d:aB)(far:List Int)(tot:List Int)(m:Nat)(f:AF)(S:St):Prop:=
 ∃v2 va aW at_,EF d far ((m:Int) - 1) v2 va f∧yw d v2 va aW at_ S.n S.g∧wW d far at_ m∧at_.length≤100000∧aW++uE d far m at_=tot
theorem Zo2{P:Program}{fs fc:FuncId}(Hs:Ak P fs)(Hc:Aj P fc){d:aB}(R:bg d)(hev:d.signs % 2=0){far:List Int}(fo:lV (pg d) far){tot:List Int}(ht:tot.length≤100000){f:AF}{S:St}{Q:Exit→AF→St→Prop}(m:Nat)(h0:mkL d far tot m f S)
  (hq:∀f' S' v2 va at_,EF d far (-1) v2 va f'→yw d v2 va tot at_ S'.n S'.g→Q .normal f' S'):AW P (SY fs fc) Q f S:=by
 obtain⟨sg,hsg⟩:∃sg:Nat,d.signs=sg:=⟨d.signs.toNat,by have:=R.s1;omega⟩;have hs2:=R.s2;have hn2:=R.n2;simp[SY];refine kD (mkL d far tot) m h0 ?_;rintro m f S ⟨v2,va,aW,at_,gg,sn,hat,hal,htot⟩;cases m with
 | zero=>
  have e8:f 8=ak (-1):=by rw[gg.e8];rfl
  simp[e8];have hl:aW=tot:=by rw[uE,List.append_nil] at htot;exact htot
  subst hl;refine hq _ _ v2 va at_ ⟨by simp[aj,gg.e1],by simp[aj,gg.e2],by simp[aj,gg.e5],by simp[aj,gg.e6],by simp[aj,gg.e7],by simp[aj,e8,ak]⟩ (sn.frame (by simp) (fun _ _=>rfl))
 | succ k=>
  have e8:f 8=ak k:=by rw[gg.e8];congr 1;omega
  have hk0:(0:Int)≤(k:Int):=by omega
  have g0:=sn.g0;have hw:IntKind.i64.wrap ((sg:Int) / 2)=((sg / 2:Nat):Int):=by rw[aZ _ (by omega)];omega
  have hw2:IntKind.i64.wrap ((k:Int) - 1)=(k:Int) - 1:=aZ _ (by
   have h1:=hat.far;have:=congrArg List.length htot;simp[IY] at this;omega)
  have hsl:aW.length≤100000:=by
   have:=congrArg List.length htot;simp[IY] at this;omega
  obtain⟨b1,b2,b3⟩:=Jp R hev fo hat;simp[e8,gg.e1,g0,aH,hsg,hk0,hw];refine Zo1 Hs Hc R hev hsg (hn:=sg / 2) (by omega) fo hat hal hsl (v2:=v2) (va:=va) (aW:=aW) ⟨0,by omega,by omega,?_,?_,⟨?_,?_,?_,?_,?_,?_⟩,sn.frame (by simp<;>omega) (fun _ _=>rfl),by omega⟩ (fun f' S' AU AX kg ks=>?_)
  ·simp[aj,ak]
  ·simp[aj,ak]
  ·simp[aj,gg.e1]
  ·simp[aj,gg.e2]
  ·simp[aj,gg.e5]
  ·simp[aj,gg.e6]
  ·simp[aj,gg.e7]
  ·simp[aj,e8]
  ·have hnx:=hat.next R b2
   have hnl:(vO d far at_ (kS d far at_ k) k).length≤3*d.next.length:=ZhC (fun x hx=>by have:=hnx.rng x hx;omega)
   simp[kg.e8,hw2];refine⟨k,by omega,AU,AX,aW++[(kS d far at_ k:Int)],vO d far at_ (kS d far at_ k) k,⟨?_,?_,?_,?_,?_,?_⟩,ks.frame (by simp) (fun _ _=>rfl),hnx,by omega,?_⟩
   ·simp[aj,kg.e1]
   ·simp[aj,kg.e2]
   ·simp[aj,kg.e5]
   ·simp[aj,kg.e6]
   ·simp[aj,kg.e7]
   ·simp[aj,ak]
   ·rw[←htot,uE,List.append_assoc];rfl
def mkQ(d:aB)(aW:List Int)(pf:Nat)(v2:AV)(m:Nat)(f:AF)(S:St):Prop:=
 ∃p:Nat,1≤p∧p≤pf∧m=pf - p∧f 1=.ptr 0 0 0∧f 2=v2∧f 3=ak p∧S.g 0=some (.arr 3 [aH d])∧Vec S.g v2 1 (aW.map ak)
theorem ZpO{P:Program}{fw fa:FuncId}{d:aB}{aW:List Int}(hsl:aW.length≤1000000)(hw:∀p:Int,aM P fw [au aW,ak p] (au (bT aW p))∧rQ P fw [au aW,ak p] (au (bT aW p)))
  (ha:∀p:Int,aM P fa [aH d,au (bT aW p)] (aG (lg d (bT aW p)))) {pf:Nat} (hpf:zU d aW pf) {v2:AV} {f:AF} {S:St} (e1:f 1=.ptr 0 0 0) (e2:f 2=v2) (g0:S.g 0=some (.arr 3 [aH d])) (hv:Vec S.g v2 1 (aW.map ak)) :
  AW P (TJ fw fa) (vg (bR [2,3,4] (dx (.aL [au aW,ak pf,aG true])))) f S:=by
 have hlo:=hpf.lo;have hhi:=hpf.hi;simp[TJ,Za];refine kD (mkQ d aW pf v2) (pf - 1) ⟨1,by omega,hlo,rfl,by simp[aj,e1],by simp[aj,e2],by simp[aj,ak],g0,hv.frame (fun _ _=>rfl)⟩ ?_;rintro m f S ⟨p,p1,p2,rfl,e1,e2,e3,g0,hv⟩;have hw3:IntKind.i64.wrap ((p:Int)+1)=(p:Int)+1:=aZ _ (by omega);have zH:Vec (only v2.ids S.g) v2 1 (aW.map ak):=hv.frame (fun i hi=>by rw[BJ,if_pos hi])
 have Kq:∀n,kI P fw [v2,.v (.int .i64 p)] ⟨n,S.g⟩ v2.ids (au (bT aW p)):=fun n=>by
  refine⟨[au aW,ak p],(hw p).1,rfl,fun j h1 h2=>?_,.inr (.inr ⟨bD _,(hw p).2⟩)⟩
  match j,h1 with
  | 0,_=>exact zH.fz aX
  | 1,_=>exact .closed _ (.v _)
 have Kr:∀n,kI P fa [.agg [.v (.int .i64 d.signs),aN d.next,bA d.fin],au (bT aW p)] ⟨n,S.g⟩ [] (aG (lg d (bT aW p))):=fun n=>by
  refine⟨[aH d,au (bT aW p)],ha p,rfl,fun j h1 h2=>?_,.inl (FW _)⟩
  match j,h1 with
  | 0,_=>exact .closed _ (dW d)
  | 1,_=>exact .closed _ (bD _)
 simp[e1,e2,e3,g0,aH];refine⟨_,⟨_,Kq _⟩,_,⟨_,Kr _⟩,?_⟩;by_cases hp:p=pf
 ·subst hp
  rw[hpf.acc];simp[e2,e3]
  exact .aL _ _ rfl (by
   intro j h1 h2
   match j,h1 with
   | 0,_=>exact hv.fz aX
   | 1,_=>exact .closed _ (.v _)
   | 2,_=>exact .closed _ (.v _))
 ·rw[hpf.fst p p1 (by omega)]
  simp[e3,hw3];refine⟨pf - (p+1),by omega,p+1,by omega,by omega,rfl,?_,?_,?_,g0,hv⟩
  ·simp[aj,e1]
  ·simp[aj,e2]
  ·simp[aj,ak]
open Classical in
noncomputable def vU(d:aB):Nat:=if h:∃p,zU d (jK d) p then h.choose else 0
theorem YG{d:aB}(h:∃p,zU d (jK d) p):zU d (jK d) (vU d):=by
 unfold vU;rw[dif_pos h];exact h.choose_spec
theorem Zjl{d:aB}(h:jZ d=false):jK d=[]∧vU d=0:=by
 have hs:jK d=[]:=by unfold jK;rw[h];rfl
 refine⟨hs,?_⟩;unfold vU;rw[dif_neg];rintro⟨p,hp⟩;have:=hp.hi;rw[hs] at this;simp at this
theorem FT{d:aB}(h:jZ d=false)(S:St):dx (.aL [au (jK d),ak (vU d),aG (jZ d)]) (.aL [.sl true [],.v (.int .i64 0),.v (.bool false)]) S:=by
 obtain⟨h1,h2⟩:=Zjl h;rw[h1,h2,h]
 exact .aL _ _ rfl (by
  intro j k1 k2
  match j,k1 with
  | 0,_=>exact .loose true [] (.sl _ _ (by simp))
  | 1,_=>exact .closed _ (.v _)
  | 2,_=>exact .closed _ (.v _))
theorem ZaA{P:Program}{fr fp fg fs fc fw fa:FuncId}(Hs:Ak P fs)(Hc:Aj P fc)(d:aB)(hr:aM P fr [aH d] (aG (fE d)))(hp:bg d→aM P fp [aH d] (vC (pg d)))(hg:bg d→aM P fg [vC (pg d)] (au (qj (pg d))))
  (hw:∀(s:List Int) (p:Int),s.length≤1000000→aM P fw [au s,ak p] (au (bT s p))∧rQ P fw [au s,ak p] (au (bT s p))) (ha:∀l:List Int,Len l→aM P fa [aH d,au l] (aG (lg d l))) :
  AW P (CV fr fp fg fs fc fw fa) (bR [2,3,4] (dx (.aL [au (jK d),ak (vU d),aG (jZ d)]))) (bC [aH d]) S0:=by
 by_cases hR:fE d=true
 ·have R:=(wQ d).mp hR
  obtain⟨signs,next,fin⟩:=d;obtain⟨sg,hsg⟩:∃sg:Nat,signs=sg:=⟨signs.toNat,by have:=R.s1;simp only at this;omega⟩;subst hsg;have hs1:=R.s1;have hs2:=R.s2;have hn1:=R.n1;have hn2:=R.n2;simp only at hs1 hs2 hn1 hn2;have ha1:=ZrM sg (by omega);have fo:=Ju (pg ⟨(sg:Int),next,fin⟩);have hgn:=uM ⟨(sg:Int),next,fin⟩;simp only at hgn;by_cases hev:sg % 2=0
  ·have Ku:(aB.mk (sg:Int) next fin).signs % 2=0:=by show(sg:Int) % 2=0;omega
   rw[hev] at ha1;have hok:=Sm R Ku;simp[CV,aH];refine aQ.pure hr (aR (dW _) bB) (cu _) ?_;simp[hR,ha1];refine aQ.pure (hp R) (aR (dW _) bB) (Zn _) ?_;simp[vC];refine aQ.pure (hg R) (aR (Zn _) bB) (bD _) ?_;have hfp:yB ⟨(sg:Int),next,fin⟩=qj (pg ⟨(sg:Int),next,fin⟩):=rfl;rw[hfp] at hok;have hS0:jZ ⟨(sg:Int),next,fin⟩=true→jK ⟨(sg:Int),next,fin⟩=uE ⟨(sg:Int),next,fin⟩ (qj (pg ⟨(sg:Int),next,fin⟩)) (rd (qj (pg ⟨(sg:Int),next,fin⟩)) 0).toNat [0]:=fun h=>by unfold jK;rw[if_pos h];rfl
   have aaF:0≤rd (qj (pg ⟨(sg:Int),next,fin⟩)) 0→wW ⟨(sg:Int),next,fin⟩ (qj (pg ⟨(sg:Int),next,fin⟩)) [0] (rd (qj (pg ⟨(sg:Int),next,fin⟩)) 0).toNat:=fun h=>U2 R h
   have hval:=fo.val 0 (by omega);have abv:=fo.lt 0 (by omega);have hfl:=fo.len;generalize hfg:qj (pg ⟨(sg:Int),next,fin⟩)=far at *;have h0:0 < far.length:=by omega
   have h0I:(0:Int) < far.length:=by omega
   have hg0:far[0]? = some far[0]:=List.getElem?_eq_getElem h0;have hr0:=F5 h0;by_cases hno:far[0] = -1
   ·have hb:(far[0] == -1)=true:=by simp[hno]
    have hmo:jZ ⟨(sg:Int),next,fin⟩=false:=by
     cases h:jZ ⟨(sg:Int),next,fin⟩ with
     | false=>rfl
     | true=>have:=hok.mp h;omega
    simp[au,hg0,hb];exact FT hmo _
   ·have hb:(far[0] == -1)=false:=by simp[hno]
    have hmo:jZ ⟨(sg:Int),next,fin⟩=true:=hok.mpr (by omega);have hw1:IntKind.i64.wrap (far[0] - 1)=far[0] - 1:=aZ _ (by omega);obtain⟨p0,hp0⟩:=YS R Ku hmo;have hpf:=YG ⟨p0,hp0⟩;have hS:=hS0 hmo;have hSl:(jK ⟨(sg:Int),next,fin⟩).length≤100000:=by rw[hS,IY];omega
    simp[au,hg0,hb,hw1,hmo];refine Zo2 Hs Hc R Ku (far:=far) fo (tot:=jK ⟨(sg:Int),next,fin⟩) hSl (rd far 0).toNat ⟨.sl true [],.sl true [.v (.int .i64 0)],[],[0],⟨?_,?_,?_,?_,?_,?_⟩,⟨?_,?_,?_,?_,?_,?_,?_,?_⟩,aaF (by omega),by simp,by rw[hS];rfl⟩ (fun f' S' v2 va at_ kg ks=>?_)
    ·simp[aj]
    ·simp[aj]
    ·simp[aj]
    ·simp[aj,au]
    ·simp[aj]
    ·simp[aj,ak];omega
    ·simp[aD,aH,ak]
    ·simp[aD,vC]
    ·simp
    ·exact .nil
    ·simp[AV.ids]
    ·exact .inl rfl
    ·simp[AV.ids]
    ·simp[AV.ids]
    ·simp only[bZ]
     refine ZpO (by omega) (fun p=>hw _ p (by omega)) (fun p=>ha _ ?_) hpf kg.e1 kg.e2 ks.g0 ks.v;unfold Len bT;split
     ·rw[qW];omega
     ·simp
  ·have Ku:sg % 2=1:=by omega
   rw[Ku] at ha1
   have hmo:jZ ⟨(sg:Int),next,fin⟩=false:=by
    unfold jZ;rw[decide_eq_false (by simp only;omega)];simp
   simp[CV,aH];refine aQ.pure hr (aR (dW _) bB) (cu _) ?_;simp[hR,ha1];exact FT hmo _
 ·have hmo:jZ d=false:=by unfold jZ;simp[hR]
  simp[CV,aH];refine aQ.pure hr (aR (dW _) bB) (cu _) ?_;simp[hR];exact FT hmo _
end Go.Rf
