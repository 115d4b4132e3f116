import Derived.Test.YtdmcjhnbmgmgoaaGreatDoorRfL10
import Derived.Lib.SlicesCompact
import Derived.Lib.RowBridge
set_option linter.unusedVariables false
set_option linter.unusedSimpArgs false
set_option linter.unusedSectionVars false
namespace Go.Rf
theorem Zm4{zs:List Int}{x:Int}:x∈Lib.compact zs↔x∈zs:=by
 have hget:∀j (hj:j < zs.length),zs.toArray[j]! = zs[j]:=fun j hj=>by simp[hj]
 simp only[Lib.compact,Lib.compactUpTo,List.mem_map,List.mem_filter,List.mem_range];constructor
 ·rintro⟨j,⟨hj,_⟩,rfl⟩
  rw[hget j hj];exact List.getElem_mem hj
 ·intro hx
  obtain⟨j,hj,rfl⟩:=List.mem_iff_getElem.mp hx
  have key:∀m,∀j (hj:j < zs.length),j≤m→∃a,(a < zs.length∧Lib.keeps zs.toArray a=true)∧zs.toArray[a]! = zs[j]:=by
   intro m;induction m with
   | zero=>
    intro j hj h0;have:j=0:=by omega
    subst this;exact⟨0,⟨hj,by simp[Lib.keeps]⟩,hget 0 hj⟩
   | succ m ih=>
    intro j hj hm;by_cases hk:Lib.keeps zs.toArray j=true
    ·exact⟨j,⟨hj,hk⟩,hget j hj⟩
    ·have hk':¬(j=0∨zs.toArray[j]!≠zs.toArray[j - 1]!):=by simpa[Lib.keeps] using hk
     have h0:j≠0:=fun e=>hk' (.inl e)
     have he:zs.toArray[j]! = zs.toArray[j - 1]!:=Decidable.byContradiction fun e=>hk' (.inr e)
     obtain⟨a,ha,hb⟩:=ih (j - 1) (by omega) (by omega);refine⟨a,ha,?_⟩;rw[hb,←hget (j - 1) (by omega),←he,hget j hj]
  obtain⟨a,h1,h2⟩:=key j j hj (Nat.le_refl _);exact⟨a,h1,h2⟩
theorem ZsO{zs:List Int}(h:zs.Pairwise (·≤·)):(Lib.compact zs).Pairwise (· < ·):=by
 have hget:∀j (hj:j < zs.length),zs.toArray[j]! = zs[j]:=fun j hj=>by simp[hj]
 have hp:=List.pairwise_iff_getElem.mp h;simp only[Lib.compact,Lib.compactUpTo];rw[List.pairwise_map];refine List.Pairwise.imp_of_mem ?_ (List.Pairwise.filter _ List.pairwise_lt_range);intro a b ha hb hab;simp only[List.mem_filter,List.mem_range] at ha hb;obtain⟨hb1,hb2⟩:=hb;have hk:b=0∨zs.toArray[b]!≠zs.toArray[b - 1]!:=by simpa[Lib.keeps] using hb2
 have h1:zs.toArray[b]!≠zs.toArray[b - 1]!:=by
  rcases hk with h1 | h1
  ·omega
  ·exact h1
 rw[hget b hb1,hget (b - 1) (by omega)] at h1;rw[hget a ha.1,hget b hb1]
 have h2:zs[b - 1]≤zs[b]:=by
  have:=hp (b - 1) b (by omega) hb1 (by omega);exact this
 have h3:zs[a]≤zs[b - 1]:=by
  by_cases e:a=b - 1
  ·subst e;exact Int.le_refl _
  ·exact hp a (b - 1) ha.1 (by omega) (by omega)
 omega
def je(l:List Int):List Int:=Lib.compact (l.mergeSort fun x y=>decide (x≤y))
theorem vS{l:List Int}{x:Int}:x∈je l↔x∈l:=by
 unfold je;rw[Zm4];exact(List.mergeSort_perm _ _).mem_iff
theorem Fu(l:List Int):(je l).Pairwise (· < ·):=by
 refine ZsO ?_;have:=List.pairwise_mergeSort (le:=fun x y:Int=>decide (x≤y)) (by simp;omega) (by simp;omega) l;simpa using this
theorem XT:∀{l m:List Int},l.Pairwise (· < ·)→m.Pairwise (· < ·)→(∀x,x∈l↔x∈m)→l=m
 | [],[],_,_,_=>rfl
 | [],y::m,_,_,h=>by have:=(h y).mpr (by simp);simp at this
 | x::l,[],_,_,h=>by have:=(h x).mp (by simp);simp at this
 | x::l,y::m,hl,hm,h=>by
  have hl2:=List.pairwise_cons.mp hl;have hm2:=List.pairwise_cons.mp hm
  have e:x=y:=by
   have h1:=(h x).mp (by simp);have h2:=(h y).mpr (by simp);rcases List.mem_cons.mp h1 with h1 | h1
   ·exact h1
   ·rcases List.mem_cons.mp h2 with h2 | h2
    ·exact h2.symm
    ·have:=hm2.1 x h1
     have:=hl2.1 y h2;omega
  subst e;congr 1;refine XT hl2.2 hm2.2 fun z=>?_
  constructor
  ·intro hz
   have:=(h z).mp (by simp[hz]);rcases List.mem_cons.mp this with h1 | h1
   ·subst h1;have:=hl2.1 z hz;omega
   ·exact h1
  ·intro hz
   have:=(h z).mpr (by simp[hz]);rcases List.mem_cons.mp this with h1 | h1
   ·subst h1;have:=hm2.1 z hz;omega
   ·exact h1
theorem Zg6{l:List Int}:je l=l↔l.Pairwise (· < ·):=by
 constructor
 ·intro h;rw[←h];exact Fu l
 ·intro h;exact XT (Fu l) h (fun x=>vS)
theorem WI(l:List Int):(je l).length≤l.length:=by
 unfold je;have h1:(Lib.compact (l.mergeSort fun x y=>decide (x≤y))).length≤(l.mergeSort fun x y=>decide (x≤y)).length:=Lib.compact_length_le _;rw[List.length_mergeSort] at h1;exact h1
theorem ZfP:∀(l:List Int) {o:List Int},o.Pairwise (· < ·)→(l.foldl Aa o).Pairwise (· < ·)
 | [],o,h=>h
 | x::l,o,h=>ZfP l (Zcu h)
theorem Zdp:∀(l:List Int) {o:List Int} {x:Int},x∈l.foldl Aa o↔x∈o∨x∈l
 | [],o,x=>by simp
 | y::l,o,x=>by rw[List.foldl_cons,Zdp l,WS,List.mem_cons,or_assoc,or_left_comm]
theorem Zmv(l:List Int):l.foldl Aa []=je l:=XT (ZfP l .nil) (Fu l) (fun x=>by rw[Zdp,vS];simp)
theorem Jj:∀{l:List Int} {a b:Int},l.Pairwise (· < ·)→(∀x∈l,a≤x∧x < b)→(l.length:Int)≤max 0 (b - a)
 | [],a,b,_,_=>by simp;omega
 | x::l,a,b,hl,h=>by
  have hl2:=List.pairwise_cons.mp hl;have hx:=h x (by simp);have:=Jj (l:=l) (a:=x+1) (b:=b) hl2.2 (fun y hy=>⟨by have:=hl2.1 y hy;omega,(h y (by simp[hy])).2⟩);simp only[List.length_cons];omega
def su(l:List Int)(a b:Int):Bool:=decide (l.Pairwise (· < ·)) && l.all fun x=>decide (a≤x) && decide (x < b)
def DI(l:List Int)(a b:Int):Prop:=l.Pairwise (· < ·)∧∀x∈l,a≤x∧x < b
theorem E9{l:List Int}{a b:Int}:su l a b=true↔DI l a b:=by
 simp[su,DI,List.all_eq_true]
theorem Zl2(x y:Int):wJ y x = - wJ x y:=by unfold wJ;split<;>split<;>first | omega | rfl | (split<;>omega)
theorem PE{x y:Int}:wJ x y=0↔x=y:=by unfold wJ;split<;>(try split)<;>omega
theorem Zfa:∀a b:List Int,u6 b a = - u6 a b
 | [],[]=>rfl
 | [],_::_=>rfl
 | _::_,[]=>rfl
 | x::a,y::b=>by
  simp only[u6];rw[Zl2 x y,Zfa a b];split<;>split<;>first | rfl | omega
theorem Zfb:∀a b:List Int,u6 a b=0↔a=b
 | [],[]=>by simp[u6]
 | [],_::_=>by simp[u6]
 | _::_,[]=>by simp[u6]
 | x::a,y::b=>by
  simp only[u6];split
  ·rename_i h
   constructor
   ·intro h1;exact(h h1).elim
   ·intro h1;cases h1;exact(h (PE.mpr rfl)).elim
  ·rename_i h
   have hxy:=PE.mp (Decidable.not_not.mp h);subst hxy;rw[Zfb a b];simp
def Sc(a b:List Int):Int:=Tx [wJ a.length b.length,u6 a b]
theorem Ziz(a b:List Int):Sc a b=if wJ a.length b.length≠0 then wJ a.length b.length else u6 a b:=by
 simp only[Sc,Tx];split
 ·rfl
 ·split
  ·rfl
  ·rename_i h;exact(Decidable.not_not.mp h).symm
theorem Zjg(a b:List Int):Zkz a b=decide (Sc a b < 0):=rfl
theorem LZ(place:Int):∀(l:List Int) (i k:Nat) (h:k < l.length) (h':k < (fB place i l).length),(fB place i l)[k]=2*l[k]+iT place (i+k)
 | s::l,i,0,h,h'=>by simp[fB]
 | s::l,i,k+1,h,h'=>by
  simp only[fB,List.getElem_cons_succ];rw[LZ place l (i+1) k (by simpa using h)];congr 2;omega
section
variable{P:Program}{fl fi fb fw:FuncId}{a b:List Int}{place:Int}
end
end Go.Rf
namespace Go.Rf
open Go.RowKit
inductive aO where
 | mk (kind:Int) (set:List Rg) (signs:List Int) (kids:List aO)
def aO.kind:aO→Int | .mk k _ _ _=>k
def aO.set:aO→List Rg | .mk _ s _ _=>s
def aO.signs:aO→List Int | .mk _ _ g _=>g
def aO.kids:aO→List aO | .mk _ _ _ ks=>ks
mutual
def jM:aO→AV
 | .mk k s g ks=>.agg [aj k,Ct s,aA g,.sl false (Dy ks)]
def Dy:List aO→List AV
 | []=>[]
 | p::ps=>jM p::Dy ps
end
theorem Zdb:∀(ks:List aO),Dy ks=ks.map jM
 | []=>by simp[Dy]
 | p::ps=>by simp[Dy,Zdb ps]
theorem rV(k:Int)(s:List Rg)(g:List Int)(ks:List aO):jM (.mk k s g ks)=.agg [aj k,Ct s,aA g,.sl false (ks.map jM)]:=by rw[jM,Zdb]
mutual
theorem Dl:∀(p:aO),aY (jM p)
 | .mk k s g ks=>by
  rw[jM];refine .agg _ (fun y hy=>?_);simp only[List.mem_cons,List.not_mem_nil,or_false] at hy;rcases hy with rfl | rfl | rfl | rfl
  ·exact aW _
  ·exact Zl0 _
  ·exact aS _
  ·exact .sl _ _ (ZbW ks)
theorem ZbW:∀(ks:List aO),∀y∈Dy ks,aY y
 | [],y,h=>by simp[Dy] at h
 | p::ps,y,h=>by
  simp only[Dy,List.mem_cons] at h;rcases h with rfl | h
  ·exact Dl p
  ·exact ZbW ps y h
end
def xZ(acc:List Int):List Int→List Int
 | []=>acc
 | x::xs=>xZ (if acc.contains x=true then acc else acc++[x]) xs
def CO(l:List Int):List Int:=xZ [] l
theorem Dv:∀{xs acc:List Int} {y:Int},y∈xZ acc xs↔y∈acc∨y∈xs
 | [],acc,y=>by simp[xZ]
 | x::xs,acc,y=>by
  simp only[xZ];rw[Dv];by_cases h:acc.contains x=true
  ·rw[if_pos h]
   have h':x∈acc:=by simpa using h
   constructor
   ·rintro(h1 | h1)
    ·exact .inl h1
    ·exact .inr (by simp[h1])
   ·rintro(h1 | h1)
    ·exact .inl h1
    ·rcases List.mem_cons.mp h1 with rfl | h1
     ·exact .inl h'
     ·exact .inr h1
  ·rw[if_neg h]
   simp only[List.mem_append,List.mem_cons,List.not_mem_nil,or_false];constructor
   ·rintro((h1 | h1) | h1)
    ·exact .inl h1
    ·exact .inr (.inl h1)
    ·exact .inr (.inr h1)
   ·rintro(h1 | h1 | h1)
    ·exact .inl (.inl h1)
    ·exact .inl (.inr h1)
    ·exact .inr h1
theorem VJ:∀{xs acc:List Int},acc.Nodup→(xZ acc xs).Nodup
 | [],acc,h=>h
 | x::xs,acc,h=>by
  simp only[xZ];refine VJ ?_;by_cases hc:acc.contains x=true
  ·rw[if_pos hc];exact h
  ·rw[if_neg hc]
   have h':x∉acc:=by simpa using hc
   rw[List.nodup_append];exact⟨h,by simp,fun a ha b hb=>by simp at hb;subst hb;intro e;subst e;exact h' ha⟩
theorem zF{xs:List Int}{y:Int}:y∈CO xs↔y∈xs:=by unfold CO;rw[Dv];simp
theorem Zl8(xs:List Int):(CO xs).Nodup:=VJ (by simp)
theorem Wo:∀(n:Nat) {l:List Int},l.Nodup→(∀x∈l,0≤x∧x < (n:Int))→l.length≤n
 | 0,l,_,h=>by
  cases l with
  | nil=>simp
  | cons x l=>have:=h x (by simp);omega
 | n+1,l,hd,h=>by
  have h1:(l.filter (fun x=>x != (n:Int))).length≤n:=Wo n (hd.filter _) (fun x hx=>by
   have hm:=List.mem_filter.mp hx;have:=h x hm.1;have hne:x≠(n:Int):=by simpa using hm.2
   omega)
  have h2:(l.filter (fun x=>x == (n:Int))).length≤1:=by
   have hd2:=hd.filter (fun x=>x == (n:Int));have hall:∀x∈l.filter (fun x=>x == (n:Int)),x=(n:Int):=fun x hx=>by simpa using(List.mem_filter.mp hx).2
   generalize l.filter (fun x=>x == (n:Int))=m at *
   match m,hd2,hall with
   | [],_,_=>simp
   | [_],_,_=>simp
   | a::b::m,hd2,hall=>
    exfalso;have:=(List.nodup_cons.mp hd2).1;rw[hall a (by simp)] at this;rw[hall b (by simp)] at this;simp at this
  have h3:l.length=(l.filter (fun x=>x == (n:Int))).length+(l.filter (fun x=>x != (n:Int))).length:=by
   have:=List.length_eq_countP_add_countP (p:=fun x:Int=>x == (n:Int)) (l:=l);rw[List.countP_eq_length_filter,List.countP_eq_length_filter] at this;rw[this];congr 2;exact List.filter_congr (fun x _=>by rw[bne];cases(x == (n:Int))<;>rfl)
  omega
def JG(v:Int→List Int):Nat→List Int→Nat→List Int
 | 0,met,_=>met
 | f+1,met,i=>if h:i < met.length then JG v f (xZ met (v met[i])) (i+1) else met
def M5(v:Int→List Int)(k:Int)(n:Nat)(at_:Int):List Int:=(if k=6 then [] else [at_])++(if k=7 then CO (v at_) else JG v (n+2) (CO (v at_)) 0)
mutual
def AX(l:List Int):aO→Int→List Int
 | .mk k s g ks,at_=>if k=1 then [at_] else if k=2 then (if at_ < l.length∧g.contains (l.getD at_.toNat 0)=true then [at_+1] else []) else if k=3 then DN l ks [at_] else if k=4 then DX l ks at_
   else if k=7∨k=5∨k=6 then Cv l ks k at_ else []
def DN(l:List Int):List aO→List Int→List Int
 | [],cur=>cur
 | q::qs,cur=>DN l qs (CO (cur.flatMap fun a=>AX l q a))
def DX(l:List Int):List aO→Int→List Int
 | [],_=>[]
 | q::qs,at_=>AX l q at_++DX l qs at_
def Cv(l:List Int):List aO→Int→Int→List Int
 | [q],k,at_=>M5 (fun a=>AX l q a) k l.length at_
 | _,_,_=>[]
end
theorem ZkY{v:Int→List Int}{a b:Int}(hv:∀x,a≤x→x≤b→∀y∈v x,a≤y∧y≤b):∀(f:Nat) (met:List Int) (i:Nat),(∀x∈met,a≤x∧x≤b)→∀x∈JG v f met i,a≤x∧x≤b
 | 0,met,i,h,x,hx=>h x hx
 | f+1,met,i,h,x,hx=>by
  simp only[JG] at hx;split at hx
  ·rename_i hlt
   refine ZkY hv f _ _ (fun y hy=>?_) x hx;rcases Dv.mp hy with hy | hy
   ·exact h y hy
   ·have hm:=h _ (List.getElem_mem hlt)
    exact hv _ hm.1 hm.2 y hy
  ·exact h x hx
theorem Zsz{v:Int→List Int}{b:Int}{k:Int}{n:Nat}{at_:Int}(hab:at_≤b)(hv:∀x,at_≤x→x≤b→∀y∈v x,at_≤y∧y≤b):∀x∈M5 v k n at_,at_≤x∧x≤b:=by
 intro x hx;have h0:∀y∈CO (v at_),at_≤y∧y≤b:=fun y hy=>hv at_ (Int.le_refl _) hab y (zF.mp hy)
 unfold M5 at hx;rcases List.mem_append.mp hx with hx | hx
 ·split at hx
  ·simp at hx
  ·simp at hx;subst hx;exact⟨Int.le_refl _,hab⟩
 ·split at hx
  ·exact h0 x hx
  ·exact ZkY hv _ _ _ h0 x hx
mutual
theorem Fh(l:List Int):∀(p:aO) (at_:Int),0≤at_→at_≤l.length→∀x∈AX l p at_,at_≤x∧x≤l.length
 | .mk k s g ks,at_,h0,hn,x,hx=>by
  rw[AX] at hx;split at hx
  ·simp at hx;subst hx;exact⟨Int.le_refl _,hn⟩
  ·split at hx
   ·split at hx
    ·rename_i hc;simp at hx;subst hx;omega
    ·simp at hx
   ·split at hx
    ·exact Zgm l ks [at_] at_ h0 (fun y hy=>by simp at hy;subst hy;exact⟨Int.le_refl _,hn⟩) x hx
    ·split at hx
     ·exact Zj4 l ks at_ h0 hn x hx
     ·split at hx
      ·exact Zpk l ks k at_ h0 hn x hx
      ·simp at hx
theorem Zgm(l:List Int):∀(ks:List aO) (cur:List Int) (a:Int),0≤a→(∀x∈cur,a≤x∧x≤l.length)→∀x∈DN l ks cur,a≤x∧x≤l.length
 | [],cur,a,h0,h,x,hx=>by rw[DN] at hx;exact h x hx
 | q::qs,cur,a,h0,h,x,hx=>by
  rw[DN] at hx;refine Zgm l qs _ a h0 (fun y hy=>?_) x hx;obtain⟨c,hc,hy⟩:=List.mem_flatMap.mp (zF.mp hy);have h1:=h c hc;have h2:=Fh l q c (by omega) h1.2 y hy;omega
theorem Zj4(l:List Int):∀(ks:List aO) (at_:Int),0≤at_→at_≤l.length→∀x∈DX l ks at_,at_≤x∧x≤l.length
 | [],at_,h0,hn,x,hx=>by rw[DX] at hx;simp at hx
 | q::qs,at_,h0,hn,x,hx=>by
  rw[DX] at hx;rcases List.mem_append.mp hx with hx | hx
  ·exact Fh l q at_ h0 hn x hx
  ·exact Zj4 l qs at_ h0 hn x hx
theorem Zpk(l:List Int):∀(ks:List aO) (k at_:Int),0≤at_→at_≤l.length→∀x∈Cv l ks k at_,at_≤x∧x≤l.length
 | [q],k,at_,h0,hn,x,hx=>by
  rw[Cv] at hx;exact Zsz hn (fun y h1 h2 z hz=>by have:=Fh l q y (by omega) h2 z hz;omega) x hx
 | [],k,at_,h0,hn,x,hx=>by simp[Cv] at hx
 | q::r::qs,k,at_,h0,hn,x,hx=>by simp[Cv] at hx
end
theorem Vec.cel{g:Nat→Option aF}{v:AV}{es:Nat}{xs:List AV}(h:Vec g v es xs):v.cells=[v]∧v.solid=true:=by
 rcases h with⟨rfl,_⟩ | ⟨_,_,_,rfl,_⟩<;>exact⟨rfl,rfl⟩
end Go.Rf
namespace Go.Rf
theorem Znu{d:aD}(R:bD d)(l:List Int):mM d l=true↔∃s,sj d 0 l=some s∧d.fin.getD s false=true:=by
 have hr:lg d=true:=(xP d).mpr R;simp only[mM,xH,if_pos hr];cases sj d 0 l with
 | none=>simp
 | some s=>simp
theorem Zhd{zs:List Int}{x:Int}:x∈Lib.compact zs↔x∈zs:=by
 have hget:∀j (hj:j < zs.length),zs.toArray[j]! = zs[j]:=fun j hj=>by simp[hj]
 simp only[Lib.compact,Lib.compactUpTo,List.mem_map,List.mem_filter,List.mem_range];constructor
 ·rintro⟨j,⟨hj,_⟩,rfl⟩
  rw[hget j hj];exact List.getElem_mem hj
 ·intro hx
  obtain⟨j,hj,rfl⟩:=List.mem_iff_getElem.mp hx
  have key:∀m,∀j (hj:j < zs.length),j≤m→∃a,(a < zs.length∧Lib.keeps zs.toArray a=true)∧zs.toArray[a]! = zs[j]:=by
   intro m;induction m with
   | zero=>
    intro j hj h0;have:j=0:=by omega
    subst this;exact⟨0,⟨hj,by simp[Lib.keeps]⟩,hget 0 hj⟩
   | succ m ih=>
    intro j hj hm;by_cases hk:Lib.keeps zs.toArray j=true
    ·exact⟨j,⟨hj,hk⟩,hget j hj⟩
    ·have hk':¬(j=0∨zs.toArray[j]!≠zs.toArray[j - 1]!):=by simpa[Lib.keeps] using hk
     have h0:j≠0:=fun e=>hk' (.inl e)
     have he:zs.toArray[j]! = zs.toArray[j - 1]!:=Decidable.byContradiction fun e=>hk' (.inr e)
     obtain⟨a,ha,hb⟩:=ih (j - 1) (by omega) (by omega);refine⟨a,ha,?_⟩;rw[hb,←hget (j - 1) (by omega),←he,hget j hj]
  obtain⟨a,h1,h2⟩:=key j j hj (Nat.le_refl _);exact⟨a,h1,h2⟩
def xS(ph sign:Nat)(to:Int):Int:=if sign % 2=0 then (if ph=0 then to*3+1 else to*3+ph) else if ph=1 then to*3+2 else -1
def MU(ph:Nat)(l:List Int):List Int:=l.mapIdx fun i t=>xS ph i t
def jN(d:aD)(i:Nat):List Int:=MU (i % 3) (d.next.getD (i / 3) [])
def tC(d:aD)(i:Nat):Bool:=decide (i % 3=2) && d.fin.getD (i / 3) false
def pg(d:aD):Gr:=⟨(List.range (3*d.next.length)).map (jN d),(List.range (3*d.next.length)).map (tC d)⟩
theorem z8(d:aD):(pg d).n=3*d.next.length:=by simp[pg,Gr.n]
theorem Jh{d:aD}{i:Nat}(h:i < 3*d.next.length):(pg d).next[i]? = some (jN d i):=by simp[pg,h]
theorem QG{d:aD}{i:Nat}(h:i < 3*d.next.length):(pg d).uy i=tC d i:=by simp[pg,Gr.uy,List.getD_eq_getElem?_getD,h]
theorem IV{d:aD}(R:bD d){s ph:Nat}(hs:s < d.next.length)(hp:ph < 3)(a:Nat):(jN d (3*s+ph))[a]? = if (a:Int) < d.signs then some (xS ph a (bO d s a)) else none:=by
 have e1:(3*s+ph) % 3=ph:=by omega
 have e2:(3*s+ph) / 3=s:=by omega
 have hrow:=R.row s hs;have hg:d.next.getD s []=d.next[s]:=by simp[List.getD_eq_getElem?_getD,List.getElem?_eq_getElem hs]
 simp only[jN,e1,e2,MU,hg,List.getElem?_mapIdx];by_cases ha:(a:Int) < d.signs
 ·obtain⟨q1,q2,q3⟩:=Dx R hs (s:=(a:Int)) (by omega) ha
  simp only[Int.toNat_natCast] at q1 q2;rw[if_pos ha,List.getElem?_eq_getElem q1,q2];rfl
 ·rw[if_neg ha,List.getElem?_eq_none (by omega)];rfl
theorem Sg{d:aD}(R:bD d):MN (pg d):=by
 have hn2:=R.n2;have hs2:=R.s2;refine⟨by simp[pg],by simp[pg];omega,fun r hr=>?_,fun r hr t ht=>?_⟩
 ·simp only[pg,List.mem_map,List.mem_range] at hr
  obtain⟨i,hi,rfl⟩:=hr;have hs:i / 3 < d.next.length:=by omega
  have:=R.row (i / 3) hs;simp only[jN,MU,List.length_mapIdx,List.getD_eq_getElem?_getD,List.getElem?_eq_getElem hs,Option.getD_some];omega
 ·simp only[pg,List.mem_map,List.mem_range] at hr
  obtain⟨i,hi,rfl⟩:=hr;obtain⟨a,ha,rfl⟩:=List.mem_iff_getElem.mp ht;have hs:i / 3 < d.next.length:=by omega
  have e:i=3*(i / 3)+i % 3:=by omega
  have h1:=IV R hs (ph:=i % 3) (by omega) a;rw[←e,List.getElem?_eq_getElem ha] at h1;split at h1
  ·rename_i hsg
   obtain⟨q1,q2,q3⟩:=Dx R hs (s:=(a:Int)) (by omega) hsg;rw[Option.some.inj h1];have hl:(pg d).next.length=3*d.next.length:=by simp[pg]
   rw[hl];unfold xS;split
   ·split<;>right<;>omega
   ·split
    ·right;omega
    ·left;rfl
  ·cases h1
def zP(d:aD)(i:Nat)(h:Int)(j:Nat):Prop:=∃a:Nat,((a / 2:Nat):Int)=h∧(jN d i)[a]? = some (j:Int)
def Rs(d:aD):Nat→List Int→Nat→Prop
 | i,[],t=>i=t
 | i,h::hs,t=>∃j,zP d i h j∧Rs d j hs t
def yP(d:aD)(i:Nat)(hs:List Int):Prop:=∃t,Rs d i hs t∧tC d t=true
def zW(d:aD)(s:Nat)(l:List Int):Prop:=∃e,sj d s l=some e∧d.fin.getD e false=true
theorem LD{d:aD}{i:Nat}:yP d i []↔tC d i=true:=by simp[yP,Rs]
theorem Iy{d:aD}{i:Nat}{h:Int}{hs:List Int}:yP d i (h::hs)↔∃j,zP d i h j∧yP d j hs:=by
 simp only[yP,Rs];constructor
 ·rintro⟨t,⟨j,h1,h2⟩,h3⟩;exact⟨j,h1,t,h2,h3⟩
 ·rintro⟨j,h1,t,h2,h3⟩;exact⟨t,⟨j,h1,h2⟩,h3⟩
theorem Znv{d:aD}{s:Nat}:zW d s []↔d.fin.getD s false=true:=by simp[zW,sj]
theorem Dn{d:aD}{s:Nat}{x:Int}{l:List Int}:zW d s (x::l)↔(0≤x∧x < d.signs)∧zW d (bO d s x) l:=by
 simp only[zW,sj];constructor
 ·rintro⟨e,h1,h2⟩
  split at h1
  ·rename_i hx;exact⟨hx,e,h1,h2⟩
  ·cases h1
 ·rintro⟨hx,e,h1,h2⟩
  exact⟨e,by rw[if_pos hx];exact h1,h2⟩
theorem zB{d:aD}(R:bD d){s:Nat}(hs:s < d.next.length){x:Int}(h0:0≤x)(h1:x < d.signs):bO d s x < d.next.length:=(Dx R hs h0 h1).2.2
theorem Qc{d:aD}(R:bD d){i j:Nat}{h:Int}(hi:i < 3*d.next.length)(hh:zP d i h j):j < 3*d.next.length∧(pg d).edge i j∧0≤h:=by
 obtain⟨a,ha,hg⟩:=hh;refine⟨?_,⟨jN d i,Jh hi,List.mem_of_getElem? hg⟩,by omega⟩;rcases(Sg R).at_ (jN d i) (List.mem_of_getElem? (Jh hi)) (j:Int) (List.mem_of_getElem? hg) with h1 | h1
 ·omega
 ·have:=z8 d;simp only[Gr.n] at this;omega
theorem Dt{d:aD}(R:bD d){s ph:Nat}(hs:s < d.next.length)(hp:ph < 3){h:Int}{j:Nat} :
  zP d (3*s+ph) h j↔((0≤h∧2*h < d.signs)∧j=3*bO d s (2*h)+(if ph=0 then 1 else ph))∨(ph=1∧(0≤h∧2*h+1 < d.signs)∧j=3*bO d s (2*h+1)+2):=by
 constructor
 ·rintro⟨a,ha,hg⟩
  rw[IV R hs hp a] at hg;split at hg
  ·rename_i hsg
   have hj:=Option.some.inj hg;unfold xS at hj;split at hj
   ·rename_i he
    have e:(a:Int)=2*h:=by omega
    left;rw[←e];refine⟨⟨by omega,hsg⟩,?_⟩;split at hj<;>rename_i wu
    ·rw[if_pos wu];omega
    ·rw[if_neg wu];omega
   ·rename_i ho
    have e:(a:Int)=2*h+1:=by omega
    split at hj
    ·rename_i wu
     right;rw[←e];exact⟨wu,⟨by omega,hsg⟩,by omega⟩
    ·omega
  ·cases hg
 ·rintro(⟨⟨h0,h1⟩,hj⟩ | ⟨wu,⟨h0,h1⟩,hj⟩)
  ·refine⟨(2*h).toNat,by omega,?_⟩
   have e:(((2*h).toNat:Nat):Int)=2*h:=by omega
   rw[IV R hs hp,e,if_pos h1];unfold xS;rw[if_pos (by omega),hj];split<;>congr 1<;>omega
  ·refine⟨(2*h+1).toNat,by omega,?_⟩
   have e:(((2*h+1).toNat:Nat):Int)=2*h+1:=by omega
   rw[IV R hs hp,e,if_pos h1];unfold xS;rw[if_neg (by omega),if_pos wu,hj];congr 1;omega
theorem Ir(q:Nat):∀(hs:List Int) (i:Nat),fB ((q+1:Nat):Int) (i+1) hs=fB (q:Int) i hs
 | [],i=>rfl
 | h::hs,i=>by
  have e:iT ((q+1:Nat):Int) (i+1)=iT (q:Int) i:=by
   unfold iT;by_cases hc:(i:Int)=q
   ·rw[if_pos hc,if_pos (by omega)]
   ·rw[if_neg hc,if_neg (by omega)]
  simp only[fB];rw[Ir q hs (i+1),e]
theorem Qe:∀(hs:List Int) (i:Nat),fB 0 (i+1) hs=hs.map (2 * ·)
 | [],i=>rfl
 | h::hs,i=>by
  have e:iT 0 (i+1)=0:=by
   unfold iT;rw[if_neg (by omega)]
  simp only[fB,List.map_cons];rw[Qe hs (i+1),e];congr 1;omega
theorem Ri{d:aD}(R:bD d):∀(hs:List Int) (s:Nat),s < d.next.length→(yP d (3*s+2) hs↔zW d s (hs.map (2 * ·)))
 | [],s,hs=>by
  rw[LD,List.map_nil,Znv];have e1:(3*s+2) % 3=2:=by omega
  have e2:(3*s+2) / 3=s:=by omega
  simp[tC,e1,e2]
 | h::l,s,hs=>by
  rw[Iy,List.map_cons,Dn];constructor
  ·rintro⟨j,h1,h2⟩
   rcases(Dt R hs (by omega)).mp h1 with⟨h3,hj⟩ | ⟨h3,_⟩
   ·rw[if_neg (by omega)] at hj
    subst hj;exact⟨⟨by omega,h3.2⟩,(Ri R l _ (zB R hs (by omega) h3.2)).mp h2⟩
   ·omega
  ·rintro⟨h1,h2⟩
   exact⟨_,(Dt R hs (by omega)).mpr (.inl ⟨⟨by omega,h1.2⟩,rfl⟩),by rw[if_neg (by omega)];exact(Ri R l _ (zB R hs (by omega) h1.2)).mpr h2⟩
theorem Rh{d:aD}(R:bD d):∀(hs:List Int) (s:Nat),s < d.next.length→(yP d (3*s+1) hs↔∃q:Nat,q < hs.length∧zW d s (fB q 0 hs))
 | [],s,hs=>by
  rw[LD];have e1:(3*s+1) % 3=1:=by omega
  simp[tC,e1]
 | h::l,s,hs=>by
  rw[Iy];constructor
  ·rintro⟨j,h1,h2⟩
   rcases(Dt R hs (by omega)).mp h1 with⟨h3,hj⟩ | ⟨_,h3,hj⟩
   ·rw[if_neg (by omega)] at hj
    subst hj;obtain⟨q,q1,q2⟩:=(Rh R l _ (zB R hs (by omega) h3.2)).mp h2;refine⟨q+1,by simpa using q1,?_⟩;simp only[fB];rw[Ir,Dn];have e:iT ((q+1:Nat):Int) 0=0:=by unfold iT;rw[if_neg (by omega)]
    rw[e,Int.add_zero];exact⟨⟨by omega,h3.2⟩,q2⟩
   ·subst hj
    have:=(Ri R l _ (zB R hs (by omega) h3.2)).mp h2;refine⟨0,by simp,?_⟩;simp only[fB];rw[Dn];have e:iT ((0:Nat):Int) 0=1:=by unfold iT;simp
    have e2:fB ((0:Nat):Int) (0+1) l=l.map (2 * ·):=Qe l 0;rw[e,e2];exact⟨⟨by omega,h3.2⟩,this⟩
  ·rintro⟨q,q1,q2⟩
   cases q with
   | zero=>
    simp only[fB] at q2;have e:iT ((0:Nat):Int) 0=1:=by unfold iT;simp
    have e2:fB ((0:Nat):Int) (0+1) l=l.map (2 * ·):=Qe l 0;rw[Dn,e,e2] at q2;exact⟨_,(Dt R hs (by omega)).mpr (.inr ⟨rfl,⟨by omega,q2.1.2⟩,rfl⟩),(Ri R l _ (zB R hs q2.1.1 q2.1.2)).mpr q2.2⟩
   | succ q=>
    simp only[fB] at q2;have e:iT ((q+1:Nat):Int) 0=0:=by unfold iT;rw[if_neg (by omega)]
    rw[Ir,Dn,e,Int.add_zero] at q2;refine⟨_,(Dt R hs (by omega)).mpr (.inl ⟨⟨by omega,q2.1.2⟩,rfl⟩),?_⟩;rw[if_neg (by omega)];exact(Rh R l _ (zB R hs q2.1.1 q2.1.2)).mpr ⟨q,by simpa using q1,q2.2⟩
theorem Zsw{d:aD}(R:bD d)(hs:List Int){s:Nat}(h:s < d.next.length):yP d (3*s) hs↔∃q:Nat,1≤q∧q < hs.length∧zW d s (fB q 0 hs):=by
 have e0:3*s=3*s+0:=rfl;cases hs with
 | nil=>
  rw[LD];have e1:(3*s) % 3=0:=by omega
  simp[tC,e1]
 | cons x l=>
  rw[Iy];constructor
  ·rintro⟨j,h1,h2⟩
   rw[e0] at h1;rcases(Dt R h (by omega)).mp h1 with⟨h3,hj⟩ | ⟨h3,_⟩
   ·rw[if_pos rfl] at hj
    subst hj;obtain⟨q,q1,q2⟩:=(Rh R l _ (zB R h (by omega) h3.2)).mp h2;refine⟨q+1,by omega,by simpa using q1,?_⟩;simp only[fB];rw[Ir,Dn];have e:iT ((q+1:Nat):Int) 0=0:=by unfold iT;rw[if_neg (by omega)]
    rw[e,Int.add_zero];exact⟨⟨by omega,h3.2⟩,q2⟩
   ·omega
  ·rintro⟨q,q0,q1,q2⟩
   obtain⟨q,rfl⟩:∃p,q=p+1:=⟨q - 1,by omega⟩;simp only[fB] at q2;have e:iT ((q+1:Nat):Int) 0=0:=by unfold iT;rw[if_neg (by omega)]
   rw[Ir,Dn,e,Int.add_zero] at q2;refine⟨_,by rw[e0];exact(Dt R h (by omega)).mpr (.inl ⟨⟨by omega,q2.1.2⟩,rfl⟩),?_⟩;rw[if_pos rfl];exact(Rh R l _ (zB R h q2.1.1 q2.1.2)).mpr ⟨q,by simpa using q1,q2.2⟩
def lU(d:aD)(far at_:List Int)(h:Nat)(left:Int):List Int:=
 at_.flatMap fun i=>(((jN d i.toNat).drop (2*h)).take 2).filter fun t=>(t != -1) && (rd far t.toNat == left)
theorem Qp{d:aD}{far at_:List Int}{h:Nat}{left x:Int}(hx:∀i∈at_,∀t∈jN d i.toNat,-1≤t) :
  x∈lU d far at_ h left↔∃j:Nat,x=(j:Int)∧rd far j=left∧∃i∈at_,zP d i.toNat h j:=by
 simp only[lU,List.mem_flatMap,List.mem_filter,Bool.and_eq_true,bne_iff_ne,beq_iff_eq];constructor
 ·rintro⟨i,hi,hm,h1,h2⟩
  obtain⟨k,he⟩:=List.mem_iff_getElem?.mp hm
  have hk2:k < 2:=by
   by_cases hc:k < 2
   ·exact hc
   ·rw[List.getElem?_eq_none (by simp;omega)] at he;cases he
  rw[List.getElem?_take_of_lt hk2,List.getElem?_drop] at he;have hge:=hx i hi x (List.mem_of_getElem? he);refine⟨x.toNat,by omega,by simpa using h2,i,hi,2*h+k,by omega,?_⟩;rw[he];congr 1;omega
 ·rintro⟨j,rfl,h2,i,hi,a,ha,hg⟩
  refine⟨i,hi,?_,by omega,by simpa using h2⟩;refine List.mem_iff_getElem?.mpr ⟨a - 2*h,?_⟩;rw[List.getElem?_take_of_lt (by omega),List.getElem?_drop];have:2*h+(a - 2*h)=a:=by omega
  rw[this];exact hg
def zJ(d:aD)(far at_:List Int)(h:Nat)(left:Int):List Int:=Lib.compact ((lU d far at_ h left).mergeSort fun x y=>decide (x≤y))
theorem Pv{d:aD}{far at_:List Int}{h:Nat}{left x:Int}:x∈zJ d far at_ h left↔x∈lU d far at_ h left:=by
 rw[zJ,Zhd,List.mem_mergeSort]
def uG(d:aD)(far at_:List Int)(left:Int):Nat:=(List.range (d.signs / 2).toNat).findIdx fun h=>!(lU d far at_ h left).isEmpty
def vR(d:aD)(far:List Int):Nat→List Int→List Int
 | 0,_=>[]
 | k+1,at_=>(uG d far at_ k:Int)::vR d far k (zJ d far at_ (uG d far at_ k) k)
theorem Lf(d:aD)(far:List Int):∀(k:Nat) (at_:List Int),(vR d far k at_).length=k
 | 0,_=>rfl
 | k+1,at_=>by simp[vR,Lf d far k]
structure yM(d:aD)(far at_:List Int)(k:Nat):Prop where
 ne:at_≠[]
 rng:∀x∈at_,0≤x∧x < 3*d.next.length
 far:∀x∈at_,rd far x.toNat=(k:Int)
theorem yM.low{d:aD}(R:bD d){far at_:List Int}{k:Nat}(h:yM d far at_ k):∀i∈at_,∀t∈jN d i.toNat,-1≤t:=by
 intro i hi t ht;obtain⟨h0,h1⟩:=h.rng i hi;rcases(Sg R).at_ (jN d i.toNat) (List.mem_of_getElem? (Jh (by omega))) t ht with h2 | h2<;>omega
theorem Zec{n:Nat}{p:Nat→Bool}(h:∃i∈List.range n,p i=true):(List.range n).findIdx p < n∧p ((List.range n).findIdx p)=true∧∀i,i < (List.range n).findIdx p→p i=false:=by
 have hlt:(List.range n).findIdx p < (List.range n).length:=List.findIdx_lt_length_of_exists h;refine⟨by simpa using hlt,?_,fun i hi=>?_⟩
 ·have:=List.findIdx_getElem (xs:=List.range n) (p:=p) (w:=hlt)
  rw[List.getElem_range] at this;exact this
 ·have:=List.not_of_lt_findIdx (p:=p) (xs:=List.range n) (i:=i) hi
  rw[List.getElem_range] at this;simpa using this
theorem Qo{d:aD}(R:bD d)(hev:d.signs % 2=0){far:List Int}(fo:uW (pg d) far){at_:List Int}{k:Nat}(h:yM d far at_ (k+1)) :
  uG d far at_ k < (d.signs / 2).toNat∧lU d far at_ (uG d far at_ k) k≠[]∧∀h',h' < uG d far at_ k→lU d far at_ h' k=[]:=by
 obtain⟨x,hx⟩:=List.exists_mem_of_ne_nil _ h.ne;obtain⟨h0,h1⟩:=h.rng x hx;have hn:=z8 d;obtain⟨t,t1,⟨row,r1,r2⟩,t3⟩:=fo.pre x.toNat (by omega) (by rw[h.far x hx];omega);rw[Jh (by omega)] at r1;cases r1;obtain⟨a,ha,he⟩:=List.mem_iff_getElem.mp r2
 have hlen:(jN d x.toNat).length=d.signs.toNat:=by
  have hs:x.toNat / 3 < d.next.length:=by omega
  have:=R.row _ hs;simp only[jN,MU,List.length_mapIdx,List.getD_eq_getElem?_getD,List.getElem?_eq_getElem hs,Option.getD_some];omega
 have hmem:(t:Int)∈lU d far at_ (a / 2) k:=(Qp (h.low R)).mpr ⟨t,rfl,by rw[t3,h.far x hx];omega,x,hx,a,rfl,by rw[List.getElem?_eq_getElem ha,he]⟩
 have hex:∃h∈List.range (d.signs / 2).toNat,(fun h=>!(lU d far at_ h (k:Int)).isEmpty) h=true:=by
  refine⟨a / 2,List.mem_range.mpr (by omega),?_⟩;cases hq:lU d far at_ (a / 2) (k:Int) with
  | nil=>rw[hq] at hmem;simp at hmem
  | cons y ys=>simp[hq]
 obtain⟨q1,q2,q3⟩:=Zec hex;refine⟨q1,fun e=>?_,fun h' hh'=>?_⟩
 ·have e':lU d far at_ ((List.range (d.signs / 2).toNat).findIdx fun h=>!(lU d far at_ h (k:Int)).isEmpty) k=[]:=e
  rw[e'] at q2;simp at q2
 ·have:=q3 h' hh'
  cases hq:lU d far at_ h' (k:Int) with
  | nil=>rfl
  | cons y ys=>simp[hq] at this
theorem yM.next{d:aD}(R:bD d){far:List Int}{at_:List Int}{k:Nat}(h:yM d far at_ (k+1)){hf:Nat}(hne:lU d far at_ hf k≠[]):yM d far (zJ d far at_ hf k) k:=by
 have hm:∀x∈zJ d far at_ hf k,∃j:Nat,x=(j:Int)∧rd far j=(k:Int)∧∃i∈at_,zP d i.toNat hf j:=fun x hx=>(Qp (h.low R)).mp (Pv.mp hx)
 refine⟨fun e=>?_,fun x hx=>?_,fun x hx=>?_⟩
 ·obtain⟨y,hy⟩:=List.exists_mem_of_ne_nil _ hne
  have:=Pv.mpr hy;rw[e] at this;simp at this
 ·obtain⟨j,rfl,_,i,hi,hs⟩:=hm x hx
  have:=(Qc R (by have:=h.rng i hi;omega) hs).1;omega
 ·obtain⟨j,rfl,hr,_⟩:=hm x hx
  simpa using hr
theorem Ziq{d:aD}(R:bD d)(hev:d.signs % 2=0){far:List Int}(fo:uW (pg d) far):∀(k:Nat) (at_:List Int),yM d far at_ k→∃u∈at_,yP d u.toNat (vR d far k at_)
 | 0,at_,h=>by
  obtain⟨x,hx⟩:=List.exists_mem_of_ne_nil _ h.ne;obtain⟨h0,h1⟩:=h.rng x hx;refine⟨x,hx,LD.mpr ?_⟩;rw[←QG (by omega)];exact(fo.zero x.toNat (by have:=z8 d;omega)).mp (by simpa using h.far x hx)
 | k+1,at_,h=>by
  obtain⟨e1,e2,_⟩:=Qo R hev fo h;obtain⟨u',hu',hp⟩:=Ziq R hev fo k _ (h.next R e2);obtain⟨j,rfl,hr,i,hi,hs⟩:=(Qp (h.low R)).mp (Pv.mp hu');exact⟨i,hi,by rw[vR,Iy];exact⟨j,hs,by simpa using hp⟩⟩
theorem Wu{d:aD}(R:bD d){far:List Int}(fo:uW (pg d) far):∀(hs:List Int) (i:Nat),i < 3*d.next.length→yP d i hs→0≤rd far i∧rd far i≤hs.length
 | [],i,hi,h=>by
  have:=(fo.zero i (by have:=z8 d;omega)).mpr (by rw[QG hi];exact LD.mp h);simp[this]
 | x::hs,i,hi,h=>by
  obtain⟨j,h1,h2⟩:=Iy.mp h;obtain⟨h3,h4,_⟩:=Qc R hi h1;obtain⟨h5,h6⟩:=Wu R fo hs j h3 h2;have:=fo.TA i j (by have:=z8 d;omega) (by have:=z8 d;omega) h4 h5;simp;omega
theorem Zdn{d:aD}(R:bD d)(hev:d.signs % 2=0){far:List Int}(fo:uW (pg d) far):∀(hs:List Int) (at_:List Int),yM d far at_ hs.length→∀u∈at_,yP d u.toNat hs→0≤u6 hs (vR d far hs.length at_)
 | [],at_,h,u,hu,hp=>by simp[vR,u6]
 | x::hs,at_,h,u,hu,hp=>by
  obtain⟨j,h1,h2⟩:=Iy.mp hp;have hur:=h.rng u hu;obtain⟨h3,h4,h5⟩:=Qc R (by omega) h1;obtain⟨h6,h7⟩:=Wu R fo hs j h3 h2;have abH:=fo.TA u.toNat j (by have:=z8 d;omega) (by have:=z8 d;omega) h4 h6;have hfu:=h.far u hu;simp only[List.length_cons] at hfu h ⊢;have hrj:rd far j=(hs.length:Int):=by omega
  obtain⟨e1,e2,e3⟩:=Qo R hev fo h;have hmem:(j:Int)∈lU d far at_ x.toNat hs.length:=(Qp (h.low R)).mpr ⟨j,rfl,hrj,u,hu,by rw[Int.toNat_of_nonneg h5];exact h1⟩
  have hle:uG d far at_ hs.length≤x.toNat:=by
   by_cases hc:uG d far at_ hs.length≤x.toNat
   ·exact hc
   ·have:=e3 x.toNat (by omega);rw[this] at hmem;simp at hmem
  rw[vR];simp only[u6];split
  ·unfold wJ
   rw[if_neg (by omega)];split<;>omega
  ·rename_i hne
   have hxe:x=(uG d far at_ hs.length:Int):=PE.mp (Decidable.not_not.mp hne);have hxn:x.toNat=uG d far at_ hs.length:=by omega
   refine Zdn R hev fo hs _ (h.next R e2) (j:Int) ?_ (by simpa using h2);rw[Pv,←hxn];exact hmem
theorem ZlT{P:Nat→Prop}(h:∃n,P n):∃n,P n∧∀m,m < n→¬P m:=by
 obtain⟨n,hn⟩:=h;induction n using Nat.strongRecOn with
 | _ n ih=>
  by_cases hc:∃m,m < n∧P m
  ·obtain⟨m,h1,h2⟩:=hc;exact ih m h1 h2
  ·exact⟨n,hn,fun m h1 h2=>hc ⟨m,h1,h2⟩⟩
noncomputable def yR(d:aD):List Int:=sG (pg d)
noncomputable def qD(d:aD):Bool:=lg d && (decide (d.signs % 2=0) && decide (0≤rd (yR d) 0))
noncomputable def jX(d:aD):List Int:=if qD d=true then vR d (yR d) (rd (yR d) 0).toNat [0] else []
structure BO(d:aD)(s:List Int)(p:Nat):Prop where
 lo:1≤p
 hi:p < s.length
 acc:mM d (jd s p)=true
 fst:∀q:Nat,1≤q→q < p→mM d (jd s q)=false
theorem BO.uniq{d:aD}{s:List Int}{p q:Nat}(h:BO d s p)(k:BO d s q):p=q:=by
 rcases Nat.lt_trichotomy p q with h1 | h1 | h1
 ·have:=k.fst p h.lo h1;rw[h.acc] at this;cases this
 ·exact h1
 ·have:=h.fst q k.lo h1;rw[k.acc] at this;cases this
theorem ZcY{d:aD}(R:bD d)(q:Int):∀(hs:List Int) (i s:Nat),s < d.next.length→zW d s (fB q i hs)→hs.any vg=false
 | [],i,s,hs,h=>rfl
 | x::hs,i,s,hlt,h=>by
  simp only[fB] at h;rw[Dn] at h;obtain⟨⟨h1,h2⟩,h3⟩:=h;have ho:iT q i=0∨iT q i=1:=by unfold iT;split<;>simp
  have:=R.s2;have ih:=ZcY R q hs (i+1) _ (zB R hlt h1 h2) h3;rw[List.any_cons,ih];simp[vg];omega
theorem Qs{d:aD}(R:bD d)(l:List Int):mM d l=true↔zW d 0 l:=Znu R l
theorem Zn7{d:aD}(R:bD d){hs:List Int}{q:Nat}(h1:1≤q)(h2:q < hs.length)(h:zW d 0 (fB q 0 hs)):jd hs q=fB q 0 hs:=by
 have:=ZcY R q hs 0 0 (by have:=R.n1;omega) h;unfold jd;rw[if_pos ⟨by omega,by omega,this⟩]
theorem VF{d:aD}(R:bD d)(hev:d.signs % 2=0):qD d=true↔0≤rd (yR d) 0:=by
 have hr:lg d=true:=(xP d).mpr R;simp[qD,hr,hev]
theorem Yd{d:aD}(R:bD d)(h:0≤rd (yR d) 0):yM d (yR d) [0] (rd (yR d) 0).toNat:=by
 have:=R.n1;exact⟨by simp,by simp;omega,by simp;omega⟩
theorem Zdm{d:aD}(R:bD d)(hev:d.signs % 2=0)(hok:qD d=true):∃p,BO d (jX d) p:=by
 have fo:=Ql (pg d);have h0:=(VF R hev).mp hok;have hn:0 < d.next.length:=by have:=R.n1;omega
 obtain⟨u,hu,hp⟩:=Ziq R hev fo _ _ (Yd R h0);have:u=0:=by simpa using hu
 subst this;obtain⟨q,q1,q2,q3⟩:=(Zsw R _ hn).mp hp;have hS:jX d=vR d (sG (pg d)) (rd (yR d) 0).toNat [0]:=by unfold jX;rw[if_pos hok];rfl
 rw[←hS] at q2 q3;have hw:=Zn7 R q1 q2 q3;obtain⟨p,⟨p1,p2⟩,p3⟩:=ZlT (P:=fun p=>1≤p∧mM d (jd (jX d) p)=true) ⟨q,q1,by rw[hw,Qs R];exact q3⟩
 have hpq:p≤q:=by
  by_cases h:p≤q
  ·exact h
  ·exact(p3 q (by omega) ⟨q1,by rw[hw,Qs R];exact q3⟩).elim
 refine⟨p,p1,by omega,p2,fun q h1 h2=>?_⟩;have:=p3 q h2;cases hb:mM d (jd (jX d) q) with
 | false=>rfl
 | true=>exact(this ⟨h1,hb⟩).elim
theorem ZoE{d:aD}(R:bD d)(hev:d.signs % 2=0){signs:List Int}{place:Nat}(hne:jd signs place≠[])(hacc:mM d (jd signs place)=true) :
  qD d=true∧∀p,BO d (jX d) p→Zkz (jX d) signs=true∨(jX d=signs∧p≤place):=by
 have fo:=Ql (pg d);have hn:0 < d.next.length:=by have:=R.n1;omega
 have hw:1≤(place:Int)∧(place:Int) < signs.length∧signs.any vg=false:=by
  by_cases h:1≤(place:Int)∧(place:Int) < signs.length∧signs.any vg=false
  ·exact h
  ·exact(hne (by unfold jd;rw[if_neg h])).elim
 have he:jd signs place=fB place 0 signs:=by unfold jd;rw[if_pos hw]
 rw[Qs R,he] at hacc;have hp:yP d (3*0) signs:=(Zsw R _ hn).mpr ⟨place,by omega,by omega,hacc⟩;obtain⟨f1,f2⟩:=Wu R fo signs 0 (by omega) hp;have hok:qD d=true:=(VF R hev).mpr f1;have hS:jX d=vR d (sG (pg d)) (rd (yR d) 0).toNat [0]:=by unfold jX;rw[if_pos hok];rfl
 have hlen:(jX d).length=(rd (yR d) 0).toNat:=by rw[hS,Lf]
 have hfp:rd (yR d) 0=rd (sG (pg d)) 0:=rfl;refine⟨hok,fun p aaS=>?_⟩;rw[Zjg];by_cases hl:(jX d).length=signs.length
 ·have hml:=Zdn R hev fo signs [0] (by rw[←hl,hlen];exact Yd R f1) 0 (by simp) (by simpa using hp)
  have hS2:vR d (sG (pg d)) signs.length [0]=jX d:=by rw[hS,←hl,hlen]
  rw[hS2,Zfa (jX d) signs] at hml
  have ab8:Sc (jX d) signs=u6 (jX d) signs:=by
   rw[Ziz,hl];have:wJ (signs.length:Int) signs.length=0:=PE.mpr rfl;rw[if_neg (by rw[this];simp)]
  by_cases hz:u6 (jX d) signs=0
  ·right
   have heq:=(Zfb _ _).mp hz;refine⟨heq,?_⟩;by_cases hpp:p≤place
   ·exact hpp
   ·have:=aaS.fst place (by omega) (by omega)
    rw[heq,he] at this;have:=(Qs R _).mpr hacc;simp_all
  ·left
   rw[ab8];simp;omega
 ·left
  have hlt:(jX d).length < signs.length:=by omega
  rw[Ziz];have:wJ (jX d).length signs.length = -1:=by unfold wJ;rw[if_pos (by omega)]
  rw[this];simp
end Go.Rf
namespace Go.Rf
open Go.RowKit
theorem BZ{d:aD}(R:bD d)(l:List Int):mM d l=true↔Vl d l∧jy d (runT d 0 l)=true:=by
 have hr:lg d=true:=(xP d).mpr R;unfold mM xH;rw[if_pos hr];by_cases hl:Vl d l
 ·rw[Zg3 l 0 hl]
  constructor
  ·intro h;exact⟨hl,h⟩
  ·intro h;exact h.2
 ·rw[Zcx l 0 hl]
  constructor
  ·intro h;cases h
  ·intro h;exact(hl h.1).elim
def qO(n:Int)(l:List Int):Prop:=∀x∈l,0≤x∧x < n
theorem qO.take{n:Int}{l:List Int}(h:qO n l)(k:Nat):qO n (l.take k):=fun x hx=>h x (List.mem_of_mem_take hx)
theorem qO.drop{n:Int}{l:List Int}(h:qO n l)(k:Nat):qO n (l.drop k):=fun x hx=>h x (List.mem_of_mem_drop hx)
structure sD(d:aD)(n:Int)(F:List Int→Nat→Bool):Prop where
 R:bD d
 s:d.signs=2*n
 acc:∀w,Vl d w→(jy d (runT d 0 w)=true↔∃l p,qO n l∧1≤p∧p < l.length∧w=fB (p:Nat) 0 l∧F l p=true)
theorem ZtX{l m:List Int}{p q:Nat}(hp:p < l.length)(h:fB (p:Nat) 0 l=fB (q:Nat) 0 m):l=m∧p=q:=by
 have hl:l.length=m.length:=by have:=congrArg List.length h;rwa[uD,uD] at this
 have key:∀k (h1:k < l.length) (h2:k < m.length),2*l[k]+iT p k=2*m[k]+iT q k:=by
  intro k h1 h2;have e1:=LZ (p:Int) l 0 k h1 (by rw[uD];exact h1);have e2:=LZ (q:Int) m 0 k h2 (by rw[uD];exact h2);have:(fB (p:Int) 0 l)[k]'(by rw[uD];exact h1)=(fB (q:Int) 0 m)[k]'(by rw[uD];exact h2):=by simp only[h]
  rw[e1,e2] at this;simpa using this
 have one:∀(r k:Nat),iT (r:Int) k=0∨iT (r:Int) k=1:=fun r k=>by unfold iT;split<;>simp
 refine⟨List.ext_getElem hl fun k h1 h2=>?_,?_⟩
 ·have:=key k h1 h2
  rcases one p k with a | a<;>rcases one q k with b | b<;>rw[a,b] at this<;>omega
 ·have:=key p hp (by omega)
  have hpp:iT (p:Int) p=1:=by simp[iT]
  rw[hpp] at this;rcases one q p with b | b
  ·rw[b] at this;omega
  ·unfold iT at b
   split at b
   ·omega
   ·omega
def sZ(l:List Int):List Int:=l.map (2 * ·)
theorem WK:∀(l:List Int) (p:Nat) (h:p < l.length),fB (p:Nat) 0 l=sZ (l.take p)++(2*l[p]+1)::sZ (l.drop (p+1))
 | [],p,h=>by simp at h
 | x::l,0,h=>by
  have e0:((0:Nat):Int)=0:=rfl;rw[e0];have e1:iT 0 0=1:=by simp[iT]
  have e2:fB 0 0 (x::l)=(2*x+iT 0 0)::fB 0 1 l:=rfl;rw[e2,e1,Qe l 0];simp[sZ]
 | x::l,p+1,h=>by
  have:=WK l p (by simpa using h);simp only[fB];have hs:=Ir p l 0;have h0:iT ((p+1:Nat):Int) 0=0:=by unfold iT;rw[if_neg (by omega)]
  rw[hs,h0,this];simp[sZ]
section
variable{b a:aD}
theorem ZqR{ph:Int}(hp:ph=0∨ph=1)(q:Nat)(y:Nat):nX b a (ph,(q:Int)) (2*y)=(1,(bO b q (y:Int):Int)):=by
 unfold nX;rw[if_neg (by omega),if_pos hp];have:2*y / 2=y:=by omega
 rw[this];rfl
theorem Zme(ph:Int)(q y:Nat):nX b a (ph,(q:Int)) (2*y+1)=if ph=1∧jy b q=true then (2,(bO a 0 (y:Int):Int)) else (3,0):=by
 unfold nX;rw[if_pos (by omega)];have:(2*y+1) / 2=y:=by omega
 rw[this];rfl
theorem Zt2(w:List Int):w.foldl (fun x s=>nX b a x s.toNat) (3,0)=(3,0):=by
 induction w with
 | nil=>rfl
 | cons s w ih=>
  rw[List.foldl_cons]
  have:nX b a (3,0) s.toNat=(3,0):=by
   unfold nX;split
   ·rw[if_neg (by simp)]
   ·rw[if_neg (by simp),if_neg (by simp)]
  rw[this];exact ih
theorem ZlE{x:Int}(h:0≤x):∃y:Nat,x=2*y∨x=2*y+1:=⟨(x / 2).toNat,by omega⟩
theorem Zt1:∀(w:List Int) (q:Nat),(∀x∈w,0≤x)→(wh a (w.foldl (fun x s=>nX b a x s.toNat) (2,(q:Int)))=true↔∃v,w=sZ v∧jy a (runT a q v)=true)
 | [],q,_=>by
  constructor
  ·intro h;exact⟨[],rfl,by simpa[wh,runT] using h⟩
  ·rintro⟨v,h1,h2⟩
   have:v=[]:=by cases v with | nil=>rfl | cons _ _=>simp[sZ] at h1
   subst this;simpa[wh,runT] using h2
 | x::w,q,hw=>by
  rw[List.foldl_cons];obtain⟨y,hy | hy⟩:=ZlE (hw x (by simp))
  ·subst hy
   have e:(2*(y:Int)).toNat=2*y:=by omega
   have hn:nX b a (2,(q:Int)) (2*y)=(2,(bO a q (y:Int):Int)):=by
    unfold nX;rw[if_neg (by omega),if_neg (by simp),if_pos rfl];have:2*y / 2=y:=by omega
    rw[this];rfl
   rw[e,hn,Zt1 w _ (fun z hz=>hw z (by simp[hz]))];constructor
   ·rintro⟨v,h1,h2⟩
    exact⟨(y:Int)::v,by simp[sZ,h1],h2⟩
   ·rintro⟨v,h1,h2⟩
    cases v with
    | nil=>simp[sZ] at h1
    | cons z v=>
     simp only[sZ,List.map_cons,List.cons.injEq] at h1;have:z=y:=by omega
     subst this;exact⟨v,h1.2,h2⟩
  ·subst hy
   have e:(2*(y:Int)+1).toNat=2*y+1:=by omega
   have hn:nX b a (2,(q:Int)) (2*y+1)=(3,0):=by rw[Zme,if_neg (by simp)]
   rw[e,hn,Zt2];constructor
   ·intro h;simp[wh] at h
   ·rintro⟨v,h1,_⟩
    cases v with
    | nil=>simp[sZ] at h1
    | cons z v=>simp only[sZ,List.map_cons,List.cons.injEq] at h1;omega
theorem Zt0:∀(w:List Int) (ph:Int) (q:Nat),(ph=0∨ph=1)→(∀x∈w,0≤x)→(wh a (w.foldl (fun x s=>nX b a x s.toNat) (ph,(q:Int)))=true ↔
  ∃u s v,w=sZ u++(2*s+1)::sZ v∧(ph=1∨u≠[])∧jy b (runT b q u)=true∧jy a (runT a 0 (s::v))=true)
 | [],ph,q,hp,_=>by
  constructor
  ·intro h;rcases hp with rfl | rfl<;>simp[wh] at h
  ·rintro⟨u,s,v,h,_⟩;simp at h
 | x::w,ph,q,hp,hw=>by
  rw[List.foldl_cons];have hw':∀z∈w,0≤z:=fun z hz=>hw z (by simp[hz])
  obtain⟨y,hy | hy⟩:=ZlE (hw x (by simp))
  ·subst hy
   have e:(2*(y:Int)).toNat=2*y:=by omega
   rw[e,ZqR hp,Zt0 w 1 _ (.inr rfl) hw'];constructor
   ·rintro⟨u,s,v,h1,h2,h3,h4⟩
    exact⟨(y:Int)::u,s,v,by simp[sZ,h1],.inr (by simp),h3,h4⟩
   ·rintro⟨u,s,v,h1,h2,h3,h4⟩
    cases u with
    | nil=>simp only[sZ,List.map_nil,List.nil_append,List.cons.injEq] at h1;omega
    | cons z u=>
     simp only[sZ,List.map_cons,List.cons_append,List.cons.injEq] at h1;have:z=y:=by omega
     subst this;exact⟨u,s,v,h1.2,.inl rfl,h3,h4⟩
  ·subst hy
   have e:(2*(y:Int)+1).toNat=2*y+1:=by omega
   rw[e,Zme];split
   ·rename_i hc
    rw[Zt1 w _ hw'];constructor
    ·rintro⟨v,h1,h2⟩
     exact⟨[],y,v,by simp[sZ,h1],.inl hc.1,hc.2,h2⟩
    ·rintro⟨u,s,v,h1,h2,h3,h4⟩
     cases u with
     | nil=>
      simp only[sZ,List.map_nil,List.nil_append,List.cons.injEq] at h1;have:s=y:=by omega
      subst this;exact⟨v,h1.2,h4⟩
     | cons z u=>simp only[sZ,List.map_cons,List.cons_append,List.cons.injEq] at h1;omega
   ·rename_i hc
    rw[Zt2];constructor
    ·intro h;simp[wh] at h
    ·rintro⟨u,s,v,h1,h2,h3,h4⟩
     cases u with
     | nil=>exact(hc ⟨by rcases h2 with h | h;exact h;exact(h rfl).elim,h3⟩).elim
     | cons z u=>simp only[sZ,List.map_cons,List.cons_append,List.cons.injEq] at h1;omega
end
theorem WJ{n:Int}{l:List Int}{p:Nat}(hp:p < l.length):(∀x∈fB (p:Nat) 0 l,0≤x∧x < 2*n)↔qO n l:=by
 constructor
 ·intro h x hx
  obtain⟨k,hk,rfl⟩:=List.mem_iff_getElem.mp hx;have e:=LZ (p:Int) l 0 k hk (by rw[uD];exact hk);have:=h _ (List.getElem_mem (l:=fB (p:Int) 0 l) (n:=k) (by rw[uD];exact hk));rw[e] at this;have ho:iT (p:Int) (0+k)=0∨iT (p:Int) (0+k)=1:=by unfold iT;split<;>simp
  rcases ho with o | o<;>rw[o] at this<;>omega
 ·intro h x hx
  obtain⟨k,hk,rfl⟩:=List.mem_iff_getElem.mp hx;rw[uD] at hk;rw[LZ (p:Int) l 0 k hk];have ho:iT (p:Int) (0+k)=0∨iT (p:Int) (0+k)=1:=by unfold iT;split<;>simp
  have:=h _ (List.getElem_mem hk);rcases ho with o | o<;>rw[o]<;>omega
theorem ZjG{b a d:aD}{most:Int}(h:lY b a most=(d,0)):bD b∧bD a∧b.signs=a.signs∧b.signs≤200∧1≤most∧most≤3000∧∃st,F3 (qW b a) most=some st∧d=wK (2*b.signs) st:=by
 unfold lY at h;split at h
 ·rename_i hc
  obtain⟨h1,h2,h3,h4,h5,h6⟩:=hc;refine⟨(xP b).mp h1,(xP a).mp h2,h3,h4,h5,h6,?_⟩;split at h
  ·rename_i st hst
   cases h;exact⟨st,hst,rfl⟩
  ·cases h
 ·cases h
theorem ZfG{b a d:aD}{most:Int}(h:lY b a most=(d,0)):sD d b.signs (fun l p=>mM b (l.take p) && mM a (l.drop p))∧(d.next.length:Int)≤most:=by
 obtain⟨Rb,Ra,hs,h2,hm,hm2,st,hst,rfl⟩:=ZjG h;have h1:=Rb.s1;have hMs:(2*b.signs)=((qW b a).sg:Nat):=by show 2*b.signs=((2*b.signs).toNat:Nat);omega
 obtain⟨R,hle,hacc⟩:=ZjE (Zvh Rb Ra hs) hm hm2 (sg:=2*b.signs) hMs (by omega) (by omega) hst;refine⟨⟨R,rfl,fun w hw=>?_⟩,hle⟩;rw[hacc w hw];have hw0:∀x∈w,0≤x:=fun x hx=>(hw x hx).1
 have hk:Zvl (qW b a) w=w.foldl (fun x s=>nX b a x s.toNat) (0,((0:Nat):Int)):=rfl;have he:(qW b a).e=wh a:=rfl;rw[hk,he,Zt0 w 0 0 (.inl rfl) hw0];have hsd:(wK (2*b.signs) st).signs=2*b.signs:=rfl;constructor
 ·rintro⟨u,s,v,g1,g2,g3,g4⟩
  have hu:u≠[]:=by rcases g2 with h | h;omega;exact h
  have hlen:u.length < (u++s::v).length:=by simp
  have e:=WK (u++s::v) u.length hlen;have t1:(u++s::v).take u.length=u:=by simp
  have t2:(u++s::v).drop (u.length+1)=v:=by rw[List.drop_append];simp[List.drop_eq_nil_of_le]
  have t3:(u++s::v)[u.length]'hlen=s:=by simp
  have t4:(u++s::v).drop u.length=s::v:=by simp
  rw[t1,t2,t3] at e;have hwe:w=fB (u.length:Nat) 0 (u++s::v):=by rw[e,g1]
  have hR:qO b.signs (u++s::v):=(WJ hlen).mp (by rw[←hwe];exact hw);refine⟨u++s::v,u.length,hR,by have:=List.length_pos_iff.mpr hu;omega,hlen,hwe,?_⟩;rw[Bool.and_eq_true];refine⟨(BZ Rb _).mpr ⟨?_,by rw[t1];exact g3⟩,(BZ Ra _).mpr ⟨?_,by rw[t4];exact g4⟩⟩
  ·exact hR.take _
  ·intro x hx;rw[←hs];exact hR.drop _ x hx
 ·rintro⟨l,p,g1,g2,g3,g4,g5⟩
  rw[Bool.and_eq_true] at g5;have a1:=((BZ Rb _).mp g5.1).2;have a2:=((BZ Ra _).mp g5.2).2;refine⟨l.take p,l[p],l.drop (p+1),by rw[g4];exact WK l p g3,.inr ?_,a1,?_⟩
  ·intro h
   have:(l.take p).length=0:=by rw[h];rfl
   rw[List.length_take] at this;omega
  ·rw[←List.drop_eq_getElem_cons g3];exact a2
namespace sD
theorem congr{d:aD}{n:Int}{F G:List Int→Nat→Bool}(h:sD d n F)(hf:∀l p,qO n l→1≤p→p < l.length→F l p=G l p):sD d n G:=by
 refine⟨h.R,h.s,fun w hw=>(h.acc w hw).trans ⟨?_,?_⟩⟩
 ·rintro⟨l,p,a1,a2,a3,a4,a5⟩;exact⟨l,p,a1,a2,a3,a4,by rw[←hf l p a1 a2 a3];exact a5⟩
 ·rintro⟨l,p,a1,a2,a3,a4,a5⟩;exact⟨l,p,a1,a2,a3,a4,by rw[hf l p a1 a2 a3];exact a5⟩
theorem vl{d:aD}{n:Int}{F:List Int→Nat→Bool}(h:sD d n F){l:List Int}{p:Nat}(hp:p < l.length)(hl:qO n l):Vl d (fB (p:Nat) 0 l):=fun x hx=>by
 have:=(WJ hp).mpr hl x hx;rw[h.s];exact this
theorem fin{d:aD}{n:Int}{F:List Int→Nat→Bool}(h:sD d n F){l:List Int}{p:Nat}(h1:1≤p)(hp:p < l.length)(hl:qO n l):jy d (runT d 0 (fB (p:Nat) 0 l))=F l p:=by
 have:=h.acc _ (h.vl hp hl);cases hF:F l p with
 | true=>exact this.mpr ⟨l,p,hl,h1,hp,rfl,hF⟩
 | false=>
  cases hb:jy d (runT d 0 (fB (p:Nat) 0 l)) with
  | false=>rfl
  | true=>
   obtain⟨m,q,a1,a2,a3,a4,a5⟩:=this.mp hb;obtain⟨rfl,rfl⟩:=ZtX hp a4;rw[hF] at a5;cases a5
theorem least{d:aD}{n:Int}{F:List Int→Nat→Bool}(h:sD d n F):sD (nU d) n F:=
 ⟨(PK h.R).1,h.s,fun w hw=>by rw[Zfy h.R w hw];exact h.acc w hw⟩
theorem n1{d:aD}{n:Int}{F:List Int→Nat→Bool}(h:sD d n F):1≤n∧n≤200:=by
 have:=h.R.s1;have:=h.R.s2;have:=h.s;omega
end sD
def yV(d:aD)(l:List Int)(p:Int):Bool:=decide (0 < (jd l p).length) && mM d (jd l p)
theorem ZmA{n:Int}(hn:n≤200){l:List Int}(h:qO n l):l.any vg=false:=by
 rw[List.any_eq_false];intro x hx;have:=h x hx;simp[vg];omega
theorem sD.at_{d:aD}{n:Int}{F:List Int→Nat→Bool}(h:sD d n F){l:List Int}(hl:qO n l)(p:Int):yV d l p=(decide (1≤p∧p < l.length) && F l p.toNat):=by
 unfold yV jd;by_cases hp:1≤p∧p < l.length
 ·rw[if_pos ⟨hp.1,hp.2,ZmA h.n1.2 hl⟩]
  obtain⟨q,rfl⟩:∃q:Nat,p=q:=⟨p.toNat,by omega⟩
  have e:mM d (fB (q:Nat) 0 l)=F l q:=by
   have hv:=h.vl (p:=q) (by omega) hl;have hf:=h.fin (p:=q) (by omega) (by omega) hl;cases hF:F l q with
   | true=>exact(BZ h.R _).mpr ⟨hv,by rw[hf];exact hF⟩
   | false=>
    cases hb:mM d (fB (q:Nat) 0 l) with
    | false=>rfl
    | true=>have:=((BZ h.R _).mp hb).2;rw[hf,hF] at this;cases this
  rw[e,uD];have h1:decide (0 < l.length)=true:=by simp;omega
  have h2:decide (1≤(q:Int)∧(q:Int) < l.length)=true:=by simp;omega
  rw[h1,h2];rfl
 ·rw[if_neg (fun h=>hp ⟨h.1,h.2.1⟩)]
  have h2:decide (1≤p∧p < (l.length:Int))=false:=by simpa using hp
  rw[h2];rfl
theorem sD.UW{d:aD}{n:Int}{F:List Int→Nat→Bool}(h:sD d n F):qD d=true↔∃l p,qO n l∧1≤p∧p < l.length∧F l p=true:=by
 have hev:d.signs % 2=0:=by rw[h.s];omega
 constructor
 ·intro hok
  obtain⟨p,hp⟩:=Zdm h.R hev hok
  have hw:jd (jX d) p=fB p 0 (jX d):=by
   unfold jd;split
   ·rfl
   ·rename_i hn
    have:=hp.acc;unfold jd at this;rw[if_neg hn] at this;have hv:=((BZ h.R _).mp this).2;obtain⟨l,q,_,g2,g3,g4,_⟩:=(h.acc [] (fun x hx=>by simp at hx)).mp hv;have:=congrArg List.length g4;rw[uD] at this;have e0:([]:List Int).length=0:=rfl;omega
  have ha:=hp.acc;rw[hw] at ha;obtain⟨hv,hf⟩:=(BZ h.R _).mp ha;have hr:qO n (jX d):=(WJ hp.hi).mp (by rw[←h.s];exact hv);exact⟨jX d,p,hr,hp.lo,hp.hi,by rw[←h.fin hp.lo hp.hi hr];exact hf⟩
 ·rintro⟨l,p,g1,g2,g3,g4⟩
  have hw:jd l (p:Nat)=fB (p:Nat) 0 l:=by unfold jd;rw[if_pos ⟨by omega,by omega,ZmA h.n1.2 g1⟩]
  refine(ZoE h.R hev (signs:=l) (place:=p) ?_ ?_).1
  ·rw[hw]
   intro e;have:=congrArg List.length e;rw[uD] at this;have e0:([]:List Int).length=0:=rfl;omega
  ·rw[hw]
   exact(BZ h.R _).mpr ⟨h.vl g3 g1,by rw[h.fin g2 g3 g1];exact g4⟩
end Go.Rf
namespace Go.Rf
open Go.RowKit
attribute [local simp] kZ kN kW lH lK lI lM kY lN lG lF dO iA fI gI ig fH gJ iq gX gT gY eY gN gZ gM eB eD gQ iJ iG iI iH iK fV fK fG dY fZ gu gy fO fP iL iw gP iE iB iD iC iF iM gV fQ fE fF fJ fU dx dL eZ gW iN ex au cu dM dX bM bU aG bB dV eX dR fM gL gK iy gU bL dw dz dZ d9 gD dS bA bW dA dJ dD fq eu eU eO eT dW dn dU dQ dP bq AV.solid S0 aj aH
def Zuo(n:Nat)(I:Nat→AF→St→Prop)(k:Nat):AF→St→Prop:=fun f S=>k < n∧I (k+1) f S
theorem BU{P:Program}{x:AC}{Q:Exit→AF→St→Prop}{f:AF}{S:St}(n:Nat)(I:Nat→AF→St→Prop)(h0:I 0 f S)(h:∀k f S,k≤n→I k f S→AW P x (jE (Zuo n I k) Q) f S):AW P (.loop x) Q f S:=by
 refine vT (fun m f S=>∃k,k≤n∧m=n - k∧I k f S) n ⟨0,by omega,by omega,h0⟩ ?_;rintro m f S ⟨k,hk,rfl,hi⟩;refine BN _ (fun e a S' hq=>?_) (h k f S hk hi);cases e<;>simp only[jE] at hq ⊢<;>first | exact hq | skip
 obtain⟨h1,h2⟩:=hq;exact⟨n - (k+1),by omega,k+1,by omega,rfl,h2⟩
def U7:AC:= (sq [ro 4 (.mv (ci 0))] (.seq (sq [rm 6 0,ro 7 (.len (.t 6)),ro 8 (.mv (ci 0))] (.block 0 (.loop (sq [ro 9 (.bin .lss (.t 8) (.t 7))] (.seq (.cond (.t 9) .skip (.exit 0)) (.seq (.block 1 (sq [rm 10 8,rm 5 10] (sq [rm 11 1,rm 12 0,rm 13 5,ro 14 (.aI 1 (.t 12) (.t 13)),rL 15 14,ro 16 (.bin .eql (.t 11) (.t 15))] (.cond (.t 16) (sq [rm 17 5,rm 4 17] .ret) .skip)))) (.reg none [ro 18 (.bin .add (.t 8) (ci 1)),rm 8 18]))))))) (sq [ro 4 (.mv (ci (-1)))] .ret)))
def U4(P2r:FuncId):AC:= (sq [ro 4 (.mv (.c (.v (.bool false))))] (sq [rm 5 0,rm 6 1,rk 7 P2r [(.t 5),(.t 6)],ro 8 (.bin .geq (.t 7) (ci 0)),rm 4 8] .ret))
def O3:AC:= (sq [ro 4 (.mv (.c (.v (.bool false))))] (.seq (sq [rm 6 0,ro 7 (.len (.t 6)),rm 8 1,ro 9 (.len (.t 8)),ro 10 (.bin .neq (.t 7) (.t 9))] (.cond (.t 10) (sq [ro 4 (.mv (.c (.v (.bool false))))] .ret) .skip)) (.seq (sq [rm 11 0,ro 12 (.len (.t 11)),ro 13 (.mv (ci 0))] (.block 0 (.loop (sq [ro 14 (.bin .lss (.t 13) (.t 12))] (.seq (.cond (.t 14) .skip (.exit 0)) (.seq (.block 1 (sq [rm 15 13,rm 5 15] (.seq (.reg (some []) [rm 16 0,rm 17 5,ro 18 (.aI 1 (.t 16) (.t 17)),rL 19 18,rm 20 1,rm 21 5,ro 22 (.aI 1 (.t 20) (.t 21)),rL 23 22,ro 24 (.bin .neq (.t 19) (.t 23))]) (.cond (.t 24) (sq [ro 4 (.mv (.c (.v (.bool false))))] .ret) .skip)))) (.reg none [ro 25 (.bin .add (.t 13) (ci 1)),rm 13 25]))))))) (sq [ro 4 (.mv (.c (.v (.bool true))))] .ret))))
def Z6W:AC:= (sq [ro 4 (.mv (.c (.v (.bool false))))] (.seq (sq [ro 5 (.mv (ci 0))] (.block 0 (.loop (.seq (sq [rm 6 5,rm 7 0,ro 8 (.len (.t 7)),ro 9 (.bin .lss (.t 6) (.t 8))] (.cond (.t 9) .skip (.exit 0))) (.seq (.block 1 (sq [rm 12 0,rm 13 5,ro 14 (.aI 1 (.t 12) (.t 13)),rL 15 14,rm 16 1,ro 17 (.bin .eql (.t 15) (.t 16))] (.cond (.t 17) (sq [ro 4 (.mv (.c (.v (.bool true))))] .ret) .skip))) (.reg none [rm 10 5,ro 11 (.bin .add (.t 10) (ci 1)),rm 5 11])))))) (sq [ro 4 (.mv (.c (.v (.bool false))))] .ret)))
def Z8V(Bw:FuncId):AC:= (sq [ro 4 (.mv (.c (.v (.bool false))))] (.seq (sq [rm 6 0,ro 7 (.len (.t 6)),rm 8 1,ro 9 (.len (.t 8)),ro 10 (.bin .neq (.t 7) (.t 9))] (.cond (.t 10) (sq [ro 4 (.mv (.c (.v (.bool false))))] .ret) .skip)) (.seq (sq [ro 5 (.mv (ci 0))] (.block 0 (.loop (.seq (sq [rm 11 5,rm 12 0,ro 13 (.len (.t 12)),ro 14 (.bin .lss (.t 11) (.t 13))] (.cond (.t 14) .skip (.exit 0))) (.seq (.block 1 (.seq (.reg (some []) [rm 17 0,rm 18 5,ro 19 (.aI 1 (.t 17) (.t 18)),rL 20 19,rm 21 1,rm 22 5,ro 23 (.aI 1 (.t 21) (.t 22)),rL 24 23,rk 25 Bw [(.t 20),(.t 24)],ro 26 (.un .not (.t 25))]) (.cond (.t 26) (sq [ro 4 (.mv (.c (.v (.bool false))))] .ret) .skip))) (.reg none [rm 15 5,ro 16 (.bin .add (.t 15) (ci 1)),rm 5 16])))))) (sq [ro 4 (.mv (.c (.v (.bool true))))] .ret))))
def Py(Ku zo zn:FuncId):AC:= (sq [ro 2 (.mv (.c (.sl true [])))] (sq [rm 3 0,rk 4 Ku [(.t 3)],rm 0 4] (sq [rm 5 0,rk 6 zo [(.t 5)]] (sq [rm 7 0,rk 8 zn [(.t 7)],rm 2 8] .ret))))
def Io(rZ P2q:FuncId):AC:= (sq [ro 6 (.mv (.c (.v (.bool false))))] (sq [rm 7 0,ro 8 (.len (.t 7)),ro 9 (.bin .eql (.t 8) (ci 0)),rm 10 9,rg 11 10 false (.mv (.t 0)),rg 12 10 false (.aI 1 (.t 11) (ci 0)),rg 13 10 false (.load none (.t 12)),rg 14 10 false (.mv (.t 1)),rg 15 10 false (.bin .geq (.t 13) (.t 14)),rg 16 10 false (.mv (.t 15)),rg 17 16 true (.mv (.t 0)),rg 18 16 true (.mv (.t 0)),rg 19 16 true (.len (.t 18)),rg 20 16 true (.bin .sub (.t 19) (ci 1)),rg 21 16 true (.aI 1 (.t 17) (.t 20)),rg 22 16 true (.load none (.t 21)),rg 23 16 true (.mv (.t 2)),rg 24 16 true (.bin .lss (.t 22) (.t 23)),rg 25 10 false (.pick (.t 16) (.t 24) (.c (.v (.bool false)))),rg 26 10 false (.mv (.t 25)),rg 27 26 true (.mv (.t 0)),rg 28 26 true (.mv (.t 0)),rl 29 26 true rZ [(.t 28)],rl 30 26 true P2q [(.t 27),(.t 29)],rg 31 10 false (.pick (.t 26) (.t 30) (.c (.v (.bool false)))),ro 32 (.pick (.t 10) (.c (.v (.bool true))) (.t 31)),rm 6 32] .ret))
def Z8g:AC:= (sq [ro 6 (.mv (.c (.v (.bool false))))] (.seq (sq [ro 7 (.mv (ci 0))] (.block 0 (.loop (.seq (sq [rm 8 7,rm 9 0,ro 10 (.len (.t 9)),ro 11 (.bin .lss (.t 8) (.t 10))] (.cond (.t 11) .skip (.exit 0))) (.seq (.block 1 (.seq (.reg (some []) [rm 14 0,rm 15 7,ro 16 (.aI 1 (.t 14) (.t 15)),rL 17 16,rm 18 1,ro 19 (.bin .lss (.t 17) (.t 18)),rm 20 19,rg 21 20 false (.mv (.t 0)),rg 22 20 false (.mv (.t 7)),rg 23 20 false (.aI 1 (.t 21) (.t 22)),rg 24 20 false (.load none (.t 23)),rg 25 20 false (.mv (.t 2)),rg 26 20 false (.bin .geq (.t 24) (.t 25)),ro 27 (.pick (.t 20) (.c (.v (.bool true))) (.t 26)),rm 28 27,rg 29 28 false (.mv (.t 7)),rg 30 28 false (.bin .gtr (.t 29) (ci 0)),rg 31 28 false (.mv (.t 30)),rg 32 31 true (.mv (.t 0)),rg 33 31 true (.mv (.t 7)),rg 34 31 true (.bin .sub (.t 33) (ci 1)),rg 35 31 true (.aI 1 (.t 32) (.t 34)),rg 36 31 true (.load none (.t 35)),rg 37 31 true (.mv (.t 0)),rg 38 31 true (.mv (.t 7)),rg 39 31 true (.aI 1 (.t 37) (.t 38)),rg 40 31 true (.load none (.t 39)),rg 41 31 true (.bin .geq (.t 36) (.t 40)),rg 42 28 false (.pick (.t 31) (.t 41) (.c (.v (.bool false)))),ro 43 (.pick (.t 28) (.c (.v (.bool true))) (.t 42))]) (.cond (.t 43) (sq [ro 6 (.mv (.c (.v (.bool false))))] .ret) .skip))) (.reg none [rm 12 7,ro 13 (.bin .add (.t 12) (ci 1)),rm 7 13])))))) (sq [ro 6 (.mv (.c (.v (.bool true))))] .ret)))
theorem Zor(l:List Int)(x:Int):l.any (fun y=>x == y)=l.contains x:=by
 rw[Bool.eq_iff_iff];simp
def ixI(l:List Int)(x:Int)(i:Nat)(f:AF)(S:St):Prop:=f 8=aj i∧f 7=aj l.length∧f 0=aA l∧f 1=aj x∧∀k (h:k < l.length),k < i→l[k]≠x
theorem ZaK{P:Program}(l:List Int)(x:Int)(hl:Len l):AW P U7 (gG [4] (iQ (aj (sH (fun y=>x == y) l)))) (bP [aA l,aj x]) S0:=by
 unfold Len at hl;simp[U7,aA];refine BU l.length (ixI l x) ?_ ?_
 ·refine⟨?_,?_,?_,?_,by omega⟩<;>simp[au,bM,bU,aj,aA]
 ·rintro i f S hi ⟨e8,e7,e0,e1,hq⟩
  by_cases hlt:i < l.length
  ·by_cases hb:x=l[i]
   ·have hi2:sH (fun y=>x == y) l=i:=by
     have h1:l.any (fun y=>x == y)=true:=List.any_eq_true.mpr ⟨_,List.getElem_mem hlt,by simp[hb]⟩;have h2:l.findIdx (fun y=>x == y)=i:=(List.findIdx_eq hlt).mpr ⟨by simp[hb],fun j hj=>by have:=hq j (by omega) hj;simp;exact fun e=>this e.symm⟩;simp[sH,h1,h2]
    have hb2:(x == l[i])=true:=by simp[hb]
    simp[e8,e7,e0,e1,hlt,aA,hb2];simp[hi2];exact Cm _ _
   ·have hb2:(x == l[i])=false:=by simp[hb]
    simp[e8,e7,e0,e1,hlt,aA,hb2];rw[bI _ (by omega)];refine⟨hlt,?_,?_,?_,?_,fun k h hk=>?_⟩
    ·simp[au,aj]
    ·simp[au,e7]
    ·simp[au,e0]
    ·simp[au,e1]
    ·by_cases hki:k=i
     ·subst hki;exact fun e=>hb e.symm
     ·exact hq k h (by omega)
  ·have hi2:sH (fun y=>x == y) l = -1:=by
    have h1:l.any (fun y=>x == y)=false:=by
     rw[List.any_eq_false];intro y hy;obtain⟨k,hk,rfl⟩:=List.mem_iff_getElem.mp hy;have:=hq k hk (by omega);simp;exact fun e=>this e.symm
    simp[sH,h1]
   simp[e8,e7,hlt,hi2];exact Cm _ _
theorem Z97{P:Program}{fi:FuncId}(l:List Int)(x:Int)(h:aN P fi [aA l,aj x] (aj (sH (fun y=>x == y) l))):AW P (U4 fi) (gG [4] (iQ (aH (l.contains x)))) (bP [aA l,aj x]) S0:=by
 simp[U4];refine aQ.pure h (aK (aS _) (aK (aW _) aU)) (aW _) ?_;simp;have e:decide (x∈l)=decide (0≤sH (fun y=>x == y) l):=by rw[Zca,Zor];simp
 rw[e];exact jF _ _
def eqI(a b:List Int)(i:Nat)(f:AF)(S:St):Prop:=f 13=aj i∧f 12=aj a.length∧f 0=aA a∧f 1=aA b∧a.take i=b.take i
theorem ZaJ{P:Program}(a b:List Int)(ha:Len a)(hb:Len b):AW P O3 (gG [4] (iQ (aH (a == b)))) (bP [aA a,aA b]) S0:=by
 unfold Len at ha hb;by_cases hl:a.length=b.length
 ·simp[O3,aA,hl]
  refine BU a.length (eqI a b) ?_ ?_
  ·refine⟨?_,?_,?_,?_,?_⟩<;>simp[au,bM,bU,aj,aA,hl]
  ·rintro i f S hi ⟨e13,e12,e0,e1,hp⟩
   by_cases hlt:i < a.length
   ·have hlb:i < b.length:=by omega
    by_cases he:a[i]=b[i]
    ·simp[e13,e12,e0,e1,aA,hlt,hlb,he]
     rw[bI _ (by omega)];refine⟨hlt,?_,?_,?_,?_,?_⟩<;>try simp[au,e12,e0,e1,aj,aA]
     rw[List.take_add_one,List.take_add_one,hp,List.getElem?_eq_getElem hlt,List.getElem?_eq_getElem hlb,he]
    ·have hr:(a == b)=false:=beq_false_of_ne (by rintro rfl;exact he rfl)
     have hc:(a[i] != b[i])=true:=by simp[he]
     simp[e13,e12,e0,e1,aA,hlt,hlb,hc,hr];exact jF false _
   ·have hab:a=b:=by
     rw[List.take_of_length_le (by omega),List.take_of_length_le (by omega)] at hp;exact hp
    have hr:(a == b)=true:=by simp[hab]
    simp[e13,e12,hlt,hr];exact jF true _
 ·have hr:(a == b)=false:=beq_false_of_ne (by rintro rfl;exact hl rfl)
  have hc:((a.length:Int) != b.length)=true:=by simp;omega
  simp[O3,aA,hc,hr];exact jF false _
structure Zv4(P:Program)(fc fs fm:FuncId):Prop where
 clone:wT P fc (rU 1 8 (.v (.int .i64 0))) [.t 2] 1
 sort:Co P fs
 comp:Cn P fm
 EO:aN P fs [.sl true []] (.aM [])
 EN:aN P fm [.sl true []] (.sl true [])
theorem ZfK{P:Program}{fc fs fm:FuncId}(H:Zv4 P fc fs fm)(l:List Int)(hl:l.length≤17592186043904):AW P (Py fc fs fm) (gG [2] (iQ (aA (je l)))) (bP [aA l]) S0:=by
 have hm:(l.mergeSort fun x y=>decide (x≤y)).length=l.length:=List.length_mergeSort _;by_cases h0:l=[]
 ·subst h0
  have hs0:je []=[]:=List.eq_nil_of_length_eq_zero (by have:=WI [];simpa using this);rw[hs0];simp[Py,aA];refine H.clone rfl ?_;have hb:dw 1 0 (.v (.int .i64 0)) []=some (.sl true []):=Vt _ _
  have hr:∀n aC,(kP 1 8 (.sl true []) (.sl false [])).run ⟨n,fun _=>none⟩ aC=some (.sl true [],⟨n,fun _=>none⟩):=by
   intro n aC;simp[kP,mq,AV.kF,Eff.run,St.fD,St.iU,dF]
  simp[rU,hr];refine⟨[.sl true []],by simp[bV,RV.ev,au],?_⟩;simp[cK];refine aQ.pure H.EO (aK (.sl _ _ (by simp)) aU) (.aM _ (by simp)) ?_;simp;refine aQ.pure H.EN (aK (.sl _ _ (by simp)) aU) (.sl _ _ (by simp)) ?_;simp;exact .loose true [] (.sl _ _ (by simp))
 ·have hne:0 < l.length:=List.length_pos_iff.mpr h0
  have hls:=List.length_mergeSort l (le:=fun x y=>decide (x≤y))
  have hne2:(l.mergeSort fun x y=>decide (x≤y))≠[]:=by
   intro e;rw[e] at hm;simp at hm;omega
  simp[Py,aA];refine H.clone rfl ?_;have hb:dw 1 0 (.v (.int .i64 0)) []=some (.sl true []):=Vt _ _
  have hr:∀n aC,(kP 1 8 (.sl true []) (.sl false (l.map aj))).run ⟨n,fun _=>none⟩ aC=some (.own aC 0 l.length,(⟨n,fun _=>none⟩:St).set aC (some (.arr 1 (l.map aj)))):=by
   intro n aC;have hc:=BQ l;have ha:dF 8 0 l.length:=by unfold dF;omega
   have hc2:∀x∈l.map aj,x.cells.length=1:=hc;have h3:mq 1 [] (.sl false (l.map aj))=some (l.map aj):=by simp only[mq];rw[if_pos hc2]
   have h4:¬(l.map aj).length=0:=by simp;exact h0
   simp only[kP,Eff.run,AV.kF,List.mapM_nil,Option.pure_def,h3,Option.bind_some,List.length_nil,Nat.zero_add,List.length_map,ha,and_true];rw[if_pos (by simp),if_neg (by simpa using h0)];simp[St.fD,St.iU]
  simp[rU,hr];refine⟨[.own 9 0 l.length],by simp[bV,RV.ev,au],?_⟩;simp[cK];refine H.sort _ _ 0 (l.map aj) l _ (by simp[aG]) (by simp) h0 hl ?_;simp;have e:l.length=(l.mergeSort fun x y=>decide (x≤y)).length:=hm.symm;rw[e];refine H.comp _ _ 0 ((l.mergeSort fun x y=>decide (x≤y)).map aj) _ _ (by simp[aG]) (by simp) hne2 (by omega) ?_;simp;exact(Vec.mk' (es:=1) (xs:=(je l).map aj) (by simp[aG,je]) (by simp[je])).fz aW
theorem Zeo{P:Program}{fs fe:FuncId}(l:List Int)(a b:Int)(hl:l.length≤17592186043904)(h1:aN P fs [aA l] (aA (je l)))(h2:∀x y,Len x→Len y→aN P fe [aA x,aA y] (aH (x == y))) :
  AW P (Io fs fe) (gG [6] (iQ (aH (su l a b)))) (bP [aA l,aj a,aj b]) S0:=by
 by_cases h0:l=[]
 ·subst h0
  simp[Io,aA];exact jF _ _
 ·have hne:0 < l.length:=List.length_pos_iff.mpr h0
  have hn:((l.length:Int) == 0)=false:=by simp;exact h0
  have hf:l[0]? = some l[0]:=List.getElem?_eq_getElem hne;have hx:l[l.length - 1]? = some l[l.length - 1]:=List.getElem?_eq_getElem (by omega);have hw:=bI ((l.length:Int) - 1) (by omega);have hnn:(1:Int)≤(l.length:Int):=by omega
  by_cases hA:a≤l[0]
  ·by_cases hB:l[l.length - 1] < b
   ·have c1:=aK (aS l) aU
    have c2:=aK (aS l) (aK (aS (je l)) aU);have k2:=h2 l (je l) (by unfold Len;omega) (by unfold Len;have:=WI l;omega);have c3:=aS (je l);simp only[aA] at c1 c2 c3 h1 k2;simp[Io,aA,hn,hf,hA,hw,hnn,hx,hB];refine aQ.pure h1 c1 c3 ?_;simp;refine aQ.pure k2 c2 (dN _) ?_;simp
    have e:(l == je l)=su l a b:=by
     rw[Bool.eq_iff_iff,E9,beq_iff_eq];constructor
     ·intro h
      have hp:=Zg6.mp h.symm;refine⟨hp,fun x hx=>?_⟩;obtain⟨k,hk,rfl⟩:=List.mem_iff_getElem.mp hx;have hpw:=List.pairwise_iff_getElem.mp hp;constructor
      ·by_cases e:k=0
       ·subst e;exact hA
       ·have:=hpw 0 k hne hk (by omega);omega
      ·by_cases e:k=l.length - 1
       ·subst e;exact hB
       ·have:=hpw k (l.length - 1) hk (by omega) (by omega);omega
     ·intro h;exact(Zg6.mpr h.1).symm
    rw[e];exact jF _ _
   ·have e:su l a b=false:=by
     cases hr:su l a b with
     | false=>rfl
     | true=>exact(hB ((E9.mp hr).2 _ (List.getElem_mem (by omega))).2).elim
    simp[Io,aA,hn,hf,hA,hw,hnn,hx,hB,e];exact jF _ _
  ·have e:su l a b=false:=by
    cases hr:su l a b with
    | false=>rfl
    | true=>exact(hA ((E9.mp hr).2 _ (List.getElem_mem hne)).1).elim
   simp[Io,aA,hn,hf,hA,e];exact jF _ _
def V7(KQ:FuncId):AC:= (.block 0 (.loop (sq [ro 48 (.bin .lss (.t 47) (.t 46))] (.seq (.cond (.t 48) .skip (.exit 0)) (.seq (.block 1 (sq [rm 49 47,rm 4 49] (.seq (.reg (some []) [rF 50 1 1,rL 51 50,rm 52 4,ro 53 (.aI 1 (.t 51) (.t 52)),rL 54 53,rF 55 0 1,rL 56 55,rk 57 KQ [(.t 54),(ci 0),(.t 56)],ro 58 (.un .not (.t 57)),rm 59 58,rg 60 59 false (.cZ 2 (.t 1)),rg 61 59 false (.load none (.t 60)),rg 62 59 false (.mv (.t 4)),rg 63 59 false (.aI 1 (.t 61) (.t 62)),rg 64 59 false (.load none (.t 63)),rg 65 59 false (.mv (.t 3)),rl 66 59 false KQ [(.t 64),(ci 1),(.t 65)],rg 67 59 false (.un .not (.t 66)),ro 68 (.pick (.t 59) (.c (.v (.bool true))) (.t 67))]) (.cond (.t 68) (sq [ro 2 (.mv (.c (.v (.bool false))))] .ret) .skip)))) (.reg none [ro 69 (.bin .add (.t 47) (ci 1)),rm 47 69]))))))
def BD(KQ:FuncId):AC:= (sq [ro 1 (.box 4 (.t 0)),ro 2 (.mv (.c (.v (.bool false))))] (sq [rF 5 1 1,rL 6 5,ro 7 (.len (.t 6)),rm 3 7] (.seq (sq [rF 8 0 1,rL 9 8,ro 10 (.bin .lss (.t 9) (ci 1)),rm 11 10,rg 12 11 false (.cZ 0 (.t 1)),rg 13 11 false (.load none (.t 12)),rg 14 11 false (.bin .gtr (.t 13) (ci 400)),ro 15 (.pick (.t 11) (.c (.v (.bool true))) (.t 14)),rm 16 15,rg 17 16 false (.mv (.t 3)),rg 18 16 false (.bin .eql (.t 17) (ci 0)),ro 19 (.pick (.t 16) (.c (.v (.bool true))) (.t 18)),rm 20 19,rg 21 20 false (.mv (.t 3)),rg 22 20 false (.bin .gtr (.t 21) (ci 301)),ro 23 (.pick (.t 20) (.c (.v (.bool true))) (.t 22)),rm 24 23,rg 25 24 false (.cZ 2 (.t 1)),rg 26 24 false (.load none (.t 25)),rg 27 24 false (.len (.t 26)),rg 28 24 false (.mv (.t 3)),rg 29 24 false (.bin .neq (.t 27) (.t 28)),ro 30 (.pick (.t 24) (.c (.v (.bool true))) (.t 29)),rm 31 30,rg 32 31 false (.cZ 1 (.t 1)),rg 33 31 false (.load none (.t 32)),rg 34 31 false (.aI 1 (.t 33) (ci 0)),rg 35 31 false (.load none (.t 34)),rg 36 31 false (.len (.t 35)),rg 37 31 false (.bin .gtr (.t 36) (ci 0)),ro 38 (.pick (.t 31) (.c (.v (.bool true))) (.t 37)),rm 39 38,rg 40 39 false (.cZ 3 (.t 1)),rg 41 39 false (.load none (.t 40)),rg 42 39 false (.mv (.t 3)),rl 43 39 false KQ [(.t 41),(ci 0),(.t 42)],rg 44 39 false (.un .not (.t 43)),ro 45 (.pick (.t 39) (.c (.v (.bool true))) (.t 44))] (.cond (.t 45) (sq [ro 2 (.mv (.c (.v (.bool false))))] .ret) .skip)) (.seq (sq [rm 46 3,ro 47 (.mv (ci 0))] (V7 KQ)) (sq [ro 2 (.mv (.c (.v (.bool true))))] .ret)))))
def ZkR(Kh:FuncId):AC:= (.block 0 (.loop (.seq (sq [rm 46 4,rm 47 3,ro 48 (.bin .lss (.t 46) (.t 47))] (.cond (.t 48) .skip (.exit 0))) (.seq (.block 1 (.seq (.reg (some []) [rF 51 1 1,rL 52 51,rm 53 4,ro 54 (.aI 1 (.t 52) (.t 53)),rL 55 54,rF 56 0 1,rL 57 56,rk 58 Kh [(.t 55),(ci 0),(.t 57)],ro 59 (.un .not (.t 58)),rm 60 59,rg 61 60 false (.cZ 2 (.t 1)),rg 62 60 false (.load none (.t 61)),rg 63 60 false (.mv (.t 4)),rg 64 60 false (.aI 1 (.t 62) (.t 63)),rg 65 60 false (.load none (.t 64)),rg 66 60 false (.mv (.t 3)),rl 67 60 false Kh [(.t 65),(ci 1),(.t 66)],rg 68 60 false (.un .not (.t 67)),ro 69 (.pick (.t 60) (.c (.v (.bool true))) (.t 68))]) (.cond (.t 69) (sq [ro 2 (.mv (.c (.v (.bool false))))] .ret) .skip))) (.reg none [rm 49 4,ro 50 (.bin .add (.t 49) (ci 1)),rm 4 50])))))
def Z8W(Kh:FuncId):AC:= (sq [ro 1 (.box 4 (.t 0)),ro 2 (.mv (.c (.v (.bool false))))] (sq [rF 5 1 1,rL 6 5,ro 7 (.len (.t 6)),rm 3 7] (.seq (sq [rF 8 0 1,rL 9 8,ro 10 (.bin .lss (.t 9) (ci 1)),rm 11 10,rg 12 11 false (.cZ 0 (.t 1)),rg 13 11 false (.load none (.t 12)),rg 14 11 false (.bin .gtr (.t 13) (ci 400)),ro 15 (.pick (.t 11) (.c (.v (.bool true))) (.t 14)),rm 16 15,rg 17 16 false (.mv (.t 3)),rg 18 16 false (.bin .lss (.t 17) (ci 1)),ro 19 (.pick (.t 16) (.c (.v (.bool true))) (.t 18)),rm 20 19,rg 21 20 false (.mv (.t 3)),rg 22 20 false (.bin .gtr (.t 21) (ci 301)),ro 23 (.pick (.t 20) (.c (.v (.bool true))) (.t 22)),rm 24 23,rg 25 24 false (.cZ 2 (.t 1)),rg 26 24 false (.load none (.t 25)),rg 27 24 false (.len (.t 26)),rg 28 24 false (.mv (.t 3)),rg 29 24 false (.bin .neq (.t 27) (.t 28)),ro 30 (.pick (.t 24) (.c (.v (.bool true))) (.t 29)),rm 31 30,rg 32 31 false (.cZ 1 (.t 1)),rg 33 31 false (.load none (.t 32)),rg 34 31 false (.aI 1 (.t 33) (ci 0)),rg 35 31 false (.load none (.t 34)),rg 36 31 false (.len (.t 35)),rg 37 31 false (.bin .gtr (.t 36) (ci 0)),ro 38 (.pick (.t 31) (.c (.v (.bool true))) (.t 37)),rm 39 38,rg 40 39 false (.cZ 3 (.t 1)),rg 41 39 false (.load none (.t 40)),rg 42 39 false (.mv (.t 3)),rl 43 39 false Kh [(.t 41),(ci 0),(.t 42)],rg 44 39 false (.un .not (.t 43)),ro 45 (.pick (.t 39) (.c (.v (.bool true))) (.t 44))] (.cond (.t 45) (sq [ro 2 (.mv (.c (.v (.bool false))))] .ret) .skip)) (.seq (sq [ro 4 (.mv (ci 0))] (ZkR Kh)) (sq [ro 2 (.mv (.c (.v (.bool true))))] .ret)))))
structure Net where
 signs:Int
 aB:List (List Int)
 follow:List (List Int)
 last:List Int
 deriving DecidableEq
def ji(n:Net):AV:=.agg [aj n.signs,aX n.aB,aX n.follow,aA n.last]
theorem BF(n:Net):aY (ji n):=.agg _ (by
 intro y hy;simp only[List.mem_cons,List.not_mem_nil,or_false] at hy;rcases hy with rfl | rfl | rfl | rfl
 ·exact aW _
 ·exact jo _
 ·exact jo _
 ·exact aS _)
structure Zsr(n:Net):Prop where
 aB:Len n.aB
 follow:Len n.follow
 last:Len n.last
 byr:∀r∈n.aB,Len r
 P66:∀r∈n.follow,Len r
def qQ(n:Net):Bool:=decide (1≤n.signs) && decide (n.signs≤400) && decide (1≤n.aB.length) && decide (n.aB.length≤301) && decide (n.follow.length=n.aB.length) && decide ((n.aB.getD 0 []).length=0) && su n.last 0 n.aB.length &&
 (List.range n.aB.length).all fun i=>su (n.aB.getD i []) 0 n.signs && su (n.follow.getD i []) 1 n.aB.length
structure nT(n:Net):Prop where
 s1:1≤n.signs
 s2:n.signs≤400
 n1:1≤n.aB.length
 n2:n.aB.length≤301
 len:n.follow.length=n.aB.length
 by0:n.aB.getD 0 []=[]
 last:DI n.last 0 n.aB.length
 aB:∀i (h:i < n.aB.length),DI n.aB[i] 0 n.signs
 follow:∀i (h:i < n.follow.length),DI n.follow[i] 1 n.aB.length
theorem BG(n:Net):qQ n=true↔nT n:=by
 simp only[qQ,Bool.and_eq_true,decide_eq_true_eq,List.all_eq_true,List.mem_range,E9];constructor
 ·rintro⟨⟨⟨⟨⟨⟨⟨h1,h2⟩,h3⟩,h4⟩,h5⟩,h6⟩,h7⟩,h8⟩
  refine⟨h1,h2,h3,h4,h5,List.eq_nil_of_length_eq_zero h6,h7,fun i h=>?_,fun i h=>?_⟩
  ·have:=(h8 i h).1
   rw[List.getD_eq_getElem?_getD,List.getElem?_eq_getElem h] at this;exact this
  ·have:=(h8 i (by omega)).2
   rw[List.getD_eq_getElem?_getD,List.getElem?_eq_getElem h] at this;exact this
 ·intro h
  refine⟨⟨⟨⟨⟨⟨⟨h.s1,h.s2⟩,h.n1⟩,h.n2⟩,h.len⟩,by rw[h.by0];rfl⟩,h.last⟩,fun i hi=>⟨?_,?_⟩⟩
  ·have:=h.aB i hi
   rw[List.getD_eq_getElem?_getD,List.getElem?_eq_getElem hi];exact this
  ·have hi2:i < n.follow.length:=by rw[h.len];exact hi
   have:=h.follow i hi2;rw[List.getD_eq_getElem?_getD,List.getElem?_eq_getElem hi2];exact this
theorem Dr{n:Net}{x:Prop}(hx:¬x)(h:nT n→x):qQ n=false:=by
 cases hr:qQ n with
 | false=>rfl
 | true=>exact(hx (h ((BG n).mp hr))).elim
def Net.rows(n:Net):List (List Int):=n.last::(n.aB++n.follow)
def DU(n:Net)(i:Nat):Bool:=su (n.aB.getD i []) 0 n.signs && su (n.follow.getD i []) 1 n.aB.length
def Zv3(P:Program)(fl:FuncId)(n:Net):Prop:=∀l∈n.rows,∀a b,aN P fl [aA l,aj a,aj b] (aH (su l a b))
theorem Zrj{P:Program}{fl:FuncId}{n:Net}(hl:Zv3 P fl n)(hlen:n.follow.length=n.aB.length)(hk:n.aB.length≤301){f:AF}{S:St}{Q:Exit→AF→St→Prop}(e1:f 1=.ptr 0 0 0)(e3:f 3=aj n.aB.length)(e46:f 46=aj n.aB.length)(ei:f 47=aj 0)
  (g0:S.g 0=some (.arr 4 [ji n])) (h1:(∀i,i < n.aB.length→DU n i=true)→∀f' S',Q .normal f' S') (h2:(¬∀i,i < n.aB.length→DU n i=true)→∀f' S',f' 2=aH false→Q .ret f' S'):AW P (V7 fl) Q f S:=by
 simp[V7];refine BU n.aB.length (fun i f S=>f 1=.ptr 0 0 0∧f 3=aj n.aB.length∧(f 46=aj n.aB.length)∧f 47=aj i∧S.g 0=some (.arr 4 [ji n])∧∀j,j < i→DU n j=true) ?_ ?_
 ·exact⟨e1,e3,e46,ei,g0,by omega⟩
 ·rintro i f S hi ⟨e1,e3,e46,ei,g0,hq⟩
  simp only[ji,aX] at g0;by_cases hlt:i < n.aB.length
  ·have hlf:i < n.follow.length:=by omega
   have gb:n.aB.getD i []=n.aB[i]:=by rw[List.getD_eq_getElem?_getD,List.getElem?_eq_getElem hlt];rfl
   have gf:n.follow.getD i []=n.follow[i]:=by rw[List.getD_eq_getElem?_getD,List.getElem?_eq_getElem hlf];rfl
   have k1:=hl n.aB[i] (by simp[Net.rows]) 0 n.signs;have k2:=hl n.follow[i] (by simp[Net.rows]) 1 n.aB.length;have c1:=aK (aS n.aB[i]) (aK (aW 0) (aK (aW n.signs) aU));have c2:=aK (aS n.follow[i]) (aK (aW 1) (aK (aW n.aB.length) aU));simp only[aA,aj] at k1 k2 c1 c2;have d1:∀m g',mo P fl [.sl false ((n.aB[i]).map aj),.v (.int .i64 0),.v (.int .i64 n.signs)] ⟨m,g'⟩ [] (aH (su n.aB[i] 0 n.signs)):=fun m g'=>mo.kl k1 c1 (dN _)
   have d2:∀m g',mo P fl [.sl false ((n.follow[i]).map aj),.v (.int .i64 1),.v (.int .i64 n.aB.length)] ⟨m,g'⟩ [] (aH (su n.follow[i] 1 n.aB.length)):=fun m g'=>mo.kl k2 c2 (dN _)
   simp[e1,e46,ei,g0,hlt,aA];refine⟨_,⟨_,d1 _ _⟩,?_⟩;cases hA:su n.aB[i] 0 n.signs with
   | false=>
    simp;exact h2 (fun h=>by have:=h i hlt;rw[DU,gb,hA] at this;cases this) _ _ (by simp[au,aH])
   | true=>
    simp[e1,e3,g0,hlf,aA];refine⟨_,⟨_,d2 _ _⟩,?_⟩;cases hB:su n.follow[i] 1 n.aB.length with
    | false=>
     simp;exact h2 (fun h=>by have:=h i hlt;rw[DU,gb,gf,hA,hB] at this;cases this) _ _ (by simp[au,aH])
    | true=>
     simp[ei];rw[bI _ (by omega)];refine⟨hlt,?_,?_,?_,?_,?_,fun j hj=>?_⟩
     ·simp[au,e1]
     ·simp[au,e3,aj]
     ·simp[au,e46,aj]
     ·simp[au]
     ·simp[g0,ji,aX,aA,aj]
     ·by_cases e:j=i
      ·subst e;rw[DU,gb,gf,hA,hB];rfl
      ·exact hq j (by omega)
  ·simp[e46,ei,hlt]
   exact h1 (fun j hj=>hq j (by omega)) _ _
theorem ZcO{P:Program}{fl:FuncId}(n:Net)(ok:Zsr n)(hl:Zv3 P fl n):AW P (BD fl) (gG [2] (iQ (aH (qQ n)))) (bP [ji n]) S0:=by
 have l1:=ok.aB;have l2:=ok.follow;unfold Len at l1 l2;by_cases h1:n.signs < 1
 ·have e:=Dr (n:=n) (x:=1≤n.signs) (by omega) (fun h=>h.s1)
  simp[BD,ji,aX,aA,h1,e];exact jF _ _
 by_cases h2:400 < n.signs
 ·have e:=Dr (n:=n) (x:=n.signs≤400) (by omega) (fun h=>h.s2)
  simp[BD,ji,aX,aA,h1,h2,e];exact jF _ _
 by_cases h3:n.aB.length=0
 ·have e:=Dr (n:=n) (x:=1≤n.aB.length) (by omega) (fun h=>h.n1)
  have h3':((n.aB.length:Int) == 0)=true:=by simp;exact List.eq_nil_of_length_eq_zero h3
  have aaw:(n.aB.length:Int) < 1:=by omega
  simp[BD,ji,aX,h1,h2,h3',e];exact jF _ _
 have h3':((n.aB.length:Int) == 0)=false:=by simp;exact fun e=>h3 (by simp[e])
 have aaw:¬(n.aB.length:Int) < 1:=by omega
 by_cases h4:(301:Int) < n.aB.length
 ·have e:=Dr (n:=n) (x:=n.aB.length≤301) (by omega) (fun h=>h.n2)
  simp[BD,ji,aX,h1,h2,h3',h4,e];exact jF _ _
 by_cases h5:¬(n.follow.length=n.aB.length)
 ·have e:=Dr (n:=n) h5 (fun h=>h.len)
  have h5':((n.follow.length:Int) != n.aB.length)=true:=by simp;omega
  simp[BD,ji,aX,h1,h2,h3',h4,h5',e];exact jF _ _
 have h5:n.follow.length=n.aB.length:=Decidable.not_not.mp h5;have h5':((n.follow.length:Int) != n.aB.length)=false:=by simp;omega
 have hlt:0 < n.aB.length:=by omega
 have hg0:n.aB[0]? = some n.aB[0]:=List.getElem?_eq_getElem hlt;have gb:n.aB.getD 0 []=n.aB[0]:=by rw[List.getD_eq_getElem?_getD,hg0];rfl
 by_cases h6:(0:Int) < (n.aB[0]).length
 ·have e:=Dr (n:=n) (x:=n.aB.getD 0 []=[]) (by rw[gb];intro h;rw[h] at h6;simp at h6) (fun h=>h.by0)
  have h6':0 < (n.aB[0]).length:=by omega
  simp[BD,ji,aX,aA,h1,h2,h3',h4,h5',hg0,h6',e];exact jF _ _
 have h6':¬0 < (n.aB[0]).length:=by omega
 have h60:n.aB[0]=[]:=List.eq_nil_of_length_eq_zero (by omega);have k1:=hl n.last (by simp[Net.rows]) 0 n.aB.length;have c1:=aK (aS n.last) (aK (aW 0) (aK (aW n.aB.length) aU));simp only[aA,aj] at k1 c1;simp[BD,ji,aX,aA,h1,h2,h3',h4,h5',hg0,h60];refine aQ.pure k1 c1 (dN _) ?_;cases h7:su n.last 0 n.aB.length with
 | false=>
  have e:=Dr (n:=n) (x:=su n.last 0 n.aB.length=true) (by rw[h7];simp) (fun h=>E9.mpr h.last);simp[e];exact jF _ _
 | true=>
  simp;refine Zrj (n:=n) hl h5 (by omega) (by simp[au]) (by simp[au,aj]) (by simp[au,aj]) (by simp[au,aj]) (by simp[aG,ji,aX,aA,aj]) (fun h f' S'=>?_) (fun h f' S' e2=>?_)
  ·have e:qQ n=true:=by
    simp only[qQ,Bool.and_eq_true,decide_eq_true_eq,List.all_eq_true,List.mem_range];refine⟨⟨⟨⟨⟨⟨⟨by omega,by omega⟩,by omega⟩,by omega⟩,h5⟩,by rw[gb,h60];rfl⟩,h7⟩,fun i hi=>?_⟩;have:=h i hi;simpa[DU] using this
   simp[e];exact jF _ _
  ·have e:=Dr (n:=n) h (fun R i hi=>by
    have hi2:i < n.follow.length:=by omega
    rw[DU,List.getD_eq_getElem?_getD,List.getElem?_eq_getElem hi,List.getD_eq_getElem?_getD,List.getElem?_eq_getElem hi2];simp only[Option.getD_some,Bool.and_eq_true];exact⟨E9.mpr (R.aB i hi),E9.mpr (R.follow i hi2)⟩)
   simp[e2,e];exact jF _ _
def uZ(n:Net)(sign:Int)(f:Int):Bool:=(n.aB.getD f.toNat []).contains sign
def BP(n:Net)(sign:Int)(p:Int):List Int:=if 0≤p∧p < n.follow.length then (n.follow.getD p.toNat []).filter (uZ n sign) else []
def qy(n:Net)(at_:List Int)(sign:Int):List Int:=at_.flatMap (BP n sign)
def qR(n:Net)(at_:List Int)(sign:Int):List Int:=je (qy n at_ sign)
theorem Zlr{n:Net}(R:nT n){p k:Nat}(hp:p < n.follow.length)(hk:k < (n.follow[p]).length):1≤(n.follow[p])[k]∧(n.follow[p])[k] < n.aB.length:=(R.follow p hp).2 _ (List.getElem_mem hk)
theorem VD{n:Net}(R:nT n){p:Nat}(hp:p < n.follow.length):(n.follow[p]).length≤301:=by
 have:=Jj (R.follow p hp).1 (R.follow p hp).2;have:=R.n2;omega
theorem Zf0{n:Net}{at_:List Int}{sign:Int}{i:Nat}(h:i < at_.length):qy n (at_.take (i+1)) sign=qy n (at_.take i) sign++BP n sign at_[i]:=by
 rw[List.take_add_one,List.getElem?_eq_getElem h];unfold qy;rw[List.flatMap_append];simp only[Option.toList_some,List.flatMap_cons,List.flatMap_nil,List.append_nil]
theorem Zgv{n:Net}(R:nT n)(sign p:Int):(BP n sign p).length≤301:=by
 unfold BP;split
 ·rename_i h
  have hp:p.toNat < n.follow.length:=by omega
  have:=VD R hp;have h2:=List.length_filter_le (uZ n sign) (n.follow.getD p.toNat []);rw[List.getD_eq_getElem?_getD,List.getElem?_eq_getElem hp] at h2 ⊢;simp only[Option.getD_some] at h2 ⊢;omega
 ·simp
theorem Vx{n:Net}(R:nT n)(sign:Int):∀(l:List Int),(qy n l sign).length≤301*l.length
 | []=>by simp[qy]
 | p::l=>by
  have h1:=Zgv R sign p;have h2:=Vx R sign l;simp only[qy,List.flatMap_cons,List.length_append,List.length_cons] at h2 ⊢;omega
def ZqC(Ko wE:FuncId):AC:= (.block 2 (.loop (.seq (sq [rm 43 10,rm 44 9,ro 45 (.len (.t 44)),ro 46 (.bin .lss (.t 43) (.t 45))] (.cond (.t 46) .skip (.exit 2))) (.seq (.block 3 (.seq (.reg (some []) [rF 49 1 3,rL 50 49,rm 51 9,rm 52 10,ro 53 (.aI 1 (.t 51) (.t 52)),rL 54 53,ro 55 (.aI 1 (.t 50) (.t 54)),rL 56 55,rm 57 2,rk 58 Ko [(.t 56),(.t 57)]]) (.cond (.t 58) (.reg none [rm 59 7,rm 60 9,rm 61 10,ro 62 (.aI 1 (.t 60) (.t 61)),rL 63 62,rk 64 wE [(.t 59),(.t 63)],rm 7 64]) .skip))) (.reg none [rm 47 10,ro 48 (.bin .add (.t 47) (ci 1)),rm 10 48])))))
def ZnR(Ko wE:FuncId):AC:= (.block 0 (.loop (.seq (sq [rm 14 8,rm 15 1,ro 16 (.len (.t 15)),ro 17 (.bin .lss (.t 14) (.t 16))] (.cond (.t 17) .skip (.exit 0))) (.seq (.block 1 (.seq (.seq (.reg (some []) [rm 20 1,rm 21 8,ro 22 (.aI 1 (.t 20) (.t 21)),rL 23 22,ro 24 (.bin .lss (.t 23) (ci 0)),rm 25 24,rg 26 25 false (.mv (.t 1)),rg 27 25 false (.mv (.t 8)),rg 28 25 false (.aI 1 (.t 26) (.t 27)),rg 29 25 false (.load none (.t 28)),rg 30 25 false (.cZ 2 (.t 3)),rg 31 25 false (.load none (.t 30)),rg 32 25 false (.len (.t 31)),rg 33 25 false (.bin .geq (.t 29) (.t 32)),ro 34 (.pick (.t 25) (.c (.v (.bool true))) (.t 33))]) (.cond (.t 34) (.exit 1) .skip)) (.seq (.reg (some []) [rF 35 2 3,rL 36 35,rm 37 1,rm 38 8,ro 39 (.aI 1 (.t 37) (.t 38)),rL 40 39,ro 41 (.aI 1 (.t 36) (.t 40)),rL 42 41,rm 9 42]) (sq [ro 10 (.mv (ci 0))] (ZqC Ko wE))))) (.reg none [rm 18 8,ro 19 (.bin .add (.t 18) (ci 1)),rm 8 19])))))
def Z9k(Uq Ko wE:FuncId):AC:= (sq [ro 3 (.box 4 (.t 0)),ro 6 (.mv (.c (.sl true [])))] (sq [ro 7 (.mv (.c (.sl true [])))] (.seq (sq [ro 11 (.load (some 4) (.t 3)),rk 12 Uq [(.t 11)],ro 13 (.un .not (.t 12))] (.cond (.t 13) (sq [ro 6 (.mv (.c (.sl true [])))] .ret) .skip)) (.seq (sq [ro 8 (.mv (ci 0))] (ZnR Ko wE)) (sq [rm 65 7,rm 6 65] .ret)))))
def ZpW(o l:List Int):List Int:=l.foldl Aa o
theorem ZmY{n:Net}(R:nT n)(l:List Int)(sign:Int):(qR n l sign).length≤301:=by
 have hm:∀x∈qR n l sign,(1:Int)≤x∧x < n.aB.length:=by
  intro x hx;have hx:=vS.mp hx;simp only[qy,List.mem_flatMap] at hx;obtain⟨p,hp,hx⟩:=hx;unfold BP at hx;split at hx
  ·rename_i h
   have hpl:p.toNat < n.follow.length:=by omega
   rw[List.getD_eq_getElem?_getD,List.getElem?_eq_getElem hpl] at hx;exact(R.follow _ hpl).2 x (List.mem_filter.mp hx).1
  ·simp at hx
 have:=Jj (Fu (qy n l sign)) hm;have:=R.n2;show(je (qy n l sign)).length≤301
 omega
theorem ZjP(l:List Int):ZpW [] l=je l:=Zmv l
def vo(n:Net)(l:List Int):List Int:=l.foldl (qR n) [0]
def yO(n:Net)(l:List Int):Bool:=qQ n && (vo n l).any fun s=>n.last.contains s
def Z8X:AC:= (sq [ro 4 (.mv (.c (.v (.bool false))))] (.seq (sq [rm 6 0,ro 7 (.len (.t 6)),rm 8 1,ro 9 (.len (.t 8)),ro 10 (.bin .neq (.t 7) (.t 9))] (.cond (.t 10) (sq [ro 4 (.mv (.c (.v (.bool false))))] .ret) .skip)) (.seq (sq [ro 5 (.mv (ci 0))] (.block 0 (.loop (.seq (sq [rm 11 5,rm 12 0,ro 13 (.len (.t 12)),ro 14 (.bin .lss (.t 11) (.t 13))] (.cond (.t 14) .skip (.exit 0))) (.seq (.block 1 (.seq (.reg (some []) [rm 17 0,rm 18 5,ro 19 (.aI 1 (.t 17) (.t 18)),rL 20 19,rm 21 1,rm 22 5,ro 23 (.aI 1 (.t 21) (.t 22)),rL 24 23,ro 25 (.beq true (.t 20) (.t 24))]) (.cond (.t 25) (sq [ro 4 (.mv (.c (.v (.bool false))))] .ret) .skip))) (.reg none [rm 15 5,ro 16 (.bin .add (.t 15) (ci 1)),rm 5 16])))))) (sq [ro 4 (.mv (.c (.v (.bool true))))] .ret))))
def Z9l(P3c P3d:FuncId):AC:= (sq [ro 2 (.box 3 (.t 0)),ro 3 (.box 3 (.t 1)),ro 4 (.mv (.c (.v (.bool false))))] (sq [rF 5 0 2,rL 6 5,rF 7 0 3,rL 8 7,ro 9 (.bin .eql (.t 6) (.t 8)),rm 10 9,rg 11 10 true (.cZ 1 (.t 2)),rg 12 10 true (.load none (.t 11)),rg 13 10 true (.cZ 1 (.t 3)),rg 14 10 true (.load none (.t 13)),rl 15 10 true P3c [(.t 12),(.t 14)],ro 16 (.pick (.t 10) (.t 15) (.c (.v (.bool false)))),rm 17 16,rg 18 17 true (.cZ 2 (.t 2)),rg 19 17 true (.load none (.t 18)),rg 20 17 true (.cZ 2 (.t 3)),rg 21 17 true (.load none (.t 20)),rl 22 17 true P3d [(.t 19),(.t 21)],ro 23 (.pick (.t 17) (.t 22) (.c (.v (.bool false)))),rm 4 23] .ret))
theorem mo.cd{P:Program}{f:FuncId}{args:List AV}{r:AV}{S:St}(h:aN P f args r)(hc:∀x∈args,aY x)(hr:aY r):mo P f args S [] r:=
 ⟨args,h,rfl,fun j h1 _=>.closed _ (hc _ (List.getElem_mem h1)),.inr (.inl ⟨rfl,hr⟩)⟩
def MC(p:Nat→Bool)(i:Nat):List Int:=((List.range i).filter p).map Int.ofNat
def TD(n:Net)(l:List Int)(i:Nat):Bool:=yO n (l.drop (l.length - i))
def xK(n:Net)(l:List Int)(i:Nat):Bool:=yO n (l.take i)
theorem Vec.cell{g:Nat→Option aF}{v:AV}{es:Nat}{xs:List AV}(h:Vec g v es xs):v.cells=[v]∧v.solid=true:=by
 rcases h with⟨rfl,_⟩ | ⟨_,_,_,rfl,_⟩<;>exact⟨rfl,rfl⟩
theorem lq.cells{g:Nat→Option aF}{n:Nat}{av:List Nat}{vs:List AV}{ls:List (List AV)}(h:lq g n av vs ls):∀v∈vs,v.cells.length=1:=by
 intro v hv;obtain⟨t,ht,rfl⟩:=List.getElem_of_mem hv;rw[(h.row t ht (by rw[←h.len];exact ht)).cell.1];rfl
def Mc(es aB:Nat)(z:AV):AC:= (sq [ro 4 (.mv (.c (.sl true [])))] (.seq (sq [rm 5 1,ro 6 (.bin .lss (.t 5) (ci 0))] (.cond (.t 6) .bad .skip)) (.seq (sq [rm 8 1,rm 9 0,ro 10 (.cap (.t 9)),rm 11 0,ro 12 (.len (.t 11)),ro 13 (.bin .sub (.t 10) (.t 12)),ro 14 (.bin .sub (.t 8) (.t 13)),rm 1 14] (sq [rm 15 1,ro 16 (.bin .gtr (.t 15) (ci 0))] (.cond (.t 16) (.reg none [rm 17 0,rm 18 0,ro 19 (.cap (.t 18)),ro 20 (.slc es (.t 17) none (some (.t 19))),rm 21 1,ro 22 (.JL es aB z (.t 20) (.t 21)),rm 23 0,ro 24 (.len (.t 23)),ro 25 (.slc es (.t 22) none (some (.t 24))),rm 0 25]) .skip))) (sq [rm 26 0,rm 4 26] .ret))))
def LG(es aB:Nat)(fg:FuncId):AC:= (sq [ro 2 (.mv (.c (.sl true [])))] (sq [ro 3 (.mv (ci 0))] (.seq (sq [rm 9 0,ro 10 (.len (.t 9)),ro 11 (.mv (ci 0))] (.block 0 (.loop (sq [ro 12 (.bin .lss (.t 11) (.t 10))] (.seq (.cond (.t 12) .skip (.exit 0)) (.seq (.block 1 (sq [ro 13 (.aI 1 (.t 9) (.t 11)),rL 14 13,rm 5 14] (sq [rm 15 3,rm 16 5,ro 17 (.len (.t 16)),ro 18 (.bin .add (.t 15) (.t 17)),rm 3 18] (sq [rm 19 3,ro 20 (.bin .lss (.t 19) (ci 0))] (.cond (.t 20) .bad .skip))))) (.reg none [ro 22 (.bin .add (.t 11) (ci 1)),rm 11 22]))))))) (sq [rm 23 3,rk 24 fg [(.c (.sl true [])),(.t 23)],rm 6 24] (.seq (sq [rm 25 0,ro 26 (.len (.t 25)),ro 27 (.mv (ci 0))] (.block 2 (.loop (sq [ro 28 (.bin .lss (.t 27) (.t 26))] (.seq (.cond (.t 28) .skip (.exit 2)) (.seq (.block 3 (sq [ro 29 (.aI 1 (.t 25) (.t 27)),rL 30 29,rm 8 30] (.reg none [rm 31 6,rm 32 8,ro 33 (.app es aB (.t 31) (.t 32)),rm 6 33]))) (.reg none [ro 34 (.bin .add (.t 27) (ci 1)),rm 27 34]))))))) (sq [rm 35 6,rm 2 35] .ret))))))
def zV(g:Nat→Option aF)(v:AV)(es:Nat)(xs:List AV):Prop:=
 (v=.sl true []∧xs=[])∨∃id off ys,v=.own id off xs.length∧g id=some (.arr es ys)∧off+xs.length≤ys.length∧(ys.take (off+xs.length)).drop off=xs
theorem zV.frame{g g':Nat→Option aF}{v:AV}{es:Nat}{xs:List AV}(h:zV g v es xs)(hs:∀i∈v.ids,g' i=g i):zV g' v es xs:=by
 rcases h with h | ⟨id,off,ys,rfl,h1,h2,h3⟩
 ·exact .inl h
 ·exact .inr ⟨id,off,ys,rfl,by rw[hs id (by simp[AV.ids])];exact h1,h2,h3⟩
theorem zV.fz{X:Type}{enc:X→AV}{g:Nat→Option aF}{v:AV}{es:Nat}{l:List X}(h:zV g v es (l.map enc))(hc:∀x,aY (enc x)):Fz g v (.sl false (l.map enc)):=by
 rcases h with⟨rfl,hn⟩ | ⟨id,off,ys,rfl,h1,h2,h3⟩
 ·rw[hn];exact .loose true [] (.sl _ _ (by simp))
 ·rw[List.length_map] at h2 h3 ⊢
  refine .own id off l.length es ys (l.map enc) h1 h2 (by simp) (fun i a b=>?_);have e:(ys.drop off).take l.length=l.map enc:=by rw[←h3,List.drop_take];congr 1;omega
  simp only[e];exact .closed _ (by simp only[List.getElem_map];exact hc _)
def Zq7(S:St)(es:Nat)(z:AV)(n:Nat)(v:AV)(S':St):Prop:=
 S.n≤S'.n∧(∀i,i < S.n→S'.g i=S.g i)∧((n=0∧v=.sl true [])∨∃id,S.n≤id∧id < S'.n∧v=.own id 0 0∧S'.g id=some (.arr es (List.replicate n z)))
def Mq(P:Program)(f:FuncId)(es:Nat)(z:AV):Prop:=∀(S:St) (n:Nat) (K:AV→St→Prop),n≤1000000→(∀v S',Zq7 S es z n v S'→K v S')→aQ P f [.sl true [],aj n] S K
theorem Zhv{P:Program}(hm:P.follows .mixedOrders=true){f:FuncId}{es aB:Nat}{z:AV}(hes:0 < es)(hz:z.cells.length=es)(hb:aB≤1000)(h:Is P f (Mc es aB z) [4] 2):Mq P f es z:=by
 intro S n K hn hk;refine h.wV hm rfl ?_;have hneg:¬((n:Int) < 0):=by omega
 have hw1:=bI ((n:Int) - 0) (by omega);have hw0:IntKind.i64.wrap 0=0:=bI 0 (by omega);by_cases h0:n=0
 ·subst h0
  simp[Mc,Mx,hw0];exact hk _ _ ⟨by simp;omega,fun i hi=>rfl,.inl ⟨rfl,rfl⟩⟩
 ·have hp:(0:Int) < n:=by omega
  have hp':0 < n:=by omega
  have aaI:(n:Int)*aB≤140737488355328:=by
   have h1:n*aB≤1000000*1000:=Nat.mul_le_mul hn hb;have:((n*aB:Nat):Int)≤1000000000:=by omega
   rw[Int.natCast_mul] at this;omega
  have hn2:(n:Int)≤140737488355328:=by omega
  have hwn:IntKind.i64.wrap (n:Int)=n:=bI _ (by omega)
  have aaD:∀S2:St,∀aC,(Mh es aB z (.sl true []) (.v (.int .i64 (n:Int)))).run S2 aC=some (.own aC 0 n,S2.set aC (some (.arr es (List.replicate n z)))):=by
   intro S2 aC;simp[Mh,Eff.new,Eff.run,hp',aaI,hn2,hes,hz,St.fD,St.iU]
  have hs1:∀S2:St,∀aC,(xD es (.sl true []) none (some (.v (.int .i64 0)))).run S2 aC=some (.sl true [],S2):=by
   intro S2 aC;simp[xD,bnd,Eff.rR]
  have hs2:∀(S2:St) (aC id:Nat) (ys:List AV),S2.g id=some (.arr es ys)→(xD es (.own id 0 n) none (some (.v (.int .i64 0)))).run S2 aC=some (.own id 0 0,S2):=by
   intro S2 aC id ys hg;simp[xD,bnd,Eff.rd,Eff.run,hg,St.fD,St.iU]
  simp[Mc,Mx,hneg,hw0,hwn,hp',hs1,aaD,fq];rw[hs2 _ _ _ (List.replicate n z) (by simp[aG])];simp;refine hk _ _ ⟨by simp;omega,fun i hi=>?_,.inr ⟨S.n+13+5,by omega,by simp,rfl,by simp[aG]⟩⟩;have:¬i=S.n+13+5:=by omega
  simp[aG,this]
theorem zV.app{n aC aB es:Nat}{g:Nat→Option aF}{v:AV}{xs:List AV}(h:zV g v es xs)(t:Bool)(ys:List AV)(hx:∀z∈xs,z.cells.length=es)(hy:∀z∈ys,z.cells.length=es)(hok:dF aB xs.length ys.length) :
  ∃v' S',(kP es aB v (.sl t ys)).run ⟨n,g⟩ aC=some (v',S')∧S'.n=n∧(aC∉v.ids→zV S'.g v' es (xs++ys))∧(∀i,i∉v.ids→i≠aC→S'.g i=g i)∧(∀i∈v'.ids,i∈v.ids∨i=aC):=by
 have hl:mq es [] (.sl t ys)=some ys:=by simp only[mq];rw[if_pos hy]
 rcases h with⟨rfl,rfl⟩ | ⟨id,off,zs,rfl,h1,h2,h3⟩
 ·simp only[List.length_nil] at hok
  by_cases h0:ys.length=0
  ·have:ys=[]:=List.eq_nil_of_length_eq_zero h0
   subst this;refine⟨.sl true [],⟨n,g⟩,?_,rfl,fun _=>.inl ⟨rfl,rfl⟩,fun _ _ _=>rfl,by simp[AV.ids]⟩;simp[kP,AV.kF,Eff.run,hl,St.fD,St.iU,dF]
  ·refine⟨.own aC 0 ys.length,(⟨n,g⟩:St).set aC (some (.arr es ys)),?_,by simp[bB],fun _=>.inr ⟨aC,0,ys,by simp,by simp[aG],by simp,by simp⟩,fun i _ hi=>by simp[aG,hi],by simp[AV.ids]⟩
   simp only[kP,AV.kF,Eff.run,List.mapM_nil,Option.pure_def,hl,Option.bind_some,List.length_nil,Nat.zero_add,hok,and_true];rw[if_pos (by simp),if_neg h0];simp[St.fD,St.iU]
 ·refine⟨.own aC 0 (xs.length+ys.length),((⟨n,g⟩:St).set id none).set aC (some (.arr es (xs++ys))),?_,by simp[bB],fun hn=>.inr ⟨aC,0,xs++ys,by simp,by simp[aG],by simp,by simp[←List.length_append]⟩,fun i hi hn=>?_,by simp[AV.ids]⟩
  ·have ho:(AV.sl t ys).kF=[]:=rfl
   have hne:([]:List Nat)≠[id]:=by simp
   simp only[kP,Eff.run,ho,List.mapM_cons,List.mapM_nil,h1,Option.pure_def,Option.bind_eq_bind,Option.bind_some,hl];by_cases he:off+xs.length=zs.length
   ·rw[if_pos ⟨trivial,he,hok,hne⟩]
    have e:zs.drop off=xs:=by rw[←h3,he,List.take_length]
    simp[St.fD,St.iU,e]
   ·rw[if_neg (fun hh=>he hh.2.1),if_pos ⟨trivial,by omega,hok,hne⟩]
    simp[St.fD,St.iU,h3]
  ·simp only[AV.ids,List.mem_cons,List.not_mem_nil,or_false] at hi
   simp[aG,hi,hn]
def Ga(L:List (Bool×List AV)):AV:=.sl true (L.map fun p=>.sl p.1 p.2)
def wL(L:List (Bool×List AV)):Nat:=(L.map fun p=>p.2.length).sum
theorem ZlV(L:List (Bool×List AV))(k:Nat):wL (L.take k)≤wL L:=by
 unfold wL;have h:L=L.take k++L.drop k:=by simp
 conv=>rhs;rw[h]
 rw[List.map_append,List.sum_append];omega
theorem Zfz(L:List (Bool×List AV))(k:Nat)(h:k < L.length):wL (L.take (k+1))=wL (L.take k)+(L[k]).2.length:=by
 unfold wL;rw[List.take_add_one,List.getElem?_eq_getElem h,List.map_append,List.sum_append];simp
theorem ZlU(L:List (Bool×List AV)):(L.flatMap (·.2)).length=wL L:=by
 unfold wL;rw[List.length_flatMap]
def CtI(L:List (Bool×List AV))(n0:Nat)(g0:Nat→Option aF)(k:Nat)(f:AF)(S:St):Prop:=n0≤S.n∧S.g=g0∧f 0=Ga L∧f 9=Ga L∧f 10=aj L.length∧f 11=aj k∧f 3=aj (wL (L.take k))∧f 2=.sl true []
def CtJ(L:List (Bool×List AV))(es:Nat)(n0:Nat)(g0:Nat→Option aF)(k:Nat)(f:AF)(S:St):Prop:=f 25=Ga L∧f 26=aj L.length∧f 27=aj k∧zV S.g (f 6) es ((L.take k).flatMap (·.2))∧(∀i∈(f 6).ids,n0≤i∧i < S.n)∧(∀i,i < n0→S.g i=g0 i)∧n0≤S.n
def Zk9(S:St)(es:Nat)(L:List (Bool×List AV))(v:AV)(S':St):Prop:=
 S.n≤S'.n∧(∀i,i < S.n→S'.g i=S.g i)∧zV S'.g v es (L.flatMap (·.2))∧∀i∈v.ids,S.n≤i∧i < S'.n
theorem ZeP{P:Program}(hm:P.follows .mixedOrders=true){f fg:FuncId}{es aB:Nat}{z:AV}(hg:Mq P fg es z)(hb:aB≤1000)(h:Is P f (LG es aB fg) [2] 1)
  {S:St} {L:List (Bool×List AV)} (hc:∀p∈L,∀x∈p.2,x.cells.length=es) (hL:L.length≤1000) (ht:wL L≤1000000) {K:AV→St→Prop} (hk:∀v S',Zk9 S es L v S'→K v S'):aQ P f [Ga L] S K:=by
 refine h.wV hm rfl ?_;have wW:Ga L=.sl true (L.map fun p=>.sl p.1 p.2):=rfl;simp[LG,wW];refine BU L.length (CtI L S.n S.g) ⟨?_,?_,?_,?_,?_,?_,?_,?_⟩ ?_
 ·simp;omega
 ·simp
 ·simp[au,bM,wW]
 ·simp[au,wW]
 ·simp[au,aj]
 ·simp[au,aj]
 ·simp[au,aj,wL]
 ·simp[au]
 ·rintro k f S1 hk1 ⟨hn1,hg1,e0,e9,e10,e11,e3,e2⟩
  rw[wW] at e0 e9;by_cases hlt:k < L.length
  ·have hgt:L[k]? = some L[k]:=List.getElem?_eq_getElem hlt
   have h1:=Zfz L k hlt;have h2:=ZlV L (k+1);have hw:=bI ((wL (L.take k):Int)+(L[k]).2.length) (by omega);have hneg:¬((wL (L.take k):Int)+(L[k]).2.length < 0):=by omega
   simp[e9,e10,e11,e3,hlt,hw,hneg];rw[bI _ (by omega)];refine⟨hlt,?_,?_,?_,?_,?_,?_,?_,?_⟩
   ·simp;omega
   ·simpa using hg1
   ·simp[au,e0,wW]
   ·simp[au,e9,wW]
   ·simp[au,e10]
   ·simp[au,aj]
   ·simp[au,aj,h1]
   ·simp[au,e2]
  ·have hke:k=L.length:=by omega
   subst hke;rw[List.take_length] at e3;simp[e10,e11,e3];refine hg _ (wL L) _ ht (fun v S2 hout=>?_);obtain⟨o1,o2,o3⟩:=hout;simp only at o1 o2 o3
   have hv0:zV S2.g v es ([]:List AV):=by
    rcases o3 with⟨_,rfl⟩ | ⟨id,_,_,rfl,Ag⟩
    ·exact .inl ⟨rfl,rfl⟩
    ·exact .inr ⟨id,0,_,rfl,Ag,by simp,by simp⟩
   have Aj:∀i∈v.ids,S.n≤i∧i < S2.n:=by
    rcases o3 with⟨_,rfl⟩ | ⟨id,a1,a2,rfl,_⟩
    ·simp[AV.ids]
    ·intro i hi;simp[AV.ids] at hi;subst hi;omega
   simp;simp only[e0];simp;refine BU L.length (CtJ L es S.n S.g) ⟨?_,?_,?_,?_,?_,?_,?_⟩ ?_
   ·simp[au,wW]
   ·simp[au,aj]
   ·simp[au,aj]
   ·simp[au];exact hv0.frame (fun _ _=>rfl)
   ·intro i hi
    simp[au] at hi;have:=Aj i hi;simp;omega
   ·intro i hi
    have:=o2 i (by omega);simp;rw[this,hg1]
   ·simp;omega
   ·rintro k f S3 hk3 ⟨e25,e26,e27,hv,Aj,hfr,hn3⟩
    rw[wW] at e25;by_cases hlt:k < L.length
    ·have hgt:L[k]? = some L[k]:=List.getElem?_eq_getElem hlt
     have h1:=Zfz L k hlt;have h2:=ZlV L (k+1);have hlen:=ZlU (L.take k)
     have hx:∀z∈(L.take k).flatMap (·.2),z.cells.length=es:=by
      intro z hz;obtain⟨p,hp,hz⟩:=List.mem_flatMap.mp hz;exact hc p (List.mem_of_mem_take hp) z hz
     have hok:dF aB ((L.take k).flatMap (·.2)).length (L[k]).2.length:=by
      unfold dF;have:(((L.take k).flatMap (·.2)).length+(L[k]).2.length)*aB≤1000000*1000:=Nat.mul_le_mul (by omega) hb;omega
     simp[e25,e26,e27,hlt];obtain⟨v',S',hr,q1,q2,q3,q4⟩:=(hv.frame (g':=S3.g) (fun _ _=>rfl)).app (n:=S3.n+1+3+4) (aC:=S3.n+1+3+2) (aB:=aB) (L[k]).1 (L[k]).2 hx (hc _ (List.getElem_mem hlt)) hok;rw[hr];simp[e27];rw[bI _ (by omega)];have SS:S3.n+1+3+2∉(f 6).ids:=fun hh=>by have:=Aj _ hh;omega
     refine⟨hlt,?_,?_,?_,?_,?_,?_,?_⟩
     ·simp[au,e25,wW]
     ·simp[au,e26]
     ·simp[au,aj]
     ·rw[List.take_add_one,hgt,List.flatMap_append]
      simpa[au] using(q2 SS).frame (fun _ _=>rfl)
     ·intro i hi
      simp[au] at hi;have hi2:=q4 i hi;simp[q1];rcases hi2 with hi2 | hi2
      ·have:=Aj i hi2;omega
      ·omega
     ·intro i hi
      have h3:=q3 i (fun hh=>by have:=Aj i hh;omega) (by omega);simp[h3,hfr i hi]
     ·simp[q1];omega
    ·have hke:k=L.length:=by omega
     subst hke;rw[List.take_length] at hv;simp[e26,e27];refine hk _ _ ⟨?_,?_,?_,?_⟩
     ·simp;omega
     ·intro i hi;simp[hfr i hi]
     ·exact hv.frame (fun _ _=>rfl)
     ·intro i hi
      have:=Aj i hi;simp;omega
end Go.Rf
namespace Go.Rf
attribute [local simp] kZ kN kW lH lK lI lM kY lN lG lF dO iA fI gI ig fH gJ iq gX gT gY eY gN gZ gM eB eD gQ iJ iG iI iH iK fV fK fG dY fZ gu gy fO fP iL iw gP iE iB iD iC iF iM gV fQ fE fF fJ fU dx dL eZ gW iN ex au cu dM dX bM bU aG bB dV eX dR fM gL gK iy gU bL dw dz dZ d9 gD dS bA bW dA dJ dD fq eu eU eO eT dW dn dU dQ dP bq AV.solid S0 aj aH
def WY:AC:= (.block 4 (.loop (sq [ro 28 (.bin .lss (.t 27) (.t 26))] (.seq (.cond (.t 28) .skip (.exit 4)) (.seq (.block 5 (sq [rm 29 27,ro 30 (.aI 1 (.t 25) (.t 27)),rL 31 30,rm 8 29,rm 9 31] (sq [rm 32 7,rm 33 8,ro 34 (.aI 1 (.t 32) (.t 33)),rn (.store 1 (.t 34) (ci (-1)))] (sq [rm 35 8,ro 36 (.bin .and (.t 35) (ci 1)),ro 37 (.bin .eql (.t 36) (ci 1)),rm 10 37] (.block 6 (sq [rm 39 10,ro 40 (.un .not (.t 39)),rm 41 40,rg 42 41 true (.mv (.t 6)),rg 43 41 true (.bin .eql (.t 42) (ci 0)),ro 44 (.pick (.t 41) (.t 43) (.c (.v (.bool false)))),rm 38 44] (.cond (.t 38) (.reg none [rm 45 7,rm 46 8,rm 47 9,ro 48 (.bin .mul (.t 47) (ci 3)),ro 49 (.bin .add (.t 48) (ci 1)),ro 50 (.aI 1 (.t 45) (.t 46)),rn (.store 1 (.t 50) (.t 49))]) (sq [rm 52 10,ro 53 (.un .not (.t 52)),rm 51 53] (.cond (.t 51) (.reg none [rm 54 7,rm 55 8,rm 56 9,ro 57 (.bin .mul (.t 56) (ci 3)),rm 58 6,ro 59 (.bin .add (.t 57) (.t 58)),ro 60 (.aI 1 (.t 54) (.t 55)),rn (.store 1 (.t 60) (.t 59))]) (sq [rm 62 6,ro 63 (.bin .eql (.t 62) (ci 1)),rm 61 63] (.cond (.t 61) (.reg none [rm 64 7,rm 65 8,rm 66 9,ro 67 (.bin .mul (.t 66) (ci 3)),ro 68 (.bin .add (.t 67) (ci 2)),ro 69 (.aI 1 (.t 64) (.t 65)),rn (.store 1 (.t 69) (.t 68))]) .skip))))))))))) (.reg none [ro 70 (.bin .add (.t 27) (ci 1)),rm 27 70]))))))
def WA:AC:= (.reg (some [[],[],[],[],[],[true],[false,true],[false,false,true],[false,false,false,true],[],[],[],[],[],[],[],[],[],[true]]) [rF 71 0 3,rL 72 71,rm 73 7,ro 74 (.cO 1 1 (.sl true []) [(0,(.t 73))]),ro 75 (.app 1 24 (.t 72) (.t 74)),rF 76 1 3,rL 77 76,rm 78 6,ro 79 (.bin .eql (.t 78) (ci 2)),rm 80 79,rg 81 80 true (.cZ 2 (.t 1)),rg 82 80 true (.load none (.t 81)),rg 83 80 true (.mv (.t 4)),rg 84 80 true (.aI 1 (.t 82) (.t 83)),rg 85 80 true (.load none (.t 84)),ro 86 (.pick (.t 80) (.t 85) (.c (.v (.bool false)))),ro 87 (.cO 1 1 (.v (.bool false)) [(0,(.t 86))]),ro 88 (.app 1 1 (.t 77) (.t 87)),rF 89 0 3,rn (.store 1 (.t 89) (.t 75)),rF 90 1 3,rn (.store 1 (.t 90) (.t 88))])
def Vy:AC:= (.block 2 (.loop (sq [ro 20 (.bin .lss (.t 19) (ci 3))] (.seq (.cond (.t 20) .skip (.exit 2)) (.seq (.block 3 (sq [rm 21 19,rm 6 21] (sq [rF 22 0 1,rL 23 22,ro 24 (.wB 1 8 (.v (.int .i64 0)) (.t 23) (.t 23)),rm 7 24] (.seq (sq [rm 25 5,ro 26 (.len (.t 25)),ro 27 (.mv (ci 0))] WY) WA)))) (.reg none [ro 91 (.bin .add (.t 19) (ci 1)),rm 19 91]))))))
def Vm:AC:= (sq [ro 1 (.box 3 (.t 0)),ro 2 (.alloc (.agg [(.sl true []),(.sl true [])]) 2)] (sq [ro 3 (.alloc (.agg [(.sl true []),(.sl true [])]) 2)] (.seq (sq [rF 11 1 1,rL 12 11,ro 13 (.len (.t 12)),ro 14 (.mv (ci 0))] (.block 0 (.loop (sq [ro 15 (.bin .lss (.t 14) (.t 13))] (.seq (.cond (.t 15) .skip (.exit 0)) (.seq (.block 1 (sq [rm 16 14,ro 17 (.aI 1 (.t 12) (.t 14)),rL 18 17,rm 4 16,rm 5 18] (sq [ro 19 (.mv (ci 0))] Vy))) (.reg none [ro 92 (.bin .add (.t 14) (ci 1)),rm 14 92]))))))) (sq [ro 93 (.load (some 2) (.t 3)),rn (.store 2 (.t 2) (.t 93))] .ret))))
theorem Zv6(i:Nat)(h:i≤100000):IntKind.i64.wrap ↑(i % 2 ^ IntKind.i64.bits &&& 1 % 2 ^ IntKind.i64.bits)=((i % 2:Nat):Int):=by
 have hb:IntKind.i64.bits=64:=rfl;have e1:i % 2 ^ IntKind.i64.bits=i:=by rw[hb];exact Nat.mod_eq_of_lt (by omega)
 have e2:1 % 2 ^ IntKind.i64.bits=1:=by rw[hb]
 rw[e1,e2,Nat.and_one_is_mod];exact bI _ (by omega)
structure OY(d:aD)(row:List Int)(s ph:Nat)(f:AF):Prop where
 e1:f 1=.ptr 0 0 0
 e2:f 2=.ptr 1 0 0
 e3:f 3=.ptr 2 0 0
 e4:f 4=aj s
 e5:f 5=aA row
 e12:f 12=aX d.next
 e13:f 13=aj d.next.length
 e14:f 14=aj s
 e19:f 19=aj ph
 e6:f 6=aj ph
def wC(d:aD)(sg s ph i:Nat):List Int:=(jN d (3*s+ph)).take i++List.replicate (sg - i) 0
structure U0(d:aD)(row:List Int)(sg s ph c n0:Nat)(g0:Nat→Option aF)(i:Nat)(f:AF)(S:St):Prop where
 le:i≤sg
 e27:f 27=aj i
 e26:f 26=aj sg
 e25:f 25=aA row
 e7:f 7=.own c 0 sg
 gc:S.g c=some (.arr 1 ((wC d sg s ph i).map aj))
 go:∀k,k≠c→k < n0→S.g k=g0 k
 n:n0≤S.n
 ff:OY d row s ph f
def phI(d:aD)(row:List Int)(sg s ph c n0:Nat)(g0:Nat→Option aF)(m:Nat)(f:AF)(S:St):Prop:=∃i,m=sg - i∧U0 d row sg s ph c n0 g0 i f S
theorem Lm{d:aD}(R:bD d){sg:Nat}(hsg:d.signs=sg){s ph:Nat}(hs:s < d.next.length)(hp:ph < 3):(jN d (3*s+ph)).length=sg:=by
 have e2:(3*s+ph) / 3=s:=by omega
 have:=R.row s hs;simp only[jN,MU,List.length_mapIdx,e2,List.getD_eq_getElem?_getD,List.getElem?_eq_getElem hs,Option.getD_some];omega
theorem ZrI{d:aD}(R:bD d){sg:Nat}(hsg:d.signs=sg){s ph i:Nat}(hs:s < d.next.length)(hp:ph < 3)(hi:i < sg)(x:Int)(hx:x=xS ph i (bO d s i)):(wC d sg s ph i).set i x=wC d sg s ph (i+1):=by
 have hlen:=Lm R hsg hs hp;have hat:=IV R hs hp i;rw[if_pos (by omega)] at hat;unfold wC;rw[List.take_add_one,hat];have e:sg - i=(sg - (i+1))+1:=by omega
 rw[e,List.replicate_succ];simp only[Option.toList_some,List.append_assoc,List.singleton_append];rw[List.set_append_right _ _ (by simp;omega)];have:i - ((jN d (3*s+ph)).take i).length=0:=by simp;omega
 rw[this,hx];rfl
theorem ZjN{d:aD}(R:bD d){sg:Nat}(hsg:d.signs=sg){s ph i:Nat}(hs:s < d.next.length)(hp:ph < 3)(hi:i≤sg):(wC d sg s ph i).length=sg:=by
 have:=Lm R hsg hs hp;simp[wC];omega
theorem ZuT{P:Program}{d:aD}(R:bD d){sg:Nat}(hsg:d.signs=sg){row:List Int}{s ph c n0:Nat}{g0:Nat→Option aF}(hs:s < d.next.length)(hrow:d.next[s]=row)(hp:ph < 3)(hc:c < n0){f:AF}{S:St}{Q:Exit→AF→St→Prop}(h0:U0 d row sg s ph c n0 g0 0 f S)
  (hq:∀f' S',U0 d row sg s ph c n0 g0 sg f' S'→Q .normal f' S'):AW P WY Q f S:=by
 have hs1:=R.s1;have hs2:=R.s2;have hn2:=R.n2;simp[WY];refine vT (phI d row sg s ph c n0 g0) sg ⟨0,by omega,h0⟩ ?_;rintro m f S ⟨i,rfl,⟨le,e27,e26,e25,e7,gc,go,hn,ff⟩⟩;by_cases hlt:i < sg
 ·have GL:(i:Int) < sg:=by omega
  obtain⟨q1,q2,q3⟩:=Dx R hs (s:=(i:Int)) (by omega) (by omega);simp only[Int.toNat_natCast] at q1 q2;have hgi:row[i]? = some ((bO d s i:Nat):Int):=by rw[←hrow,List.getElem?_eq_getElem q1,q2]
  have hcl:=ZjN R hsg hs hp (Nat.le_of_lt hlt);have hci:i < ((wC d sg s ph i).map aj).length:=by rw[List.length_map,hcl];exact hlt
  have hcl':((wC d sg s ph i).map aj).length=sg:=by rw[List.length_map,hcl]
  have abz:((wC d sg s ph i).map aj)[i]? = some (((wC d sg s ph i).map aj)[i]):=List.getElem?_eq_getElem hci;have ha:=Zv6 i (by omega);have hst:∀x:Int,x=xS ph i (bO d s i)→(((wC d sg s ph i).map aj).set i (.v (.int .i64 x)))=(wC d sg s ph (i+1)).map aj:=fun x hx=>by rw[←ZrI R hsg hs hp hlt x hx,List.map_set];rfl
  have fin:∀(f2:AF) (S2:St) (x:Int),x=xS ph i (bO d s i)→f2 27=aj ((i:Int)+1)→f2 26=aj sg→f2 25=aA row→f2 7=.own c 0 sg→S2.g c=some (.arr 1 (((wC d sg s ph i).map aj).set i (.v (.int .i64 x))))→(∀k,k≠c→k < n0→S2.g k=g0 k)→n0≤S2.n→OY d row s ph f2→zN (phI d row sg s ph c n0 g0) (sg - i) f2 S2:=by
   intro f2 S2 x hx a27 a26 a25 a7 ac ao an af;exact⟨sg - (i+1),by omega,i+1,rfl,⟨by omega,by rw[a27];simp[aj],a26,a25,a7,by rw[ac,hst x hx],ao,an,af⟩⟩
  have hw1:IntKind.i64.wrap ((bO d s i:Int)*3)=(bO d s i:Int)*3:=bI _ (by omega);have hw2:IntKind.i64.wrap ((bO d s i:Int)*3+1)=(bO d s i:Int)*3+1:=bI _ (by omega);have hw3:IntKind.i64.wrap ((bO d s i:Int)*3+2)=(bO d s i:Int)*3+2:=bI _ (by omega);have hw4:IntKind.i64.wrap ((bO d s i:Int)*3+ph)=(bO d s i:Int)*3+ph:=bI _ (by omega);have Tg:IntKind.i64.wrap ((i:Int)+1)=(i:Int)+1:=bI _ (by omega);by_cases he:i % 2=0
  ·rw[he] at ha
   by_cases wu:ph=0
   ·have hpb:((ph:Int) == 0)=true:=by simp[wu]
    simp[e27,e26,e25,e7,ff.e6,aA,GL,hgi,gc,hcl,hlt,ha,hpb,hw1,hw2,Tg];refine fin _ _ ((bO d s i:Int)*3+1) (by unfold xS;rw[if_pos he,if_pos wu]) ?_ ?_ ?_ ?_ ?_ ?_ ?_ ⟨?_,?_,?_,?_,?_,?_,?_,?_,?_,?_⟩
    ·simp[au,aj]
    ·simp[au,e26,aj]
    ·simp[au,e25,aA]
    ·simp[au,e7]
    ·simp[aG]
    ·intro k hk1 hk2;simp[aG,hk1,go k hk1 hk2]
    ·simp;omega
    ·simp[au,ff.e1]
    ·simp[au,ff.e2]
    ·simp[au,ff.e3]
    ·simp[au,ff.e4]
    ·simp[au,ff.e5]
    ·simp[au,ff.e12]
    ·simp[au,ff.e13]
    ·simp[au,ff.e14]
    ·simp[au,ff.e19]
    ·simp[au,ff.e6]
   ·have hpb:((ph:Int) == 0)=false:=beq_false_of_ne (by omega)
    simp[e27,e26,e25,e7,ff.e6,aA,GL,hgi,gc,hcl,hlt,ha,hpb,hw1,hw4,Tg];refine fin _ _ ((bO d s i:Int)*3+ph) (by unfold xS;rw[if_pos he,if_neg wu]) ?_ ?_ ?_ ?_ ?_ ?_ ?_ ⟨?_,?_,?_,?_,?_,?_,?_,?_,?_,?_⟩
    ·simp[au,aj]
    ·simp[au,e26,aj]
    ·simp[au,e25,aA]
    ·simp[au,e7]
    ·simp[aG]
    ·intro k hk1 hk2;simp[aG,hk1,go k hk1 hk2]
    ·simp;omega
    ·simp[au,ff.e1]
    ·simp[au,ff.e2]
    ·simp[au,ff.e3]
    ·simp[au,ff.e4]
    ·simp[au,ff.e5]
    ·simp[au,ff.e12]
    ·simp[au,ff.e13]
    ·simp[au,ff.e14]
    ·simp[au,ff.e19]
    ·simp[au,ff.e6]
  ·have he1:i % 2=1:=by omega
   rw[he1] at ha;by_cases wu:ph=1
   ·have hpb:((ph:Int) == 1)=true:=by simp[wu]
    simp[e27,e26,e25,e7,ff.e6,aA,GL,hgi,gc,hcl,hlt,ha,hpb,hw1,hw3,Tg];refine fin _ _ ((bO d s i:Int)*3+2) (by unfold xS;rw[if_neg he,if_pos wu]) ?_ ?_ ?_ ?_ ?_ ?_ ?_ ⟨?_,?_,?_,?_,?_,?_,?_,?_,?_,?_⟩
    ·simp[au,aj]
    ·simp[au,e26,aj]
    ·simp[au,e25,aA]
    ·simp[au,e7]
    ·simp[aG]
    ·intro k hk1 hk2;simp[aG,hk1,go k hk1 hk2]
    ·simp;omega
    ·simp[au,ff.e1]
    ·simp[au,ff.e2]
    ·simp[au,ff.e3]
    ·simp[au,ff.e4]
    ·simp[au,ff.e5]
    ·simp[au,ff.e12]
    ·simp[au,ff.e13]
    ·simp[au,ff.e14]
    ·simp[au,ff.e19]
    ·simp[au,ff.e6]
   ·have hpb:((ph:Int) == 1)=false:=beq_false_of_ne (by omega)
    simp[e27,e26,e25,e7,ff.e6,aA,GL,hgi,gc,hcl,hlt,ha,hpb,Tg];refine fin _ _ (-1) (by unfold xS;rw[if_neg he,if_neg wu]) ?_ ?_ ?_ ?_ ?_ ?_ ?_ ⟨?_,?_,?_,?_,?_,?_,?_,?_,?_,?_⟩
    ·simp[au,aj]
    ·simp[au,e26,aj]
    ·simp[au,e25,aA]
    ·simp[au,e7]
    ·simp[aG]
    ·intro k hk1 hk2;simp[aG,hk1,go k hk1 hk2]
    ·simp;omega
    ·simp[au,ff.e1]
    ·simp[au,ff.e2]
    ·simp[au,ff.e3]
    ·simp[au,ff.e4]
    ·simp[au,ff.e5]
    ·simp[au,ff.e12]
    ·simp[au,ff.e13]
    ·simp[au,ff.e14]
    ·simp[au,ff.e19]
    ·simp[au,ff.e6]
 ·have:i=sg:=by omega
  subst this;simp[e27,e26];refine hq _ _ ⟨le,by simp[au,e27],by simp[au,e26],by simp[au,e25],by simp[au,e7],gc,go,by simp;omega,⟨by simp[au,ff.e1],by simp[au,ff.e2],by simp[au,ff.e3],by simp[au,ff.e4],by simp[au,ff.e5],by simp[au,ff.e12],by simp[au,ff.e13],by simp[au,ff.e14],by simp[au,ff.e19],by simp[au,ff.e6]⟩⟩
structure H9(d:aD)(k:Nat)(nx en:AV)(rv:List AV)(S:St):Prop where
 g0:S.g 0=some (.arr 3 [aT d])
 g1:S.g 1=some (.arr 2 [.agg [.sl true [],.sl true []]])
 g2:S.g 2=some (.arr 2 [.agg [nx,en]])
 n:3≤S.n
 rows:lq S.g S.n [0,1,2] (nx::en::rv) (rv::((List.range k).map (tC d)).map aH::(List.range k).map fun i=>(jN d i).map aj)
theorem ZnY{g:Nat→Option aF}{n:Nat}{av:List Nat}{vs:List AV}{ls:List (List AV)}(h:lq g n av vs ls):∀z∈vs,z.cells.length=1:=by
 intro z hz;obtain⟨t,ht,rfl⟩:=List.mem_iff_getElem.mp hz;rcases h.row t ht (by rw[←h.len];exact ht) with⟨e,_⟩ | ⟨_,_,_,e,_⟩<;>rw[e]<;>rfl
theorem ZtG{P:Program}{d:aD}(R:bD d){sg:Nat}(hsg:d.signs=sg){row:List Int}{s ph c:Nat}(hs:s < d.next.length)(hp:ph < 3){f:AF}{S:St}{Q:Exit→AF→St→Prop}{nx en:AV}{rv:List AV}
  (ff:OY d row s ph f) (e7:f 7=.own c 0 sg) (gc:S.g c=some (.arr 1 ((jN d (3*s+ph)).map aj))) (hc:c < S.n∧c∉[0,1,2]∧∀w∈nx::en::rv,c∉w.ids) (st:H9 d (3*s+ph) nx en rv S)
  (hq:∀f' S' nx' en' rv',OY d row s ph f'→H9 d (3*s+ph+1) nx' en' rv' S'→Q .normal f' S'):AW P WA Q f S:=by
 obtain⟨g0,g1,g2,sn,rows⟩:=st;obtain⟨hv1,ho1,hs1,Zn⟩:=rows.head;obtain⟨hv2,ho2,hs2,CW⟩:=Zn.head;have hn2:=R.n2;have hrl:rv.length=3*s+ph:=by have:=CW.len;simpa using this
 have hfin:s < d.fin.length:=by rw[R.fin];exact hs
 have hfI:(s:Int) < d.fin.length:=by omega
 have hgf:d.fin[s]? = some d.fin[s]:=List.getElem?_eq_getElem hfin;have hcs1:nx.cells=[nx]:=by rcases hv1 with⟨e,_⟩ | ⟨_,_,_,e,_⟩<;>rw[e]<;>rfl
 have hcs2:en.cells=[en]:=by rcases hv2 with⟨e,_⟩ | ⟨_,_,_,e,_⟩<;>rw[e]<;>rfl
 have hb2:(((ph:Int) == 2)=true∧ph=2)∨(((ph:Int) == 2)=false∧ph≠2):=by
  by_cases h:ph=2
  ·left;simp[h]
  ·right;exact⟨beq_false_of_ne (by omega),h⟩
 have hnx:∀k∈[0,1,2],k∉nx.ids:=fun k hk h6=>(ho1 k h6).2 hk
 have hen:∀k∈[0,1,2],k∉en.ids:=fun k hk h6=>(ho2 k h6).2 hk
 have aa1:=hnx 2 (by simp);have hw2:∀m,(St.without ⟨m,S.g⟩ nx).g 2=some (.arr 2 [.agg [nx,en]]):=fun m=>by rw[mU 2 aa1];exact g2
 have hw0:∀m,(St.without ⟨m,S.g⟩ nx).g 0=some (.arr 3 [aT d]):=fun m=>by rw[mU 0 (hnx 0 (by simp))];exact g0
 have Zf:¬(2=S.n+4):=by omega
 have Td:¬(S.n+4=2):=by omega
 have hx:∀j∈nx.ids,j≠2:=fun j hj e=>aa1 (e ▸ hj)
 have aas:∀m m' b,(St.without ⟨m,((St.without ⟨m',S.g⟩ nx).set (S.n+4) b).g⟩ en).g 2=some (.arr 2 [.agg [nx,en]]):=fun m m' b=>by
  rw[mU 2 (hen 2 (by simp)),aG,if_neg Zf];exact hw2 m'
 have abG:¬(2=S.n+17):=by omega
 have aan:∀m b,Vec ((St.without ⟨m,S.g⟩ nx).set (S.n+4) b).g en 1 (((List.range (3*s+ph)).map (tC d)).map aH):=fun m b=>hv2.frame (fun j hj=>by
  rw[aG,if_neg (by have:=(ho2 j hj).1;omega),mU j (fun h6=>hs1 en (by simp) j h6 hj)])
 have abe:=Lm R hsg hs hp
 have key:∀(T:St) (b:Bool),b=tC d (3*s+ph)→S.n+22≤T.n→T.g 2=some (.arr 2 [.agg [.own (S.n+4) 0 (3*s+ph+1),.own (S.n+17) 0 (3*s+ph+1)]])→(∀k,k < S.n→k≠2→k∉nx.ids→k∉en.ids→T.g k=S.g k)→
   T.g (S.n+4)=some (.arr 1 (rv++[.own c 0 sg]))→T.g (S.n+17)=some (.arr 1 (((List.range (3*s+ph)).map (tC d)).map aH++[aH b]))→H9 d (3*s+ph+1) (.own (S.n+4) 0 (3*s+ph+1)) (.own (S.n+17) 0 (3*s+ph+1)) (rv++[.own c 0 sg]) T:=by
  intro T b hb hTn JW SF hT4 aaz
  have aaA:∀v∈rv,∀i∈v.ids,T.g i=S.g i:=fun v hv i hi=>by
   obtain⟨o1,o2⟩:=CW.out v hv i hi;exact SF i o1 (by intro e;subst e;simp at o2) (fun h6=>hs1 v (by simp[hv]) i h6 hi) (fun h6=>hs2 v hv i h6 hi)
  have r1:lq T.g T.n [0,1,2] rv ((List.range (3*s+ph)).map fun i=>(jN d i).map aj):=CW.frame (by omega) aaA;have hTc:T.g c=S.g c:=SF c hc.1 (by intro e;subst e;simp at hc) (hc.2.2 nx (by simp)) (hc.2.2 en (by simp))
  have r2:=r1.snoc (v:=.own c 0 sg) (l:=(jN d (3*s+ph)).map aj) (.mk' (by rw[hTc];exact gc) (by simp[abe])) (fun i hi=>by
   simp only[AV.ids,List.mem_singleton] at hi;subst hi;exact⟨by omega,hc.2.1⟩) (fun w hw i hi h6=>by
   simp only[AV.ids,List.mem_singleton] at h6;subst h6;exact hc.2.2 w (by simp[hw]) hi)
  have r3:=r2.cons (v:=.own (S.n+17) 0 (3*s+ph+1)) (l:=((List.range (3*s+ph)).map (tC d)).map aH++[aH b]) (.mk' aaz (by simp)) (fun i hi=>by
   simp only[AV.ids,List.mem_singleton] at hi;subst hi;exact⟨by omega,by simp⟩) (fun w hw i hi h6=>by
   simp only[AV.ids,List.mem_singleton] at hi;subst hi;have:=(r2.out w hw _ h6);rcases List.mem_append.mp hw with hw | hw
   ·have:=(CW.out w hw _ h6).1;omega
   ·simp at hw;subst hw;simp[AV.ids] at h6;omega)
  have r4:=r3.cons (v:=.own (S.n+4) 0 (3*s+ph+1)) (l:=rv++[.own c 0 sg]) (.mk' hT4 (by simp[hrl])) (fun i hi=>by
   simp only[AV.ids,List.mem_singleton] at hi;subst hi;exact⟨by omega,by simp⟩) (fun w hw i hi h6=>by
   simp only[AV.ids,List.mem_singleton] at hi;subst hi;rcases List.mem_cons.mp hw with hw | hw
   ·subst hw;simp[AV.ids] at h6
   ·rcases List.mem_append.mp hw with hw | hw
    ·have:=(CW.out w hw _ h6).1;omega
    ·simp at hw;subst hw;simp[AV.ids] at h6;omega)
  refine⟨?_,?_,JW,by omega,?_⟩
  ·rw[SF 0 (by omega) (by omega) (hnx 0 (by simp)) (hen 0 (by simp))];exact g0
  ·rw[SF 1 (by omega) (by omega) (hnx 1 (by simp)) (hen 1 (by simp))];exact g1
  ·have e1:((List.range (3*s+ph+1)).map (tC d)).map aH=((List.range (3*s+ph)).map (tC d)).map aH++[aH b]:=by
    rw[List.range_succ];simp[hb]
   have e2:((List.range (3*s+ph+1)).map fun i=>(jN d i).map aj)=((List.range (3*s+ph)).map fun i=>(jN d i).map aj)++[(jN d (3*s+ph)).map aj]:=by
    rw[List.range_succ];simp
   rw[e1,e2];exact r4
 have hwo:∀(m m':Nat) (b:Option aF) (k:Nat),k < S.n→k∉nx.ids→k∉en.ids→(St.without ⟨m,((St.without ⟨m',S.g⟩ nx).set (S.n+4) b).g⟩ en).g k=S.g k:=by
  intro m m' b k hk h1 h2;rw[mU k h2,aG,if_neg (by omega),mU k h1]
 have hw4:∀(m m':Nat) (b:Option aF),(St.without ⟨m,((St.without ⟨m',S.g⟩ nx).set (S.n+4) b).g⟩ en).g (S.n+4)=b:=by
  intro m m' b;rw[mU _ (fun h6=>by have:=(ho2 _ h6).1;omega),aG,if_pos rfl]
 have aa5:∀(j:Nat),j∈nx.ids∨j=S.n+4→¬j=2:=by
  rintro j (h | h)
  ·exact hx j h
  ·omega
 simp[WA,ff.e3,e7,g2];rw[Vec.K7 hv1 (ZnY CW) (by simp[AV.cells]) (by unfold dF;omega)];rcases hb2 with⟨hb,wu⟩ | ⟨hb,wu⟩
 ·simp[ff.e1,ff.e3,ff.e4,ff.e6,hw0,hw2,hb,aT,iY,hgf]
  refine⟨aa5,?_⟩;rw[Vec.K7 (xs:=((List.range (3*s+ph)).map (tC d)).map aH) (aan _ _) (by intro z hz;obtain⟨b,_,rfl⟩:=List.mem_map.mp hz;rfl) (by simp[AV.cells]) (by unfold dF;simp;omega)];simp[ff.e3,aas];refine hq _ _ _ _ _ ⟨?_,?_,?_,?_,?_,?_,?_,?_,?_,?_⟩ (key _ d.fin[s] ?_ ?_ ?_ ?_ ?_ ?_)
  ·simp[au,ff.e1]
  ·simp[au,ff.e2]
  ·simp[au,ff.e3]
  ·simp[au,ff.e4]
  ·simp[au,ff.e5]
  ·simp[au,ff.e12]
  ·simp[au,ff.e13]
  ·simp[au,ff.e14]
  ·simp[au,ff.e19]
  ·simp[au,ff.e6]
  ·have e1:(3*s+ph) % 3=2:=by omega
   have e2:(3*s+ph) / 3=s:=by omega
   simp[tC,e1,e2,hgf]
  ·simp[bB,sU]
  ·simp[aG,hrl]
  ·intro k hk h1 h2 h3
   simp only[aG];rw[if_neg h1,if_neg h1,if_neg (by omega)];exact hwo _ _ _ k hk h2 h3
  ·simp only[aG]
   rw[if_neg Td,if_neg Td,if_neg (by omega)];exact hw4 _ _ _
  ·simp only[aG]
   rw[if_neg (by omega),if_neg (by omega)];simp[aH]
 ·simp[ff.e3,ff.e6,hw2,hb]
  refine⟨aa5,?_⟩;rw[Vec.K7 (xs:=((List.range (3*s+ph)).map (tC d)).map aH) (aan _ _) (by intro z hz;obtain⟨b,_,rfl⟩:=List.mem_map.mp hz;rfl) (by simp[AV.cells]) (by unfold dF;simp;omega)];simp[ff.e3,aas];refine hq _ _ _ _ _ ⟨?_,?_,?_,?_,?_,?_,?_,?_,?_,?_⟩ (key _ false ?_ ?_ ?_ ?_ ?_ ?_)
  ·simp[au,ff.e1]
  ·simp[au,ff.e2]
  ·simp[au,ff.e3]
  ·simp[au,ff.e4]
  ·simp[au,ff.e5]
  ·simp[au,ff.e12]
  ·simp[au,ff.e13]
  ·simp[au,ff.e14]
  ·simp[au,ff.e19]
  ·simp[au,ff.e6]
  ·have e1:¬(3*s+ph) % 3=2:=by omega
   unfold tC;rw[decide_eq_false e1];rfl
  ·simp[bB,sU]
  ·simp[aG,hrl]
  ·intro k hk h1 h2 h3
   simp only[aG];rw[if_neg h1,if_neg h1,if_neg (by omega)];exact hwo _ _ _ k hk h2 h3
  ·simp only[aG]
   rw[if_neg Td,if_neg Td,if_neg (by omega)];exact hw4 _ _ _
  ·simp only[aG]
   rw[if_neg (by omega),if_neg (by omega)];simp[aH]
def phP(d:aD)(row:List Int)(s:Nat)(m:Nat)(f:AF)(S:St):Prop:=
 ∃ph nx en rv,ph≤3∧m=3 - ph∧f 1=.ptr 0 0 0∧f 2=.ptr 1 0 0∧f 3=.ptr 2 0 0∧f 4=aj s∧f 5=aA row∧f 12=aX d.next∧f 13=aj d.next.length∧f 14=aj s∧f 19=aj ph∧H9 d (3*s+ph) nx en rv S
theorem Zms{P:Program}{d:aD}(R:bD d){sg:Nat}(hsg:d.signs=sg){row:List Int}{s:Nat}(hs:s < d.next.length)(hrow:d.next[s]=row){f:AF}{S:St}{Q:Exit→AF→St→Prop}(h0:phP d row s 3 f S)
  (hq:∀f' S' nx en rv,f' 1=.ptr 0 0 0→f' 2=.ptr 1 0 0→f' 3=.ptr 2 0 0→f' 12=aX d.next→f' 13=aj d.next.length→f' 14=aj s→H9 d (3*(s+1)) nx en rv S'→Q .normal f' S'):AW P Vy Q f S:=by
 have hs1:=R.s1;have hs2:=R.s2;have hrl:row.length=sg:=by have:=R.row s hs;rw[hrow] at this;omega
 have q1:(sg:Int)≤9223372036854775807:=by omega
 have q2:8*(sg:Int)≤281474976710656:=by omega
 simp[Vy];refine vT (phP d row s) 3 h0 ?_;rintro m f S ⟨ph,nx,en,rv,hp,rfl,e1,e2,e3,e4,e5,e12,e13,e14,e19,st⟩;by_cases hlt:ph < 3
 ·have hpI:(ph:Int) < 3:=by omega
  have g0:=st.g0;simp[e1,e5,e19,g0,aT,hpI,hsg,DW,q1,q2,aA,hrl];refine ZuT R hsg (row:=row) (c:=S.n+1+2+2) (n0:=S.n+1+2+4+3) (g0:=(St.set ⟨S.n+1+2+4,S.g⟩ (S.n+1+2+2) (some (aF.arr 1 (List.replicate sg (AV.v (Value.int IntKind.i64 0)))))).g) hs hrow hlt (by omega) ⟨by omega,?_,?_,?_,?_,?_,fun _ _ _=>rfl,by simp,⟨?_,?_,?_,?_,?_,?_,?_,?_,?_,?_⟩⟩ ?_
  ·simp[au,aj]
  ·simp[au,aj]
  ·simp[au,aA]
  ·simp[au]
  ·simp[aG,wC,aj]
  ·simp[au,e1]
  ·simp[au,e2]
  ·simp[au,e3]
  ·simp[au,e4]
  ·simp[au,e5]
  ·simp[au,e12]
  ·simp[au,e13]
  ·simp[au,e14]
  ·simp[au,e19]
  ·simp[au,aj]
  ·rintro f' S' ⟨_,_,_,_,k7,kc,ko,kn,kf⟩
   obtain⟨g0,g1,g2,sn,rows⟩:=st
   have hko:∀k,k < S.n→S'.g k=S.g k:=fun k hk=>by
    rw[ko k (by omega) (by omega),aG,if_neg (by omega)]
   have hfull:wC d sg s ph sg=jN d (3*s+ph):=by
    unfold wC;rw[List.take_of_length_le (by rw[Lm R hsg hs hlt];exact Nat.le_refl _)];simp
   rw[hfull] at kc;simp only[dO];refine ZtG R hsg hs hlt kf k7 kc ⟨by omega,by simp<;>omega,fun w hw h6=>by have:=(rows.out w hw _ h6).1;omega⟩ ⟨by rw[hko 0 (by omega)];exact g0,by rw[hko 1 (by omega)];exact g1,by rw[hko 2 (by omega)];exact g2,by omega,rows.frame (by omega) (fun v hv i hi=>hko i (rows.out v hv i hi).1)⟩ ?_;intro f2 S2 nx' en' rv' CS st2;have w1:IntKind.i64.wrap ((ph:Int)+1)=(ph:Int)+1:=bI _ (by omega);simp[CS.e19,w1];obtain⟨g0,g1,g2,sn,rows⟩:=st2;refine⟨3 - (ph+1),by omega,ph+1,nx',en',rv',by omega,rfl,?_,?_,?_,?_,?_,?_,?_,?_,?_,⟨g0,g1,g2,by simp<;>omega,rows.frame (by simp) (fun _ _ _ _=>rfl)⟩⟩
   ·simp[au,CS.e1]
   ·simp[au,CS.e2]
   ·simp[au,CS.e3]
   ·simp[au,CS.e4]
   ·simp[au,CS.e5]
   ·simp[au,CS.e12]
   ·simp[au,CS.e13]
   ·simp[au,CS.e14]
   ·simp[au,aj]
 ·have:ph=3:=by omega
  subst this;simp[e19];refine hq _ _ nx en rv (by simp[au,e1]) (by simp[au,e2]) (by simp[au,e3]) (by simp[au,e12]) (by simp[au,e13]) (by simp[au,e14]) ?_;obtain⟨g0,g1,g2,sn,rows⟩:=st;exact⟨g0,g1,g2,by simp;omega,rows.frame (by simp) (fun _ _ _ _=>rfl)⟩
def phO(d:aD)(m:Nat)(f:AF)(S:St):Prop:=
 ∃s nx en rv,s≤d.next.length∧m=d.next.length - s∧f 1=.ptr 0 0 0∧f 2=.ptr 1 0 0∧f 3=.ptr 2 0 0∧f 12=aX d.next∧f 13=aj d.next.length∧f 14=aj s∧H9 d (3*s) nx en rv S
theorem Zbb{P:Program}(d:aD)(R:bD d):AW P Vm (bK [.c 2 (some 2)] (iQ (xC (pg d)))) (bP [aT d]) S0:=by
 obtain⟨sg,hsg⟩:∃sg:Nat,d.signs=sg:=⟨d.signs.toNat,by have:=R.s1;omega⟩;have hn2:=R.n2;simp[Vm,aT,aX];refine vT (phO d) d.next.length ⟨0,.sl true [],.sl true [],[],by omega,by omega,?_,?_,?_,?_,?_,?_,⟨?_,?_,?_,?_,?_⟩⟩ ?_
 ·simp[au]
 ·simp[au]
 ·simp[au]
 ·simp[au,aX]
 ·simp[au,aj]
 ·simp[au,aj]
 ·simp[aG,aT,aj,aX]
 ·simp[aG]
 ·simp[aG]
 ·simp
 ·exact .cons .nil (by simp[AV.ids]) (by simp[AV.ids]) (.cons .nil (by simp[AV.ids]) (by simp[AV.ids]) .nil)
 ·rintro m f S ⟨s,nx,en,rv,hsl,rfl,e1,e2,e3,e12,e13,e14,st⟩
  by_cases hlt:s < d.next.length
  ·have hsI:(s:Int) < d.next.length:=by omega
   have hgs:d.next[s]? = some d.next[s]:=List.getElem?_eq_getElem hlt
   simp[e12,e13,e14,aX,hsI,hgs,aA];refine Zms R hsg hlt (row:=d.next[s]) rfl ⟨0,nx,en,rv,by omega,rfl,?_,?_,?_,?_,?_,?_,?_,?_,?_,?_⟩ ?_
   ·simp[au,e1]
   ·simp[au,e2]
   ·simp[au,e3]
   ·simp[au,aj]
   ·simp[au,aA]
   ·simp[au,e12,aX]
   ·simp[au,e13]
   ·simp[au,e14]
   ·simp[au,aj]
   ·obtain⟨g0,g1,g2,sn,rows⟩:=st
    exact⟨g0,g1,g2,by simp<;>omega,rows.frame (by simp<;>omega) (fun _ _ _ _=>rfl)⟩
   ·intro f' S' nx' en' rv' k1 k2 k3 k12 k13 k14 st'
    have w1:IntKind.i64.wrap ((s:Int)+1)=(s:Int)+1:=bI _ (by omega);simp[k14,w1];obtain⟨g0,g1,g2,sn,rows⟩:=st';refine⟨d.next.length - (s+1),by omega,s+1,nx',en',rv',by omega,rfl,?_,?_,?_,?_,?_,?_,⟨g0,g1,g2,by simp;omega,rows.frame (by simp) (fun _ _ _ _=>rfl)⟩⟩
    ·simp[au,k1]
    ·simp[au,k2]
    ·simp[au,k3]
    ·simp[au,k12]
    ·simp[au,k13]
    ·simp[au,aj]
  ·have:s=d.next.length:=by omega
   subst this;obtain⟨g0,g1,g2,sn,rows⟩:=st;simp[e13,e14,e2,e3,g1,g2];obtain⟨hv1,_,_,Zn⟩:=rows.head;obtain⟨hv2,ho2,hs2,CW⟩:=Zn.head;have hno:∀v∈nx::en::rv,∀i∈v.ids,i≠1:=fun v hv i hi e=>(rows.out v hv i hi).2 (by subst e;simp)
   have hfr:∀{v:AV} {es:Nat} {xs:List AV},v∈nx::en::rv→Vec S.g v es xs→Vec (St.set ⟨S.n+1+2,S.g⟩ 1 (some (aF.arr 2 [AV.agg [nx,en]]))).g v es xs:=fun hv h=>h.frame (fun i hi=>by
    rw[aG,if_neg (hno _ hv i hi)])
   refine⟨[.agg [nx,en]],by simp[bV,RV.ev,gH,au,e2,aG,bq,dR],?_⟩;have hrl:rv.length=3*d.next.length:=by have:=CW.len;simpa using this
   refine Fz.agg _ _ rfl (fun i h1 h2=>?_)
   match i,h1 with
   | 0,_=>
    refine(hfr (by simp) hv1).fzL (zs:=(pg d).next.map aA) (by simp[pg,hrl]) (fun i k1 k2=>?_);have hv:=CW.row i k1 (by simp;omega);simp only[List.getElem_map,List.getElem_range] at hv;have:=(hfr (v:=rv[i]) (by simp) hv).fz aW;simpa[pg,aA] using this
   | 1,_=>
    have:=(hfr (by simp) hv2).fz (enc:=aH) dN;simpa[pg,iY] using this
end Go.Rf
