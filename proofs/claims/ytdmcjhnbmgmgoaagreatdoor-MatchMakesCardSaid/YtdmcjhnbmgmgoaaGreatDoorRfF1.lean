import Derived.Test.YtdmcjhnbmgmgoaaGreatDoorRfN3
import Derived.Recover
set_option linter.unusedVariables false
set_option linter.unusedSimpArgs false
set_option linter.unusedSectionVars false
namespace Go.Rf
open Go.RowKit
attribute [local simp] Z4c Z48 Z2M Z2a Z2P Z2R Z2Q Z4a Z4b Z1e Z16 Z0c Z0B Z0q Z08 Z0o Z0h Z09 Z0p Z0i Z0Y Z0j Z0z Z0K Z0k Z0J Z1W Z3U Z0X Z25 Z22 Z24 Z23 Z26 Z1j Z0D Z11 Z12 Z1T Z1U Z1V Z0H Z0I Z1i Z0r Z0W Z20 Z1X Z1Z Z1Y Z21 Z1k Z13 Z1g Z0U Z0V Z0C Z1h Z0P Z1a Z1f Z14 Z1l ex Z00 Z0R Z6K Z6P Z0f Z0g Z0A Z2k Z1d Z10 Z0y Z0F Z0G Z0E Z0s Z0Z Z5y Z0O Z37 Z1c Z1O Z1R Z3s Z0b Z1q Z19 Z0Q Z1F Z3S Z1P Z6A Z3C Z6z Z3w Z2Y Z3t Z6w Z3D Z51 AV.solid S0 Z06 Z1n
def Zix(P0T P05:FuncId):AC :=
 (.block 2 (.loop (.seq (.seq (.reg none [
    rm 43 10,
    rm 44 9,
    ro 45 (.len (.t 44)),
    ro 46 (.bin .lss (.t 43) (.t 45))])
   (.cond (.t 46) .skip (.exit 2)))
   (.seq (.block 3 (.seq (.reg (some []) [
    ro 49 (.fieldA 1 (.t 3)),
    ro 50 (.load none (.t 49)),
    rm 51 9,
    rm 52 10,
    ro 53 (.idxA 1 (.t 51) (.t 52)),
    ro 54 (.load none (.t 53)),
    ro 55 (.idxA 1 (.t 50) (.t 54)),
    ro 56 (.load none (.t 55)),
    rm 57 2,
    rk 58 P0T [(.t 56),(.t 57)]])
    (.cond (.t 58) (.reg none [
     rm 59 7,
     rm 60 9,
     rm 61 10,
     ro 62 (.idxA 1 (.t 60) (.t 61)),
     ro 63 (.load none (.t 62)),
     rk 64 P05 [(.t 59),(.t 63)],
     rm 7 64]) .skip)))
   (.reg none [
    rm 47 10,
    ro 48 (.bin .add (.t 47) (ci 1)),
    rm 10 48])))))
def ZjR(P0T P05:FuncId):AC :=
 (.block 0 (.loop (.seq (.seq (.reg none [
  rm 14 8,
  rm 15 1,
  ro 16 (.len (.t 15)),
  ro 17 (.bin .lss (.t 14) (.t 16))])
  (.cond (.t 17) .skip (.exit 0)))
  (.seq (.block 1 (.seq (.seq (.reg (some []) [
   rm 20 1,
   rm 21 8,
   ro 22 (.idxA 1 (.t 20) (.t 21)),
   ro 23 (.load none (.t 22)),
   ro 24 (.bin .lss (.t 23) (ci 0)),
   rm 25 24,
   rg 26 25 false (.mv (.t 1)),
   rg 27 25 false (.mv (.t 8)),
   rg 28 25 false (.idxA 1 (.t 26) (.t 27)),
   rg 29 25 false (.load none (.t 28)),
   rg 30 25 false (.fieldA 2 (.t 3)),
   rg 31 25 false (.load none (.t 30)),
   rg 32 25 false (.len (.t 31)),
   rg 33 25 false (.bin .geq (.t 29) (.t 32)),
   ro 34 (.pick (.t 25) (.c (.v (.bool true))) (.t 33))])
  (.cond (.t 34) (.exit 1) .skip))
  (.seq (.reg (some []) [
   ro 35 (.fieldA 2 (.t 3)),
   ro 36 (.load none (.t 35)),
   rm 37 1,
   rm 38 8,
   ro 39 (.idxA 1 (.t 37) (.t 38)),
   ro 40 (.load none (.t 39)),
   ro 41 (.idxA 1 (.t 36) (.t 40)),
   ro 42 (.load none (.t 41)),
   rm 9 42])
  (.seq (.reg none [
   ro 10 (.mv (ci 0))])
  (Zix P0T P05)))))
  (.reg none [
  rm 18 8,
  ro 19 (.bin .add (.t 18) (ci 1)),
  rm 8 19])))))
def Z5B(P1s P0T P05:FuncId):AC :=
 (.seq (.reg none [
 ro 3 (.box 4 (.t 0)),
 ro 6 (.mv (.c (.sl true [])))])
 (.seq (.reg none [
 ro 7 (.mv (.c (.sl true [])))])
 (.seq (.seq (.reg none [
 ro 11 (.load (some 4) (.t 3)),
 rk 12 P1s [(.t 11)],
 ro 13 (.un .not (.t 12))])
 (.cond (.t 13) (.seq (.reg none [
  ro 6 (.mv (.c (.sl true [])))])
 .ret) .skip))
 (.seq (.seq (.reg none [
 ro 8 (.mv (ci 0))])
 (ZjR P0T P05))
 (.seq (.reg none [
 rm 65 7,
 rm 6 65])
 .ret)))))
def Z8g(o l:List Int):List Int:=l.foldl Z7K o
theorem Zbr(o l m:List Int):Z8g o (l++m)=Z8g (Z8g o l) m:=by simp[Z8g]
structure RsS(n:Net)(at_:List Int)(sign:Int)(i:Nat)(cur:List Int)(f:AF)(S:St):Prop where
 e1:f 1=Z03 at_
 e8:f 8=Z06 i
 e2:f 2=Z06 sign
 e3:f 3=.ptr 0 0 0
 e7:Iv S.g (f 7) cur
 g0:S.g 0=some (.arr 4 [Z0M n])
 out:0∉(f 7).ids
theorem RsS.same{n:Net}{at_:List Int}{sign:Int}{i:Nat}{cur:List Int}{f f':AF}{S S':St}(h:RsS n at_ sign i cur f S)(hf:∀j,j=1∨j=8∨j=2∨j=3∨j=7→f' j=f j)(hg:S'.g=S.g):RsS n at_ sign i cur f' S' :=
 ⟨by rw[hf _ (by simp)];exact h.e1,by rw[hf _ (by simp)];exact h.e8,by rw[hf _ (by simp)];exact h.e2,by rw[hf _ (by simp)];exact h.e3,by rw[hg,hf _ (by simp)];exact h.e7,by rw[hg];exact h.g0,by rw[hf _ (by simp)];exact h.out⟩
theorem Zwo{P:Program}{fh fp:FuncId}{n:Net}(R:Z4H n)(hc:∀l∈n.by_,∀x,Z0t P fh [Z03 l,Z06 x] (Z1n (l.contains x)))(hp:∀l x,l.length≤100000→Z0t P fp [Z03 l,Z06 x] (Z03 (Z7K l x))){at_:List Int}{sign:Int}{i p:Nat}{cur:List Int}(hpl:p < n.follow.length)(hcur:cur.length≤1000){f:AF}{S:St}{Q:Exit→AF→St→Prop}
  (h:RsS n at_ sign i cur f S) (e9:f 9=Z03 n.follow[p]) (e10:f 10=Z06 0)
  (hk:∀f' S',RsS n at_ sign i (Z8g cur ((n.follow[p]).filter (ZbM n sign))) f' S'→Q .normal f' S'):AW P (Zix fh fp) Q f S:=by
 have hlen:=Za3 R hpl;simp[Zix];refine Z7F (n.follow[p]).length (fun k f S=>RsS n at_ sign i (Z8g cur (((n.follow[p]).take k).filter (ZbM n sign))) f S∧f 9=Z03 n.follow[p]∧f 10=Z06 k) ?_ ?_
 ·exact⟨by simpa[Z8g] using h,e9,e10⟩
 ·rintro k f S hk' ⟨h,e9,e10⟩
  generalize hrow:n.follow[p]=row at *;have e2:=h.e2;have e3:=h.e3;have g0:=h.g0;simp only[Z0M,Z0l] at g0;by_cases hlt:k < row.length
  ·have hat:1≤row[k]∧row[k] < n.by_.length:=by subst hrow;exact Zhg R hpl hlt
   have hge:(0:Int)≤row[k]:=by omega
   have hbl:(row[k]).toNat < n.by_.length:=by omega
   have hby:n.by_[(row[k]).toNat]? = some n.by_[(row[k]).toNat]:=List.getElem?_eq_getElem hbl;have hbs:ZbM n sign row[k]=(n.by_[(row[k]).toNat]).contains sign:=by simp[ZbM,List.getD_eq_getElem?_getD,hby]
   have kc:=hc _ (List.getElem_mem hbl) sign;have cc:=Z01 (Z02 n.by_[(row[k]).toNat]) (Z01 (Z04 sign) Z0a);simp only[Z03,Z06] at kc cc;have dc:∀m g',Z5A P fh [.sl false ((n.by_[(row[k]).toNat]).map Z06),.v (.int .i64 sign)] ⟨m,g'⟩ [] (Z1n ((n.by_[(row[k]).toNat]).contains sign)):=fun m g'=>Z5A.kl kc cc (Z0L _)
   have htk:row.take (k+1)=row.take k++[row[k]]:=by rw[List.take_add_one,List.getElem?_eq_getElem hlt];rfl
   have hcl:(Z8g cur ((row.take k).filter (ZbM n sign))).length≤2000:=by
    have q1:∀(l o:List Int),(Z8g o l).length≤o.length+l.length:=by
     intro l;induction l with
     | nil=>intro o;simp[Z8g]
     | cons x l ih =>
      intro o;have:=ih (Z7K o x);have:=Zky o x;simp only[Z8g,List.foldl_cons,List.length_cons] at *;omega
    have:=q1 ((row.take k).filter (ZbM n sign)) cur;have:=List.length_filter_le (ZbM n sign) (row.take k);have:(row.take k).length≤k:=by rw[List.length_take];omega
    omega
   simp[e9,e10,e2,e3,g0,hlt,Z03,hge,hby];refine⟨_,⟨_,dc _ _⟩,?_⟩;rw[←hbs];cases hb:ZbM n sign row[k] with
   | false =>
    simp[e9,e10,e2,e3,g0,hlt,Z03];rw[Z0m _ (by omega)];refine⟨hlt,?_,?_,?_⟩
    ·rw[htk,List.filter_append]
     simp only[List.filter_cons,hb,List.filter_nil,Bool.false_eq_true,if_false,List.append_nil];refine h.same (fun j hj=>?_) rfl;rcases hj with rfl | rfl | rfl | rfl | rfl<;>simp[Z00]
    ·simp[Z00,e9,Z03]
    ·simp[Z00,Z06]
   | true =>
    simp[e9,e10,e2,e3,g0,hlt,Z03];have kp:=hp (Z8g cur ((row.take k).filter (ZbM n sign))) row[k] (by omega);refine Z0x.gives (S:=⟨S.n+4+10+7,S.g⟩) (f 7).ids kp (FzL.cons h.e7.only.fz (FzL.cons (Zx3 _) .nil)) (Z02 _) ?_;simp[e9,e10,Z03];rw[Z0m _ (by omega)];refine⟨hlt,⟨?_,?_,?_,?_,?_,?_,?_⟩,?_,?_⟩
    ·simp[Z00,h.e1]
    ·simp[Z00,h.e8]
    ·simp[Z00,h.e2,Z06]
    ·simp[Z00,h.e3]
    ·rw[htk,List.filter_append]
     simp only[List.filter_cons,hb,List.filter_nil,if_true];rw[Zbr];simp only[Z00,if_true];exact .inl ⟨false,rfl⟩
    ·simp only[Z94]
     rw[if_neg h.out];exact h.g0
    ·simp[Z00,AV.ids]
    ·simp[Z00,e9,Z03]
    ·simp[Z00,Z06]
  ·have:row.take k=row:=List.take_of_length_le (by omega)
   rw[this] at h;simp[e9,e10,hlt,Z03];refine hk _ _ (h.same (fun j hj=>?_) rfl);rcases hj with rfl | rfl | rfl | rfl | rfl<;>simp[Z00]
theorem Zi3{n:Net}(R:Z4H n)(l:List Int)(sign:Int):(Z70 n l sign).length≤301:=by
 have hm:∀x∈Z70 n l sign,(1:Int)≤x∧x < n.by_.length:=by
  intro x hx;have hx:=Z4o.mp hx;simp only[Z3P,List.mem_flatMap] at hx;obtain⟨p,hp,hx⟩:=hx;unfold Z6v at hx;split at hx
  ·rename_i h
   have hpl:p.toNat < n.follow.length:=by omega
   rw[List.getD_eq_getElem?_getD,List.getElem?_eq_getElem hpl] at hx;exact(R.follow _ hpl).2 x (List.mem_filter.mp hx).1
  ·simp at hx
 have:=Zfd (Z8r (Z3P n l sign)) hm;have:=R.n2;show(Z6l (Z3P n l sign)).length≤301
 omega
theorem Zc1(l:List Int):Z8g [] l=Z6l l:=ZhF l
theorem Ziq{P:Program}{fr fh fp:FuncId}(n:Net)(ok:Zpi n)(hr:Z0t P fr [Z0M n] (Z1n (Z4p n)))(hc:∀l∈n.by_,∀x,Z0t P fh [Z03 l,Z06 x] (Z1n (l.contains x)))(hp:∀l x,l.length≤100000→Z0t P fp [Z03 l,Z06 x] (Z03 (Z7K l x)))(at_:List Int)(hat:Len at_)(sign:Int) :
  AW P (Z5B fr fh fp) (Z75 [6] (FzK (Z03 (if Z4p n=true then Z70 n at_ sign else [])))) (Z53 [Z0M n,Z03 at_,Z06 sign]) S0:=by
 have c1:=Z01 (Z1J n) Z0a;have hr':=hr;simp only[Z0M,Z06] at c1 hr';unfold Len at hat;simp[Z5B,Z0M];refine Z0x.pure hr' c1 (Z0L _) ?_;cases h:Z4p n with
 | false =>
  simp[Z03];exact .loose true [] (.sl _ _ (by simp))
 | true =>
  have R:=(Z5c n).mp h;have hfl:=R.len;have hn2:=R.n2;simp[ZjR];refine Z7F at_.length (fun i f S=>RsS n at_ sign i (Z6l (Z3P n (at_.take i) sign)) f S) ?_ ?_
  ·refine⟨?_,?_,?_,?_,?_,?_,?_⟩
   ·simp[Z00,Z0f,Z0g]
   ·simp[Z00,Z06]
   ·simp[Z00,Z0f,Z0g,Z06]
   ·simp[Z00]
   ·have hs0:Z6l []=[]:=List.eq_nil_of_length_eq_zero (by have:=ZcY [];simpa using this)
    simp[Z00,Z3P,hs0];exact .inl ⟨true,rfl⟩
   ·simp[Z0A,Z0M,Z06]
   ·simp[Z00,AV.ids]
  ·rintro i f S hi h
   have e1:=h.e1;have e8:=h.e8;have e3:=h.e3;have g0:=h.g0;simp only[Z0M,Z0l] at g0;by_cases hlt:i < at_.length
   ·have htk:=Zcf (n:=n) (sign:=sign) hlt
    have next:∀f' S',RsS n at_ sign i (Z6l (Z3P n (at_.take (i+1)) sign)) f' S'→∀a b,RsS n at_ sign (i+1) (Z6l (Z3P n (at_.take (i+1)) sign)) (((f'.put (some 18) a).put (some 19) b).put (some 8) (.v (.int .i64 ((i:Int)+1)))) ⟨S'.n+3,S'.g⟩:=by
     intro f' S' h' a b;refine⟨?_,?_,?_,?_,?_,h'.g0,?_⟩
     ·simp[Z00,h'.e1]
     ·simp[Z00,Z06]
     ·simp[Z00,h'.e2]
     ·simp[Z00,h'.e3]
     ·simp[Z00];exact h'.e7
     ·simp[Z00];exact h'.out
    by_cases h1:at_[i] < 0
    ·have hb1:Z6v n sign at_[i]=[]:=by unfold Z6v;rw[if_neg (by omega)]
     rw[hb1,List.append_nil] at htk;simp[e1,e8,e3,g0,hlt,Z03,h1];rw[Z0m _ (by omega)];refine⟨hlt,next _ ⟨_,S.g⟩ ?_ _ _⟩;rw[htk];refine h.same (fun j hj=>?_) rfl;rcases hj with rfl | rfl | rfl | rfl | rfl<;>simp[Z00]
    ·by_cases h2:(n.follow.length:Int)≤at_[i]
     ·have hb1:Z6v n sign at_[i]=[]:=by unfold Z6v;rw[if_neg (by omega)]
      rw[hb1,List.append_nil] at htk;simp[e1,e8,e3,g0,hlt,Z03,h1,h2];rw[Z0m _ (by omega)];refine⟨hlt,next _ ⟨_,S.g⟩ ?_ _ _⟩;rw[htk];refine h.same (fun j hj=>?_) rfl;rcases hj with rfl | rfl | rfl | rfl | rfl<;>simp[Z00]
     ·have hpl:(at_[i]).toNat < n.follow.length:=by omega
      have hge:(0:Int)≤at_[i]:=by omega
      have hgf:n.follow[(at_[i]).toNat]? = some n.follow[(at_[i]).toNat]:=List.getElem?_eq_getElem hpl
      have hb1:Z6v n sign at_[i]=(n.follow[(at_[i]).toNat]).filter (ZbM n sign):=by
       unfold Z6v;rw[if_pos (by omega),List.getD_eq_getElem?_getD,hgf];rfl
      have hcur:(Z6l (Z3P n (at_.take i) sign)).length≤1000:=by
       have:=Zi3 R (at_.take i) sign;unfold Z70 at this;omega
      simp[e1,e8,e3,g0,hlt,Z03,h1,h2,hge,hgf];refine Zwo R hc hp hpl hcur (h.same (fun j hj=>?_) rfl) ?_ ?_ (fun f' S' h'=>?_)
      ·rcases hj with rfl | rfl | rfl | rfl | rfl<;>simp[Z00]
      ·simp[Z00,Z03]
      ·simp[Z00,Z06]
      ·have e8':=h'.e8
       simp[e8'];rw[Z0m _ (by omega)];refine⟨hlt,next f' S' ?_ _ _⟩;rw[htk,hb1,←Zc1,Zbr,Zc1];exact h'
   ·have htk:at_.take i=at_:=List.take_of_length_le (by omega)
    rw[htk] at h;simp[e1,e8,hlt,Z03];exact h.e7.fz
def ZhS(n:Net)(l:List Int):List Int:=l.foldl (Z70 n) [0]
def Zm7(n:Net)(l:List Int):Bool:=Z4p n && (ZhS n l).any fun s=>n.last.contains s
def ZwQ(n:Net)(a:List Int)(s:Int):List Int:=if Z4p n=true then Z70 n a s else []
end Go.Rf
namespace Go.Rf
open Go.RowKit
def Ztw(l:List UInt8):Nat:=l.foldl (fun a b=>10*a+(b.toNat - 48)) 0
theorem ZqK(l:List UInt8)(b:UInt8):Ztw (l++[b])=10*Ztw l+(b.toNat - 48):=by simp[Ztw]
theorem Z8y{d:Nat}(h:d < 10):(UInt8.ofNat (48+d)).toNat=48+d:=by
 rw[UInt8.toNat_ofNat'];omega
theorem Z6e(n:Nat):Ztw (Lib.decDigits n)=n∧∀b∈Lib.decDigits n,b≠32:=by
 induction n using Nat.strongRecOn with
 | _ n ih =>
  rw[Lib.decDigits];split
  ·rename_i h
   refine⟨?_,?_⟩
   ·have:=Z8y h
    simp only[Ztw,List.foldl_cons,List.foldl_nil];omega
   ·intro b hb e
    simp only[List.mem_cons,List.not_mem_nil,or_false] at hb;have:=Z8y h;rw[←hb,e] at this;have h32:(32:UInt8).toNat=32:=rfl;omega
  ·rename_i h
   obtain⟨h1,h2⟩:=ih (n / 10) (by omega);have hd:n % 10 < 10:=Nat.mod_lt _ (by omega);refine⟨?_,?_⟩
   ·rw[ZqK,h1,Z8y hd];omega
   ·intro b hb e
    rcases List.mem_append.mp hb with hb | hb
    ·exact h2 b hb e
    ·simp only[List.mem_cons,List.not_mem_nil,or_false] at hb
     have:=Z8y hd;rw[←hb,e] at this;have h32:(32:UInt8).toNat=32:=rfl;omega
theorem Znf{b:UInt8}:∀{xs ys us vs:List UInt8},(∀x∈xs,x≠b)→(∀y∈ys,y≠b)→xs++b::us=ys++b::vs→xs=ys∧us=vs
 | [],[],us,vs,_,_,h=>by simp at h;exact⟨rfl,h⟩
 | [],y::ys,us,vs,_,hy,h=>by simp at h;exact(hy y (by simp) h.1.symm).elim
 | x::xs,[],us,vs,hx,_,h=>by simp at h;exact(hx x (by simp) h.1).elim
 | x::xs,y::ys,us,vs,hx,hy,h=>by
  simp only[List.cons_append,List.cons.injEq] at h;obtain⟨h1,h2⟩:=Znf (fun z hz=>hx z (by simp[hz])) (fun z hz=>hy z (by simp[hz])) h.2;exact⟨by rw[h.1,h1],h2⟩
def Z7q(l:List Int):Prop:=∀n∈l,0≤n
theorem ZdL{n:Int}(h:0≤n):Lib.itoa n=Lib.decDigits n.toNat:=by unfold Lib.itoa;rw[if_neg (by omega)]
theorem Z8K(n:Int)(l:List Int):Z5Q (n::l)=Lib.itoa n++32::Z5Q l:=by simp[Z5Q]
theorem Zi8:∀{l m:List Int},Z7q l→Z7q m→Z5Q l=Z5Q m→l=m
 | [],[],_,_,_=>rfl
 | [],n::m,_,_,h=>by rw[Z8K] at h;simp[Z5Q] at h
 | n::l,[],_,_,h=>by rw[Z8K] at h;simp[Z5Q] at h
 | n::l,k::m,hl,hm,h=>by
  have hn:=hl n (by simp);have hk:=hm k (by simp);rw[Z8K,Z8K,ZdL hn,ZdL hk] at h;obtain⟨h1,h2⟩:=Znf (Z6e _).2 (Z6e _).2 h;have:=congrArg Ztw h1;rw[(Z6e _).1,(Z6e _).1] at this;rw[Zi8 (fun z hz=>hl z (by simp[hz])) (fun z hz=>hm z (by simp[hz])) h2];congr 1;omega
def Z8S:Nat→List (List Int)→List (AV×AV)
 | _,[]=>[]
 | k,s::ss=>(Z8s (Z5Q s),Z06 k)::Z8S (k+1) ss
theorem ZqS(a b:Array UInt8):((⟨a⟩:ByteArray) == ⟨b⟩)=(a == b):=rfl
theorem ZnS(l m:List Int)(hl:Z7q l)(hm:Z7q m):Z8C (Z8s (Z5Q l)) (Z8s (Z5Q m))=decide (l=m):=by
 have:Z8C (Z8s (Z5Q l)) (Z8s (Z5Q m))=((⟨(Z5Q l).toArray⟩:ByteArray) == ⟨(Z5Q m).toArray⟩):=rfl;rw[this,ZqS];by_cases h:l=m
 ·subst h;simp
 ·simp only[h,decide_false,beq_eq_false_iff_ne,ne_eq]
  intro e;refine h (Zi8 hl hm ?_);simpa using e
theorem Zhe{x:List Int}(hx:Z7q x):∀(ss:List (List Int)) (k:Nat),(∀s∈ss,Z7q s)→Z8B (Z8s (Z5Q x)) (Z8S k ss)=if x∈ss then some (Z06 (k+ss.idxOf x:Nat)) else none
 | [],k,h=>by simp[Z8S,Z8B]
 | s::ss,k,h=>by
  simp only[Z8S,Z8B];rw[ZnS x s hx (h s (by simp)),Zhe hx ss (k+1) (fun z hz=>h z (by simp[hz]))];by_cases hs:x=s
  ·subst hs;simp
  ·have hs':s≠x:=fun e=>hs e.symm
   simp only[hs,decide_false,Bool.false_eq_true,if_false,List.mem_cons,false_or];by_cases hm:x∈ss
   ·rw[if_pos hm,if_pos hm,List.idxOf_cons,show(s == x)=false by simpa using hs',cond_false]
    congr 2;omega
   ·rw[if_neg hm,if_neg hm]
theorem ZkN{x:List Int}(hx:Z7q x):∀(ss:List (List Int)) (k:Nat),(∀s∈ss,Z7q s)→x∉ss→Zcn (Z8s (Z5Q x)) (Z06 (k+ss.length:Nat)) (Z8S k ss)=Z8S k (ss++[x])
 | [],k,h,_=>by simp[Z8S,Zcn]
 | s::ss,k,h,hn=>by
  simp only[List.mem_cons,not_or] at hn;simp only[Z8S,Zcn,List.cons_append];rw[ZnS x s hx (h s (by simp)),if_neg (by simpa using hn.1)];have:=ZkN hx ss (k+1) (fun z hz=>h z (by simp[hz])) hn.2;rw[←this];congr 3;simp only[List.length_cons];omega
theorem ZdB(x:List Int):∀(ss:List (List Int)) (k:Nat),isK .str (Z8s (Z5Q x))=true∧∀e∈Z8S k ss,isK .str e.1=true
 | [],k=>⟨rfl,by simp[Z8S]⟩
 | s::ss,k=>⟨rfl,fun e he=>by
  simp only[Z8S,List.mem_cons] at he;rcases he with rfl | he
  ·rfl
  ·exact(ZdB x ss (k+1)).2 e he⟩
end Go.Rf
namespace Go.Rf
open Go.RowKit
attribute [local simp] Z4c Z48 Z2M Z2a Z2P Z2R Z2Q Z4a Z4b Z1e Z16 Z0c Z0B Z0q Z08 Z0o Z0h Z09 Z0p Z0i Z0Y Z0j Z0z Z0K Z0k Z0J Z1W Z3U Z0X Z25 Z22 Z24 Z23 Z26 Z1j Z0D Z11 Z12 Z1T Z1U Z1V Z0H Z0I Z1i Z0r Z0W Z20 Z1X Z1Z Z1Y Z21 Z1k Z13 Z1g Z0U Z0V Z0C Z1h Z0P Z1a Z1f Z14 Z1l ex Z00 Z0R Z6K Z6P Z0f Z0g Z0A Z2k Z1d Z10 Z0y Z0F Z0G Z0E Z0s Z0Z Z5y Z0O Z37 Z1c Z1O Z1R Z3s Z0b Z1q Z19 Z0Q Z1F Z3S Z1P Z6A Z3C Z6z Z3w Z2Y Z3t Z6w Z3D Z51 AV.solid S0 Z06 Z1n
def Z60(P4X f_T:FuncId):AC :=
 (.seq (.reg none [
 ro 4 (.mv (ci 0))])
 (.seq (.regX [
 rm 8 1,
 rk 9 P4X [(.t 8)],
 rm 5 9] none)
 (.seq (.reg none [
 rm 11 0,
 ro 12 (.nilc (.t 11)),
 ro 13 (.fieldA 5 (.t 12)),
 ro 14 (.load none (.t 13)),
 rm 15 5,
 ro 16 (.look .str (.v (.int .i64 0)) true (.t 14) (.t 15)),
 rm 10 16,
 ro 17 (.ext 0 (.t 10)),
 ro 18 (.ext 1 (.t 10)),
 rm 6 17,
 rm 7 18])
 (.seq (.seq (.reg none [
 rm 19 7,
 ro 20 (.un .not (.t 19))])
 (.cond (.t 20) (.seq (.seq (.reg none [
  rm 21 0,
  ro 22 (.nilc (.t 21)),
  ro 23 (.fieldA 6 (.t 22)),
  ro 24 (.load none (.t 23)),
  ro 25 (.len (.t 24)),
  rm 6 25])
 (.seq (.reg none [
  rm 26 6,
  rm 27 0,
  ro 28 (.nilc (.t 27)),
  ro 29 (.fieldA 4 (.t 28)),
  ro 30 (.load none (.t 29)),
  ro 31 (.bin .eql (.t 26) (.t 30))])
 (.cond (.t 31) (.regX [
  ro 32 (.build (.agg []) [] []),
  ro 33 (.mki f_T (.t 32))] (some (.t 33))) .skip)))
 (.seq (.reg none [
  rm 34 0,
  ro 35 (.nilc (.t 34)),
  ro 36 (.fieldA 5 (.t 35)),
  ro 37 (.load none (.t 36)),
  rm 38 5,
  rm 39 6,
  rn (.mset .str (.t 37) (.t 38) (.t 39))])
 (.reg none [
  rm 40 0,
  rm 41 0,
  ro 42 (.nilc (.t 41)),
  ro 43 (.fieldA 6 (.t 42)),
  ro 44 (.load none (.t 43)),
  rm 45 1,
  ro 46 (.bslice 1 1 (.sl true []) [(0,(.t 45))]),
  ro 47 (.app 1 24 (.t 44) (.t 46)),
  ro 48 (.nilc (.t 40)),
  ro 49 (.fieldA 6 (.t 48)),
  rn (.store 1 (.t 49) (.t 47))]))) .skip))
 (.seq (.reg none [
 rm 50 6,
 rm 4 50])
 .ret)))))
structure MkS(S:St)(id km:Nat)(n:Net)(most:Int)(ss:List (List Int))(v:AV):Prop where
 g:S.g id=some (.arr 7 [.agg [Z06 n.signs,Z0l n.by_,Z0l n.follow,Z03 n.last,Z06 most,.mp km,v]])
 m:S.g km=some (.map (Z8S 0 ss))
 vec:Vec S.g v 1 (ss.map Z03)
 ne:id≠km
 hv:∀i∈v.ids,i≠id∧i≠km
 lid:id < S.n
 lkm:km < S.n
 lv:∀i∈v.ids,i < S.n
structure Frm(S S':St)(R:List Nat):Prop where
 n:S.n≤S'.n
 g:∀i,i < S.n→i∉R→S'.g i=S.g i
section
variable{g:Nat→Option Blk}{km m nid:Nat}{ss:List (List Int)}{x:List Int}
theorem Zg1(hg:g km=some (.map (Z8S 0 ss)))(hx:Z7q x)(hs:∀s∈ss,Z7q s) :
  (Zat .str (.v (.int .i64 0)) true (.mp km) (Z8s (Z5Q x))).run ⟨m,g⟩ nid=some (.tup [Z06 (if x∈ss then (ss.idxOf x:Int) else 0),.v (.bool (decide (x∈ss)))],⟨m,g⟩):=by
 have hk:=ZdB x ss 0;simp only[Zat,Eff.P3b,hg,Option.bind_some,if_pos hk,Zhe hx ss 0 hs];by_cases h:x∈ss
 ·simp[h,Z06]
 ·simp[h,Z06]
theorem Zqa(hg:g km=some (.map (Z8S 0 ss)))(hx:Z7q x)(hs:∀s∈ss,Z7q s)(hn:x∉ss) :
  (Zbg .str (.mp km) (Z8s (Z5Q x)) (.v (.int .i64 ss.length))).run ⟨m,g⟩ nid=some (.junk,(St.mk m g).set km (some (.map (Z8S 0 (ss++[x]))))):=by
 have hk:=ZdB x ss 0;have h:=ZkN hx ss 0 hs hn;rw[Nat.zero_add] at h;have h':Zcn (Z8s (Z5Q x)) (.v (.int .i64 ss.length)) (Z8S 0 ss)=Z8S 0 (ss++[x]):=h;simp only[Zbg,Eff.P4m,hg,Option.bind_some,if_pos hk,h',Option.map_some]
end
theorem Zj9{P:Program}{ft fT:FuncId}{id km:Nat}{n:Net}{most:Int}{ss:List (List Int)}{v:AV}{set:List Int}{S:St}(M:MkS S id km n most ss v)(ht:Z0t P ft [Z03 set] (Z8s (Z5Q set)))
  (hx:Z7q set) (hs:∀s∈ss,Z7q s) (hlen:(ss.length:Int)≤most) (hmost:most≤3000) {K:AV→St→Prop} {X:Value→St→Prop}
  (hK1:set∈ss→∀m,S.n≤m→K (Z06 (ss.idxOf set)) ⟨m,S.g⟩)
  (hK2:set∉ss→(ss.length:Int) < most→∀S' v',MkS S' id km n most (ss++[set]) v'→Frm S S' (id::km::v.ids)→(∀i∈v'.ids,S.n≤i)→K (Z06 ss.length) S')
  (hX:set∉ss→(ss.length:Int)=most→∀m,S.n≤m→X (.iface fT (.agg #[])) ⟨m,S.g⟩) :
  AW P (Z60 ft fT) (Zm6 [.t 4] K X) (Z53 [.ptr id 0 0,Z03 set]) S:=by
 have hg:=M.g;have hm:=M.m;unfold Z60;simp[Z1u,Z4h,Z4e,Z4i,Z4g,Z4f,Z2N,Z2S,Z2T,Z2X,Z4d,Z2g,Z2b,Z1v,Z2e,Z2O,Z1G,Z1m,Z2V,Z2d,Z15,Z5O,Z3T,Z1L];refine Z7o.ofR (Z0x.pure ht (Z01 (Z02 _) Z0a) (.v _) ?_);by_cases hin:set∈ss
 ·simp[Z1u,Z4h,Z4e,Z4i,Z4g,Z4f,Z2N,Z2S,Z2T,Z2X,Z4d,Z2g,Z2b,Z1v,Z2e,Z2O,Z1G,Z1m,Z2V,Z2d,Z15,Z5O,Z3T,Z1L,hg,Zg1 hm hx hs,Eff.P3b,Eff.P0F,Z47,hin,Z2L,evC,RV.ev,Z1b]
  exact hK1 hin _ (by omega)
 ·have hlv:=M.vec.len
  rw[List.length_map] at hlv;simp only[Z3S] at hlv;by_cases hfull:(ss.length:Int)=most
  ·have hbe:((ss.length:Int) == most)=true:=by simpa using hfull
   simp[Z1u,Z4h,Z4e,Z4i,Z4g,Z4f,Z2N,Z2S,Z2T,Z2X,Z4d,Z2g,Z2b,Z1v,Z2e,Z2O,Z1G,Z1m,Z2V,Z2d,Z15,Z5O,Z3T,Z1L,hg,Zg1 hm hx hs,Eff.P3b,Eff.P0F,Z47,hin,Z2L,evC,RV.ev,Z1b,hlv,hbe,Z0w,Z1t];exact hX hin hfull _ (by omega)
  ·have hbe:((ss.length:Int) == most)=false:=by simpa using hfull
   have hne:=M.ne;have hce:(Z03 set).cells=[Z03 set]:=rfl;have hso:(Z03 set).solid=true:=rfl;simp only[AV.solid] at hso;have hat:(Z03 set).atom=true:=rfl;simp[Z1u,Z4h,Z4e,Z4i,Z4g,Z4f,Z2N,Z2S,Z2T,Z2X,Z4d,Z2g,Z2b,Z1v,Z2e,Z2O,Z1G,Z1m,Z2V,Z2d,Z15,Z5O,Z3T,Z1L,hg,Zg1 hm hx hs,Eff.P3b,Eff.P0F,Z47,hin,Z2L,evC,RV.ev,Z1b,hlv,hbe,Zqa hm hx hs hin,hne,hce,hso,hat]
   have hvf:∀k:Nat,Vec (St.set ⟨k,S.g⟩ km (some (.map (Z8S 0 (ss++[set]))))).g v 1 (ss.map Z03):=fun k=>M.vec.frame fun i hi=>by
    rw[Z0A,if_neg (M.hv i hi).2]
   rw[Vec.app (hvf _) (by intro z hz;obtain⟨s,_,rfl⟩:=List.mem_map.mp hz;rfl) rfl (by rw[List.length_map];unfold Z1K;omega)];have hid:id∉v.ids:=fun h=>(M.hv id h).1 rfl
   have hkm:km∉v.ids:=fun h=>(M.hv km h).2 rfl
   generalize hq:S.n+1+3+11+2+6+6+7=q;have hidq:id≠q+7:=by have:=M.lid;omega
   simp[Z1u,Z4h,Z4e,Z4i,Z4g,Z4f,Z2N,Z2S,Z2T,Z2X,Z4d,Z2g,Z2b,Z1v,Z2e,Z2O,Z1G,Z1m,Z2V,Z2d,Z15,Z5O,Z3T,Z1L,hg,Eff.P3b,Eff.P4m,Eff.P0F,Z47,Z2L,evC,RV.ev,Z1b,hne,hso,Z4Y id hid,Z6q,hidq];have hkq:km≠q+7:=by have:=M.lkm;omega
   have hnk:km≠id:=fun e=>hne e.symm
   refine hK2 hin (by omega) _ (.own (q+7) 0 (ss.length+1)) ⟨?_,?_,?_,M.ne,?_,?_,?_,?_⟩ ⟨?_,?_⟩ ?_
   ·simp[Z0A,Z06]
   ·simp[Z0A,hnk,hkq,Z4Y km hkm]
   ·refine Vec.mk' (xs:=(ss++[set]).map Z03) ?_ (by simp)
    have:q+7≠id:=fun e=>hidq e.symm
    simp[Z0A,this]
   ·intro i hi
    simp only[AV.ids,List.mem_cons,List.not_mem_nil,or_false] at hi;subst hi;exact⟨fun e=>hidq e.symm,fun e=>hkq e.symm⟩
   ·show id < q+11+2
    have:=M.lid;omega
   ·show km < q+11+2
    have:=M.lkm;omega
   ·intro i hi
    simp only[AV.ids,List.mem_cons,List.not_mem_nil,or_false] at hi;subst hi;show q+7 < q+11+2
    omega
   ·show S.n≤q+11+2
    omega
   ·intro i hi hR
    simp only[List.mem_cons,not_or] at hR;have:i≠q+7:=by omega
    simp[Z0A,hR.1,hR.2.1,this,Z4Y i hR.2.2]
   ·intro i hi
    simp only[AV.ids,List.mem_cons,List.not_mem_nil,or_false] at hi;omega
end Go.Rf
namespace Go.Rf
open Go.RowKit
attribute [local simp] Z4c Z48 Z2M Z2a Z2P Z2R Z2Q Z4a Z4b Z1e Z16 Z0c Z0B Z0q Z08 Z0o Z0h Z09 Z0p Z0i Z0Y Z0j Z0z Z0K Z0k Z0J Z1W Z3U Z0X Z25 Z22 Z24 Z23 Z26 Z1j Z0D Z11 Z12 Z1T Z1U Z1V Z0H Z0I Z1i Z0r Z0W Z20 Z1X Z1Z Z1Y Z21 Z1k Z13 Z1g Z0U Z0V Z0C Z1h Z0P Z1a Z1f Z14 Z1l ex Z00 Z0R Z6K Z6P Z0f Z0g Z0A Z2k Z1d Z10 Z0y Z0F Z0G Z0E Z0s Z0Z Z5y Z0O Z37 Z1c Z1O Z1R Z3s Z0b Z1q Z19 Z0Q Z1F Z3S Z1P Z6A Z3C Z6z Z3w Z2Y Z3t Z6w Z3D Z51 AV.solid S0 Z06 Z1n
def Ziw(P09:FuncId):AC :=
 (.block 2 (.loop (.seq (.reg none [
    ro 28 (.bin .lss (.t 27) (.t 26))])
   (.seq (.cond (.t 28) .skip (.exit 2))
   (.seq (.block 3 (.seq (.reg none [
    ro 29 (.idxA 1 (.t 25) (.t 27)),
    ro 30 (.load none (.t 29)),
    rm 11 30])
    (.seq (.reg none [
    rm 31 0,
    ro 32 (.nilc (.t 31)),
    ro 33 (.fieldA 0 (.t 32)),
    ro 34 (.fieldA 1 (.t 33)),
    ro 35 (.load none (.t 34)),
    rm 36 11,
    ro 37 (.idxA 1 (.t 35) (.t 36)),
    ro 38 (.load none (.t 37)),
    rm 39 2,
    rk 40 P09 [(.t 38),(.t 39)]])
    (.cond (.t 40) (.reg none [
     rm 41 7,
     rm 42 11,
     ro 43 (.bslice 1 1 (.v (.int .i64 0)) [(0,(.t 42))]),
     ro 44 (.app 1 8 (.t 41) (.t 43)),
     rm 7 44]) .skip))))
   (.reg none [
    ro 45 (.bin .add (.t 27) (ci 1)),
    rm 27 45]))))))
def ZjF(P09:FuncId):AC :=
 (.block 0 (.loop (.seq (.reg none [
  ro 15 (.bin .lss (.t 14) (.t 13))])
  (.seq (.cond (.t 15) .skip (.exit 0))
  (.seq (.block 1 (.seq (.reg none [
   ro 16 (.idxA 1 (.t 12) (.t 14)),
   ro 17 (.load none (.t 16)),
   rm 9 17])
  (.seq (.reg none [
   rm 18 0,
   ro 19 (.nilc (.t 18)),
   ro 20 (.fieldA 0 (.t 19)),
   ro 21 (.fieldA 2 (.t 20)),
   ro 22 (.load none (.t 21)),
   rm 23 9,
   ro 24 (.idxA 1 (.t 22) (.t 23)),
   ro 25 (.load none (.t 24)),
   ro 26 (.len (.t 25)),
   ro 27 (.mv (ci 0))])
  (Ziw P09))))
  (.reg none [
  ro 46 (.bin .add (.t 14) (ci 1)),
  rm 14 46]))))))
def Z6s(P09 P06 P04:FuncId):AC :=
 (.seq (.reg none [
 ro 6 (.mv (.c (.sl true [])))])
 (.seq (.reg none [
 ro 7 (.mv (.c (.sl true [])))])
 (.seq (.seq (.reg none [
 rm 12 1,
 ro 13 (.len (.t 12)),
 ro 14 (.mv (ci 0))])
 (ZjF P09))
 (.seq (.reg none [
 rm 47 7,
 rk 48 P06 [(.t 47)]])
 (.seq (.reg none [
 rm 49 7,
 rk 50 P04 [(.t 49)],
 rm 6 50])
 .ret)))))
def Z6r(P3E P0c:FuncId):AC :=
 (.seq (.reg none [
 ro 2 (.box 1 (.t 0)),
 ro 4 (.mv (.c (.v (.bool false))))])
 (.seq (.reg none [
 rm 5 1,
 ro 6 (.mkf P3E [] [(.t 2)]),
 rk 7 P0c [(.t 5),(.t 6)],
 rm 4 7])
 .ret))
def Z5Z(P09:FuncId):AC :=
 (.seq (.reg none [
 ro 3 (.mv (.c (.v (.bool false))))])
 (.seq (.reg none [
 ro 4 (.load none (.t 1)),
 ro 5 (.nilc (.t 4)),
 ro 6 (.fieldA 0 (.t 5)),
 ro 7 (.fieldA 3 (.t 6)),
 ro 8 (.load none (.t 7)),
 rm 9 0,
 rk 10 P09 [(.t 8),(.t 9)],
 rm 3 10])
 .ret))
def Zck(n:Net):AV:=.eptr (Z0M n) 0
structure DsS(n:Net)(at_:List Int)(sign:Int)(i:Nat)(cur:List Int)(f:AF)(S:St):Prop where
 e12:f 12=Z03 at_
 e13:f 13=Z06 at_.length
 e14:f 14=Z06 i
 e2:f 2=Z06 sign
 e0:f 0=Zck n
 vec:Vec S.g (f 7) 1 (cur.map Z06)
 nil:cur=[]→f 7=.sl true []
theorem DsS.same{n:Net}{at_:List Int}{sign:Int}{i:Nat}{cur:List Int}{f f':AF}{S S':St}(h:DsS n at_ sign i cur f S)(hf:∀j,j=12∨j=13∨j=14∨j=2∨j=0∨j=7→f' j=f j)(hg:S'.g=S.g):DsS n at_ sign i cur f' S' :=
 ⟨by rw[hf _ (by simp)];exact h.e12,by rw[hf _ (by simp)];exact h.e13,by rw[hf _ (by simp)];exact h.e14,by rw[hf _ (by simp)];exact h.e2,by rw[hf _ (by simp)];exact h.e0,by rw[hg,hf _ (by simp)];exact h.vec,fun e=>by rw[hf _ (by simp)];exact h.nil e⟩
theorem Zw1{P:Program}{fc:FuncId}{n:Net}(R:Z4H n)(hc:∀l∈n.by_,∀x,Z0t P fc [Z03 l,Z06 x] (Z1n (l.contains x))){at_:List Int}{sign:Int}{i p:Nat}{cur:List Int}(hp:p < n.follow.length)(hcur:cur.length≤100000000){f:AF}{S:St}{Q:Exit→AF→St→Prop}
  (h:DsS n at_ sign i cur f S) (e25:f 25=Z03 n.follow[p]) (e26:f 26=Z06 (n.follow[p]).length) (e27:f 27=Z06 0)
  (hk:∀f' S',DsS n at_ sign i (cur++(n.follow[p]).filter (ZbM n sign)) f' S'→Q .normal f' S'):AW P (Ziw fc) Q f S:=by
 have hlen:=Za3 R hp;simp[Ziw];refine Z7F (n.follow[p]).length (fun k f S=>DsS n at_ sign i (cur++((n.follow[p]).take k).filter (ZbM n sign)) f S∧f 25=Z03 n.follow[p]∧f 26=Z06 (n.follow[p]).length∧f 27=Z06 k) ?_ ?_
 ·exact⟨by simpa using h,e25,e26,e27⟩
 ·rintro k f S hk' ⟨h,e25,e26,e27⟩
  generalize hrow:n.follow[p]=row at *;have e2:=h.e2;have e0:=h.e0;simp only[Zck,Z0M,Z0l] at e0;by_cases hlt:k < row.length
  ·have hat:1≤row[k]∧row[k] < n.by_.length:=by subst hrow;exact Zhg R hp hlt
   have hge:(0:Int)≤row[k]:=by omega
   have hbl:(row[k]).toNat < n.by_.length:=by omega
   have hby:n.by_[(row[k]).toNat]? = some n.by_[(row[k]).toNat]:=List.getElem?_eq_getElem hbl;have hbs:ZbM n sign row[k]=(n.by_[(row[k]).toNat]).contains sign:=by simp[ZbM,List.getD_eq_getElem?_getD,hby]
   have kc:=hc _ (List.getElem_mem hbl) sign;have cc:=Z01 (Z02 n.by_[(row[k]).toNat]) (Z01 (Z04 sign) Z0a);simp only[Z03,Z06] at kc cc;have htk:row.take (k+1)=row.take k++[row[k]]:=by rw[List.take_add_one,List.getElem?_eq_getElem hlt];rfl
   have hcl:(cur++(row.take k).filter (ZbM n sign)).length≤200000000:=by
    have:=List.length_filter_le (ZbM n sign) (row.take k);have:(row.take k).length≤k:=by rw[List.length_take];omega
    rw[List.length_append];omega
   simp[e25,e26,e27,e2,e0,hlt,Z03,hge,hby,Z47];refine Z0x.pure kc cc (Z0L _) ?_;rw[←hbs];cases hb:ZbM n sign row[k] with
   | false =>
    simp[e25,e26,e27,e2,e0,hlt,Z03];rw[Z0m _ (by omega)];refine⟨hlt,?_,?_,?_,?_⟩
    ·rw[htk,List.filter_append]
     simp only[List.filter_cons,hb,List.filter_nil,Bool.false_eq_true,if_false,List.append_nil];refine h.same (fun j hj=>?_) rfl;rcases hj with rfl | rfl | rfl | rfl | rfl | rfl<;>simp[Z00]
    ·simp[Z00,e25,Z03]
    ·simp[Z00,e26,Z06]
    ·simp[Z00,Z06]
   | true =>
    simp[e25,e26,e27,e2,e0,hlt,Z03];rw[Vec.app (xs:=(cur++(row.take k).filter (ZbM n sign)).map Z06) (h.vec.frame (fun i hi=>rfl)) (ZbQ _) (by simp[AV.cells]) (Zu1 (by rw[List.length_map];omega))];simp[e25,e26,e27,e2,hlt,Z03,Z6q];rw[Z0m _ (by omega)];refine⟨hlt,⟨?_,?_,?_,?_,?_,?_,?_⟩,?_,?_,?_⟩
    ·simp[Z00,h.e12]
    ·simp[Z00,h.e13]
    ·simp[Z00,h.e14]
    ·simp[Z00,h.e2,Z06]
    ·simp[Z00,h.e0]
    ·rw[htk,List.filter_append]
     simp only[List.filter_cons,hb,List.filter_nil,if_true];have hl1:(cur++((row.take k).filter (ZbM n sign)++[row[k]])).map Z06=(cur++(row.take k).filter (ZbM n sign)).map Z06++[Z06 row[k]]:=by simp
     rw[hl1];simp only[Z00,if_true];exact .mk' (by simp[Z0A,Z06]) (by simp[Nat.add_assoc])
    ·intro e
     rw[htk,List.filter_append] at e;simp[hb] at e
    ·simp[Z00,e25,Z03]
    ·simp[Z00,e26,Z06]
    ·simp[Z00,Z06]
  ·have:row.take k=row:=List.take_of_length_le (by omega)
   rw[this] at h;simp[e25,e26,e27,hlt];refine hk _ _ (h.same (fun j hj=>?_) rfl);rcases hj with rfl | rfl | rfl | rfl | rfl | rfl<;>simp[Z00]
structure ZtM(P:Program)(fc fs fm:FuncId):Prop where
 cont:∀(l:List Int) x,Len l→Z0t P fc [Z03 l,Z06 x] (Z1n (l.contains x))
 sort:Zml P fs
 comp:Zmj P fm
 P4N:Z0t P fs [.sl true []] (.tup [])
 P4E:Z0t P fm [.sl true []] (.sl true [])
theorem ZfM{P:Program}{fc fs fm:FuncId}{n:Net}(R:Z4H n)(H:ZtM P fc fs fm)(at_:List Int)(hat:at_.length≤3000)(hv:∀s∈at_,0≤s∧s < n.follow.length)(sign:Int) :
  AW P (Z6s fc fs fm) (Z75 [6] fun r S=>FzN S.g r (Z03 (Z70 n at_ sign))) (Z53 [Zck n,Z03 at_,Z06 sign]) S0:=by
 have hfl:n.follow.length≤301:=by have:=R.len;have:=R.n2;omega
 have hbl:=ZaC R sign at_
 have hcont:∀l∈n.by_,∀x,Z0t P fc [Z03 l,Z06 x] (Z1n (l.contains x)):=by
  intro l hl x;refine H.cont l x ?_;obtain⟨j,hj,rfl⟩:=List.mem_iff_getElem.mp hl;have:=Zfd (R.by_ j hj).1 (R.by_ j hj).2;have:=R.s2;unfold Len;omega
 simp[Z6s,ZjF,Z03,Zck,Z0M,Z0l];refine Z7F at_.length (fun i f S=>DsS n at_ sign i (Z3P n (at_.take i) sign) f S) ?_ ?_
 ·refine⟨?_,?_,?_,?_,?_,?_,fun _=>?_⟩
  ·simp[Z00,Z0f,Z0g,Z03]
  ·simp[Z00,Z0f,Z0g,Z06]
  ·simp[Z00,Z06]
  ·simp[Z00,Z0f,Z0g,Z06]
  ·simp[Z00,Z0f,Zck,Z0M,Z06,Z0l,Z03]
  ·simp[Z00,Z3P];exact .nil
  ·simp[Z00]
 ·rintro i f S hi h
  have e12:=h.e12;have e13:=h.e13;have e14:=h.e14;have e0:=h.e0;simp only[Zck,Z0M,Z0l] at e0;by_cases hlt:i < at_.length
  ·have htk:=Zcf (n:=n) (sign:=sign) hlt
   have hcur:(Z3P n (at_.take i) sign).length≤100000000:=by
    have:=ZaC R sign (at_.take i);have:(at_.take i).length≤at_.length:=by rw[List.length_take];omega
    omega
   have hvi:=hv _ (List.getElem_mem hlt);have hp:(at_[i]).toNat < n.follow.length:=by omega
   have hge:(0:Int)≤at_[i]:=by omega
   have hgf:n.follow[(at_[i]).toNat]? = some n.follow[(at_[i]).toNat]:=List.getElem?_eq_getElem hp
   have hb1:Z6v n sign at_[i]=(n.follow[(at_[i]).toNat]).filter (ZbM n sign):=by
    unfold Z6v;rw[if_pos (by omega),List.getD_eq_getElem?_getD,hgf];rfl
   simp[e12,e13,e14,e0,hlt,Z03,hge,hgf,Z47];refine Zw1 R hcont hp hcur (h.same (fun j hj=>?_) rfl) ?_ ?_ ?_ (fun f' S' h'=>?_)
   ·rcases hj with rfl | rfl | rfl | rfl | rfl | rfl<;>simp[Z00]
   ·simp[Z00,Z03]
   ·simp[Z00,Z06]
   ·simp[Z00,Z06]
   ·have e14':=h'.e14
    simp[e14'];rw[Z0m _ (by omega)];refine⟨hlt,?_⟩;show DsS n at_ sign (i+1) (Z3P n (at_.take (i+1)) sign) _ _
    rw[htk,hb1];refine⟨?_,?_,?_,?_,?_,?_,fun e=>?_⟩
    ·simp[Z00,h'.e12]
    ·simp[Z00,h'.e13]
    ·simp[Z00,Z06]
    ·simp[Z00,h'.e2]
    ·simp[Z00,h'.e0]
    ·rw[Z00,if_neg (by decide),Z00,if_neg (by decide)];exact h'.vec
    ·rw[Z00,if_neg (by decide),Z00,if_neg (by decide)];exact h'.nil e
  ·have htk:at_.take i=at_:=List.take_of_length_le (by omega)
   rw[htk] at h;rcases h.vec with⟨hv7,hl0⟩ | ⟨id,off,ys,hv7,hg7,ho,hd⟩
   ·have hb0:Z3P n at_ sign=[]:=by simpa using hl0
    have hs0:Z70 n at_ sign=[]:=by
     unfold Z70;rw[hb0];exact List.eq_nil_of_length_eq_zero (by have:=ZcY [];simpa using this)
    simp[e12,e13,e14,hlt,hv7];refine Z0x.pure H.P4N (Z01 (.sl _ _ (by simp)) Z0a) (.tup _ (by simp)) ?_;simp[hv7];refine Z0x.pure H.P4E (Z01 (.sl _ _ (by simp)) Z0a) (.sl _ _ (by simp)) ?_;simp[hs0];exact .nil true false (by simp)
   ·have hb0:Z3P n at_ sign≠[]:=by
     intro e;have:=h.nil e;rw[this] at hv7;cases hv7
    have hm:((Z3P n at_ sign).mergeSort fun x y=>decide (x≤y)).length=(Z3P n at_ sign).length:=List.length_mergeSort _
    have hne2:((Z3P n at_ sign).mergeSort fun x y=>decide (x≤y))≠[]:=by
     intro e;rw[e] at hm;exact hb0 (List.eq_nil_of_length_eq_zero hm.symm)
    rw[List.length_map] at hv7;simp[e12,e13,e14,hlt,hv7];refine H.sort _ _ off ys (Z3P n at_ sign) _ hg7 hd hb0 (by omega) ?_;simp[hv7];rw[←hm];have hto:(ys.take off).length=off:=by rw[List.length_take];omega
    refine H.comp _ _ off (ys.take off++((Z3P n at_ sign).mergeSort fun x y=>decide (x≤y)).map Z06) _ _ (by simp[Z0A]) (by rw[List.drop_left' hto]) hne2 (by omega) ?_;simp;refine Vec.fzN (es:=1) (.inr ⟨id,off,ys.take off++(Z6l (Z3P n at_ sign)).map Z06,?_,?_,?_,?_⟩)
    ·simp[Z70,Z6l]
    ·rw[List.take_left' hto];simp[Z0A,Z6l]
    ·simp[hto]
    ·rw[List.drop_left' hto];rfl
def Z5i(n:Net)(set:List Int):Bool:=set.any fun s=>n.last.contains s
theorem Zdx{P:Program}{fc:FuncId}(n:Net)(s:Int)(hc:Z0t P fc [Z03 n.last,Z06 s] (Z1n (n.last.contains s))):AW P (Z5Z fc) (Z75 [3] (FzK (Z1n (n.last.contains s)))) (Z53 [Z06 s,.eptr (Zck n) 0]) S0:=by
 simp[Z5Z,Zck,Z0M,Z47];refine Z0x.pure hc (Z01 (Z02 _) (Z01 (Z04 _) Z0a)) (Z0L _) ?_;simp;exact Z2p _ _
theorem Zdu(n:Net):Z0S (Zck n):=.eptr _ _ (Z1J n)
theorem ZfL{P:Program}{f1 fcf:FuncId}(n:Net)(set:List Int)(hcf:Z0t P fcf [Z03 set,.clo f1 [] [.eptr (Zck n) 0]] (Z1n (Z5i n set))) :
  AW P (Z6r f1 fcf) (Z75 [4] (FzK (Z1n (Z5i n set)))) (Z53 [Zck n,Z03 set]) S0:=by
 have h1:(Zck n).solid=true:=rfl;have h2:(Zck n).cells=[Zck n]:=rfl;simp only[AV.solid] at h1;simp[Z6r,h1,h2];refine Z0x.looks hcf (FzL.cons (.closed _ (Z02 _)) (FzL.cons (.P5X (FzL.cons (.box _ _ 1 (Zck n) _ ?_ (.closed _ (Zdu n))) FzL.nil)) FzL.nil)) (Zge _) ?_
 ·simp[Z0A]
 ·simp
  exact Z2p _ _
end Go.Rf
namespace Go.Rf
open Go.RowKit
structure Z6u(g:Nat→Option Blk)(n:Nat)(av:List Nat)(vs:List AV)(ls:List (List AV)):Prop where
 len:vs.length=ls.length
 row:∀t (h:t < vs.length) (h':t < ls.length),Vec g vs[t] 1 (ls[t])
 sep:vs.Pairwise (fun a b=>∀i∈a.ids,i∉b.ids)
 out:∀v∈vs,∀i∈v.ids,i < n∧i∉av
theorem Z6u.nil{g:Nat→Option Blk}{n:Nat}{av:List Nat}:Z6u g n av [] []:=⟨rfl,fun t h=>by simp at h,.nil,by simp⟩
theorem Z6u.cons{g:Nat→Option Blk}{n:Nat}{av:List Nat}{vs:List AV}{ls:List (List AV)}{v:AV}{l:List AV}(hv:Vec g v 1 l)(ho:∀i∈v.ids,i < n∧i∉av)(hs:∀w∈vs,∀i∈v.ids,i∉w.ids)(h:Z6u g n av vs ls) :
  Z6u g n av (v::vs) (l::ls):=by
 refine⟨by simp[h.len],fun t h1 h2=>?_,List.pairwise_cons.mpr ⟨hs,h.sep⟩,fun w hw=>?_⟩
 ·cases t with
  | zero=>exact hv
  | succ t=>exact h.row t (by simpa using h1) (by simpa using h2)
 ·rcases List.mem_cons.mp hw with rfl | hw
  ·exact ho
  ·exact h.out w hw
theorem Z6u.head{g:Nat→Option Blk}{n:Nat}{av:List Nat}{vs:List AV}{ls:List (List AV)}{v:AV}{l:List AV}(h:Z6u g n av (v::vs) (l::ls)) :
  Vec g v 1 l∧(∀i∈v.ids,i < n∧i∉av)∧(∀w∈vs,∀i∈v.ids,i∉w.ids)∧Z6u g n av vs ls:=by
 have hp:=List.pairwise_cons.mp h.sep;refine⟨h.row 0 (by simp) (by simp),h.out v (by simp),hp.1,by have:=h.len;simpa using this,fun t h1 h2=>?_,hp.2,fun w hw=>h.out w (by simp[hw])⟩;exact h.row (t+1) (by simpa using h1) (by simpa using h2)
theorem Z6u.frame{g g':Nat→Option Blk}{n n':Nat}{av:List Nat}{vs:List AV}{ls:List (List AV)}(h:Z6u g n av vs ls)(hn:n≤n')(hg:∀v∈vs,∀i∈v.ids,g' i=g i):Z6u g' n' av vs ls :=
 ⟨h.len,fun t h1 h2=>(h.row t h1 h2).frame (fun i hi=>hg _ (List.getElem_mem h1) i hi),h.sep,fun v hv i hi=>⟨Nat.lt_of_lt_of_le (h.out v hv i hi).1 hn,(h.out v hv i hi).2⟩⟩
theorem Z6u.snoc{g:Nat→Option Blk}{n:Nat}{av:List Nat}{vs:List AV}{ls:List (List AV)}{v:AV}{l:List AV}(h:Z6u g n av vs ls)(hv:Vec g v 1 l)(ho:∀i∈v.ids,i < n∧i∉av)(hs:∀w∈vs,∀i∈w.ids,i∉v.ids) :
  Z6u g n av (vs++[v]) (ls++[l]):=by
 refine⟨by simp[h.len],fun t h1 h2=>?_,?_,fun w hw=>?_⟩
 ·by_cases ht:t < vs.length
  ·have ht2:t < ls.length:=by rw[←h.len];exact ht
   rw[List.getElem_append_left ht,List.getElem_append_left ht2];exact h.row t ht ht2
  ·have e:t=vs.length:=by simp at h1;omega
   have e2:t=ls.length:=by rw[←h.len];exact e
   rw[List.getElem_append_right (by omega),List.getElem_append_right (by omega)];simp[e,←h.len];exact hv
 ·rw[List.pairwise_append]
  exact⟨h.sep,by simp,fun a ha b hb=>by simp at hb;subst hb;exact hs a ha⟩
 ·rcases List.mem_append.mp hw with hw | hw
  ·exact h.out w hw
  ·simp at hw;subst hw;exact ho
theorem Vec.P6c{g:Nat→Option Blk}{n:Nat}{v:AV}{es:Nat}{xs:List AV}{nid:Nat}{x:AV}{by_:Nat}(h:Vec g v es xs)(hes:∀z∈xs,z.cells.length=es)(hx:x.cells.length=es)(hok:Z1K by_ xs.length 1) :
  (Z57 es by_ v (.sl true [x])).runT ⟨n,g⟩ nid=some (.own nid 0 (xs.length+1),(St.without ⟨n,g⟩ v).set nid (some (.arr es (xs++[x]))),v.ids,v.ids++[nid]):=by
 rcases h with⟨rfl,rfl⟩ | ⟨id,off,ys,rfl,h1,h2,h3⟩
 ·simp only[List.length_nil] at hok
  simp[Z57,Eff.runT,AV.oid,Z9f,hx,hok,St.without,St.P1B,St.P1P,AV.ids]
 ·have hl:off+xs.length=ys.length:=by rw[←h3];simp;omega
  simp[Z57,Eff.runT,AV.oid,Z9f,hx,hok,St.without,St.P1B,St.P1P,h1,hl,h3,AV.ids]
theorem Vec.fzL{g:Nat→Option Blk}{v:AV}{es:Nat}{xs zs:List AV}(h:Vec g v es xs)(hl:zs.length=xs.length)(hz:∀i (h1:i < xs.length) (h2:i < zs.length),Fz g (xs[i]) (zs[i])):Fz g v (.sl false zs):=by
 rcases h with⟨rfl,h0⟩ | ⟨id,off,ys,rfl,h1,h2,h3⟩
 ·subst h0
  have:zs=[]:=List.eq_nil_of_length_eq_zero hl;subst this;exact .loose true [] (.sl _ _ (by simp))
 ·have hle:off+xs.length=ys.length:=by rw[←h3];simp;omega
  have ht:(ys.drop off).take xs.length=xs:=by rw[h3,List.take_length]
  refine .own id off _ es ys zs h1 (by omega) hl (fun i k1 k2=>?_);simp only[ht] at k1 ⊢;exact hz i k1 k2
inductive Kd where
 | whole
 | tails
 | heads
def bhS(kd:Kd)(n:Net)(set:List Int)(s:Int):List Int :=
 match kd with
 | .whole=>Z70 n set s
 | .tails=>0::Z70 n set s
 | .heads=>if Z5i n set=true then set else Z70 n set s
def Zg7(most:Int)(ss:List (List Int))(x:List Int):Option (List (List Int)×Int) :=
 if x∈ss then some (ss,(ss.idxOf x:Int)) else if (ss.length:Int)=most then none else some (ss++[x],(ss.length:Int))
def ZcX(most:Int)(b:Int→List Int):Nat→List (List Int)→Option (List (List Int)×List Int)
 | 0,ss=>some (ss,[])
 | k+1,ss=>match ZcX most b k ss with
  | none=>none
  | some (s1,r)=>match Zg7 most s1 (b k) with
   | none=>none
   | some (s2,j)=>some (s2,r++[j])
abbrev Sts:=List (List Int)×List (List Int)×List Bool
def nxF(kd:Kd)(n:Net)(most:Int)(i:Nat)(st:Sts):Option Sts :=
 match st.1[i]? with
 | none=>none
 | some set=>match ZcX most (bhS kd n set) n.signs.toNat st.1 with
  | none=>none
  | some (s2,r)=>some (s2,st.2.1++[r],st.2.2++[Z5i n set])
def stF(kd:Kd)(n:Net)(most:Int):Nat→Option Sts
 | 0=>some ([[0]],[],[])
 | i+1=>match stF kd n most i with
  | none=>none
  | some st=>nxF kd n most i st
def goF(kd:Kd)(n:Net)(most:Int):Nat→Nat→Sts→Option Sts
 | 0,_,_=>none
 | f+1,i,st=>if i=st.1.length then some st else match nxF kd n most i st with
  | none=>none
  | some st'=>goF kd n most f (i+1) st'
def Z7J(kd:Kd)(n:Net)(most:Int):Option Sts:=goF kd n most (most.toNat+1) 0 ([[0]],[],[])
def Val(n:Net)(s:List Int):Prop:=(∀x∈s,0≤x∧x < n.follow.length)∧s.length≤302
theorem Val.nn{n:Net}{s:List Int}(h:Val n s):Z7q s:=fun x hx=>(h.1 x hx).1
theorem Zgv{n:Net}(R:Z4H n)(set:List Int)(s:Int):(∀x∈Z70 n set s,1≤x∧x < n.follow.length)∧(Z70 n set s).length≤301:=by
 refine⟨fun x hx=>?_,Zi3 R set s⟩;unfold Z70 at hx;rw[Z4o] at hx;unfold Z3P at hx;obtain⟨p,hp,hx⟩:=List.mem_flatMap.mp hx;unfold Z6v at hx;split at hx
 ·rename_i h
  have h2:=(List.mem_filter.mp hx).1;have hlt:p.toNat < n.follow.length:=by omega
  rw[List.getD_eq_getElem?_getD,List.getElem?_eq_getElem hlt,Option.getD_some] at h2;have:=(R.follow _ hlt).2 x h2;have:=R.len;omega
 ·cases hx
theorem ZeH{kd:Kd}{n:Net}(R:Z4H n){set:List Int}(h:Val n set)(s:Int):Val n (bhS kd n set s):=by
 obtain⟨h1,h2⟩:=Zgv R set s;cases kd with
 | whole=>exact⟨fun x hx=>by have:=h1 x hx;omega,by show(Z70 n set s).length≤302;omega⟩
 | tails =>
  refine⟨fun x hx=>?_,by show(0::Z70 n set s).length≤302;simp only[List.length_cons];omega⟩;have hx':x=0∨x∈Z70 n set s:=by simpa[bhS] using hx
  rcases hx' with rfl | hx'
  ·have:=R.n1;have:=R.len;omega
  ·have:=h1 x hx';omega
 | heads =>
  simp only[bhS];split
  ·exact h
  ·exact⟨fun x hx=>by have:=h1 x hx;omega,by omega⟩
structure ZqR(n:Net)(most:Int)(ss:List (List Int)):Prop where
 v:∀s∈ss,Val n s
 l:(ss.length:Int)≤most
theorem ZsN{n:Net}{most:Int}{ss:List (List Int)}{x:List Int}(h:ZqR n most ss)(hx:Val n x){p:List (List Int)×Int}(e:Zg7 most ss x=some p):ZqR n most p.1∧ss.length≤p.1.length:=by
 unfold Zg7 at e;split at e
 ·cases e;exact⟨h,Nat.le_refl _⟩
 ·split at e
  ·cases e
  ·cases e
   refine⟨⟨fun s hs=>?_,?_⟩,by simp⟩
   ·rcases List.mem_append.mp hs with hs | hs
    ·exact h.v s hs
    ·simp at hs;subst hs;exact hx
   ·have:=h.l;simp only[List.length_append,List.length_cons,List.length_nil];omega
theorem Ze6{n:Net}{most:Int}{b:Int→List Int}(hb:∀s,Val n (b s)){ss:List (List Int)}(h:ZqR n most ss):∀(k:Nat) {p:List (List Int)×List Int},ZcX most b k ss=some p→ZqR n most p.1∧ss.length≤p.1.length∧p.2.length=k
 | 0,p,e=>by simp only[ZcX,Option.some.injEq] at e;subst e;exact⟨h,Nat.le_refl _,rfl⟩
 | k+1,p,e=>by
  simp only[ZcX] at e;split at e
  ·cases e
  ·rename_i s1 r h1
   obtain⟨i1,i2,i3⟩:=Ze6 hb h k h1;split at e
   ·cases e
   ·rename_i s2 j h2
    cases e;obtain⟨j1,j2⟩:=ZsN i1 (hb k) h2;exact⟨j1,Nat.le_trans i2 j2,by simp only at i3;simp[i3]⟩
theorem Ze5{most:Int}{b:Int→List Int}{ss:List (List Int)}{k:Nat}(h:ZcX most b k ss=none):∀m,k≤m→ZcX most b m ss=none
 | 0,hm=>by
  have:k=0:=by omega
  subst this;exact h
 | m+1,hm=>by
  by_cases hk:k=m+1
  ·subst hk;exact h
  ·simp only[ZcX,Ze5 h m (by omega)]
structure ZvM(n:Net)(most:Int)(i:Nat)(st:Sts):Prop where
 ss:ZqR n most st.1
 le:i≤st.1.length
 nx:st.2.1.length=i
 en:st.2.2.length=i
 row:∀r∈st.2.1,r.length=n.signs.toNat
theorem ZuF{kd:Kd}{n:Net}(R:Z4H n){most:Int}{i:Nat}{st st':Sts}(h:ZvM n most i st)(e:nxF kd n most i st=some st'):ZvM n most (i+1) st':=by
 unfold nxF at e;split at e
 ·cases e
 ·rename_i set hs
  obtain⟨hlt,hse⟩:=List.getElem?_eq_some_iff.mp hs;split at e
  ·cases e
  ·rename_i s2 r h1
   cases e;obtain⟨j1,j2,j3⟩:=Ze6 (n:=n) (fun s=>ZeH R (h.ss.v set (by rw[←hse];exact List.getElem_mem hlt)) s) h.ss _ h1;refine⟨j1,by simp only at j2 ⊢;omega,by simp[h.nx],by simp[h.en],fun r' hr=>?_⟩;rcases List.mem_append.mp hr with hr | hr
   ·exact h.row r' hr
   ·simp at hr;subst hr;exact j3
theorem Zeg{kd:Kd}{n:Net}(R:Z4H n){most:Int}(hm:1≤most):∀(i:Nat) {st:Sts},stF kd n most i=some st→ZvM n most i st
 | 0,st,e=>by
  simp only[stF,Option.some.injEq] at e;subst e;refine⟨⟨fun s hs=>?_,by simpa using hm⟩,by simp,rfl,rfl,by simp⟩;simp only[List.mem_cons,List.not_mem_nil,or_false] at hs;subst hs;exact⟨fun x hx=>by simp at hx;subst hx;have:=R.n1;have:=R.len;omega,by simp⟩
 | i+1,st,e=>by
  simp only[stF] at e;split at e
  ·cases e
  ·rename_i st0 h0
   exact ZuF R (Zeg R hm i h0) e
theorem ZiX{kd:Kd}{n:Net}(R:Z4H n){most:Int}(hm:1≤most):∀(f i:Nat) {st:Sts},stF kd n most i=some st→most.toNat+1≤f+i→∀j stj,i≤j→stF kd n most j=some stj→j=stj.1.length→(∀m,i≤m→m < j→∀stm,stF kd n most m=some stm→m≠stm.1.length)→goF kd n most f i st=some stj
 | 0,i,st,h,hf,j,stj,hij,hj,hlen,hmin=>by
  have o:=Zeg R hm i h;have:=o.ss.l;have:=o.le;omega
 | f+1,i,st,h,hf,j,stj,hij,hj,hlen,hmin=>by
  simp only[goF];by_cases hi:i=st.1.length
  ·rw[if_pos hi]
   by_cases hij2:i=j
   ·subst hij2;rw[h] at hj;exact hj
   ·exact(hmin i (Nat.le_refl _) (by omega) st h hi).elim
  ·rw[if_neg hi]
   by_cases hij2:i=j
   ·subst hij2;rw[h] at hj;cases hj;exact(hi hlen).elim
   ·have hs1:stF kd n most (i+1)=nxF kd n most i st:=by simp only[stF,h]
    cases hn:nxF kd n most i st with
    | none =>
     exfalso;rw[hn] at hs1
     have key:∀m,i+1≤m→stF kd n most m=none:=by
      intro m;induction m with
      | zero=>intro hm;omega
      | succ m ih =>
       intro hm';by_cases hmi:m=i
       ·subst hmi;exact hs1
       ·simp only[stF,ih (by omega)]
     rw[key j (by omega)] at hj;cases hj
    | some st' =>
     rw[hn] at hs1;exact ZiX R hm f (i+1) hs1 (by omega) j stj (by omega) hj hlen (fun m h1 h2=>hmin m (by omega) h2)
theorem ZfU{kd:Kd}{n:Net}(R:Z4H n){most:Int}:∀(f i:Nat) {st:Sts},stF kd n most i=some st→∀j,i≤j→stF kd n most (j+1)=none→(∀m,i≤m→m≤j→∀stm,stF kd n most m=some stm→m≠stm.1.length)→goF kd n most f i st=none
 | 0,i,st,h,j,hij,hj,hmin=>rfl
 | f+1,i,st,h,j,hij,hj,hmin=>by
  simp only[goF];rw[if_neg (hmin i (Nat.le_refl _) hij st h)];have hs1:stF kd n most (i+1)=nxF kd n most i st:=by simp only[stF,h]
  cases hn:nxF kd n most i st with
  | none=>rfl
  | some st' =>
   rw[hn] at hs1;simp only;by_cases hij2:i=j
   ·subst hij2;rw[hs1] at hj;cases hj
   ·exact ZfU R f (i+1) hs1 j (by omega) hj (fun m h1 h2=>hmin m (by omega) h2)
theorem Z6u.P5r{g:Nat→Option Blk}{n:Nat}{av:List Nat}{vs:List AV}{ls:List (List AV)}{v:AV}{l:List AV}(h:Z6u g n av (vs++[v]) (ls++[l])) :
  Vec g v 1 l∧(∀i∈v.ids,i < n∧i∉av)∧(∀w∈vs,∀i∈w.ids,i∉v.ids)∧Z6u g n av vs ls:=by
 have hl:vs.length=ls.length:=by have:=h.len;simpa using this
 have hp:=List.pairwise_append.mp h.sep;refine⟨?_,h.out v (by simp),fun w hw=>hp.2.2 w hw v (by simp),hl,fun t h1 h2=>?_,hp.1,fun w hw=>h.out w (by simp[hw])⟩
 ·have:=h.row vs.length (by simp) (by simp[hl])
  rw[List.getElem_append_right (by omega),List.getElem_append_right (by omega)] at this;simpa[hl] using this
 ·have:=h.row t (by simp;omega) (by simp;omega)
  rwa[List.getElem_append_left h1,List.getElem_append_left h2] at this
def Z7i:AV:=.agg [Z06 0,.sl true [],.sl true []]
def Zab(nx:List (List Int)):List (List AV):=nx.map fun l=>l.map Z06
structure AlS(S S00:St)(id km b4 b5:Nat)(n:Net)(most:Int)(ss nx:List (List Int))(en:List Bool)(v vN vE:AV)(rs ex:List AV)(exl:List (List AV)):Prop where
 mg:S.g id=some (.arr 7 [.agg [Z06 n.signs,Z0l n.by_,Z0l n.follow,Z03 n.last,Z06 most,.mp km,v]])
 mm:S.g km=some (.map (Z8S 0 ss))
 g4:S.g b4=some (.arr 3 [Z7i])
 g5:S.g b5=some (.arr 3 [.agg [Z06 n.signs,vN,vE]])
 rows:Z6u S.g S.n [id,km,b4,b5] (v::vN::vE::(rs++ex)) (ss.map Z03::rs::en.map Z1n::(Zab nx++exl))
 ne:id≠km
 lid:id < S00.n
 lkm:km < S00.n
 l4:S00.n≤b4
 l5:S00.n≤b5
 n45:b4≠b5
 t4:b4 < S.n
 t5:b5 < S.n
 new:∀w∈(v::vN::vE::(rs++ex)),∀i∈w.ids,S00.n≤i
 old:∀i,i < S00.n→i≠id→i≠km→S.g i=S00.g i
 nle:S00.n≤S.n
section
variable{S S00:St}{id km b4 b5:Nat}{n:Net}{most:Int}{ss nx:List (List Int)}{en:List Bool}{v vN vE:AV}{rs ex:List AV}{exl:List (List AV)}
theorem AlS.mk'(h:AlS S S00 id km b4 b5 n most ss nx en v vN vE rs ex exl):MkS S id km n most ss v:=by
 obtain⟨hv,ho,_⟩:=h.rows.head;refine⟨h.mg,h.mm,hv,h.ne,fun i hi=>?_,Nat.lt_of_lt_of_le h.lid h.nle,Nat.lt_of_lt_of_le h.lkm h.nle,fun i hi=>(ho i hi).1⟩;have:=(ho i hi).2;simp only[List.mem_cons,not_or] at this;exact⟨this.1,this.2.1⟩
theorem AlS.up(h:AlS S S00 id km b4 b5 n most ss nx en v vN vE rs ex exl){m:Nat}(hm:S.n≤m):AlS ⟨m,S.g⟩ S00 id km b4 b5 n most ss nx en v vN vE rs ex exl :=
 ⟨h.mg,h.mm,h.g4,h.g5,h.rows.frame hm (fun _ _ _ _=>rfl),h.ne,h.lid,h.lkm,h.l4,h.l5,h.n45,Nat.lt_of_lt_of_le h.t4 hm,Nat.lt_of_lt_of_le h.t5 hm,h.new,h.old,Nat.le_trans h.nle hm⟩
theorem AlS.num(h:AlS S S00 id km b4 b5 n most ss nx en v vN vE rs ex exl){S':St}{ss':List (List Int)}{v':AV}(M:MkS S' id km n most ss' v')(F:Frm S S' (id::km::v.ids))(hv':∀i∈v'.ids,S.n≤i) :
  AlS S' S00 id km b4 b5 n most ss' nx en v' vN vE rs ex exl:=by
 obtain⟨hv,ho,hs,hr⟩:=h.rows.head;have hlid:=h.lid;have hlkm:=h.lkm;have h4:=h.l4;have h5:=h.l5;have hnle:=h.nle;have hlt4:=h.t4;have hlt5:=h.t5;have key:∀i,i < S.n→i≠id→i≠km→i∉v.ids→S'.g i=S.g i:=fun i h1 h2 h3 h4=>F.g i h1 (by simp[h2,h3,h4])
 have hav:∀b,b∈[id,km,b4,b5]→b∉v.ids:=fun b hb hi=>(ho b hi).2 hb
 have hFn:=F.n;refine⟨M.g,M.m,?_,?_,?_,h.ne,h.lid,h.lkm,h.l4,h.l5,h.n45,by omega,by omega,fun w hw i hi=>?_,fun i h1 h2 h3=>?_,by omega⟩
 ·rw[key b4 hlt4 (by omega) (by omega) (hav b4 (by simp))];exact h.g4
 ·rw[key b5 hlt5 (by omega) (by omega) (hav b5 (by simp))];exact h.g5
 ·refine Z6u.cons M.vec (fun i hi=>⟨M.lv i hi,?_⟩) (fun w hw i hi hi2=>?_) (hr.frame hFn (fun w hw i hi=>?_))
  ·have:=hv' i hi
   simp only[List.mem_cons,List.not_mem_nil,or_false,not_or];omega
  ·have:=(hr.out w hw i hi2).1
   have:=hv' i hi;omega
  ·have h1:=hr.out w hw i hi
   have h2:=h1.2;simp only[List.mem_cons,List.not_mem_nil,or_false,not_or] at h2;exact key i h1.1 h2.1 h2.2.1 (fun h3=>hs w hw i h3 hi)
 ·rcases List.mem_cons.mp hw with rfl | hw
  ·have:=hv' i hi;omega
  ·exact h.new w (List.mem_cons_of_mem _ hw) i hi
 ·rw[key i (by omega) h2 h3 (fun h4=>by have:=h.new v (by simp) i h4;omega)];exact h.old i h1 h2 h3
theorem AlS.row(h:AlS S S00 id km b4 b5 n most ss nx en v vN vE rs [] []){q:Nat}(hq:S.n≤q){m:Nat}(hm:q < m){zs:List AV}{L:Nat}(hL:zs.length=L) :
  AlS ((St.mk m S.g).set q (some (.arr 1 zs))) S00 id km b4 b5 n most ss nx en v vN vE rs [.own q 0 L] [zs]:=by
 have hlid:=h.lid;have hlkm:=h.lkm;have hnle:=h.nle;have hlt4:=h.t4;have hlt5:=h.t5;have key:∀i,i < S.n→((St.mk m S.g).set q (some (.arr 1 zs))).g i=S.g i:=fun i hi=>by rw[Z0A,if_neg (by omega)]
 have hr:=h.rows;simp only[List.append_nil] at hr;have hr2:Z6u ((St.mk m S.g).set q (some (.arr 1 zs))).g m [id,km,b4,b5] (v::vN::vE::rs) (ss.map Z03::rs::en.map Z1n::Zab nx):=hr.frame (by omega) (fun w hw i hi=>key i (hr.out w hw i hi).1)
 have hfin:=hr2.snoc (v:=.own q 0 L) (l:=zs) (.mk' (by simp[Z0A]) hL.symm) (fun i hi=>by
   simp only[AV.ids,List.mem_singleton] at hi;subst hi;refine⟨hm,?_⟩;simp only[List.mem_cons,List.not_mem_nil,or_false,not_or];omega) (fun w hw i hi hi2=>by
   simp only[AV.ids,List.mem_singleton] at hi2;have:=(hr.out w hw i hi).1;omega)
 refine⟨by rw[key id (by omega)];exact h.mg,by rw[key km (by omega)];exact h.mm,by rw[key b4 hlt4];exact h.g4,by rw[key b5 hlt5];exact h.g5,?_,h.ne,h.lid,h.lkm,h.l4,h.l5,h.n45,by show b4 < m;omega,by show b5 < m;omega,fun w hw i hi=>?_,fun i h1 h2 h3=>by rw[key i (by omega)];exact h.old i h1 h2 h3,by show S00.n≤m;omega⟩
 ·rw[Z2k];simpa using hfin
 ·simp only[List.mem_cons,List.mem_append,List.not_mem_nil,or_false] at hw
  have hn:=h.new;simp only[List.append_nil] at hn;rcases hw with rfl | rfl | rfl | hw | rfl
  ·exact hn _ (by simp) i hi
  ·exact hn _ (by simp) i hi
  ·exact hn _ (by simp) i hi
  ·exact hn _ (by simp[hw]) i hi
  ·simp only[AV.ids,List.mem_singleton] at hi;omega
theorem AlS.b7{q L:Nat}{zs:List AV}(h:AlS S S00 id km b4 b5 n most ss nx en v vN vE rs [.own q 0 L] [zs]):S.g q=some (.arr 1 zs)∧zs.length=L∧q < S.n:=by
 have hr:Z6u S.g S.n [id,km,b4,b5] ((v::vN::vE::rs)++[.own q 0 L]) ((ss.map Z03::rs::en.map Z1n::Zab nx)++[zs]):=by simpa using h.rows
 obtain⟨a,b,c,d⟩:=hr.P5r;rcases a with⟨e,_⟩ | ⟨id',off,ys,e,g',ho,hd⟩
 ·cases e
 ·cases e
  simp only[List.drop_zero] at hd;subst hd;exact⟨g',rfl,(b q (by simp[AV.ids])).1⟩
theorem AlS.put{q L:Nat}{zs zs':List AV}(h:AlS S S00 id km b4 b5 n most ss nx en v vN vE rs [.own q 0 L] [zs])(hl:zs'.length=zs.length){m:Nat}(hm:S.n≤m) :
  AlS ((St.mk m S.g).set q (some (.arr 1 zs'))) S00 id km b4 b5 n most ss nx en v vN vE rs [.own q 0 L] [zs']:=by
 obtain⟨hq,hL,hqn⟩:=h.b7;have hr:Z6u S.g S.n [id,km,b4,b5] ((v::vN::vE::rs)++[.own q 0 L]) ((ss.map Z03::rs::en.map Z1n::Zab nx)++[zs]):=by simpa using h.rows
 obtain⟨a,b,c,d⟩:=hr.P5r;have hqo:=(b q (by simp[AV.ids])).2;simp only[List.mem_cons,List.not_mem_nil,or_false,not_or] at hqo;have hqS:S00.n≤q:=h.new (.own q 0 L) (by simp) q (by simp[AV.ids]);have key:∀i,i≠q→((St.mk m S.g).set q (some (.arr 1 zs'))).g i=S.g i:=fun i hi=>by rw[Z0A,if_neg hi]
 have hnle:=h.nle;have t4:=h.t4;have t5:=h.t5
 have hfin:=(d.frame (g':=((St.mk m S.g).set q (some (.arr 1 zs'))).g) hm (fun w hw i hi=>key i (fun e=>c w hw i hi (by simp[AV.ids,e])))).snoc (v:=.own q 0 L) (l:=zs') (.mk' (by simp[Z0A]) (by rw[hl,hL])) (fun i hi=>by
   have:=b i hi;exact⟨by omega,this.2⟩) c
 refine⟨by rw[key id (fun e=>hqo.1 e.symm)];exact h.mg,by rw[key km (fun e=>hqo.2.1 e.symm)];exact h.mm,by rw[key b4 (fun e=>hqo.2.2.1 e.symm)];exact h.g4,by rw[key b5 (fun e=>hqo.2.2.2 e.symm)];exact h.g5,?_,h.ne,h.lid,h.lkm,h.l4,h.l5,h.n45,by show b4 < m;omega,by show b5 < m;omega,h.new,fun i h1 h2 h3=>by rw[key i (by omega)];exact h.old i h1 h2 h3,by show S00.n≤m;omega⟩;rw[Z2k];simpa using hfin
theorem AlS.fz(h:AlS S S00 id km b4 b5 n most ss nx en v vN vE rs [] []){g:Nat→Option Blk}(hg:∀i,S00.n≤i→i≠b4→g i=S.g i):Fz g vN (Z0l nx)∧Fz g vE (Z2E en):=by
 have hrows:=h.rows.frame (g':=g) (n':=S.n) (Nat.le_refl _) (fun w hw i hi=>hg i (h.new w hw i hi) (fun e=>(h.rows.out w hw i hi).2 (by simp[e])));obtain⟨_,_,_,hr⟩:=hrows.head;obtain⟨hN,_,_,hr2⟩:=hr.head;obtain⟨hE,_,_,hr3⟩:=hr2.head;simp only[List.append_nil] at hr3;refine⟨?_,?_⟩
 ·have hl:nx.length=rs.length:=by have:=hr3.len;simpa[Zab] using this.symm
  refine hN.fzL (by simpa using hl) (fun i h1 h2=>?_);have h3:=hr3.row i h1 (by simpa[Zab,hl] using h1);simp only[Zab,List.getElem_map] at h3 ⊢;exact h3.fz Z04
 ·exact hE.fz Z0L
theorem Vec.P6e{g:Nat→Option Blk}{v:AV}{es:Nat}{xs zs:List AV}(h:Vec g v es xs)(hl:zs.length=xs.length)(hz:∀i (h1:i < xs.length) (h2:i < zs.length),FzN g (xs[i]) (zs[i])):FzN g v (.sl false zs):=by
 rcases h with⟨rfl,h0⟩ | ⟨id,off,ys,rfl,h1,h2,h3⟩
 ·subst h0
  have:zs=[]:=List.eq_nil_of_length_eq_zero hl;subst this;exact .nil true false (by simp)
 ·have hle:off+xs.length=ys.length:=by rw[←h3];simp;omega
  have ht:(ys.drop off).take xs.length=xs:=by rw[h3,List.take_length]
  refine .own id off _ es ys zs h1 (by omega) hl (fun i k1 k2=>?_);simp only[ht] at k1 ⊢;exact hz i k1 k2
theorem FzN.mono{g g':Nat→Option Blk}{x y:AV}(h:FzN g x y)(hg:∀i k,g i=some k→g' i=some k):FzN g' x y:=by
 induction h with
 | v x=>exact .v x
 | nil t u h=>exact .nil t u h
 | own id off len es xs zs hi hl hz h ih=>exact .own id off len es xs zs (hg _ _ hi) hl hz ih
 | agg cs ds hl h ih=>exact .agg cs ds hl ih
 | tup cs ds hl h ih=>exact .tup cs ds hl ih
theorem AlS.fzN(h:AlS S S00 id km b4 b5 n most ss nx en v vN vE rs [] []){g:Nat→Option Blk}(hg:∀i,S00.n≤i→i≠b4→i < S.n→g i=S.g i):FzN g vN (Z0l nx)∧FzN g vE (Z2E en):=by
 have hrows:=h.rows.frame (g':=g) (n':=S.n) (Nat.le_refl _) (fun w hw i hi=>hg i (h.new w hw i hi) (fun e=>(h.rows.out w hw i hi).2 (by simp[e])) (h.rows.out w hw i hi).1);obtain⟨_,_,_,hr⟩:=hrows.head;obtain⟨hN,_,_,hr2⟩:=hr.head;obtain⟨hE,_,_,hr3⟩:=hr2.head;simp only[List.append_nil] at hr3;refine⟨?_,?_⟩
 ·have hl:nx.length=rs.length:=by have:=hr3.len;simpa[Zab] using this.symm
  refine hN.P6e (by simpa using hl) (fun i h1 h2=>?_);have h3:=hr3.row i h1 (by simpa[Zab,hl] using h1);simp only[Zab,List.getElem_map] at h3 ⊢;exact h3.fzN
 ·refine hE.P6e (by simp) (fun i h1 h2=>?_)
  simp only[List.getElem_map];exact .v _
end
end Go.Rf
namespace Go.Rf
open Go.RowKit
attribute [local simp] Z4c Z48 Z2M Z2a Z2P Z2R Z2Q Z4a Z4b Z1e Z16 Z0c Z0B Z0q Z08 Z0o Z0h Z09 Z0p Z0i Z0Y Z0j Z0z Z0K Z0k Z0J Z1W Z3U Z0X Z25 Z22 Z24 Z23 Z26 Z1j Z0D Z11 Z12 Z1T Z1U Z1V Z0H Z0I Z1i Z0r Z0W Z20 Z1X Z1Z Z1Y Z21 Z1k Z13 Z1g Z0U Z0V Z0C Z1h Z0P Z1a Z1f Z14 Z1l ex Z00 Z0R Z6K Z6P Z0f Z0g Z0A Z2k Z1d Z10 Z0y Z0F Z0G Z0E Z0s Z0Z Z5y Z0O Z37 Z1c Z1O Z1R Z3s Z0b Z1q Z19 Z0Q Z1F Z3S Z1P Z6A Z3C Z6z Z3w Z2Y Z3t Z6w Z3D Z51 AV.solid S0 Z06 Z1n
def Ziv(P0C:FuncId):AC :=
 (.block 2 (.loop (.seq (.reg none [
    ro 36 (.bin .lss (.t 35) (.t 34))])
   (.seq (.cond (.t 36) .skip (.exit 2))
   (.seq (.block 3 (.seq (.reg none [
    rm 37 35,
    rm 8 37])
    (.regX [
    rm 38 7,
    rm 39 8,
    rm 40 0,
    rm 41 1,
    rm 42 0,
    ro 43 (.nilc (.t 42)),
    ro 44 (.fieldA 6 (.t 43)),
    ro 45 (.load none (.t 44)),
    rm 46 6,
    ro 47 (.idxA 1 (.t 45) (.t 46)),
    ro 48 (.load none (.t 47)),
    rm 49 8,
    ⟨(some 50),.mv (.c .junk),none,(some ((.t 41),[(.t 48),(.t 49)]))⟩,
    rk 51 P0C [(.t 40),(.t 50)],
    ro 52 (.idxA 1 (.t 38) (.t 39)),
    rn (.store 1 (.t 52) (.t 51))] none)))
   (.reg none [
    ro 53 (.bin .add (.t 35) (ci 1)),
    rm 35 53]))))))
def Zdl(P0D:FuncId):AC :=
 (.reg (some [[],[],[],[],[],[true],[false,true],[false,false,true],[false,false,false,true],[false,false,false,false,true],[false,false,false,false,false,true],[false,false,false,false,false,false,true],[false,false,false,false,false,false,false,true],[false,false,false,false,false,false,false,false,true],[false,false,false,false,false,false,false,false,false,true],[],[],[],[true]]) [
   ro 54 (.fieldA 1 (.t 5)),
   ro 55 (.load none (.t 54)),
   rm 56 7,
   ro 57 (.bslice 1 1 (.sl true []) [(0,(.t 56))]),
   ro 58 (.app 1 24 (.t 55) (.t 57)),
   ro 59 (.fieldA 2 (.t 5)),
   ro 60 (.load none (.t 59)),
   rm 61 0,
   rm 62 0,
   ro 63 (.nilc (.t 62)),
   ro 64 (.fieldA 6 (.t 63)),
   ro 65 (.load none (.t 64)),
   rm 66 6,
   ro 67 (.idxA 1 (.t 65) (.t 66)),
   ro 68 (.load none (.t 67)),
   rk 69 P0D [(.t 61),(.t 68)],
   ro 70 (.bslice 1 1 (.v (.bool false)) [(0,(.t 69))]),
   ro 71 (.app 1 1 (.t 60) (.t 70)),
   ro 72 (.fieldA 1 (.t 5)),
   rn (.store 1 (.t 72) (.t 58)),
   ro 73 (.fieldA 2 (.t 5)),
   rn (.store 1 (.t 73) (.t 71))])
def ZfE(P0C P0D:FuncId):AC :=
 (.block 0 (.loop (.seq (.seq (.reg none [
  rm 18 6,
  rm 19 0,
  ro 20 (.nilc (.t 19)),
  ro 21 (.fieldA 6 (.t 20)),
  ro 22 (.load none (.t 21)),
  ro 23 (.len (.t 22)),
  ro 24 (.bin .lss (.t 18) (.t 23))])
  (.cond (.t 24) .skip (.exit 0)))
  (.seq (.block 1 (.seq (.reg none [
   rm 27 0,
   ro 28 (.nilc (.t 27)),
   ro 29 (.fieldA 0 (.t 28)),
   ro 30 (.fieldA 0 (.t 29)),
   ro 31 (.load none (.t 30)),
   ro 32 (.mks 1 8 (.v (.int .i64 0)) (.t 31) (.t 31)),
   rm 7 32])
  (.seq (.seq (.reg none [
   rm 33 7,
   ro 34 (.len (.t 33)),
   ro 35 (.mv (ci 0))])
  (Ziv P0C))
  (Zdl P0D))))
  (.reg none [
  rm 25 6,
  ro 26 (.bin .add (.t 25) (ci 1)),
  rm 6 26])))))
def Z5s(P0C P0D:FuncId):AC :=
 (.seq (.reg none [
 ro 4 (.alloc (.agg [(.v (.int .i64 0)),(.sl true []),(.sl true [])]) 3)])
 (.seq (.reg none [
 rm 9 0,
 ro 10 (.nilc (.t 9)),
 ro 11 (.fieldA 0 (.t 10)),
 ro 12 (.fieldA 0 (.t 11)),
 ro 13 (.load none (.t 12)),
 ro 14 (.build (.agg [(.v (.int .i64 0)),(.sl true []),(.sl true [])]) [(0,1)] [(0,(.t 13))]),
 ro 5 (.alloc (.agg [(.v (.int .i64 0)),(.sl true []),(.sl true [])]) 3),
 rn (.store 3 (.t 5) (.t 14))])
 (.seq (.regX [
 rm 15 0,
 ro 16 (.bslice 1 1 (.v (.int .i64 0)) [(0,(ci 0))]),
 rk 17 P0C [(.t 15),(.t 16)]] none)
 (.seq (.seq (.reg none [
 ro 6 (.mv (ci 0))])
 (ZfE P0C P0D))
 (.seq (.reg none [
 ro 74 (.load (some 3) (.t 5)),
 rn (.store 3 (.t 4) (.t 74))])
 .ret)))))
def tmV(fT:TypeId):Value:=.iface fT (.agg #[])
def Ztz(P:Program)(fnum fT:FuncId)(n:Net):Prop:=∀(id km:Nat) (most:Int) (ss:List (List Int)) (v:AV) (set:List Int) (S:St) (K:AV→St→Prop) (X:Value→St→Prop),MkS S id km n most ss v→Val n set→ZqR n most ss→most≤3000 →
 (set∈ss→∀m,S.n≤m→K (Z06 (ss.idxOf set)) ⟨m,S.g⟩) →
 (set∉ss→(ss.length:Int) < most→∀S' v',MkS S' id km n most (ss++[set]) v'→Frm S S' (id::km::v.ids)→(∀i∈v'.ids,S.n≤i)→K (Z06 ss.length) S') →
 (set∉ss→(ss.length:Int)=most→∀m,S.n≤m→X (tmV fT) ⟨m,S.g⟩)→Z7o P fnum [.ptr id 0 0,Z03 set] S K X
def Old(S00 S:St)(id km:Nat):Prop:=S00.n≤S.n∧∀i,i < S00.n→i≠id→i≠km→S.g i=S00.g i
def Zvh(P:Program)(cf:FuncId)(cap:List AV)(S00:St)(id km:Nat)(n:Net)(most:Int)(kd:Kd):Prop:=∀(S:St) (ss:List (List Int)) (v:AV) (set:List Int) (s:Int) (K:AV→St→Prop),MkS S id km n most ss v→Old S00 S id km→Val n set →
 (∀m,S.n≤m→K (Z03 (bhS kd n set s)) ⟨m,S.g⟩)→Z0x P cf ([Z03 set,Z06 s]++cap) S K
structure InI(f:AF)(id b4 b5 q L i:Nat)(clo:AV):Prop where
 e0:f 0=.ptr id 0 0
 e1:f 1=clo
 e4:f 4=.ptr b4 0 0
 e5:f 5=.ptr b5 0 0
 e6:f 6=Z06 i
 e7:f 7=.own q 0 L
theorem InI.same{f f':AF}{id b4 b5 q L i:Nat}{clo:AV}(h:InI f id b4 b5 q L i clo)(hf:∀j,j=0∨j=1∨j=4∨j=5∨j=6∨j=7→f' j=f j):InI f' id b4 b5 q L i clo :=
 ⟨by rw[hf _ (by simp)];exact h.e0,by rw[hf _ (by simp)];exact h.e1,by rw[hf _ (by simp)];exact h.e4,by rw[hf _ (by simp)];exact h.e5,by rw[hf _ (by simp)];exact h.e6,by rw[hf _ (by simp)];exact h.e7⟩
structure DaI(S00:St)(id km b4 b5 q i L:Nat)(n:Net)(most:Int)(b:Int→List Int)(ss0 nx:List (List Int))(en:List Bool)(vN vE:AV)(rs:List AV)(clo:AV)(k:Nat)(f:AF)(S:St)(ss:List (List Int))(r:List Int)(v:AV):Prop where
 rf:ZcX most b k ss0=some (ss,r)
 A:AlS S S00 id km b4 b5 n most ss nx en v vN vE rs [.own q 0 L] [r.map Z06++List.replicate (L - k) (Z06 0)]
 I:InI f id b4 b5 q L i clo
 e34:f 34=Z06 L
 e35:f 35=Z06 k
 pre:∀j (h:j < ss0.length),ss[j]? = some ss0[j]
def DaE(S00:St)(id km b4 b5 q i L:Nat)(n:Net)(most:Int)(b:Int→List Int)(ss0 nx:List (List Int))(en:List Bool)(vN vE:AV)(rs:List AV)(clo:AV)(k:Nat)(f:AF)(S:St):Prop :=
 ∃ss r v,DaI S00 id km b4 b5 q i L n most b ss0 nx en vN vE rs clo k f S ss r v
theorem ZpK{P:Program}{fnum fT cf:FuncId}{cap:List AV}{S00:St}{id km b4 b5 q i:Nat}{n:Net}{most:Int}{kd:Kd}{ss0 nx:List (List Int)}{en:List Bool}{vN vE:AV}{rs:List AV}{v0:AV}{set:List Int}
  (R:Z4H n) (hnum:Ztz P fnum fT n) (hbeh:Zvh P cf cap S00 id km n most kd) (hm3:most≤3000) {L:Nat} (hLe:n.signs.toNat=L) (hss:ZqR n most ss0) (hset:ss0[i]? = some set) {f:AF} {S:St} {Q:Exit→AF→St→Prop}
  (A:AlS S S00 id km b4 b5 n most ss0 nx en v0 vN vE rs [.own q 0 L] [List.replicate L (Z06 0)]) (I:InI f id b4 b5 q L i (.clo cf [] cap)) (e34:f 34=Z06 L) (e35:f 35=Z06 0)
  (hk:∀f' S' ss' r v',ZcX most (bhS kd n set) L ss0=some (ss',r)→AlS S' S00 id km b4 b5 n most ss' nx en v' vN vE rs [.own q 0 L] [r.map Z06]→InI f' id b4 b5 q L i (.clo cf [] cap)→(∀j (h:j < ss0.length),ss'[j]? = some ss0[j])→Q .normal f' S')
  (hp:ZcX most (bhS kd n set) L ss0=none→∀f' S',Old S00 S' id km→Q (pn (tmV fT)) f' S'):AW P (Ziv fnum) Q f S:=by
 obtain⟨hil,hse⟩:=List.getElem?_eq_some_iff.mp hset;have hL4:L≤400:=by have:=R.s2;omega
 have hvs:Val n set:=hss.v set (by rw[←hse];exact List.getElem_mem hil);simp[Z1u,Z4h,Z4e,Z4i,Z4g,Z4f,Z2N,Z2S,Z2T,Z2X,Z4d,Z2g,Z2b,Z1v,Z2e,Z2O,Z1G,Z1m,Z2V,Z2d,Z15,Z5O,Z3T,Z1L,Ziv];refine Z7F L (DaE S00 id km b4 b5 q i L n most (bhS kd n set) ss0 nx en vN vE rs (.clo cf [] cap)) ?_ ?_
 ·exact⟨ss0,[],v0,rfl,by simpa using A,I,e34,e35,fun j hj=>List.getElem?_eq_getElem hj⟩
 ·rintro k f S hk' ⟨ss,r,v,D⟩
  obtain⟨hok,hle,hrl⟩:=Ze6 (n:=n) (fun s=>ZeH R hvs s) hss k D.rf;simp only at hok hle hrl;have e0:=D.I.e0;have e1:=D.I.e1;have e6:=D.I.e6;have e7:=D.I.e7;have e34:=D.e34;have e35:=D.e35;have hmg:=D.A.mg;by_cases hlt:k < L
  ·
   have hpi:=D.pre i hil;rw[hse] at hpi;obtain⟨hvec,hvo,_⟩:=D.A.rows.head
   have hown:∃vid off ys,v=.own vid off ss.length∧S.g vid=some (.arr 1 ys)∧off+ss.length≤ys.length∧ys[off+i]? = some (Z03 set):=by
    rcases hvec with⟨_,h0⟩ | ⟨vid,off,ys,h1,h2,h3,h4⟩
    ·simp at h0;subst h0;simp at hpi
    ·refine⟨vid,off,ys,by rw[h1];simp,h2,?_,?_⟩
     ·have:=congrArg List.length h4
      simp at this;omega
     ·have:(ys.drop off)[i]? = some (Z03 set):=by rw[h4,List.getElem?_map,hpi];rfl
      simpa using this
   obtain⟨vid,off,ys,hv,hgv,hol,hyi⟩:=hown;have hi2:i < ss.length:=by omega
   have hilt:(i:Int) < ss.length:=by omega
   subst hv;have hce:(Z03 set).cells=[Z03 set]:=rfl;have A:=D.A;simp[Z1u,Z4h,Z4e,Z4i,Z4g,Z4f,Z2N,Z2S,Z2T,Z2X,Z4d,Z2g,Z2b,Z1v,Z2e,Z2O,Z1G,Z1m,Z2V,Z2d,Z15,Z5O,Z3T,Z1L,e0,e1,e6,e7,e34,e35,hlt,hmg,Z47,hgv,hilt,hol,hyi,hce];refine Z7o.ofR (hbeh _ ss _ set k _ (A.up (m:=S.n+1+2+16) (by omega)).mk' ⟨by have:=A.nle;show S00.n≤S.n+1+2+16;omega,A.old⟩ hvs fun m hm=>?_);simp[Z1u,Z4h,Z4e,Z4i,Z4g,Z4f,Z2N,Z2S,Z2T,Z2X,Z4d,Z2g,Z2b,Z1v,Z2e,Z2O,Z1G,Z1m,Z2V,Z2d,Z15,Z5O,Z3T,Z1L];have hvb:=ZeH (kd:=kd) R hvs (k:Int)
   have hzk:∃zs,zs=r.map Z06++List.replicate (L - k) (Z06 0)∧zs.length=L∧zs[k]? = some (Z06 0)∧∀j:Int,zs.set k (Z06 j)=(r++[j]).map Z06++List.replicate (L - (k+1)) (Z06 0):=by
    refine⟨_,rfl,by simp[hrl];omega,?_,fun j=>?_⟩
    ·rw[List.getElem?_append_right (by simp[hrl]),List.length_map,hrl,Nat.sub_self,List.getElem?_replicate,if_pos (by omega)]
    ·rw[List.set_append_right _ _ (by simp[hrl]),List.length_map,hrl,Nat.sub_self,show L - k=(L - (k+1))+1 by omega,List.replicate_succ,List.set_cons_zero]
     simp
   obtain⟨zs,hz1,hz2,hz3,hz4⟩:=hzk;have hkL:(k:Int) < L:=by omega
   have hze:(Z06 0)=.v (.int .i64 0):=rfl;rw[hze] at hz3;have hrec1:Zg7 most ss (bhS kd n set k)=none→ZcX most (bhS kd n set) (k+1) ss0=none:=fun h=>by simp only[ZcX,D.rf,h]
   have hrec2:∀s2 j,Zg7 most ss (bhS kd n set k)=some (s2,j)→ZcX most (bhS kd n set) (k+1) ss0=some (s2,r++[j]):=fun s2 j h=>by simp only[ZcX,D.rf,h]
   have A0:=A;rw[←hz1] at A0;refine hnum id km most ss _ (bhS kd n set k) ⟨m,S.g⟩ _ _ (A.up (m:=m) (by simp only at hm;omega)).mk' hvb hok hm3 (fun hin m2 hm2=>?_) (fun hin hlt2 S' v' M' F' hv'=>?_) (fun hin hfull m2 hm2=>?_)
   ·have hnf:Zg7 most ss (bhS kd n set k)=some (ss,(ss.idxOf (bhS kd n set k):Int)):=by unfold Zg7;rw[if_pos hin]
    have A2:=A0.up (m:=m2) (by simp only at hm hm2;omega);obtain⟨g7,_,hqn⟩:=A2.b7
    try simp only at g7
    simp[Z1u,Z4h,Z4e,Z4i,Z4g,Z4f,Z2N,Z2S,Z2T,Z2X,Z4d,Z2g,Z2b,Z1v,Z2e,Z2O,Z1G,Z1m,Z2V,Z2d,Z15,Z5O,Z3T,Z1L,g7,hkL,hz2,hz3,hze,e35];rw[Z0m _ (by omega)];refine⟨hlt,ss,r++[(ss.idxOf (bhS kd n set k):Int)],(.own vid off ss.length),⟨hrec2 _ _ hnf,?_,?_,?_,?_,?_⟩⟩
    ·have A3:=A2.put (zs':=zs.set k (Z06 (ss.idxOf (bhS kd n set k):Int))) (by simp) (Nat.le_refl _)
     rw[←hz4];refine A3.up ?_;simp[Z2k]
    ·refine D.I.same fun j hj=>?_
     rcases hj with rfl | rfl | rfl | rfl | rfl | rfl<;>simp[Z00]
    ·simp[Z00,e34,Z06]
    ·simp[Z00,Z06]
    ·first
      | exact D.pre
      | exact fun j hj=>(List.getElem?_append_left (List.getElem?_eq_some_iff.mp (D.pre j hj)).1).trans (D.pre j hj)
   ·have hnf:Zg7 most ss (bhS kd n set k)=some (ss++[bhS kd n set k],(ss.length:Int)):=by unfold Zg7;rw[if_neg hin,if_neg (by omega)]
    have A2:=(A0.up (m:=m) (by simp only at hm;omega)).num M' F' hv';obtain⟨g7,_,hqn⟩:=A2.b7
    try simp only at g7
    simp[Z1u,Z4h,Z4e,Z4i,Z4g,Z4f,Z2N,Z2S,Z2T,Z2X,Z4d,Z2g,Z2b,Z1v,Z2e,Z2O,Z1G,Z1m,Z2V,Z2d,Z15,Z5O,Z3T,Z1L,g7,hkL,hz2,hz3,hze,e35];rw[Z0m _ (by omega)];refine⟨hlt,(ss++[bhS kd n set k]),r++[(ss.length:Int)],v',⟨hrec2 _ _ hnf,?_,?_,?_,?_,?_⟩⟩
    ·have A3:=A2.put (zs':=zs.set k (Z06 (ss.length:Int))) (by simp) (Nat.le_refl _)
     rw[←hz4];refine A3.up ?_;simp[Z2k]
    ·refine D.I.same fun j hj=>?_
     rcases hj with rfl | rfl | rfl | rfl | rfl | rfl<;>simp[Z00]
    ·simp[Z00,e34,Z06]
    ·simp[Z00,Z06]
    ·first
      | exact D.pre
      | exact fun j hj=>(List.getElem?_append_left (List.getElem?_eq_some_iff.mp (D.pre j hj)).1).trans (D.pre j hj)
   ·have hnf:Zg7 most ss (bhS kd n set k)=none:=by unfold Zg7;rw[if_neg hin,if_pos hfull]
    rw[Z2O,Z1m,Z1G,Z1G,Z1m];refine hp (Ze5 (hrec1 hnf) L (by omega)) _ _ ⟨by have:=A.nle;show S00.n≤m2;simp only at hm hm2;omega,A.old⟩
  ·have hkL:k=L:=by omega
   subst hkL;have hnlt:¬((k:Int) < k):=by omega
   simp[Z1u,Z4h,Z4e,Z4i,Z4g,Z4f,Z2N,Z2S,Z2T,Z2X,Z4d,Z2g,Z2b,Z1v,Z2e,Z2O,Z1G,Z1m,Z2V,Z2d,Z15,Z5O,Z3T,Z1L,e0,e1,e6,e7,e34,e35,hnlt];refine hk _ _ ss r v D.rf (by simpa using D.A.up (m:=S.n+1) (by omega)) (D.I.same fun j hj=>?_) D.pre;rcases hj with rfl | rfl | rfl | rfl | rfl | rfl<;>simp[Z00]
theorem Zln{P:Program}{fe:FuncId}{S00:St}{id km b4 b5 q i L:Nat}{n:Net}{most:Int}{ss nx:List (List Int)}{en:List Bool}{v vN vE clo:AV}{rs:List AV}{r set:List Int}(hm3:most≤3000)(hss:ZqR n most ss)(hset:ss[i]? = some set)
  (hend:Z0t P fe [Zck n,Z03 set] (Z1n (Z5i n set))) {f:AF} {S:St} {Q:Exit→AF→St→Prop} (hnx:nx.length=i) (hen:en.length=i)
  (A:AlS S S00 id km b4 b5 n most ss nx en v vN vE rs [.own q 0 L] [r.map Z06]) (I:InI f id b4 b5 q L i clo)
  (hk:∀f' S' vN' vE',AlS S' S00 id km b4 b5 n most ss (nx++[r]) (en++[Z5i n set]) v vN' vE' (rs++[.own q 0 L]) [] []→(∀j,j≤6→f' j=f j)→Q .normal f' S'):AW P (Zdl fe) Q f S:=by
 obtain⟨hil,hse⟩:=List.getElem?_eq_some_iff.mp hset;obtain⟨hvec,hvo,hvs,hr1⟩:=A.rows.head;obtain⟨hN,hNo,hNs,hr2⟩:=hr1.head;obtain⟨hE,hEo,hEs,hr3⟩:=hr2.head;have e0:=I.e0;have e5:=I.e5;have e6:=I.e6;have e7:=I.e7;have hmg:=A.mg;have hg5:=A.g5
 have hown:∃vid off ys,v=.own vid off ss.length∧S.g vid=some (.arr 1 ys)∧off+ss.length≤ys.length∧ys[off+i]? = some (Z03 set):=by
  rcases hvec with⟨_,h0⟩ | ⟨vid,off,ys,h1,h2,h3,h4⟩
  ·simp at h0;subst h0;simp at hil
  ·refine⟨vid,off,ys,by rw[h1];simp,h2,?_,?_⟩
   ·have:=congrArg List.length h4
    simp at this;omega
   ·have:(ys.drop off)[i]? = some (Z03 set):=by rw[h4,List.getElem?_map,hset];rfl
    simpa using this
 obtain⟨vid,off,ys,hv,hgv,hol,hyi⟩:=hown;have hilt:(i:Int) < ss.length:=by omega
 subst hv;have hce:(Z03 set).cells=[Z03 set]:=rfl;simp[Zdl,e0,e5,e6,e7,hmg,hg5,Z47,hgv,hilt,hol,hyi,hce];have hrl:rs.length=nx.length:=by have:=hr3.len;simpa[Zab] using this
 have hi3:i≤3000:=by have:=hss.l;omega
 have hrc:∀z∈rs,z.cells.length=1:=by
  intro z hz;obtain⟨t,ht,rfl⟩:=List.mem_iff_getElem.mp hz;have:=hr3.row t (by simp;omega) (by simp[Zab];omega);rw[List.getElem_append_left ht] at this;rcases this with⟨e,_⟩ | ⟨_,_,_,e,_⟩<;>rw[e]<;>rfl
 rw[Vec.P6c (by_:=24) (hN.frame fun _ _=>rfl) hrc rfl (by unfold Z1K;omega)];have hb5N:b5∉vN.ids:=fun h=>(hNo b5 h).2 (by simp)
 have hidN:id∉vN.ids:=fun h=>(hNo id h).2 (by simp)
 have hviN:vid∉vN.ids:=fun h=>hvs vN (by simp) vid (by simp[AV.ids]) h
 have hlid:=A.lid;have hnle:=A.nle;have hlt5:=A.t5;have q1:b5≠S.n+4:=by omega
 have q2:id≠S.n+4:=by omega
 have hvil:vid < S.n:=(hvo vid (by simp[AV.ids])).1;have q3:vid≠S.n+4:=by omega
 simp[e0,e5,e6,e7,hmg,hg5,Z47,hgv,hilt,hol,hyi,hce,Z4Y b5 hb5N,Z4Y id hidN,Z4Y vid hviN,Z6q,q1,q2,q3]
 have hfz:∀S':St,S'.g id=S.g id→Z5A P fe [.ptr id 0 0,Z03 set] S' [id] (Z1n (Z5i n set)):=fun S' h=>by
  have hz:FzL (only [id] S'.g) [.ptr id 0 0,Z03 set] [Zck n,Z03 set] :=
   FzL.cons (.pre id 7 [Z06 n.signs,Z0l n.by_,Z0l n.follow,Z03 n.last] [Z06 most,.mp km,.own vid off ss.length] (by rw[Zf8,if_pos (by simp),h];exact A.mg) (by
    intro y hy;simp only[List.mem_cons,List.not_mem_nil,or_false] at hy;rcases hy with rfl | rfl | rfl | rfl
    ·exact Z04 _
    ·exact Z0T _
    ·exact Z0T _
    ·exact Z02 _)) (FzL.cons (.closed _ (Z02 _)) FzL.nil)
  exact⟨_,hend,hz.1,hz.2,.inl (Zge _)⟩
 have nN:∀j,j∈vN.ids∨j=S.n+4→¬j=b5:=by
  rintro j (h | rfl) rfl
  ·exact hb5N h
  ·exact q1 rfl
 have nI:∀j,j∈vN.ids∨j=S.n+4→¬j=id:=by
  rintro j (h | rfl) rfl
  ·exact hidN h
  ·exact q2 rfl
 have nV:∀j,j∈vN.ids∨j=S.n+4→¬j=vid:=by
  rintro j (h | rfl) rfl
  ·exact hviN h
  ·exact q3 rfl
 refine⟨nN,nI,nV,Z1n (Z5i n set),[id],hfz _ (by rw[Z0A,if_neg q2,Z4Y id hidN]),?_⟩;simp[e0,e5,e6,e7,hmg,hg5,Z4Y b5 hb5N,Z4Y id hidN,Z6q,q1,q2,q3];have k1:∀i,i∉vN.ids→i≠S.n+4→(((⟨S.n+22,S.g⟩:St).without vN).set (S.n+4) (some (.arr 1 (rs++[.own q 0 L])))).g i=S.g i:=fun i h1 h2=>by rw[Z0A,if_neg h2,Z4Y i h1]
 have k2:(((⟨S.n+22,S.g⟩:St).without vN).set (S.n+4) (some (.arr 1 (rs++[.own q 0 L])))).g (S.n+4)=some (.arr 1 (rs++[.own q 0 L])):=by rw[Z0A,if_pos rfl]
 have k3:(((⟨S.n+22,S.g⟩:St).without vN).set (S.n+4) (some (.arr 1 (rs++[.own q 0 L])))).n=S.n+22:=by simp[Z2k,Z6q]
 generalize(((⟨S.n+22,S.g⟩:St).without vN).set (S.n+4) (some (.arr 1 (rs++[.own q 0 L]))))=S1 at *;obtain⟨n1,g1⟩:=S1;simp only at k1 k2 k3;have hEN:∀i∈vE.ids,i∉vN.ids:=fun i h1 h2=>hNs vE (by simp) i h2 h1
 have hEl:∀i∈vE.ids,i < S.n:=fun i hi=>(hEo i hi).1
 have hE1:Vec g1 vE 1 (en.map Z1n):=hE.frame fun i hi=>k1 i (hEN i hi) (by have:=hEl i hi;omega)
 have hec:∀z∈en.map Z1n,z.cells.length=1:=by
  intro z hz;obtain⟨b,_,rfl⟩:=List.mem_map.mp hz;rfl
 have happ:=Vec.P6c (n:=n1) (nid:=S.n+17) (x:=Z1n (Z5i n set)) (by_:=1) hE1 hec rfl (by rw[List.length_map,hen];unfold Z1K;omega);simp only[Z1n] at happ;rw[happ];have hb5E:b5∉vE.ids:=fun h=>(hEo b5 h).2 (by simp)
 have q5:b5≠S.n+17:=by omega
 have g15:=(k1 b5 hb5N q1).trans hg5;simp[e0,e5,e6,e7,g15,Z4Y b5 hb5E,Z6q,q5];refine hk _ _ (.own (S.n+4) 0 (rs.length+1)) (.own (S.n+17) 0 (en.length+1)) ?_ (fun j hj=>?_)
 ·have key:∀i,i∉vN.ids→i∉vE.ids→i < S.n→i≠b5→∀b b2 b3,(((((⟨n1,g1⟩:St).without vE).set (S.n+17) b).set b5 b2).set b5 b3).g i=S.g i:=fun i h1 h2 h3 h4 b b2 b3=>by
   rw[Z0A,if_neg h4,Z0A,if_neg h4,Z0A,if_neg (by omega),Z4Y i h2];exact k1 i h1 (by omega)
  have hidE:id∉vE.ids:=fun h=>(hEo id h).2 (by simp)
  have hkmN:km∉vN.ids:=fun h=>(hNo km h).2 (by simp)
  have hkmE:km∉vE.ids:=fun h=>(hEo km h).2 (by simp)
  have h4N:b4∉vN.ids:=fun h=>(hNo b4 h).2 (by simp)
  have h4E:b4∉vE.ids:=fun h=>(hEo b4 h).2 (by simp)
  have hlkm:=A.lkm;have hl5:=A.l5;have hl4:=A.l4;have hlt4:=A.t4;have hn45:=A.n45;have q4E:S.n+4∉vE.ids:=fun h=>by have:=hEl _ h;omega
  have hr3':=hr3;refine⟨?_,?_,?_,?_,?_,A.ne,A.lid,A.lkm,A.l4,A.l5,A.n45,?_,?_,fun w hw i hi=>?_,fun i h1 h2 h3=>?_,?_⟩
  ·rw[key id hidN hidE (by omega) (by omega)];exact A.mg
  ·rw[key km hkmN hkmE (by omega) (by omega)];exact A.mm
  ·rw[key b4 h4N h4E hlt4 hn45];exact A.g4
  ·simp[Z0A,Z06]
  ·have hr4:Z6u (((((⟨n1,g1⟩:St).without vE).set (S.n+17) (some (.arr 1 (en.map Z1n++[.v (.bool (Z5i n set))])))).set b5 (some (.arr 3 [.agg [.v (.int .i64 n.signs),.own (S.n+4) 0 (rs.length+1),vE]]))).set b5 (some (.arr 3 [.agg [.v (.int .i64 n.signs),.own (S.n+4) 0 (rs.length+1),.own (S.n+17) 0 (en.length+1)]]))).g (S.n+22) [id,km,b4,b5] (rs++[.own q 0 L]) (Zab nx++[r.map Z06]):=by
    refine hr3.frame (by omega) (fun w hw i hi=>?_);have ho:=hr3.out w hw i hi;have ho2:=ho.2;simp only[List.mem_cons,List.not_mem_nil,or_false,not_or] at ho2;exact key i (fun h=>hNs w (by simp at hw ⊢;exact .inr hw) i h hi) (fun h=>hEs w hw i h hi) ho.1 ho2.2.2.2 _ _ _
   have hrw:Zab (nx++[r])=Zab nx++[r.map Z06]:=by simp[Zab]
   have henb:(en++[Z5i n set]).map Z1n=en.map Z1n++[.v (.bool (Z5i n set))]:=by simp[Z1n]
   rw[List.append_nil,List.append_nil,hrw,henb];have hnn:(((((⟨n1,g1⟩:St).without vE).set (S.n+17) (some (.arr 1 (en.map Z1n++[.v (.bool (Z5i n set))])))).set b5 (some (.arr 3 [.agg [.v (.int .i64 n.signs),.own (S.n+4) 0 (rs.length+1),vE]]))).set b5 (some (.arr 3 [.agg [.v (.int .i64 n.signs),.own (S.n+4) 0 (rs.length+1),.own (S.n+17) 0 (en.length+1)]]))).n=S.n+22:=by simp[Z2k,Z6q,k3]
   rw[hnn];refine Z6u.cons ?_ (fun i hi=>?_) (fun w hw i hi hi2=>?_) (Z6u.cons ?_ (fun i hi=>?_) (fun w hw i hi hi2=>?_) (Z6u.cons ?_ (fun i hi=>?_) (fun w hw i hi hi2=>?_) hr4))
   ·refine hvec.frame fun i hi=>?_
    have ho:=hvo i hi;have ho2:=ho.2;simp only[List.mem_cons,List.not_mem_nil,or_false,not_or] at ho2;exact key i (fun h=>hvs vN (by simp) i hi h) (fun h=>hvs vE (by simp) i hi h) ho.1 ho2.2.2.2 _ _ _
   ·exact⟨by have:=(hvo i hi).1;omega,(hvo i hi).2⟩
   ·have hvl:=(hvo i hi).1
    simp only[List.mem_cons,List.mem_append,List.not_mem_nil,or_false] at hw;rcases hw with rfl | rfl | hw
    ·simp only[AV.ids,List.mem_singleton] at hi2;omega
    ·simp only[AV.ids,List.mem_singleton] at hi2;omega
    ·exact hvs w (by simp;exact .inr (.inr hw)) i hi hi2
   ·refine .mk' ?_ (by simp)
    rw[Z0A,if_neg (by omega),Z0A,if_neg (by omega),Z0A,if_neg (by omega),Z4Y _ q4E];exact k2
   ·simp only[AV.ids,List.mem_singleton] at hi
    subst hi;refine⟨by omega,?_⟩;simp only[List.mem_cons,List.not_mem_nil,or_false,not_or];omega
   ·simp only[AV.ids,List.mem_singleton] at hi
    subst hi;simp only[List.mem_cons] at hw;rcases hw with rfl | hw
    ·simp only[AV.ids,List.mem_singleton] at hi2;omega
    ·have:=(hr3.out w hw _ hi2).1;omega
   ·refine .mk' ?_ (by simp)
    rw[Z0A,if_neg (by omega),Z0A,if_neg (by omega),Z0A,if_pos rfl]
   ·simp only[AV.ids,List.mem_singleton] at hi
    subst hi;refine⟨by omega,?_⟩;simp only[List.mem_cons,List.not_mem_nil,or_false,not_or];omega
   ·simp only[AV.ids,List.mem_singleton] at hi
    subst hi;have:=(hr3.out w hw _ hi2).1;omega
  ·simp[Z2k,Z6q,k3];omega
  ·simp[Z2k,Z6q,k3];omega
  ·have hnew:=A.new
   simp only[List.append_nil,List.mem_cons,List.mem_append,List.not_mem_nil,or_false] at hw;rcases hw with rfl | rfl | rfl | hw | rfl
   ·exact hnew _ (by simp) i hi
   ·simp only[AV.ids,List.mem_singleton] at hi;omega
   ·simp only[AV.ids,List.mem_singleton] at hi;omega
   ·exact hnew w (by simp[hw]) i hi
   ·exact hnew _ (by simp) i hi
  ·have hnew:=A.new
   rw[key i (fun h=>by have:=hnew vN (by simp) i h;omega) (fun h=>by have:=hnew vE (by simp) i h;omega) (by omega) (by omega)];exact A.old i h1 h2 h3
  ·simp[Z2k,Z6q,k3];omega
 ·have:∀x:Nat,x≥54→j≠x:=fun x hx=>by omega
  simp[Z00,this]
end Go.Rf
namespace Go.Rf
open Go.RowKit
attribute [local simp] Z4c Z48 Z2M Z2a Z2P Z2R Z2Q Z4a Z4b Z1e Z16 Z0c Z0B Z0q Z08 Z0o Z0h Z09 Z0p Z0i Z0Y Z0j Z0z Z0K Z0k Z0J Z1W Z3U Z0X Z25 Z22 Z24 Z23 Z26 Z1j Z0D Z11 Z12 Z1T Z1U Z1V Z0H Z0I Z1i Z0r Z0W Z20 Z1X Z1Z Z1Y Z21 Z1k Z13 Z1g Z0U Z0V Z0C Z1h Z0P Z1a Z1f Z14 Z1l ex Z00 Z0R Z6K Z6P Z0f Z0g Z0A Z2k Z1d Z10 Z0y Z0F Z0G Z0E Z0s Z0Z Z5y Z0O Z37 Z1c Z1O Z1R Z3s Z0b Z1q Z19 Z0Q Z1F Z3S Z1P Z6A Z3C Z6z Z3w Z2Y Z3t Z6w Z3D Z51 AV.solid S0 Z06 Z1n
structure OuI(S00:St)(id km b4 b5:Nat)(n:Net)(most:Int)(kd:Kd)(clo:AV)(i:Nat)(f:AF)(S:St)(st:Sts)(v vN vE:AV)(rs:List AV):Prop where
 eq:stF kd n most i=some st
 A:AlS S S00 id km b4 b5 n most st.1 st.2.1 st.2.2 v vN vE rs [] []
 e0:f 0=.ptr id 0 0
 e1:f 1=clo
 e4:f 4=.ptr b4 0 0
 e5:f 5=.ptr b5 0 0
 e6:f 6=Z06 i
 min:∀m,m < i→∀stm,stF kd n most m=some stm→m≠stm.1.length
def OuE(S00:St)(id km b4 b5:Nat)(n:Net)(most:Int)(kd:Kd)(clo:AV)(i:Nat)(f:AF)(S:St):Prop:=∃st v vN vE rs,OuI S00 id km b4 b5 n most kd clo i f S st v vN vE rs
theorem Zni{P:Program}{fnum fT cf fe:FuncId}{cap:List AV}{S00:St}{id km b4 b5:Nat}{n:Net}{most:Int}{kd:Kd}(R:Z4H n)(hnum:Ztz P fnum fT n)(hbeh:Zvh P cf cap S00 id km n most kd)
  (hend:∀set,Val n set→Z0t P fe [Zck n,Z03 set] (Z1n (Z5i n set))) (hm1:1≤most) (hm3:most≤3000) {f:AF} {S:St} {Q:Exit→AF→St→Prop}
  (h0:OuE S00 id km b4 b5 n most kd (.clo cf [] cap) 0 f S)
  (hk:∀f' S' st v vN vE rs,Z7J kd n most=some st→AlS S' S00 id km b4 b5 n most st.1 st.2.1 st.2.2 v vN vE rs [] []→f' 4=.ptr b4 0 0→f' 5=.ptr b5 0 0→Q .normal f' S')
  (hp:Z7J kd n most=none→∀f' S',Old S00 S' id km→Q (pn (tmV fT)) f' S'):AW P (ZfE fnum fe) Q f S:=by
 simp[Z1u,Z4h,Z4e,Z4i,Z4g,Z4f,Z2N,Z2S,Z2T,Z2X,Z4d,Z2g,Z2b,Z1v,Z2e,Z2O,Z1G,Z1m,Z2V,Z2d,Z15,Z5O,Z3T,Z1L,ZfE];refine Z7F most.toNat (OuE S00 id km b4 b5 n most kd (.clo cf [] cap)) h0 ?_;rintro i f S hi ⟨st,v,vN,vE,rs,O⟩;have o:=Zeg R hm1 i O.eq;have e0:=O.e0;have e1:=O.e1;have e6:=O.e6;have hmg:=O.A.mg;obtain⟨hvec,_⟩:=O.A.rows.head;have hlv:=hvec.len;rw[List.length_map] at hlv;simp only[Z3S] at hlv;have hle:=o.le;have hsl:=o.ss.l;by_cases hlt:i < st.1.length
 ·have hltI:(i:Int) < st.1.length:=by omega
  have hs0:(0:Int)≤n.signs:=by have:=R.s1;omega
  have hs4:n.signs≤400:=R.s2;have hmk1:8*n.signs≤281474976710656:=by omega
  have hmk2:n.signs≤9223372036854775807:=by omega
  obtain⟨set,hset⟩:∃set,st.1[i]? = some set:=⟨_,List.getElem?_eq_getElem hlt⟩;have hvs:Val n set:=o.ss.v set (by obtain⟨h1,h2⟩:=List.getElem?_eq_some_iff.mp hset;rw[←h2];exact List.getElem_mem h1);have hnxt:stF kd n most (i+1)=nxF kd n most i st:=by simp only[stF,O.eq]
  simp[Z1u,Z4h,Z4e,Z4i,Z4g,Z4f,Z2N,Z2S,Z2T,Z2X,Z4d,Z2g,Z2b,Z1v,Z2e,Z2O,Z1G,Z1m,Z2V,Z2d,Z15,Z5O,Z3T,Z1L,e0,e1,e6,hmg,Z47,hlv,hlt,Zhd,hs0,hmk1,hmk2];refine ZpK (set:=set) R hnum hbeh hm3 rfl o.ss hset (AlS.row O.A (by omega) (by omega) (by simp)) ⟨?_,?_,?_,?_,?_,?_⟩ ?_ ?_ (fun f1 S1 ss1 r v1 hrow A1 I1 hpre=>?_) (fun hrow f1 S1 hold=>?_)
  ·simp[Z00,e0]
  ·simp[Z00,e1]
  ·simp[Z00,O.e4]
  ·simp[Z00,O.e5]
  ·simp[Z00,e6]
  ·simp[Z00]
  ·simp[Z00,Z06]
  ·simp[Z00,Z06]
  ·have hsr:nxF kd n most i st=some (ss1,st.2.1++[r],st.2.2++[Z5i n set]):=by simp only[nxF,hset,hrow]
   obtain⟨hok1,_,_⟩:=Ze6 (n:=n) (fun s=>ZeH R hvs s) o.ss _ hrow
   have hset1:ss1[i]? = some set:=by
    rw[hpre i hlt,←hset,List.getElem?_eq_getElem hlt]
   simp[Z1u,Z4h,Z4e,Z4i,Z4g,Z4f,Z2N,Z2S,Z2T,Z2X,Z4d,Z2g,Z2b,Z1v,Z2e,Z2O,Z1G,Z1m,Z2V,Z2d,Z15,Z5O,Z3T,Z1L];refine Zln hm3 hok1 hset1 (hend set hvs) o.nx o.en A1 I1 (fun f2 S2 vN' vE' A2 hf2=>?_);have e6':f2 6=Z06 i:=by rw[hf2 6 (by omega)];exact I1.e6
   simp[Z1u,Z4h,Z4e,Z4i,Z4g,Z4f,Z2N,Z2S,Z2T,Z2X,Z4d,Z2g,Z2b,Z1v,Z2e,Z2O,Z1G,Z1m,Z2V,Z2d,Z15,Z5O,Z3T,Z1L,e6'];rw[Z0m _ (by omega)];refine⟨by omega,(ss1,st.2.1++[r],st.2.2++[Z5i n set]),v1,vN',vE',rs++[.own _ 0 n.signs.toNat],⟨by rw[hnxt,hsr],A2.up (by simp),?_,?_,?_,?_,?_,?_⟩⟩
   ·simp[Z00,hf2,I1.e0]
   ·simp[Z00,hf2,I1.e1]
   ·simp[Z00,hf2,I1.e4]
   ·simp[Z00,hf2,I1.e5]
   ·simp[Z00,Z06]
   ·intro m hm' stm hstm
    by_cases hmi:m=i
    ·subst hmi
     rw[O.eq] at hstm;cases hstm;omega
    ·exact O.min m (by omega) stm hstm
  ·rw[Z1G,Z1m,Z1G,Z1G,Z1m]
   refine hp ?_ _ _ hold;have hsr:nxF kd n most i st=none:=by simp only[nxF,hset,hrow]
   refine ZfU R (most.toNat+1) 0 rfl i (Nat.zero_le _) (by rw[hnxt,hsr]) (fun m _ h2 stm hstm=>?_);by_cases hmi:m=i
   ·subst hmi
    rw[O.eq] at hstm;cases hstm;omega
   ·exact O.min m (by omega) stm hstm
 ·have hieq:i=st.1.length:=by omega
  have hltI:¬((i:Int) < st.1.length):=by omega
  simp[Z1u,Z4h,Z4e,Z4i,Z4g,Z4f,Z2N,Z2S,Z2T,Z2X,Z4d,Z2g,Z2b,Z1v,Z2e,Z2O,Z1G,Z1m,Z2V,Z2d,Z15,Z5O,Z3T,Z1L,e0,e1,e6,hmg,Z47,hlv,hlt];refine hk _ _ st v vN vE rs ?_ (O.A.up (by omega)) (by simp[Z00,O.e4]) (by simp[Z00,O.e5]);exact ZiX R hm1 (most.toNat+1) 0 rfl (by omega) i st (Nat.zero_le _) O.eq hieq (fun m _ h2=>O.min m h2)
theorem ZrR{P:Program}(ZnN:P.follows .mixedOrders=true){fall fnum fT cf fe:FuncId}(hall:IsX P fall (Z5s fnum fe) [.c 4 (some 3)] 2){cap:List AV}{S00:St}{id km:Nat}{n:Net}{most:Int}{kd:Kd}(R:Z4H n)(hnum:Ztz P fnum fT n)(hbeh:Zvh P cf cap S00 id km n most kd)
  (hend:∀set,Val n set→Z0t P fe [Zck n,Z03 set] (Z1n (Z5i n set))) (hm1:1≤most) (hm3:most≤3000) (M:MkS S00 id km n most [] (.sl true [])) {K:AV→St→Prop} {X:Value→St→Prop}
  (hK:∀st S' vN vE g,Z7J kd n most=some st→Old S00 S' id km→(∀i k,g i=some k→S'.g i=some k∧S00.n≤i∧i < S'.n)→FzN g vN (Z0l st.2.1)→FzN g vE (Z2E st.2.2)→K (.agg [Z06 n.signs,vN,vE]) S') (hX:Z7J kd n most=none→∀S',Old S00 S' id km→X (tmV fT) S'):Z7o P fall [.ptr id 0 0,.clo cf [] cap] S00 K X:=by
 refine hall.P4D ZnN rfl ?_;have hmg:=M.g;have hv0:Val n [0]:=⟨fun x hx=>by simp at hx;subst hx;have:=R.n1;have:=R.len;omega,by simp⟩;have hidn:id≠S00.n:=by have:=M.lid;omega
 simp[Z1u,Z4h,Z4e,Z4i,Z4g,Z4f,Z2N,Z2S,Z2T,Z2X,Z4d,Z2g,Z2b,Z1v,Z2e,Z2O,Z1G,Z1m,Z2V,Z2d,Z15,Z5O,Z3T,Z1L,Z5s,hmg,Z47,Z0w,Z1t,hidn];refine Z7o.weak (args':=[.ptr id 0 0,Z03 [0]]) ?_ rfl (fun j h1 h2 E v hv=>?_)
 ·have A0:AlS ⟨S00.n+1+8+3,((((⟨S00.n+1+8,((⟨S00.n+1,S00.g⟩:St).set S00.n (some (.arr 3 [.agg [.v (.int .i64 0),.sl true [],.sl true []]]))).g⟩:St).set (S00.n+1+6) (some (.arr 3 [.agg [.v (.int .i64 0),.sl true [],.sl true []]]))).set (S00.n+1+6) (some (.arr 3 [.agg [.v (.int .i64 n.signs),.sl true [],.sl true []]])))).g⟩ S00 id km S00.n (S00.n+1+6) n most [] [] [] (.sl true []) (.sl true []) (.sl true []) [] [] []:=by
   have hlid:=M.lid;have hlkm:=M.lkm;refine⟨?_,?_,?_,?_,?_,M.ne,M.lid,M.lkm,Nat.le_refl _,by omega,by omega,by show S00.n < S00.n+1+8+3;omega,by show S00.n+1+6 < S00.n+1+8+3;omega,?_,fun i h1 h2 h3=>?_,by show S00.n≤S00.n+1+8+3;omega⟩
   ·rw[Z0A,if_neg (by omega),Z0A,if_neg (by omega),Z0A,if_neg (by omega)];exact M.g
   ·rw[Z0A,if_neg (by omega),Z0A,if_neg (by omega),Z0A,if_neg (by omega)];exact M.m
   ·rw[Z0A,if_neg (by omega),Z0A,if_neg (by omega),Z0A,if_pos rfl];rfl
   ·rw[Z0A,if_pos rfl];rfl
   ·refine Z6u.cons .nil (by simp[AV.ids]) (by simp[AV.ids]) (Z6u.cons .nil (by simp[AV.ids]) (by simp[AV.ids]) (Z6u.cons .nil (by simp[AV.ids]) (by simp[AV.ids]) .nil))
   ·intro w hw i hi
    simp only[List.append_nil,List.mem_cons,List.not_mem_nil,or_false,or_self] at hw;subst hw;simp[AV.ids] at hi
   ·rw[Z0A,if_neg (by omega),Z0A,if_neg (by omega),Z0A,if_neg (by omega)]
  refine hnum id km most [] _ [0] _ _ _ A0.mk' hv0 ⟨by simp,by simp;omega⟩ hm3 (fun h=>by simp at h) (fun _ _ S1 v1 M1 F1 hv1=>?_) (fun _ h=>by simp at h;omega);have A1:=A0.num M1 F1 hv1;simp[Z1u,Z4h,Z4e,Z4i,Z4g,Z4f,Z2N,Z2S,Z2T,Z2X,Z4d,Z2g,Z2b,Z1v,Z2e,Z2O,Z1G,Z1m,Z2V,Z2d,Z15,Z5O,Z3T,Z1L];refine Zni R hnum hbeh hend hm1 hm3 ⟨([[0]],[],[]),v1,.sl true [],.sl true [],[],⟨rfl,A1.up (by simp),?_,?_,?_,?_,?_,fun m hm=>by omega⟩⟩ (fun f' S' st v vN vE rs hmade A e4 e5=>?_) (fun hmade f' S' hold=>?_)
  ·simp[Z00,Z0f]
  ·simp[Z00,Z0f,Z0g]
  ·simp[Z00]
  ·simp[Z00]
  ·simp[Z00,Z06]
  ·have g4:=A.g4
   have g5:=A.g5;have h45:=A.n45;simp only[Z7i] at g4;simp[Z1u,Z4h,Z4e,Z4i,Z4g,Z4f,Z2N,Z2S,Z2T,Z2X,Z4d,Z2g,Z2b,Z1v,Z2e,Z2O,Z1G,Z1m,Z2V,Z2d,Z15,Z5O,Z3T,Z1L,e4,e5,g4,g5,h45,Z2L,evC,RV.ev,ldC,Z1b];have hold:=A.old;have hnle:=A.nle;obtain⟨z1,z2⟩:=A.fzN (g:=fun i=>if S00.n≤i∧i≠S00.n∧i < S'.n then S'.g i else none) (fun i h1 h2 h3=>if_pos ⟨h1,h2,h3⟩);refine hK st _ vN vE _ hmade ⟨by simp only[Z2k];omega,fun i h1 h2 h3=>?_⟩ (fun i k e=>?_) z1 z2
   ·rw[Z0A,if_neg (by omega)];exact hold i h1 h2 h3
   ·have e:(if S00.n≤i∧i≠S00.n∧i < S'.n then S'.g i else none)=some k:=e
    split at e
    ·rename_i h;exact⟨by rw[Z0A,if_neg h.2.1];exact e,h.1,by rw[Z2k];show i < S'.n+2;omega⟩
    ·cases e
  ·simp[Z1u,Z4h,Z4e,Z4i,Z4g,Z4f,Z2N,Z2S,Z2T,Z2X,Z4d,Z2g,Z2b,Z1v,Z2e,Z2O,Z1G,Z1m,Z2V,Z2d,Z15,Z5O,Z3T,Z1L]
   exact hX hmade _ hold
 ·match j with
  | 0=>exact hv
  | 1=>exact hv.loose
  | j+2=>simp at h1;omega
end Go.Rf
namespace Go.Rf
open Go.RowKit
def Zel(ds:List Deferred)(a:Act):Act:={ a with defers:=a.defers++ds }
theorem Z9Z(ds:List Deferred)(a:Act)(d:Option Tmp)(v:Value):(Zel ds a).put d v=Zel ds (a.put d v):=by cases d<;>rfl
theorem ZgK(ds:List Deferred)(a:Act):(Zel ds a).eval=a.eval:=by
 funext x;cases x<;>rfl
theorem ZqH{P:Program}{o:Oper}{ds:List Deferred}{a:Act}{next next':Act→World→Prop}{Q Q':Exit→Act→World→Prop}(hn:∀a w,next a w→next' (Zel ds a) w)(hq:∀e a w,Q e a w→Q' e (Zel ds a) w) :
  ∀(r:Result Next),o.upon P a next Q r→o.upon P (Zel ds a) next' Q' r:=by
 intro r h;unfold Oper.upon at h ⊢;split at h
 ·rw[Z9Z];exact hn _ _ h
 ·rw[Z9Z];exact hn _ _ h
 ·rename_i d w'
  have:=hn _ _ h;rw[←Z9Z] at this;exact this
 ·refine h.mono fun e w' h2=>?_
  cases e with
  | returned v=>simp only at h2 ⊢;rw[Z9Z];exact hn _ _ h2
  | panicked ch=>exact hq _ _ _ h2
  | outgrown=>obtain⟨a',w2,h3⟩:=h2;exact⟨_,_,hq _ _ _ h3⟩
 ·refine h.mono fun v w' h2=>?_
  rw[Z9Z];exact hn _ _ h2
 ·exact hq _ _ _ h
 ·exact h.elim
theorem ZbE{P:Program}{ops:Array Oper}{ds:List Deferred}{Q Q':Exit→Act→World→Prop}(hq:∀e a w,Q e a w→Q' e (Zel ds a) w):∀(l:List Nat) (a:Act) (w:World),wpOps P ops Q l a w→wpOps P ops Q' l (Zel ds a) w
 | [],a,w,h=>hq _ _ _ h
 | i::l,a,w,h=>by
  simp only[wpOps] at h ⊢;split
  ·rename_i ho
   rw[ho] at h;exact ZbE hq l a w h
  ·rename_i o ho
   rw[ho] at h;simp only at h;have ht:(Zel ds a).tmps=a.tmps:=rfl;rw[ht];split at h
   ·rename_i hw
    rw[if_pos hw];rcases h with h | ⟨h1,a',w',h2⟩
    ·left
     unfold Oper.wp at h ⊢;rw[ZgK];exact ZqH (fun a w h=>ZbE hq l a w h) hq _ h
    ·right
     refine⟨?_,_,_,hq _ _ _ h2⟩;unfold Oper.asks at h1 ⊢;rw[ZgK];exact h1
   ·rename_i hw
    rw[if_neg hw,Z9Z];exact ZbE hq l _ w h
theorem ZlT{P:Program}(hm:P.follows .mixedOrders=true){n:Nat}{ops:Array Oper}{Q:Exit→AF→St→Prop}{a:AF}{S:St}(h:AW P (regX P n false ops) Q a S){E:Env}{w:World}{act:Act}(hG:Gam P E.H)(hS:Sim E S w)(hF:Z6O E n a act) :
  wpOps P ops (ZbJ E S w n Q) (List.range ops.size) act w:=by
 unfold regX at h;rw[if_neg (by simp)] at h;split at h
 ·rename_i os hos
  obtain⟨h1,h2⟩:=Z7l hos
  have hget:∀k (hk:k < os.length),∃o,ops[k]? = some o∧Z7b P n ops o=some (os[k]):=fun k hk=>by
   obtain⟨o,a1,a2⟩:=h2 k hk;exact⟨o,by simpa using a1,a2⟩
  split at h
  ·simp only[AW] at h
   exact Zbu (id:=0) (p:=none) hget (fun _ e=>by cases e) (by rw[h1];simp) h hG hS hF
  ·simp only[AW] at h
   exact Zbu (id:=0) (p:=none) hget (fun _ e=>by cases e) (by rw[h1];simp) (Z8u _ _ h) hG hS hF
 ·cases hl:Zes P n ops ops.toList.reverse with
  | regX os p =>
   rw[hl] at h;have x:=ZhL hl;simp only[AW] at h;exact Zbu (id:=0) x.hc x.ht x.hs h hG hS hF
  | bad=>rw[hl] at h;simp only[AW] at h
  | _ =>
   exfalso;cases hr:ops.toList.reverse with
   | nil=>rw[hr] at hl;simp[Zes] at hl
   | cons o rest =>
    rw[hr] at hl;simp only[Zes] at hl;split at hl<;>(try split at hl)<;>cases hl
def Zrt:Code→Bool
 | .region _ _ d=>!d
 | .seq a b=>Zrt a && Zrt b
 | .ret | .skip=>true
 | _=>false
theorem ZrX{P:Program}(hm:P.follows .mixedOrders=true){n:Nat}(ds:List Deferred):∀(c:Code) (ac:AC),Zct P n c=some ac→Zrt c=true→∀(Q:Exit→AF→St→Prop) (a:AF) (S:St),AW P ac Q a S→∀E w act,Gam P E.H→Sim E S w→Z6O E n a act →
  c.wp P (fun e act' w'=>∃act0,act'=Zel ds act0∧ZbJ E S w n Q e act0 w') (Zel ds act) w:=by
 intro c;induction c with
 | skip =>
  intro ac hc hs Q a S h E w act hG hS hF;simp only[Zct,Z3Q,Option.some.injEq] at hc;subst hc;exact wp_skip ⟨act,rfl,a,S,E,h,hS,hF,.refl _ _ _⟩
 | ret =>
  intro ac hc hs Q a S h E w act hG hS hF;simp only[Zct,Z3Q,Option.some.injEq] at hc;subst hc;exact wp_ret ⟨act,rfl,a,S,E,h,hS,hF,.refl _ _ _⟩
 | region id ops dr =>
  intro ac hc hs Q a S h E w act hG hS hF;have e:=Z6E (R:=regX) hc;subst e;simp only[Zrt,Bool.not_eq_true'] at hs;subst hs;exact wp_region (ZbE (fun e a w hp=>⟨a,rfl,hp⟩) _ _ _ (ZlT hm h hG hS hF))
 | seq x y ihx ihy =>
  intro ac hc hs Q a S h E w act hG hS hF;simp only[Zct,Z3Q,Option.map_eq_some_iff,Option.bind_eq_some_iff] at hc;obtain⟨X,hX,Y,hY,rfl⟩:=hc;simp only[Zrt,Bool.and_eq_true] at hs;simp only[AW] at h;refine wp_seq (wp_mono (ihx X hX hs.1 _ a S h E w act hG hS hF) fun e act' w' hp=>?_);obtain⟨act0,rfl,a',S',E',q,s,r,ev⟩:=hp;cases e with
  | normal =>
   exact wp_mono (ihy Y hY hs.2 Q a' S' q E' w' act0 (hG.le ev.evo.le) s r) fun e act2 w2 ⟨act3,e3,hp2⟩=>⟨act3,e3,hp2.trans ev⟩
  | _=>exact⟨act0,rfl,a',S',E',q,s,r,ev⟩
 | _=>intro ac hc hs;simp[Zrt] at hs
def ZkD:Code→Option (Nat×Nat×Code)
 | .seq (.region _ ⟨[⟨some d,.call ⟨.builtin .recover,⟨[]⟩,_⟩,_,_,_,none⟩,⟨some e,.assign (.tmp d'),_,_,_,none⟩]⟩ false) rest=>if d'=d then some (d,e,rest) else none
 | _=>none
def Zjc(P:Program)(f:FuncId):Option (Nat×Nat×AC×Nat) :=
 match P.funcs[f]? with
 | none=>none
 | some fn=>match fn.body with
  | none=>none
  | some c=>if (fn.name == "runtime.NumGoroutine")=false∧fn.results=#[] then match ZkD c with
   | none=>none
   | some (d,e,rest)=>if d < fn.ntmps∧e < fn.ntmps then (comp P fn.ntmps rest).map fun ac=>(d,e,ac,fn.ntmps) else none
   else none
theorem ZlR{c:Code}{d e:Nat}{rest:Code}(h:ZkD c=some (d,e,rest)):∃id o p,c=.seq (.region id #[o,p] false) rest∧(∃ts,o.op=.call ⟨.builtin .recover,#[],ts⟩)∧o.guard=none∧o.dst=some d∧p.op=.assign (.tmp d)∧p.guard=none∧p.dst=some e:=by
 unfold ZkD at h;split at h
 ·split at h
  ·rename_i hd
   cases h;subst hd;exact⟨_,_,_,rfl,⟨_,rfl⟩,rfl,rfl,rfl,rfl,rfl⟩
  ·cases h
 ·cases h
theorem ZhJ{P:Program}{f:FuncId}{d e n:Nat}{ac:AC}(h:Zjc P f=some (d,e,ac,n)):∃fn c rest,P.funcs[f]? = some fn∧(fn.name == "runtime.NumGoroutine")=false∧fn.body=some c∧fn.results=#[]∧ZkD c=some (d,e,rest)∧d < n∧e < n∧comp P n rest=some ac∧fn.ntmps=n:=by
 unfold Zjc at h;split at h
 ·cases h
 ·rename_i fn hf
  split at h
  ·cases h
  ·rename_i c hc
   split at h
   ·rename_i hcond
    split at h
    ·cases h
    ·rename_i d' e' rest hr
     split at h
     ·rename_i hlt
      simp only[Option.map_eq_some_iff,Prod.mk.injEq] at h;obtain⟨ac',h1,rfl,rfl,rfl,rfl⟩:=h;exact⟨fn,c,rest,hf,hcond.1,hc,hcond.2,hr,hlt.1,hlt.2,h1,rfl⟩
     ·cases h
   ·cases h
def ZhK:FrameMode→Value×FrameMode
 | .panicking [{ v,recovered:=false,goexit:=false }]=>(v,.panicking [{ v,recovered:=true }])
 | u=>(.nilIface,u)
theorem Zv0{P:Program}(hm:P.follows .mixedOrders=true){f:FuncId}{d e n:Nat}{ac:AC}(h:Zjc P f=some (d,e,ac,n)){args:List AV}(hn:args.length≤n){S:St}{u:FrameMode}(hu:u=.returning∨∃v,u=.panicking [{ v,recovered:=false }])(hs:Z9J (ZhK u).1=true){K:St→Prop}
  (hb:AW P ac (fun ex a S'=>(ex=.normal∨ex=.ret)∧K S') (((Z53 args).put (some d) (.v (ZhK u).1)).put (some e) (.v (ZhK u).1)) S) :
  ∀E w vals,Gam P E.H→Sim E S w→Z98 E args vals→CallsD P f vals u w fun en u2 w'=>∃S' E' v,en=.returned v∧u2=(ZhK u).2∧K S'∧Sim E' S' w'∧Ev E S w E' S' w':=by
 intro E w vals hG hS hv;obtain⟨fn,c,rest,hf,hnm,hbd,hres,hinv,hd,he,hac,rfl⟩:=ZhJ h;obtain⟨id,o,p,rfl,⟨ts,ho⟩,hog,hod,hp,hpg,hpd⟩:=ZlR hinv;refine callsD_of_wpS hf hbd fun c₀ cs hc=>?_
 have hF0:=Z6p hv hn;have hF1:=(hF0.put (dst:=some d) (by intro d' e';cases e';exact hd) (.v (ZhK u).1 hs)).put (dst:=some e) (by intro d' e';cases e';exact he) (.v (ZhK u).1 hs)
 have hrun:∀(act:Act) (w:World),(execOp act.eval o).run P w=.ok .recover w:=by
  intro act w;simp only[execOp,ho,resolve,invoke,Sem.run_bind];rfl
 have hrec:∀{Q:Exit→Act→List Frame→World→Prop} {act:Act} {w:World},Q .normal ((act.put (some d) (ZhK u).1).put (some e) (ZhK u).1) ({ c₀ with mode:=(ZhK u).2 }::cs) w→d < act.tmps.size→wpOpsS P #[o,p] Q (List.range 2) act (c₀::cs) w:=by
  intro Q act w hq hsz;have hl:List.range 2=[0,1]:=rfl;have g0:(#[o,p]:Array Oper)[0]? = some o:=rfl;have g1:(#[o,p]:Array Oper)[1]? = some p:=rfl
  have hrunp:∀(v:Value) (w:World),(execOp (act.put (some d) v).eval p).run P w=.ok (.value v) w:=by
   intro v w;simp only[execOp,hp]
   have:(act.put (some d) v).eval (.tmp d)=v:=by
    simp[Act.put,Act.eval,hsz]
   rw[this];rfl
  have fin:∀(v:Value) (cs':List Frame),Q .normal ((act.put (some d) v).put (some e) v) cs' w→wpOpsS P #[o,p] Q [1] (act.put o.dst v) cs' w:=by
   intro v cs' hq';rw[hod];simp only[wpOpsS,g1,Region.wanted,hpg,if_true,hrunp];rw[Oper.upon_value,hpd];exact hq'
  rw[hl];unfold wpOpsS;simp only[g0,Region.wanted,hog,if_true,hrun];rcases hu with rfl | ⟨v,rfl⟩
  ·have hr:recoverD (c₀::cs)=none:=by simp only[recoverD,hc]
   rw[hr];have hcc:({ c₀ with mode:=.returning }:Frame)=c₀:=by rw[←hc]
   simp only[ZhK,hcc] at hq;exact fin _ _ hq
  ·have hr:recoverD (c₀::cs)=some (v,{ c₀ with mode:=.panicking [{ v,recovered:=true }] }::cs):=by simp only[recoverD,hc]
   rw[hr];exact fin _ _ hq
 refine wpS_seq (wpS_region (hrec ?_ ?_))
 ·show(Code.wpS P rest _ _ _ _)
  refine wpS_of_wp (wp_mono (ZfB hm ac rest hac _ _ _ hb E w _ hG hS hF1) fun ex act' w' hpost=>?_);obtain⟨a',S',E',⟨hex,hk⟩,hS',hF',hev⟩:=hpost;have hrs:=Z80 (P:=P) (fn:=fn) (ts:=[]) (by simpa using hres) act'.tmps w';rcases hex with rfl | rfl
  ·exact⟨hF'.defers,_,rfl,_,hrs,S',E',_,rfl,rfl,hk,hS',hev⟩
  ·exact⟨hF'.defers,_,rfl,_,hrs,S',E',_,rfl,rfl,hk,hS',hev⟩
 ·have:=hF0.size
  rw[this];exact hd
structure M1 where
 a0:AC
 ag:AC
 d:Nat
 g:FuncId
 x:Nat
 y:Nat
 ar:AC
 nt:Nat
 rs:List RV
def Zk2:Code→Option (Code×Code×Nat×FuncId×Nat×Nat×Code)
 | .seq c0 (.seq cg (.seq (.region _ ⟨[⟨some d,.makeFunc (.func g) ⟨[]⟩ ⟨[.tmp x,.tmp y]⟩,_,_,_,none⟩,⟨none,.defer ⟨.value (.tmp d'),⟨[]⟩,_⟩,_,_,_,none⟩]⟩ false) rest))=>if d=d' then some (c0,cg,d,g,x,y,rest) else none
 | _=>none
def ZtF(P:Program)(f:FuncId):Option M1 :=
 match P.funcs[f]? with
 | none=>none
 | some fn=>match fn.body with
  | none=>none
  | some c=>if (fn.name == "runtime.NumGoroutine")=false then match Zk2 c with
   | none=>none
   | some (c0,cg,d,g,x,y,rest)=>if d < fn.ntmps∧Zrt rest=true then
     (Zct P fn.ntmps c0).bind fun A0=>(Zct P fn.ntmps cg).bind fun AG=>(Zct P fn.ntmps rest).bind fun AR=>(fn.results.toList.mapM (ZlW P)).map fun rs=>⟨A0,AG,d,g,x,y,AR,fn.ntmps,rs⟩
    else none
   else none
theorem Zlo{c c0 cg rest:Code}{d x y:Nat}{g:FuncId}(h:Zk2 c=some (c0,cg,d,g,x,y,rest)):∃id o p,c=.seq c0 (.seq cg (.seq (.region id #[o,p] false) rest))∧o.op=.makeFunc (.func g) #[] #[.tmp x,.tmp y]∧o.guard=none∧o.dst=some d ∧
  (∃ts,p.op=.defer ⟨.value (.tmp d),#[],ts⟩)∧p.guard=none∧p.dst=none:=by
 unfold Zk2 at h;split at h
 ·split at h
  ·rename_i hd
   cases h;subst hd;exact⟨_,_,_,rfl,rfl,rfl,rfl,⟨_,rfl⟩,rfl,rfl⟩
  ·cases h
 ·cases h
theorem Zuw{P:Program}{f:FuncId}{m:M1}(h:ZtF P f=some m):∃fn c c0 cg rest,P.funcs[f]? = some fn∧(fn.name == "runtime.NumGoroutine")=false∧fn.body=some c∧Zk2 c=some (c0,cg,m.d,m.g,m.x,m.y,rest)∧m.d < fn.ntmps∧Zrt rest=true ∧
  Zct P fn.ntmps c0=some m.a0∧Zct P fn.ntmps cg=some m.ag∧Zct P fn.ntmps rest=some m.ar∧fn.results.toList.mapM (ZlW P)=some m.rs∧fn.ntmps=m.nt:=by
 unfold ZtF at h;split at h
 ·cases h
 ·rename_i fn hf
  split at h
  ·cases h
  ·rename_i c hc
   split at h
   ·rename_i hnm
    split at h
    ·cases h
    ·rename_i c0 cg d g x y rest hd
     split at h
     ·rename_i hcond
      simp only[Option.bind_eq_some_iff,Option.map_eq_some_iff] at h;obtain⟨A0,h0,AG,h1,AR,h2,rs,h3,rfl⟩:=h;exact⟨fn,c,c0,cg,rest,hf,hnm,hc,hd,hcond.1,hcond.2,h0,h1,h2,h3,rfl⟩
     ·cases h
   ·cases h
def Dfr(P:Program)(acr:AC)(dr er:Nat)(rs:List RV)(cap:List AV)(K:AV→St→Prop)(u:FrameMode)(a':AF)(S':St):Prop :=
 AW P acr (fun ex _ S2=>(ex=.normal∨ex=.ret)∧∃xs,evC a' S2.g rs=some xs∧K (Z1b xs) S2) (((Z53 cap).put (some dr) (.v (ZhK u).1)).put (some er) (.v (ZhK u).1)) S'
def Zms(P:Program)(acr:AC)(dr er:Nat)(rs:List RV)(cap:List AV)(K:AV→St→Prop):Exit→AF→St→Prop:=fun e a' S' =>
 match e with
 | .ret=>Dfr P acr dr er rs cap K .returning a' S'
 | .normal=>Dfr P acr dr er rs cap K .returning a' S'
 | .panic ch=>∃v,ch=[{ v,recovered:=false }]∧Z9J v=true∧Dfr P acr dr er rs cap K (.panicking [{ v,recovered:=false }]) a' S'
 | _=>False
def Zty(P:Program)(m:M1)(acr:AC)(dr er:Nat)(K:AV→St→Prop):Exit→AF→St→Prop:=fun e a S =>
 match e with
 | .ret=>∃xs,evC a S.g m.rs=some xs∧K (Z1b xs) S
 | .normal=>AW P m.ar (Zms P acr dr er m.rs [a m.x,a m.y] K) (a.put (some m.d) (.clo m.g [] [a m.x,a m.y])) S
 | _=>False
def Zvn(P:Program)(m:M1)(acr:AC)(dr er:Nat)(K:AV→St→Prop):Exit→AF→St→Prop:=fun e a S =>
 match e with
 | .normal=>AW P m.ag (Zty P m acr dr er K) a S
 | _=>False
theorem ZpA{P:Program}(hm:P.follows .mixedOrders=true){f:FuncId}{m:M1}(h:ZtF P f=some m){dr er nr:Nat}{acr:AC}(h':Zjc P m.g=some (dr,er,acr,nr))(hnr:2≤nr){args:List AV}(hn:args.length≤m.nt){S:St}{K:AV→St→Prop}
  (hb:AW P m.a0 (Zvn P m acr dr er K) (Z53 args) S):Z0x P f args S K:=by
 obtain⟨fn,c,c0,cg,rest,hf,hnm,hbd,hinv,hd,hstr,hc0,hcg,hcr,hrs,hnt⟩:=Zuw h;obtain⟨id,o,p,rfl,ho,hog,hod,⟨ts,hp⟩,hpg,hpd⟩:=Zlo hinv;refine⟨Z3b hf hnm hbd,fun E w vals hG hS hv=>?_⟩;rw[←hnt] at hn;refine calls_of_wp_defers hf hbd (wp_seq (wp_mono (Zdi hm m.a0 c0 hc0 _ _ _ hb E w _ hG hS (Z6p hv hn)) fun e act w1 hp1=>?_));obtain⟨a1,S1,E1,q1,hS1,hF1,ev1⟩:=hp1;cases e<;>simp only[Zvn] at q1;refine wp_seq (wp_mono (Zdi hm m.ag cg hcg _ _ _ q1 E1 w1 act (hG.le ev1.evo.le) hS1 hF1) fun e act2 w2 hp2=>?_);obtain⟨a2,S2,E2,q2,hS2,hF2,ev2⟩:=hp2;cases e<;>simp only[Zty] at q2
 case ret =>
  obtain⟨xs,hx,hk⟩:=q2;obtain⟨val,k1,k2⟩:=Z4K (P:=P) (fn:=fn) hS2 hF2 hrs hx;show Leaves P fn act2.tmps _ act2.defers .returning w2
  rw[hF2.defers];exact⟨val,k1,val,_,S2,E2,rfl,hk,hS2,k2,ev1.trans ev2⟩
 case normal =>
  have rx:Rep E2 (a2 m.x) (act2.eval (.tmp m.x)):=hF2.at_ m.x
  have ry:Rep E2 (a2 m.y) (act2.eval (.tmp m.y)):=hF2.at_ m.y
  have hclo:Rep E2 (.clo m.g [] [a2 m.x,a2 m.y]) (.func (.func m.g) #[] #[act2.eval (.tmp m.x),act2.eval (.tmp m.y)]):=by
   refine .clo m.g [] [a2 m.x,a2 m.y] #[] #[act2.eval (.tmp m.x),act2.eval (.tmp m.y)] rfl rfl (fun j hj=>by simp at hj) (fun j hj=>?_)
   match j,hj with
   | 0,_=>exact rx
   | 1,_=>exact ry
  have hF3:=hF2.put (dst:=some m.d) (by intro d' e';cases e';exact hd) hclo
  let D:Deferred:={ target:=.fn (.func m.g) #[act2.eval (.tmp m.x),act2.eval (.tmp m.y)],args:=#[] }
  have hrun1:(execOp act2.eval o).run P w2=.ok (.value (.func (.func m.g) #[] #[act2.eval (.tmp m.x),act2.eval (.tmp m.y)])) w2:=by
   simp[execOp,ho,Instr.makeFunc]
  have hsz:=hF2.size
  have hrun2:(execOp (act2.put (some m.d) (.func (.func m.g) #[] #[act2.eval (.tmp m.x),act2.eval (.tmp m.y)])).eval p).run P w2=.ok (.defer D) w2:=by
   have he:(act2.put (some m.d) (.func (.func m.g) #[] #[act2.eval (.tmp m.x),act2.eval (.tmp m.y)])).eval (.tmp m.d)=.func (.func m.g) #[] #[act2.eval (.tmp m.x),act2.eval (.tmp m.y)]:=by
    have:m.d < act2.tmps.size:=by rw[hsz];exact hd
    simp[Act.put,Act.eval,this]
   simp only[execOp,hp,Sem.run_bind,Z4z _ _ _ _ _ he,Result.andThen_ok];simp[D]
  refine wp_seq (wp_region ?_);have hl:List.range (#[o,p]:Array Oper).size=[0,1]:=rfl;have g0:(#[o,p]:Array Oper)[0]? = some o:=rfl;have g1:(#[o,p]:Array Oper)[1]? = some p:=rfl;rw[hl];simp only[wpOps,g0,g1,Region.wanted,hog,hpg,if_true];left;unfold Oper.wp;rw[hrun1,Oper.upon_value,hod];left;rw[hrun2,Oper.upon_defer,hpd]
  have hact:({ (act2.put (some m.d) (.func (.func m.g) #[] #[act2.eval (.tmp m.x),act2.eval (.tmp m.y)])) with defers:=D::(act2.put (some m.d) (.func (.func m.g) #[] #[act2.eval (.tmp m.x),act2.eval (.tmp m.y)])).defers }:Act).put none undef=Zel [D] (act2.put (some m.d) (.func (.func m.g) #[] #[act2.eval (.tmp m.x),act2.eval (.tmp m.y)])):=by
   have:=hF3.defers;simp only[Act.put,Zel] at this ⊢;rw[this];rfl
  rw[hact];show Code.wp P rest _ _ _
  refine wp_mono (ZrX hm [D] rest m.ar hcr hstr _ _ _ q2 E2 w2 _ (hG.le (ev1.trans ev2).evo.le) hS2 hF3) fun e act4 w4 hp4=>?_
  obtain⟨act5,rfl,a5,S5,E5,q5,hS5,hF5,ev5⟩:=hp4
  have hcap:Z98 E5 [a2 m.x,a2 m.y] (#[]++#[act2.eval (.tmp m.x),act2.eval (.tmp m.y)]):=by
   refine⟨rfl,fun j hj=>?_⟩
   match j,hj with
   | 0,_=>exact rx.mono ev5.evo.le
   | 1,_=>exact ry.mono ev5.evo.le
  obtain⟨fr,cr,restr,hfr,hnmr,hbdr,_⟩:=ZhJ h';have hcallable:Z4G P m.g:=Z3b hfr hnmr hbdr
  have hinvoke:(invoke D.target D.args).run P w4=.ok (.enter m.g (#[]++#[act2.eval (.tmp m.x),act2.eval (.tmp m.y)])) w4:=by
   simp only[invoke];exact Z69 hcallable _ _
  have hdef:(Zel [D] act5).defers=[D]:=by
   simp only[Zel,hF5.defers,List.nil_append]
  have fin:∀(u:FrameMode),(u=.returning∨∃v,u=.panicking [{ v,recovered:=false }])→settle (ZhK u).2=.returning→Z9J (ZhK u).1=true→Dfr P acr dr er m.rs [a2 m.x,a2 m.y] K u a5 S5 →
    Leaves P fn act5.tmps (fun e w'=>∃v r S' E',e=.returned v∧K r S'∧Sim E' S' w'∧Rep E' r v∧Ev E S w E' S' w') [D] u w4:=by
   intro u hu hset hsc hq;refine⟨by rcases hu with rfl | ⟨v,rfl⟩<;>simp,_,_,_,_,rfl,hinvoke,?_⟩;refine(Zv0 hm h' (by simp;omega) hu hsc hq E5 w4 _ (hG.le ((ev1.trans ev2).trans ev5).evo.le) hS5 hcap).mono ?_;rintro en u2 w6 ⟨S6,E6,v6,rfl,rfl,⟨xs,hx,hk⟩,hS6,ev6⟩;obtain⟨val,k1,k2⟩:=Z4K (P:=P) (fn:=fn) hS6 (hF5.mono ev6.evo.le) hrs hx;show Leaves P fn act5.tmps _ [] (settle (ZhK u).2) w6
   rw[hset];exact⟨val,k1,val,_,S6,E6,rfl,hk,hS6,k2,((ev1.trans ev2).trans ev5).trans ev6⟩
  have htm:(Zel [D] act5).tmps=act5.tmps:=rfl;cases e<;>simp only[Zms] at q5
  case normal =>
   show Leaves P fn (Zel [D] act5).tmps _ (Zel [D] act5).defers .returning w4
   rw[hdef,htm];exact fin _ (.inl rfl) rfl rfl q5
  case ret =>
   show Leaves P fn (Zel [D] act5).tmps _ (Zel [D] act5).defers .returning w4
   rw[hdef,htm];exact fin _ (.inl rfl) rfl rfl q5
  case panic ch =>
   obtain⟨v,rfl,hsc,hq⟩:=q5;show Leaves P fn (Zel [D] act5).tmps _ (Zel [D] act5).defers (.panicking _) w4
   rw[hdef,htm];exact fin _ (.inr ⟨v,rfl⟩) rfl hsc hq
end Go.Rf
namespace Go.Rf
open Go.RowKit
attribute [local simp] Z4c Z48 Z2M Z2a Z2P Z2R Z2Q Z4a Z4b Z1e Z16 Z0c Z0B Z0q Z08 Z0o Z0h Z09 Z0p Z0i Z0Y Z0j Z0z Z0K Z0k Z0J Z1W Z3U Z0X Z25 Z22 Z24 Z23 Z26 Z1j Z0D Z11 Z12 Z1T Z1U Z1V Z0H Z0I Z1i Z0r Z0W Z20 Z1X Z1Z Z1Y Z21 Z1k Z13 Z1g Z0U Z0V Z0C Z1h Z0P Z1a Z1f Z14 Z1l ex Z00 Z0R Z6K Z6P Z0f Z0g Z0A Z2k Z1d Z10 Z0y Z0F Z0G Z0E Z0s Z0Z Z5y Z0O Z37 Z1c Z1O Z1R Z3s Z0b Z1q Z19 Z0Q Z1F Z3S Z1P Z6A Z3C Z6z Z3w Z2Y Z3t Z6w Z3D Z51 AV.solid S0 Z06 Z1n
def ZmR(P4p P45:FuncId):AC :=
 (.seq (.reg none [
 ro 22 (.load (some 4) (.t 3)),
 rm 23 1,
 ro 24 (.mmk),
 ro 25 (.build (.agg [(.v (.int .i64 0)),(.sl true []),(.sl true []),(.sl true []),(.v (.int .i64 0)),(.v (.map none)),(.sl true [])]) [(0,4),(4,1),(5,1)] [(0,(.t 22)),(1,(.t 23)),(2,(.t 24))]),
 ro 26 (.box 7 (.t 25)),
 ro 8 (.alloc (.v (.pointer none)) 1),
 rn (.store 1 (.t 8) (.t 26))])
 (.seq (.regX [
 ro 27 (.load none (.t 8)),
 ro 28 (.mkf P4p [] [(.t 5),(.t 8)]),
 rk 29 P45 [(.t 27),(.t 28)],
 rn (.store 3 (.t 6) (.t 29)),
 rn (.store 1 (.t 7) (ci 0))] none)
 .ret))
def ZeL(P4J:FuncId):AC :=
 (.seq (.regX [
 ro 9 (.load (some 4) (.t 3)),
 rk 10 P4J [(.t 9)],
 ro 11 (.un .not (.t 10)),
 rm 12 11,
 rg 13 12 false (.mv (.t 1)),
 rg 14 12 false (.bin .lss (.t 13) (ci 1)),
 ro 15 (.pick (.t 12) (.c (.v (.bool true))) (.t 14)),
 rm 16 15,
 rg 17 16 false (.mv (.t 1)),
 rg 18 16 false (.bin .gtr (.t 17) (ci 3000)),
 ro 19 (.pick (.t 16) (.c (.v (.bool true))) (.t 18))] none)
 (.cond (.t 19) (.seq (.reg none [
  ro 20 (.build (.agg [(.v (.int .i64 0)),(.sl true []),(.sl true [])]) [] []),
  rn (.store 3 (.t 6) (.t 20)),
  rn (.store 1 (.t 7) (ci 1))])
 .ret) .skip))
def ZmQ:AC :=
 (.reg none [
 ro 3 (.box 4 (.t 0)),
 ro 5 (.box 1 (.t 2)),
 ro 6 (.alloc (.agg [(.v (.int .i64 0)),(.sl true []),(.sl true [])]) 3),
 ro 7 (.alloc (.v (.int .i64 0)) 1)])
def ZaD(f_T:FuncId):AC :=
 (.seq (.reg none [
 rm 7 2,
 ro 8 (.tas f_T (.agg []) (.t 7)),
 rm 6 8,
 ro 9 (.ext 0 (.t 6)),
 ro 10 (.ext 1 (.t 6)),
 ro 3 (.alloc (.agg []) 0),
 rn (.store 0 (.t 3) (.t 9)),
 rm 4 10])
 (.seq (.reg none [
 rm 11 4])
 (.cond (.t 11) (.reg none [
  ro 12 (.build (.agg [(.v (.int .i64 0)),(.sl true []),(.sl true [])]) [] []),
  rn (.store 3 (.t 0) (.t 12)),
  rn (.store 1 (.t 1) (ci 13))]) (.seq (.reg none [
  rm 13 2,
  ro 14 (.inil true (.t 13))])
 (.cond (.t 14) .bad .skip)))))
def Z6d:AC :=
 (.seq (.reg none [
 ro 6 (.mv (.c (.sl true [])))])
 (.seq (.reg none [
 ro 7 (.load none (.t 2)),
 ro 8 (.load none (.t 3)),
 rm 9 0,
 rm 10 1,
 ⟨(some 11),.mv (.c .junk),none,(some ((.t 7),[(.t 8),(.t 9),(.t 10)]))⟩,
 rm 6 11])
 .ret))
def Z7N(P18 P00:FuncId):AC :=
 (.seq (.reg none [
 ro 6 (.mv (.c (.sl true [])))])
 (.seq (.reg none [
 ro 7 (.bslice 1 1 (.v (.int .i64 0)) [(0,(ci 0))]),
 rm 8 0,
 rm 9 1,
 rm 10 2,
 rk 11 P18 [(.t 8),(.t 9),(.t 10)],
 ro 12 (.bslice 1 2 (.sl true []) [(0,(.t 7)),(1,(.t 11))]),
 rk 13 P00 [(.t 12)],
 rm 6 13])
 .ret))
def Z7M(P0D P18:FuncId):AC :=
 (.seq (.reg none [
 ro 6 (.mv (.c (.sl true [])))])
 (.seq (.seq (.reg none [
 rm 7 0,
 rm 8 1,
 rk 9 P0D [(.t 7),(.t 8)]])
 (.cond (.t 9) (.seq (.reg none [
  rm 10 1,
  rm 6 10])
 .ret) .skip))
 (.seq (.reg none [
 rm 11 0,
 rm 12 1,
 rm 13 2,
 rk 14 P18 [(.t 11),(.t 12),(.t 13)],
 rm 6 14])
 .ret)))
def HB(P:Program)(fb:FuncId)(n:Net)(kd:Kd):Prop:=∀(S:St) (id km:Nat) (most:Int) (ss:List (List Int)) (v:AV) (set:List Int) (s:Int) (K:AV→St→Prop),MkS S id km n most ss v→Val n set →
 (∀m,S.n≤m→K (Z03 (bhS kd n set s)) ⟨m,S.g⟩)→Z0x P fb [.ptr id 0 0,Z03 set,Z06 s] S K
def Zvl(P:Program)(f:FuncId)(n:Net):Prop:=∀set s,Val n set→Zd9 P f [Zck n,Z03 set,Z06 s] (Z03 (Z70 n set s))
def Zpg(P:Program)(f:FuncId)(n:Net):Prop:=∀set,Val n set→Z0t P f [Zck n,Z03 set] (Z1n (Z5i n set))
theorem MkS.pre{S:St}{id km:Nat}{n:Net}{most:Int}{ss:List (List Int)}{v:AV}(M:MkS S id km n most ss v){g:Nat→Option Blk}(hg:g id=S.g id):Fz g (.ptr id 0 0) (Zck n) :=
 .pre id 7 [Z06 n.signs,Z0l n.by_,Z0l n.follow,Z03 n.last] [Z06 most,.mp km,v] (by rw[hg];exact M.g) (by
  intro y hy;simp only[List.mem_cons,List.not_mem_nil,or_false] at hy;rcases hy with rfl | rfl | rfl | rfl
  ·exact Z04 _
  ·exact Z0T _
  ·exact Z0T _
  ·exact Z02 _)
theorem HB.whole{P:Program}{f:FuncId}{n:Net}(h:Zvl P f n):HB P f n .whole:=by
 intro S id km most ss v set s K M hv hk;have hz:FzL S.g [.ptr id 0 0,Z03 set,Z06 s] [Zck n,Z03 set,Z06 s]:=FzL.cons (M.pre rfl) (FzL.cons (.closed _ (Z02 _)) (FzL.cons (.closed _ (Z04 _)) FzL.nil));exact Z0x.P47 (h set s hv) S.g (fun _ _ e=>e) hz.1 hz.2 (Z02 _) (hk S.n (Nat.le_refl _))
theorem HB.tails{P:Program}(hm:P.follows .mixedOrders=true){f fs fc:FuncId}{n:Net}(R:Z4H n)(h:Zvl P fs n)(hf:Is P f (Z7N fs fc) [6] 3)
  (hc:∀l:List Int,l.length≤1000→Z0t P fc [.sl true [.sl true [Z06 0],Z03 l]] (Z03 (0::l))):HB P f n .tails:=by
 intro S id km most ss v set s K M hv hk;have hb:=HB.whole h;refine hf.P3z hm rfl ?_;simp[Z7N];refine hb _ id km most ss v set s _ ⟨M.g,M.m,M.vec,M.ne,M.hv,Nat.lt_of_lt_of_le M.lid (by show S.n≤S.n+1+8;omega),Nat.lt_of_lt_of_le M.lkm (by show S.n≤S.n+1+8;omega),fun i hi=>Nat.lt_of_lt_of_le (M.lv i hi) (by show S.n≤S.n+1+8;omega)⟩ hv fun m hm2=>?_
 have h1:(Z03 (bhS .whole n set s)).cells=[Z03 (bhS .whole n set s)]:=rfl;have h2:(Z03 (bhS .whole n set s)).solid=true:=rfl;simp only[AV.solid] at h2;simp[h1,h2]
 refine Z0x.pure (hc _ ?_) (Z01 (.sl _ _ (by
  intro y hy;simp only[List.mem_cons,List.not_mem_nil,or_false] at hy;rcases hy with rfl | rfl
  ·exact .sl _ _ (by intro y hy;simp only[List.mem_cons,List.not_mem_nil,or_false] at hy;subst hy;exact Z04 _)
  ·exact Z02 _)) Z0a) (Z02 _) ?_
 ·have:=(Zgv R set s).2
  show(Z70 n set s).length≤1000
  omega
 ·simp
  exact hk _ (by simp only at hm2;omega)
theorem HB.heads{P:Program}(hm:P.follows .mixedOrders=true){f fs fe:FuncId}{n:Net}(h:Zvl P fs n)(he:Zpg P fe n)(hf:Is P f (Z7M fe fs) [6] 3):HB P f n .heads:=by
 intro S id km most ss v set s K M hv hk;have hb:=HB.whole h;have hMm:∀m,S.n≤m→MkS ⟨m,S.g⟩ id km n most ss v:=fun m hm2=>⟨M.g,M.m,M.vec,M.ne,M.hv,Nat.lt_of_lt_of_le M.lid hm2,Nat.lt_of_lt_of_le M.lkm hm2,fun i hi=>Nat.lt_of_lt_of_le (M.lv i hi) hm2⟩
 refine hf.P3z hm rfl ?_;simp[Z7M];refine Z0x.looks (S:=⟨S.n+1+3,S.g⟩) (he set hv) (FzL.cons (M.pre rfl) (FzL.cons (.closed _ (Z02 _)) FzL.nil)) (Zge _) ?_;cases hq:Z5i n set with
 | true =>
  simp;have:=hk (S.n+1+3+2) (by omega);simp only[bhS,hq,if_true] at this;exact this
 | false =>
  simp;refine hb _ id km most ss v set s _ (hMm _ (by omega)) hv fun m hm2=>?_
  simp;have:=hk m (by simp only at hm2;omega);simp only[bhS,hq,Bool.false_eq_true,if_false] at this;exact this
theorem HB.clo{P:Program}(hm:P.follows .mixedOrders=true){f fb:FuncId}{n:Net}{kd:Kd}(h:HB P fb n kd)(hf:Is P f Z6d [6] 4){S00:St}{id km k5 k8:Nat}{most:Int}(h5:S00.g k5=some (.arr 1 [.clo fb [] []]))(h8:S00.g k8=some (.arr 1 [.ptr id 0 0]))
  (l5:k5 < S00.n) (l8:k8 < S00.n) (n5:k5≠id∧k5≠km) (n8:k8≠id∧k8≠km):Zvh P f [.ptr k5 0 0,.ptr k8 0 0] S00 id km n most kd:=by
 intro S ss v set s K M hold hv hk;have g5:S.g k5=some (.arr 1 [.clo fb [] []]):=(hold.2 k5 l5 n5.1 n5.2).trans h5;have g8:S.g k8=some (.arr 1 [.ptr id 0 0]):=(hold.2 k8 l8 n8.1 n8.2).trans h8;have hMm:∀m,S.n≤m→MkS ⟨m,S.g⟩ id km n most ss v:=fun m hm2=>⟨M.g,M.m,M.vec,M.ne,M.hv,Nat.lt_of_lt_of_le M.lid hm2,Nat.lt_of_lt_of_le M.lkm hm2,fun i hi=>Nat.lt_of_lt_of_le (M.lv i hi) hm2⟩
 refine hf.P3z hm rfl ?_;simp[Z6d,g5,g8];refine h _ id km most ss v set s _ (hMm _ (by omega)) hv fun m hm2=>?_
 simp;exact hk m (by simp only at hm2;omega)
def Zsj:AV:=Z0v ⟨0,[],[]⟩
def Zbe(kd:Kd)(n:Net)(most:Int):AV :=
 if Z4p n=true∧1≤most∧most≤3000 then (match Z7J kd n most with
  | some st=>.tup [Z0v ⟨n.signs,st.2.1,st.2.2⟩,Z06 0]
  | none=>.tup [Zsj,Z06 13])
 else .tup [Zsj,Z06 1]
def Zj4(fr f1 f2 fall:FuncId):M1:=⟨ZmQ,ZeL fr,21,f1,6,7,ZmR f2 fall,30,[.c 6 (some 3),.c 7 none]⟩
theorem ZcP(g:Nat→Option Blk)(e:Int):FzN g (.tup [.agg [.v (.int .i64 0),.sl true [],.sl true []],.v (.int .i64 e)]) (.tup [Zsj,Z06 e]):=by
 refine .tup _ _ rfl (fun i h1 h2=>?_)
 match i,h1 with
 | 0,_ =>
  refine .agg _ _ rfl (fun j k1 k2=>?_)
  match j,k1 with
  | 0,_=>exact .v _
  | 1,_=>exact .nil true false (by simp)
  | 2,_=>exact .nil true false (by simp)
 | 1,_=>exact .v _
theorem ZsF{P:Program}(hm:P.follows .mixedOrders=true){f1 f2 fall fnum fe fb fT:FuncId}(hall:IsX P fall (Z5s fnum fe) [.c 4 (some 3)] 2)(hf2:Is P f2 Z6d [6] 4)
  {n:Net} {kd:Kd} {most:Int} (R:Z4H n) (hnum:Ztz P fnum fT n) (hb:HB P fb n kd) (hend:Zpg P fe n) (h1:1≤most) (h3:most≤3000) {f:AF} {S:St} (e1:f 1=Z06 most) (e3:f 3=.ptr 0 0 0) (e5:f 5=.ptr 1 0 0) (e6:f 6=.ptr 2 0 0) (e7:f 7=.ptr 3 0 0)
  (g0:S.g 0=some (.arr 4 [Z0M n])) (g1:S.g 1=some (.arr 1 [.clo fb [] []])) (g2:S.g 2=some (.arr 3 [Z7i])) (g3:S.g 3=some (.arr 1 [Z06 0])) (hn:4≤S.n) :
  AW P (ZmR f2 fall) (Zms P (ZaD fT) 5 2 [.c 6 (some 3),.c 7 none] [.ptr 2 0 0,.ptr 3 0 0] fun r' S'=>FzN S'.g r' (Zbe kd n most)) (f.put (some 21) (.clo f1 [] [.ptr 2 0 0,.ptr 3 0 0])) S:=by
 have hR:Z4p n=true:=(Z5c n).mpr R;have ec:(Z0M n).cells=[Z06 n.signs,Z0l n.by_,Z0l n.follow,Z03 n.last]:=rfl;have es:(Z0M n).solid=true:=rfl;simp only[AV.solid] at es;simp[Z1u,Z4h,Z4e,Z4i,Z4g,Z4f,Z2N,Z2S,Z2T,Z2X,Z4d,Z2g,Z2b,Z1v,Z2e,Z2O,Z1G,Z1m,Z2V,Z2d,Z15,Z5O,Z3T,Z1L,ZmR,e1,e3,e5,e6,e7,g0,g1,g2,g3,ec,es,Z0w,Z1t,ZiP]
 have k1:∀i,i < S.n→(((((⟨S.n+7,S.g⟩:St).set (S.n+2) (some (.map []))).set (S.n+4) (some (.arr 7 [.agg [.v (.int .i64 n.signs),Z0l n.by_,Z0l n.follow,Z03 n.last,.v (.int .i64 most),.mp (S.n+2),.sl true []]]))).set (S.n+5) (some (.arr 1 [.v (.pointer none)]))).set (S.n+5) (some (.arr 1 [.ptr (S.n+4) 0 0]))).g i=S.g i:=fun i hi=>by
  rw[Z0A,if_neg (by omega),Z0A,if_neg (by omega),Z0A,if_neg (by omega),Z0A,if_neg (by omega)]
 have k2:(((((⟨S.n+7,S.g⟩:St).set (S.n+2) (some (.map []))).set (S.n+4) (some (.arr 7 [.agg [.v (.int .i64 n.signs),Z0l n.by_,Z0l n.follow,Z03 n.last,.v (.int .i64 most),.mp (S.n+2),.sl true []]]))).set (S.n+5) (some (.arr 1 [.v (.pointer none)]))).set (S.n+5) (some (.arr 1 [.ptr (S.n+4) 0 0]))).g (S.n+2)=some (.map []):=by
  rw[Z0A,if_neg (by omega),Z0A,if_neg (by omega),Z0A,if_neg (by omega),Z0A,if_pos rfl]
 have k3:(((((⟨S.n+7,S.g⟩:St).set (S.n+2) (some (.map []))).set (S.n+4) (some (.arr 7 [.agg [.v (.int .i64 n.signs),Z0l n.by_,Z0l n.follow,Z03 n.last,.v (.int .i64 most),.mp (S.n+2),.sl true []]]))).set (S.n+5) (some (.arr 1 [.v (.pointer none)]))).set (S.n+5) (some (.arr 1 [.ptr (S.n+4) 0 0]))).g (S.n+4)=some (.arr 7 [.agg [Z06 n.signs,Z0l n.by_,Z0l n.follow,Z03 n.last,Z06 most,.mp (S.n+2),.sl true []]]):=by
  rw[Z0A,if_neg (by omega),Z0A,if_neg (by omega),Z0A,if_pos rfl];rfl
 have k4:(((((⟨S.n+7,S.g⟩:St).set (S.n+2) (some (.map []))).set (S.n+4) (some (.arr 7 [.agg [.v (.int .i64 n.signs),Z0l n.by_,Z0l n.follow,Z03 n.last,.v (.int .i64 most),.mp (S.n+2),.sl true []]]))).set (S.n+5) (some (.arr 1 [.v (.pointer none)]))).set (S.n+5) (some (.arr 1 [.ptr (S.n+4) 0 0]))).g (S.n+5)=some (.arr 1 [.ptr (S.n+4) 0 0]):=by
  rw[Z0A,if_pos rfl]
 generalize(((((⟨S.n+7,S.g⟩:St).set (S.n+2) (some (.map []))).set (S.n+4) (some (.arr 7 [.agg [.v (.int .i64 n.signs),Z0l n.by_,Z0l n.follow,Z03 n.last,.v (.int .i64 most),.mp (S.n+2),.sl true []]]))).set (S.n+5) (some (.arr 1 [.v (.pointer none)]))).set (S.n+5) (some (.arr 1 [.ptr (S.n+4) 0 0]))).g=G at *
 have M:MkS ⟨S.n+7+5,G⟩ (S.n+4) (S.n+2) n most [] (.sl true []) :=
  ⟨k3,k2,.nil,by omega,by simp[AV.ids],by show S.n+4 < S.n+7+5;omega,by show S.n+2 < S.n+7+5;omega,by simp[AV.ids]⟩
 have hbeh:=hb.clo hm hf2 (S00:=⟨S.n+7+5,G⟩) (id:=S.n+4) (km:=S.n+2) (k5:=1) (k8:=S.n+5) (most:=most) ((k1 1 (by omega)).trans g1) k4 (by show 1 < S.n+7+5;omega) (by show S.n+5 < S.n+7+5;omega) ⟨by omega,by omega⟩ ⟨by omega,by omega⟩
 have hpre:∀S':St,Old ⟨S.n+7+5,G⟩ S' (S.n+4) (S.n+2)→S'.g 2=some (.arr 3 [Z7i])∧S'.g 3=some (.arr 1 [Z06 0]):=fun S' hold =>
  ⟨((hold.2 2 (by show 2 < S.n+7+5;omega) (by omega) (by omega)).trans (k1 2 (by omega))).trans g2,((hold.2 3 (by show 3 < S.n+7+5;omega) (by omega) (by omega)).trans (k1 3 (by omega))).trans g3⟩
 refine ZrR hm hall R hnum hbeh hend h1 h3 M (fun st S' vN vE g hmade hold hgsub z1 z2=>?_) (fun hmade S' hold=>?_)
 ·obtain⟨q2,q3⟩:=hpre S' hold
  simp only[Z7i] at q2;have hnn:S.n+7+5≤S'.n:=hold.1;have hs2:S'.n≠2:=by omega
  have hs3:S'.n≠3:=by omega
  simp[Z1u,Z4h,Z4e,Z4i,Z4g,Z4f,Z2N,Z2S,Z2T,Z2X,Z4d,Z2g,Z2b,Z1v,Z2e,Z2O,Z1G,Z1m,Z2V,Z2d,Z15,Z5O,Z3T,Z1L,e6,e7,q2,q3,Zms,Dfr,ZhK];simp[Z1u,Z4h,Z4e,Z4i,Z4g,Z4f,Z2N,Z2S,Z2T,Z2X,Z4d,Z2g,Z2b,Z1v,Z2e,Z2O,Z1G,Z1m,Z2V,Z2d,Z15,Z5O,Z3T,Z1L,ZaD,Znx,Zhc,e6,e7];have x2:¬(2=S'.n+5):=by omega
  have x3:¬(3=S'.n+5):=by omega
  refine⟨[.agg [.v (.int .i64 n.signs),vN,vE],.v (.int .i64 0)],?_,?_⟩
  ·simp[evC,RV.ev,ldC,Z00,Z0A,e6,e7,x2,x3,Z51,Z0y,Z1d]
  ·rw[Zbe,if_pos ⟨hR,h1,h3⟩,hmade]
   refine .tup _ _ rfl (fun i k1 k2=>?_)
   match i,k1 with
   | 0,_ =>
    refine .agg _ _ rfl (fun j k1 k2=>?_)
    match j,k1 with
    | 0,_=>exact .v _
    | 1,_ =>
     refine z1.mono fun i k e=>?_
     obtain⟨w1,w2,w3⟩:=hgsub i k e;have w2':S.n+7+5≤i:=w2;rw[Z0A,if_neg (by omega),Z0A,if_neg (by omega),Z0A,if_neg (by omega),Z0A,if_neg (by omega)];exact w1
    | 2,_ =>
     refine z2.mono fun i k e=>?_
     obtain⟨w1,w2,w3⟩:=hgsub i k e;have w2':S.n+7+5≤i:=w2;rw[Z0A,if_neg (by omega),Z0A,if_neg (by omega),Z0A,if_neg (by omega),Z0A,if_neg (by omega)];exact w1
   | 1,_=>exact .v _
 ·obtain⟨q2,q3⟩:=hpre S' hold
  simp only[Z7i] at q2;have hnn:S.n+7+5≤S'.n:=hold.1;simp[Z1u,Z4h,Z4e,Z4i,Z4g,Z4f,Z2N,Z2S,Z2T,Z2X,Z4d,Z2g,Z2b,Z1v,Z2e,Z2O,Z1G,Z1m,Z2V,Z2d,Z15,Z5O,Z3T,Z1L];simp only[pn,Z7a];refine⟨tmV fT,rfl,rfl,?_⟩;have x2:¬(2=S'.n+5):=by omega
  have x3:¬(3=S'.n+5):=by omega
  have hbe:Nat.beq fT fT=true:=Nat.beq_refl fT;have hov:Zg8 (.agg #[])=some (.agg []):=rfl;simp[Z1u,Z4h,Z4e,Z4i,Z4g,Z4f,Z2N,Z2S,Z2T,Z2X,Z4d,Z2g,Z2b,Z1v,Z2e,Z2O,Z1G,Z1m,Z2V,Z2d,Z15,Z5O,Z3T,Z1L,e6,e7,q2,q3,Zms,Dfr,ZhK,tmV];simp[Z1u,Z4h,Z4e,Z4i,Z4g,Z4f,Z2N,Z2S,Z2T,Z2X,Z4d,Z2g,Z2b,Z1v,Z2e,Z2O,Z1G,Z1m,Z2V,Z2d,Z15,Z5O,Z3T,Z1L,ZaD,Znx,Zhc,e6,e7,hbe,hov,Z0w,Z1t,q2,q3,x2,x3];refine⟨[.agg [.v (.int .i64 0),.sl true [],.sl true []],.v (.int .i64 13)],?_,?_⟩
  ·simp[evC,RV.ev,ldC,Z00,Z0A,e6,e7,x2,x3,Z51,Z0y,Z1d]
  ·rw[Zbe,if_pos ⟨hR,h1,h3⟩,hmade]
   exact ZcP _ 13
theorem Zq7{P:Program}(hm:P.follows .mixedOrders=true){f fr f1 f2 fall fnum fe fb fT:FuncId}(h:ZtF P f=some (Zj4 fr f1 f2 fall))(h':Zjc P f1=some (5,2,ZaD fT,16))(hall:IsX P fall (Z5s fnum fe) [.c 4 (some 3)] 2)(hf2:Is P f2 Z6d [6] 4)
  {n:Net} {kd:Kd} {most:Int} (hr:Z0t P fr [Z0M n] (Z1n (Z4p n))) (hnum:Z4p n=true→Ztz P fnum fT n) (hb:Z4p n=true→HB P fb n kd) (hend:Z4p n=true→Zpg P fe n):Zd9 P f [Z0M n,Z06 most,.clo fb [] []] (Zbe kd n most):=by
 refine .P1h (ZpA hm h h' (by omega) (by show 3≤30;omega) ?_);show AW P ZmQ (Zvn P (Zj4 fr f1 f2 fall) (ZaD fT) 5 2 _) _ _
 have ha:Z3s 4 (Z0M n)=.new (some (.arr 4 [Z0M n],fun i=>.ptr i 0 0)):=rfl;simp[Z1u,Z4h,Z4e,Z4i,Z4g,Z4f,Z2N,Z2S,Z2T,Z2X,Z4d,Z2g,Z2b,Z1v,Z2e,Z2O,Z1G,Z1m,Z2V,Z2d,Z15,Z5O,Z3T,Z1L,ZmQ,Z0M,Z0l,Z03,Zvn];show AW P (ZeL fr) _ _ _
 by_cases hR:Z4p n=true
 ·by_cases h1:most < 1
  ·simp[Z1u,Z4h,Z4e,Z4i,Z4g,Z4f,Z2N,Z2S,Z2T,Z2X,Z4d,Z2g,Z2b,Z1v,Z2e,Z2O,Z1G,Z1m,Z2V,Z2d,Z15,Z5O,Z3T,Z1L,ZeL]
   refine Z7o.ofR (Z0x.pure hr (Z01 (Z1J n) Z0a) (Z0L _) ?_);simp[Z1u,Z4h,Z4e,Z4i,Z4g,Z4f,Z2N,Z2S,Z2T,Z2X,Z4d,Z2g,Z2b,Z1v,Z2e,Z2O,Z1G,Z1m,Z2V,Z2d,Z15,Z5O,Z3T,Z1L,hR,h1,Z0w,Z1t,Zty,Zj4,evC,RV.ev,ldC,Z1b];rw[Zbe,if_neg (by omega)];exact ZcP _ 1
  ·by_cases h3:3000 < most
   ·simp[Z1u,Z4h,Z4e,Z4i,Z4g,Z4f,Z2N,Z2S,Z2T,Z2X,Z4d,Z2g,Z2b,Z1v,Z2e,Z2O,Z1G,Z1m,Z2V,Z2d,Z15,Z5O,Z3T,Z1L,ZeL]
    refine Z7o.ofR (Z0x.pure hr (Z01 (Z1J n) Z0a) (Z0L _) ?_);simp[Z1u,Z4h,Z4e,Z4i,Z4g,Z4f,Z2N,Z2S,Z2T,Z2X,Z4d,Z2g,Z2b,Z1v,Z2e,Z2O,Z1G,Z1m,Z2V,Z2d,Z15,Z5O,Z3T,Z1L,hR,h1,h3,Z0w,Z1t,Zty,Zj4,evC,RV.ev,ldC,Z1b];rw[Zbe,if_neg (by omega)];exact ZcP _ 1
   ·simp[Z1u,Z4h,Z4e,Z4i,Z4g,Z4f,Z2N,Z2S,Z2T,Z2X,Z4d,Z2g,Z2b,Z1v,Z2e,Z2O,Z1G,Z1m,Z2V,Z2d,Z15,Z5O,Z3T,Z1L,ZeL]
    refine Z7o.ofR (Z0x.pure hr (Z01 (Z1J n) Z0a) (Z0L _) ?_);simp[Z1u,Z4h,Z4e,Z4i,Z4g,Z4f,Z2N,Z2S,Z2T,Z2X,Z4d,Z2g,Z2b,Z1v,Z2e,Z2O,Z1G,Z1m,Z2V,Z2d,Z15,Z5O,Z3T,Z1L,hR,h1,h3];have R:=(Z5c n).mp hR;simp only[Zty];refine ZsF hm hall hf2 R (hnum hR) (hb hR) (hend hR) (by omega) (by omega) ?_ ?_ ?_ ?_ ?_ ?_ ?_ ?_ ?_ ?_
    ·simp[Z00,Z0f,Z0g,Z06]
    ·simp[Z00]
    ·simp[Z00]
    ·simp[Z00]
    ·simp[Z00]
    ·simp[Z0A,Z0M,Z06,Z0l,Z03]
    ·simp[Z0A]
    ·simp[Z0A,Z7i,Z06]
    ·simp[Z0A,Z06]
    ·simp
 ·simp[Z1u,Z4h,Z4e,Z4i,Z4g,Z4f,Z2N,Z2S,Z2T,Z2X,Z4d,Z2g,Z2b,Z1v,Z2e,Z2O,Z1G,Z1m,Z2V,Z2d,Z15,Z5O,Z3T,Z1L,ZeL]
  refine Z7o.ofR (Z0x.pure hr (Z01 (Z1J n) Z0a) (Z0L _) ?_);simp[Z1u,Z4h,Z4e,Z4i,Z4g,Z4f,Z2N,Z2S,Z2T,Z2X,Z4d,Z2g,Z2b,Z1v,Z2e,Z2O,Z1G,Z1m,Z2V,Z2d,Z15,Z5O,Z3T,Z1L,hR,Z0w,Z1t,Zty,Zj4,evC,RV.ev,ldC,Z1b];rw[Zbe,if_neg (by simp[hR])];exact ZcP _ 1
end Go.Rf
namespace Go.Rf
open Go.RowKit
def Z7c(P4I P18:FuncId):AC :=
 (.seq (.reg none [
 ro 2 (.box 4 (.t 0)),
 ro 4 (.alloc (.agg [(.v (.int .i64 0)),(.sl true []),(.sl true [])]) 3),
 ro 5 (.mv (ci 0))])
 (.seq (.reg none [
 ro 6 (.load (some 4) (.t 2)),
 rm 7 1,
 rk 8 P4I [(.t 6),(.t 7),(.c (.clo P18 [] []))],
 ro 9 (.ext 0 (.t 8)),
 ro 10 (.ext 1 (.t 8)),
 rn (.store 3 (.t 4) (.t 9)),
 rm 5 10])
 .ret))
theorem Zd9.pure{P:Program}{f:FuncId}{args:List AV}{r:AV}(h:Zd9 P f args r)(ha:∀x∈args,Z0S x)(hr:Z0S r):Z0t P f args r :=
 .P1h (Z0x.P47 h (fun _=>none) (fun _ _ e=>by cases e) rfl (fun j h1 h2=>.closed _ (ha _ (List.getElem_mem h1))) hr (.closed _ hr))
theorem ZiD(d:Det):Z0S (Z0v d):=.agg _ (by
 intro y hy;simp only[List.mem_cons,List.not_mem_nil,or_false] at hy;rcases hy with rfl | rfl | rfl
 ·exact Z04 _
 ·exact Z0T _
 ·exact .sl _ _ (by intro y hy;obtain⟨b,_,rfl⟩:=List.mem_map.mp hy;exact Z0L _))
def Z9a(kd:Kd)(n:Net)(most:Int):Det×Int :=
 if Z4p n=true∧1≤most∧most≤3000 then (match Z7J kd n most with
  | some st=>(⟨n.signs,st.2.1,st.2.2⟩,0)
  | none=>(⟨0,[],[]⟩,13))
 else (⟨0,[],[]⟩,1)
def Z3N(p:Det×Int):AV:=.tup [Z0v p.1,Z06 p.2]
theorem Znn(kd:Kd)(n:Net)(most:Int):Zbe kd n most=Z3N (Z9a kd n most):=by
 unfold Zbe Z9a;split
 ·cases Z7J kd n most<;>rfl
 ·rfl
theorem Z3L(p:Det×Int):Z0S (Z3N p):=.tup _ (by
 intro y hy;simp only[List.mem_cons,List.not_mem_nil,or_false] at hy;rcases hy with rfl | rfl
 ·exact ZiD _
 ·exact Z04 _)
theorem Zas{P:Program}{f1 fb:FuncId}{n:Net}{most:Int}{p:Det×Int}(h:Z0t P f1 [Z0M n,Z06 most,.clo fb [] []] (Z3N p)):AW P (Z7c f1 fb) (Z2L [.c 4 (some 3),.t 5] (FzK (Z3N p))) (Z53 [Z0M n,Z06 most]) S0:=by
 have ec:(Z0M n).cells=[Z06 n.signs,Z0l n.by_,Z0l n.follow,Z03 n.last]:=rfl;have es:(Z0M n).solid=true:=rfl;simp only[AV.solid] at es;simp[Z4c,Z48,Z2M,Z2a,Z2P,Z2R,Z2Q,Z4a,Z4b,Z1e,Z16,Z0c,Z0B,Z0q,Z08,Z0o,Z0h,Z09,Z0p,Z0i,Z0Y,Z0j,Z0z,Z0K,Z0k,Z0J,Z1W,Z3U,Z0X,Z25,Z22,Z24,Z23,Z26,Z1j,Z0D,Z11,Z12,Z1T,Z1U,Z1V,Z0H,Z0I,Z1i,Z0r,Z0W,Z20,Z1X,Z1Z,Z1Y,Z21,Z1k,Z13,Z1g,Z0U,Z0V,Z0C,Z1h,Z0P,Z1a,Z1f,Z14,Z1l,ex,Z00,Z0R,Z6K,Z6P,Z0f,Z0g,Z0A,Z2k,Z1d,Z10,Z0y,Z0F,Z0G,Z0E,Z0s,Z0Z,Z5y,Z0O,Z37,Z1c,Z1O,Z1R,Z3s,Z0b,Z1q,Z19,Z0Q,Z1F,Z3S,Z1P,Z6A,Z3C,Z6z,Z3w,Z2Y,Z3t,Z6w,Z3D,Z51,AV.solid,S0,Z06,Z1n,Z7c,ec,es];refine Z0x.pure h (Z01 (Z1J n) (Z01 (Z04 _) (Z01 (.clo _ _ _ Z0a Z0a) Z0a))) (Z3L p) ?_;simp[Z4c,Z48,Z2M,Z2a,Z2P,Z2R,Z2Q,Z4a,Z4b,Z1e,Z16,Z0c,Z0B,Z0q,Z08,Z0o,Z0h,Z09,Z0p,Z0i,Z0Y,Z0j,Z0z,Z0K,Z0k,Z0J,Z1W,Z3U,Z0X,Z25,Z22,Z24,Z23,Z26,Z1j,Z0D,Z11,Z12,Z1T,Z1U,Z1V,Z0H,Z0I,Z1i,Z0r,Z0W,Z20,Z1X,Z1Z,Z1Y,Z21,Z1k,Z13,Z1g,Z0U,Z0V,Z0C,Z1h,Z0P,Z1a,Z1f,Z14,Z1l,ex,Z00,Z0R,Z6K,Z6P,Z0f,Z0g,Z0A,Z2k,Z1d,Z10,Z0y,Z0F,Z0G,Z0E,Z0s,Z0Z,Z5y,Z0O,Z37,Z1c,Z1O,Z1R,Z3s,Z0b,Z1q,Z19,Z0Q,Z1F,Z3S,Z1P,Z6A,Z3C,Z6z,Z3w,Z2Y,Z3t,Z6w,Z3D,Z51,AV.solid,S0,Z06,Z1n,Z3N,Z0v,Z2L,evC,RV.ev,ldC,Z1b];exact .closed _ (Z3L p)
end Go.Rf
namespace Go.Rf
open Go.RowKit
attribute [local simp] Z4c Z48 Z2M Z2a Z2P Z2R Z2Q Z4a Z4b Z1e Z16 Z0c Z0B Z0q Z08 Z0o Z0h Z09 Z0p Z0i Z0Y Z0j Z0z Z0K Z0k Z0J Z1W Z3U Z0X Z25 Z22 Z24 Z23 Z26 Z1j Z0D Z11 Z12 Z1T Z1U Z1V Z0H Z0I Z1i Z0r Z0W Z20 Z1X Z1Z Z1Y Z21 Z1k Z13 Z1g Z0U Z0V Z0C Z1h Z0P Z1a Z1f Z14 Z1l ex Z00 Z0R Z6K Z6P Z0f Z0g Z0A Z2k Z1d Z10 Z0y Z0F Z0G Z0E Z0s Z0Z Z5y Z0O Z37 Z1c Z1O Z1R Z3s Z0b Z1q Z19 Z0Q Z1F Z3S Z1P Z6A Z3C Z6z Z3w Z2Y Z3t Z6w Z3D Z51 AV.solid S0 Z06 Z1n
def Z4D:AC :=
 (.seq (.reg none [
 ro 4 (.mv (.c (.v (.bool false))))])
 (.seq (.seq (.reg none [
 rm 6 0,
 ro 7 (.len (.t 6)),
 rm 8 1,
 ro 9 (.len (.t 8)),
 ro 10 (.bin .neq (.t 7) (.t 9))])
 (.cond (.t 10) (.seq (.reg none [
  ro 4 (.mv (.c (.v (.bool false))))])
 .ret) .skip))
 (.seq (.seq (.reg none [
 ro 5 (.mv (ci 0))])
 (.block 0 (.loop (.seq (.seq (.reg none [
  rm 11 5,
  rm 12 0,
  ro 13 (.len (.t 12)),
  ro 14 (.bin .lss (.t 11) (.t 13))])
  (.cond (.t 14) .skip (.exit 0)))
  (.seq (.block 1 (.seq (.reg (some []) [
   rm 17 0,
   rm 18 5,
   ro 19 (.idxA 1 (.t 17) (.t 18)),
   ro 20 (.load none (.t 19)),
   rm 21 1,
   rm 22 5,
   ro 23 (.idxA 1 (.t 21) (.t 22)),
   ro 24 (.load none (.t 23)),
   ro 25 (.beq true (.t 20) (.t 24))])
  (.cond (.t 25) (.seq (.reg none [
   ro 4 (.mv (.c (.v (.bool false))))])
   .ret) .skip)))
  (.reg none [
  rm 15 5,
  ro 16 (.bin .add (.t 15) (ci 1)),
  rm 5 16]))))))
 (.seq (.reg none [
 ro 4 (.mv (.c (.v (.bool true))))])
 .ret))))
def Z46(P3f P3g:FuncId):AC :=
 (.seq (.reg none [
 ro 2 (.box 3 (.t 0)),
 ro 3 (.box 3 (.t 1)),
 ro 4 (.mv (.c (.v (.bool false))))])
 (.seq (.reg none [
 ro 5 (.fieldA 0 (.t 2)),
 ro 6 (.load none (.t 5)),
 ro 7 (.fieldA 0 (.t 3)),
 ro 8 (.load none (.t 7)),
 ro 9 (.bin .eql (.t 6) (.t 8)),
 rm 10 9,
 rg 11 10 true (.fieldA 1 (.t 2)),
 rg 12 10 true (.load none (.t 11)),
 rg 13 10 true (.fieldA 1 (.t 3)),
 rg 14 10 true (.load none (.t 13)),
 rl 15 10 true P3f [(.t 12),(.t 14)],
 ro 16 (.pick (.t 10) (.t 15) (.c (.v (.bool false)))),
 rm 17 16,
 rg 18 17 true (.fieldA 2 (.t 2)),
 rg 19 17 true (.load none (.t 18)),
 rg 20 17 true (.fieldA 2 (.t 3)),
 rg 21 17 true (.load none (.t 20)),
 rl 22 17 true P3g [(.t 19),(.t 21)],
 ro 23 (.pick (.t 17) (.t 22) (.c (.v (.bool false)))),
 rm 4 23])
 .ret))
theorem Z5A.cd{P:Program}{f:FuncId}{args:List AV}{r:AV}{S:St}(h:Z0t P f args r)(hc:∀x∈args,Z0S x)(hr:Z0S r):Z5A P f args S [] r :=
 ⟨args,h,rfl,fun j h1 _=>.closed _ (hc _ (List.getElem_mem h1)),.inr (.inl ⟨rfl,hr⟩)⟩
def ZvR(a b:List Bool)(i:Nat)(f:AF)(S:St):Prop:=f 5=Z06 i∧f 0=Z2E a∧f 1=Z2E b∧a.take i=b.take i
theorem ZgA{P:Program}(a b:List Bool)(ha:Len a)(hb:Len b):AW P Z4D (Z75 [4] (FzK (Z1n (a == b)))) (Z53 [Z2E a,Z2E b]) S0:=by
 unfold Len at ha hb;by_cases hl:a.length=b.length
 ·simp[Z4D,Z2E,hl]
  refine Z7F a.length (ZvR a b) ?_ ?_
  ·refine⟨?_,?_,?_,?_⟩<;>simp[Z00,Z0f,Z0g,Z06,Z2E]
  ·rintro i f S hi ⟨e5,e0,e1,hp⟩
   by_cases hlt:i < a.length
   ·have hlb:i < b.length:=by omega
    by_cases he:a[i]=b[i]
    ·simp[e5,e0,e1,Z2E,hlt,hlb,he]
     rw[Z0m _ (by omega)];refine⟨hlt,?_,?_,?_,?_⟩<;>try simp[Z00,e0,e1,Z06,Z2E]
     rw[List.take_add_one,List.take_add_one,hp,List.getElem?_eq_getElem hlt,List.getElem?_eq_getElem hlb,he]
    ·have hr:(a == b)=false:=beq_false_of_ne (by rintro rfl;exact he rfl)
     have hc:(a[i] != b[i])=true:=by simp[he]
     simp[e5,e0,e1,Z2E,hlt,hlb,hc,hr];exact Z2p false _
   ·have hab:a=b:=by
     rw[List.take_of_length_le (by omega),List.take_of_length_le (by omega)] at hp;exact hp
    have hr:(a == b)=true:=by simp[hab]
    simp[e5,e0,e1,Z2E,hlt,hr];exact Z2p true _
 ·have hr:(a == b)=false:=beq_false_of_ne (by rintro rfl;exact hl rfl)
  have hc:((a.length:Int) != b.length)=true:=by simp;omega
  simp[Z4D,Z2E,hc,hr];exact Z2p false _
def Zev(a b:Det):Bool:=(a.signs == b.signs) && (a.next == b.next) && (a.fin == b.fin)
theorem Zip{P:Program}{fq fe fb:FuncId}(a b:Det)(hq:Z0t P fq [Z0l a.next,Z0l b.next] (Z1n (a.next == b.next)))(hb:Z0t P fb [Z2E a.fin,Z2E b.fin] (Z1n (a.fin == b.fin))) :
  AW P (Z46 fq fb) (Z75 [4] (FzK (Z1n (Zev a b)))) (Z53 [Z0v a,Z0v b]) S0:=by
 by_cases h1:a.signs=b.signs
 ·cases h2:(a.next == b.next) with
  | true =>
   rw[h2] at hq;have hr:Zev a b=(a.fin == b.fin):=by simp[Zev,h1,h2]
   rw[hr];simp[Z46,Z0v,h1];refine Z0x.pure hq (Z01 (Z0T _) (Z01 (Z0T _) (Z0a))) (Z0L _) ?_;simp[Z0v,h1];refine Z0x.pure hb (Z01 (Z1w _) (Z01 (Z1w _) Z0a)) (Z0L _) ?_;simp[Z0v,h1];exact Z2p _ _
  | false =>
   rw[h2] at hq;have hr:Zev a b=false:=by simp[Zev,h1,h2]
   rw[hr];simp[Z46,Z0v,h1];refine Z0x.pure hq (Z01 (Z0T _) (Z01 (Z0T _) (Z0a))) (Z0L _) ?_;simp[Z0v,h1];exact Z2p _ _
 ·have hr:Zev a b=false:=by simp[Zev,h1]
  rw[hr];have h1':(a.signs == b.signs)=false:=by simp[h1]
  simp[Z46,Z0v,h1'];exact Z2p _ _
end Go.Rf
