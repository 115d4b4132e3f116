import Derived.Test.YtdmcjhnbmgmgoaaGreatDoorRfR5
set_option linter.unusedVariables false
set_option linter.unusedSimpArgs false
set_option linter.unusedSectionVars false
namespace Go.Rf
open Go.RowKit
inductive Kd where
 | whole
 | tails
 | heads
def kL(kd:Kd)(n:Net)(set:List Int)(s:Int):List Int:=
 match kd with
 | .whole=>qJ n set s
 | .tails=>0::qJ n set s
 | .heads=>if kW n set=true then set else qJ n set s
def yF(most:Int)(ss:List (List Int))(x:List Int):Option (List (List Int)×Int):=
 if x∈ss then some (ss,(ss.idxOf x:Int)) else if (ss.length:Int)=most then none else some (ss++[x],(ss.length:Int))
def uH(most:Int)(b:Int→List Int):Nat→List (List Int)→Option (List (List Int)×List Int)
 | 0,ss=>some (ss,[])
 | k+1,ss=>match uH most b k ss with
  | none=>none
  | some (s1,r)=>match yF most s1 (b k) with
   | none=>none
   | some (s2,j)=>some (s2,r++[j])
abbrev qV:=List (List Int)×List (List Int)×List Bool
def uY(kd:Kd)(n:Net)(most:Int)(i:Nat)(st:qV):Option qV:=
 match st.1[i]? with
 | none=>none
 | some set=>match uH most (kL kd n set) n.signs.toNat st.1 with
  | none=>none
  | some (s2,r)=>some (s2,st.2.1++[r],st.2.2++[kW n set])
def nO(kd:Kd)(n:Net)(most:Int):Nat→Option qV
 | 0=>some ([[0]],[],[])
 | i+1=>match nO kd n most i with
  | none=>none
  | some st=>uY kd n most i st
def BQ(kd:Kd)(n:Net)(most:Int):Nat→Nat→qV→Option qV
 | 0,_,_=>none
 | f+1,i,st=>if i=st.1.length then some st else match uY kd n most i st with
  | none=>none
  | some st'=>BQ kd n most f (i+1) st'
def y8(kd:Kd)(n:Net)(most:Int):Option qV:=BQ kd n most (most.toNat+1) 0 ([[0]],[],[])
def Val(n:Net)(s:List Int):Prop:=(∀x∈s,0≤x∧x < n.follow.length)∧s.length≤302
theorem Val.nn{n:Net}{s:List Int}(h:Val n s):vg s:=fun x hx=>(h.1 x hx).1
theorem ZiU{n:Net}(R:mY n)(set:List Int)(s:Int):(∀x∈qJ n set s,1≤x∧x < n.follow.length)∧(qJ n set s).length≤301:=by
 refine⟨fun x hx=>?_,Zn8 R set s⟩;unfold qJ at hx;rw[vU] at hx;unfold oJ at hx;obtain⟨p,hp,hx⟩:=List.mem_flatMap.mp hx;unfold Cv at hx;split at hx
 ·rename_i h
  have h2:=(List.mem_filter.mp hx).1;have hlt:p.toNat < n.follow.length:=by omega
  rw[List.getD_eq_getElem?_getD,List.getElem?_eq_getElem hlt,Option.getD_some] at h2;have:=(R.follow _ hlt).2 x h2;have:=R.len;omega
 ·cases hx
theorem QU{kd:Kd}{n:Net}(R:mY n){set:List Int}(h:Val n set)(s:Int):Val n (kL kd n set s):=by
 obtain⟨h1,h2⟩:=ZiU R set s;cases kd with
 | whole=>exact⟨fun x hx=>by have:=h1 x hx;omega,by show(qJ n set s).length≤302;omega⟩
 | tails=>
  refine⟨fun x hx=>?_,by show(0::qJ n set s).length≤302;simp only[List.length_cons];omega⟩;have hx':x=0∨x∈qJ n set s:=by simpa[kL] using hx
  rcases hx' with rfl | hx'
  ·have:=R.n1;have:=R.len;omega
  ·have:=h1 x hx';omega
 | heads=>
  simp only[kL];split
  ·exact h
  ·exact⟨fun x hx=>by have:=h1 x hx;omega,by omega⟩
structure Es(n:Net)(most:Int)(ss:List (List Int)):Prop where
 v:∀s∈ss,Val n s
 l:(ss.length:Int)≤most
theorem Zrp{n:Net}{most:Int}{ss:List (List Int)}{x:List Int}(h:Es n most ss)(hx:Val n x){p:List (List Int)×Int}(e:yF most ss x=some p):Es n most p.1∧ss.length≤p.1.length:=by
 unfold yF at e;split at e
 ·cases e;exact⟨h,Nat.le_refl _⟩
 ·split at e
  ·cases e
  ·cases e
   refine⟨⟨fun s hs=>?_,?_⟩,by simp⟩
   ·rcases List.mem_append.mp hs with hs | hs
    ·exact h.v s hs
    ·simp at hs;subst hs;exact hx
   ·have:=h.l;simp only[List.length_append,List.length_cons,List.length_nil];omega
theorem QO{n:Net}{most:Int}{b:Int→List Int}(hb:∀s,Val n (b s)){ss:List (List Int)}(h:Es n most ss):∀(k:Nat) {p:List (List Int)×List Int},uH most b k ss=some p→Es n most p.1∧ss.length≤p.1.length∧p.2.length=k
 | 0,p,e=>by simp only[uH,Option.some.injEq] at e;subst e;exact⟨h,Nat.le_refl _,rfl⟩
 | k+1,p,e=>by
  simp only[uH] at e;split at e
  ·cases e
  ·rename_i s1 r h1
   obtain⟨i1,i2,i3⟩:=QO hb h k h1;split at e
   ·cases e
   ·rename_i s2 j h2
    cases e;obtain⟨j1,j2⟩:=Zrp i1 (hb k) h2;exact⟨j1,Nat.le_trans i2 j2,by simp only at i3;simp[i3]⟩
theorem ZfU{most:Int}{b:Int→List Int}{ss:List (List Int)}{k:Nat}(h:uH most b k ss=none):∀m,k≤m→uH most b m ss=none
 | 0,hm=>by
  have:k=0:=by omega
  subst this;exact h
 | m+1,hm=>by
  by_cases hk:k=m+1
  ·subst hk;exact h
  ·simp only[uH,ZfU h m (by omega)]
structure Yn(n:Net)(most:Int)(i:Nat)(st:qV):Prop where
 ss:Es n most st.1
 le:i≤st.1.length
 nx:st.2.1.length=i
 en:st.2.2.length=i
 row:∀r∈st.2.1,r.length=n.signs.toNat
theorem Ztx{kd:Kd}{n:Net}(R:mY n){most:Int}{i:Nat}{st st':qV}(h:Yn n most i st)(e:uY kd n most i st=some st'):Yn n most (i+1) st':=by
 unfold uY at e;split at e
 ·cases e
 ·rename_i set hs
  obtain⟨hlt,hse⟩:=List.getElem?_eq_some_iff.mp hs;split at e
  ·cases e
  ·rename_i s2 r h1
   cases e;obtain⟨j1,j2,j3⟩:=QO (n:=n) (fun s=>QU R (h.ss.v set (by rw[←hse];exact List.getElem_mem hlt)) s) h.ss _ h1;refine⟨j1,by simp only at j2 ⊢;omega,by simp[h.nx],by simp[h.en],fun r' hr=>?_⟩;rcases List.mem_append.mp hr with hr | hr
   ·exact h.row r' hr
   ·simp at hr;subst hr;exact j3
theorem JD{kd:Kd}{n:Net}(R:mY n){most:Int}(hm:1≤most):∀(i:Nat) {st:qV},nO kd n most i=some st→Yn n most i st
 | 0,st,e=>by
  simp only[nO,Option.some.injEq] at e;subst e;refine⟨⟨fun s hs=>?_,by simpa using hm⟩,by simp,rfl,rfl,by simp⟩;simp only[List.mem_cons,List.not_mem_nil,or_false] at hs;subst hs;exact⟨fun x hx=>by simp at hx;subst hx;have:=R.n1;have:=R.len;omega,by simp⟩
 | i+1,st,e=>by
  simp only[nO] at e;split at e
  ·cases e
  ·rename_i st0 h0
   exact Ztx R (JD R hm i h0) e
theorem ZlP{kd:Kd}{n:Net}(R:mY n){most:Int}(hm:1≤most):∀(f i:Nat) {st:qV},nO kd n most i=some st→most.toNat+1≤f+i→∀j yO,i≤j→nO kd n most j=some yO→j=yO.1.length→(∀m,i≤m→m < j→∀nP,nO kd n most m=some nP→m≠nP.1.length)→BQ kd n most f i st=some yO
 | 0,i,st,h,hf,j,yO,hij,hj,hlen,hmin=>by
  have o:=JD R hm i h;have:=o.ss.l;have:=o.le;omega
 | f+1,i,st,h,hf,j,yO,hij,hj,hlen,hmin=>by
  simp only[BQ];by_cases hi:i=st.1.length
  ·rw[if_pos hi]
   by_cases hij2:i=j
   ·subst hij2;rw[h] at hj;exact hj
   ·exact(hmin i (Nat.le_refl _) (by omega) st h hi).elim
  ·rw[if_neg hi]
   by_cases hij2:i=j
   ·subst hij2;rw[h] at hj;cases hj;exact(hi hlen).elim
   ·have hs1:nO kd n most (i+1)=uY kd n most i st:=by simp only[nO,h]
    cases hn:uY kd n most i st with
    | none=>
     exfalso;rw[hn] at hs1
     have key:∀m,i+1≤m→nO kd n most m=none:=by
      intro m;induction m with
      | zero=>intro hm;omega
      | succ m ih=>
       intro hm';by_cases nL:m=i
       ·subst nL;exact hs1
       ·simp only[nO,ih (by omega)]
     rw[key j (by omega)] at hj;cases hj
    | some st'=>
     rw[hn] at hs1;exact ZlP R hm f (i+1) hs1 (by omega) j yO (by omega) hj hlen (fun m h1 h2=>hmin m (by omega) h2)
theorem Zid{kd:Kd}{n:Net}(R:mY n){most:Int}:∀(f i:Nat) {st:qV},nO kd n most i=some st→∀j,i≤j→nO kd n most (j+1)=none→(∀m,i≤m→m≤j→∀nP,nO kd n most m=some nP→m≠nP.1.length)→BQ kd n most f i st=none
 | 0,i,st,h,j,hij,hj,hmin=>rfl
 | f+1,i,st,h,j,hij,hj,hmin=>by
  simp only[BQ];rw[if_neg (hmin i (Nat.le_refl _) hij st h)];have hs1:nO kd n most (i+1)=uY kd n most i st:=by simp only[nO,h]
  cases hn:uY kd n most i st with
  | none=>rfl
  | some st'=>
   rw[hn] at hs1;simp only;by_cases hij2:i=j
   ·subst hij2;rw[hs1] at hj;cases hj
   ·exact Zid R f (i+1) hs1 j (by omega) hj (fun m h1 h2=>hmin m (by omega) h2)
theorem lS.P5H{g:Nat→Option aB}{n:Nat}{av:List Nat}{vs:List AV}{ls:List (List AV)}{v:AV}{l:List AV}(h:lS g n av (vs++[v]) (ls++[l])) :
  Vec g v 1 l∧(∀i∈v.ids,i < n∧i∉av)∧(∀w∈vs,∀i∈w.ids,i∉v.ids)∧lS g n av vs ls:=by
 have hl:vs.length=ls.length:=by have:=h.len;simpa using this
 have hp:=List.pairwise_append.mp h.sep;refine⟨?_,h.out v (by simp),fun w hw=>hp.2.2 w hw v (by simp),hl,fun t h1 h2=>?_,hp.1,fun w hw=>h.out w (by simp[hw])⟩
 ·have:=h.row vs.length (by simp) (by simp[hl])
  rw[List.getElem_append_right (by omega),List.getElem_append_right (by omega)] at this;simpa[hl] using this
 ·have:=h.row t (by simp;omega) (by simp;omega)
  rwa[List.getElem_append_left h1,List.getElem_append_left h2] at this
def lM:AV:=.agg [ah 0,.sl true [],.sl true []]
def wm(nx:List (List Int)):List (List AV):=nx.map fun l=>l.map ah
structure lZ(S bC:St)(id km b4 b5:Nat)(n:Net)(most:Int)(ss nx:List (List Int))(en:List Bool)(v vN vE:AV)(rs ex:List AV)(G7:List (List AV)):Prop where
 mg:S.g id=some (.arr 7 [.agg [ah n.signs,aU n.au,aU n.follow,aj n.last,ah most,.mp km,v]])
 mm:S.g km=some (.map (uD 0 ss))
 g4:S.g b4=some (.arr 3 [lM])
 g5:S.g b5=some (.arr 3 [.agg [ah n.signs,vN,vE]])
 rows:lS S.g S.n [id,km,b4,b5] (v::vN::vE::(rs++ex)) (ss.map aj::rs::en.map aD::(wm nx++G7))
 ne:id≠km
 lid:id < bC.n
 vL:km < bC.n
 l4:bC.n≤b4
 l5:bC.n≤b5
 n45:b4≠b5
 t4:b4 < S.n
 t5:b5 < S.n
 new:∀w∈(v::vN::vE::(rs++ex)),∀i∈w.ids,bC.n≤i
 old:∀i,i < bC.n→i≠id→i≠km→S.g i=bC.g i
 jW:bC.n≤S.n
section
variable{S bC:St}{id km b4 b5:Nat}{n:Net}{most:Int}{ss nx:List (List Int)}{en:List Bool}{v vN vE:AV}{rs ex:List AV}{G7:List (List AV)}
theorem lZ.mk'(h:lZ S bC id km b4 b5 n most ss nx en v vN vE rs ex G7):xB S id km n most ss v:=by
 obtain⟨hv,ho,_⟩:=h.rows.head;refine⟨h.mg,h.mm,hv,h.ne,fun i hi=>?_,Nat.lt_of_lt_of_le h.lid h.jW,Nat.lt_of_lt_of_le h.vL h.jW,fun i hi=>(ho i hi).1⟩;have:=(ho i hi).2;simp only[List.mem_cons,not_or] at this;exact⟨this.1,this.2.1⟩
theorem lZ.up(h:lZ S bC id km b4 b5 n most ss nx en v vN vE rs ex G7){m:Nat}(hm:S.n≤m):lZ ⟨m,S.g⟩ bC id km b4 b5 n most ss nx en v vN vE rs ex G7:=
 ⟨h.mg,h.mm,h.g4,h.g5,h.rows.frame hm (fun _ _ _ _=>rfl),h.ne,h.lid,h.vL,h.l4,h.l5,h.n45,Nat.lt_of_lt_of_le h.t4 hm,Nat.lt_of_lt_of_le h.t5 hm,h.new,h.old,Nat.le_trans h.jW hm⟩
theorem lZ.num(h:lZ S bC id km b4 b5 n most ss nx en v vN vE rs ex G7){S':St}{ss':List (List Int)}{v':AV}(M:xB S' id km n most ss' v')(F:T9 S S' (id::km::v.ids))(hv':∀i∈v'.ids,S.n≤i) :
  lZ S' bC id km b4 b5 n most ss' nx en v' vN vE rs ex G7:=by
 obtain⟨hv,ho,hs,hr⟩:=h.rows.head;have Y9:=h.lid;have Za:=h.vL;have h4:=h.l4;have h5:=h.l5;have Tm:=h.jW;have NW:=h.t4;have Ti:=h.t5;have key:∀i,i < S.n→i≠id→i≠km→i∉v.ids→S'.g i=S.g i:=fun i h1 h2 h3 h4=>F.g i h1 (by simp[h2,h3,h4])
 have hav:∀b,b∈[id,km,b4,b5]→b∉v.ids:=fun b hb hi=>(ho b hi).2 hb
 have hFn:=F.n;refine⟨M.g,M.m,?_,?_,?_,h.ne,h.lid,h.vL,h.l4,h.l5,h.n45,by omega,by omega,fun w hw i hi=>?_,fun i h1 h2 h3=>?_,by omega⟩
 ·rw[key b4 NW (by omega) (by omega) (hav b4 (by simp))];exact h.g4
 ·rw[key b5 Ti (by omega) (by omega) (hav b5 (by simp))];exact h.g5
 ·refine lS.cons M.vec (fun i hi=>⟨M.lv i hi,?_⟩) (fun w hw i hi hi2=>?_) (hr.frame hFn (fun w hw i hi=>?_))
  ·have:=hv' i hi
   simp only[List.mem_cons,List.not_mem_nil,or_false,not_or];omega
  ·have:=(hr.out w hw i hi2).1
   have:=hv' i hi;omega
  ·have h1:=hr.out w hw i hi
   have h2:=h1.2;simp only[List.mem_cons,List.not_mem_nil,or_false,not_or] at h2;exact key i h1.1 h2.1 h2.2.1 (fun h3=>hs w hw i h3 hi)
 ·rcases List.mem_cons.mp hw with rfl | hw
  ·have:=hv' i hi;omega
  ·exact h.new w (List.mem_cons_of_mem _ hw) i hi
 ·rw[key i (by omega) h2 h3 (fun h4=>by have:=h.new v (by simp) i h4;omega)];exact h.old i h1 h2 h3
theorem lZ.row(h:lZ S bC id km b4 b5 n most ss nx en v vN vE rs [] []){q:Nat}(hq:S.n≤q){m:Nat}(hm:q < m){zs:List AV}{L:Nat}(hL:zs.length=L) :
  lZ ((St.mk m S.g).set q (some (.arr 1 zs))) bC id km b4 b5 n most ss nx en v vN vE rs [.own q 0 L] [zs]:=by
 have Y9:=h.lid;have Za:=h.vL;have Tm:=h.jW;have NW:=h.t4;have Ti:=h.t5;have key:∀i,i < S.n→((St.mk m S.g).set q (some (.arr 1 zs))).g i=S.g i:=fun i hi=>by rw[aL,if_neg (by omega)]
 have hr:=h.rows;simp only[List.append_nil] at hr;have hr2:lS ((St.mk m S.g).set q (some (.arr 1 zs))).g m [id,km,b4,b5] (v::vN::vE::rs) (ss.map aj::rs::en.map aD::wm nx):=hr.frame (by omega) (fun w hw i hi=>key i (hr.out w hw i hi).1)
 have hfin:=hr2.snoc (v:=.own q 0 L) (l:=zs) (.mk' (by simp[aL]) hL.symm) (fun i hi=>by
   simp only[AV.ids,List.mem_singleton] at hi;subst hi;refine⟨hm,?_⟩;simp only[List.mem_cons,List.not_mem_nil,or_false,not_or];omega) (fun w hw i hi hi2=>by
   simp only[AV.ids,List.mem_singleton] at hi2;have:=(hr.out w hw i hi).1;omega)
 refine⟨by rw[key id (by omega)];exact h.mg,by rw[key km (by omega)];exact h.mm,by rw[key b4 NW];exact h.g4,by rw[key b5 Ti];exact h.g5,?_,h.ne,h.lid,h.vL,h.l4,h.l5,h.n45,by show b4 < m;omega,by show b5 < m;omega,fun w hw i hi=>?_,fun i h1 h2 h3=>by rw[key i (by omega)];exact h.old i h1 h2 h3,by show bC.n≤m;omega⟩
 ·rw[bT];simpa using hfin
 ·simp only[List.mem_cons,List.mem_append,List.not_mem_nil,or_false] at hw
  have hn:=h.new;simp only[List.append_nil] at hn;rcases hw with rfl | rfl | rfl | hw | rfl
  ·exact hn _ (by simp) i hi
  ·exact hn _ (by simp) i hi
  ·exact hn _ (by simp) i hi
  ·exact hn _ (by simp[hw]) i hi
  ·simp only[AV.ids,List.mem_singleton] at hi;omega
theorem lZ.b7{q L:Nat}{zs:List AV}(h:lZ S bC id km b4 b5 n most ss nx en v vN vE rs [.own q 0 L] [zs]):S.g q=some (.arr 1 zs)∧zs.length=L∧q < S.n:=by
 have hr:lS S.g S.n [id,km,b4,b5] ((v::vN::vE::rs)++[.own q 0 L]) ((ss.map aj::rs::en.map aD::wm nx)++[zs]):=by simpa using h.rows
 obtain⟨a,b,c,d⟩:=hr.P5H;rcases a with⟨e,_⟩ | ⟨id',off,ys,e,g',ho,hd⟩
 ·cases e
 ·cases e
  simp only[List.drop_zero] at hd;subst hd;exact⟨g',rfl,(b q (by simp[AV.ids])).1⟩
theorem lZ.put{q L:Nat}{zs zs':List AV}(h:lZ S bC id km b4 b5 n most ss nx en v vN vE rs [.own q 0 L] [zs])(hl:zs'.length=zs.length){m:Nat}(hm:S.n≤m) :
  lZ ((St.mk m S.g).set q (some (.arr 1 zs'))) bC id km b4 b5 n most ss nx en v vN vE rs [.own q 0 L] [zs']:=by
 obtain⟨hq,hL,xX⟩:=h.b7;have hr:lS S.g S.n [id,km,b4,b5] ((v::vN::vE::rs)++[.own q 0 L]) ((ss.map aj::rs::en.map aD::wm nx)++[zs]):=by simpa using h.rows
 obtain⟨a,b,c,d⟩:=hr.P5H;have hqo:=(b q (by simp[AV.ids])).2;simp only[List.mem_cons,List.not_mem_nil,or_false,not_or] at hqo;have hqS:bC.n≤q:=h.new (.own q 0 L) (by simp) q (by simp[AV.ids]);have key:∀i,i≠q→((St.mk m S.g).set q (some (.arr 1 zs'))).g i=S.g i:=fun i hi=>by rw[aL,if_neg hi]
 have Tm:=h.jW;have t4:=h.t4;have t5:=h.t5
 have hfin:=(d.frame (g':=((St.mk m S.g).set q (some (.arr 1 zs'))).g) hm (fun w hw i hi=>key i (fun e=>c w hw i hi (by simp[AV.ids,e])))).snoc (v:=.own q 0 L) (l:=zs') (.mk' (by simp[aL]) (by rw[hl,hL])) (fun i hi=>by
   have:=b i hi;exact⟨by omega,this.2⟩) c
 refine⟨by rw[key id (fun e=>hqo.1 e.symm)];exact h.mg,by rw[key km (fun e=>hqo.2.1 e.symm)];exact h.mm,by rw[key b4 (fun e=>hqo.2.2.1 e.symm)];exact h.g4,by rw[key b5 (fun e=>hqo.2.2.2 e.symm)];exact h.g5,?_,h.ne,h.lid,h.vL,h.l4,h.l5,h.n45,by show b4 < m;omega,by show b5 < m;omega,h.new,fun i h1 h2 h3=>by rw[key i (by omega)];exact h.old i h1 h2 h3,by show bC.n≤m;omega⟩;rw[bT];simpa using hfin
theorem lZ.fz(h:lZ S bC id km b4 b5 n most ss nx en v vN vE rs [] []){g:Nat→Option aB}(hg:∀i,bC.n≤i→i≠b4→g i=S.g i):Fz g vN (aU nx)∧Fz g vE (bA en):=by
 have hrows:=h.rows.frame (g':=g) (n':=S.n) (Nat.le_refl _) (fun w hw i hi=>hg i (h.new w hw i hi) (fun e=>(h.rows.out w hw i hi).2 (by simp[e])));obtain⟨_,_,_,hr⟩:=hrows.head;obtain⟨hN,_,_,hr2⟩:=hr.head;obtain⟨hE,_,_,hr3⟩:=hr2.head;simp only[List.append_nil] at hr3;refine⟨?_,?_⟩
 ·have hl:nx.length=rs.length:=by have:=hr3.len;simpa[wm] using this.symm
  refine hN.fzL (by simpa using hl) (fun i h1 h2=>?_);have h3:=hr3.row i h1 (by simpa[wm,hl] using h1);simp only[wm,List.getElem_map] at h3 ⊢;exact h3.fz aW
 ·exact hE.fz dY
theorem Vec.P6n{g:Nat→Option aB}{v:AV}{es:Nat}{xs zs:List AV}(h:Vec g v es xs)(hl:zs.length=xs.length)(hz:∀i (h1:i < xs.length) (h2:i < zs.length),kQ g (xs[i]) (zs[i])):kQ g v (.sl false zs):=by
 rcases h with⟨rfl,h0⟩ | ⟨id,off,ys,rfl,h1,h2,h3⟩
 ·subst h0
  have:zs=[]:=List.eq_nil_of_length_eq_zero hl;subst this;exact .nil true false (by simp)
 ·have hle:off+xs.length=ys.length:=by rw[←h3];simp;omega
  have ht:(ys.drop off).take xs.length=xs:=by rw[h3,List.take_length]
  refine .own id off _ es ys zs h1 (by omega) hl (fun i k1 k2=>?_);simp only[ht] at k1 ⊢;exact hz i k1 k2
theorem kQ.mono{g g':Nat→Option aB}{x y:AV}(h:kQ g x y)(hg:∀i k,g i=some k→g' i=some k):kQ g' x y:=by
 induction h with
 | v x=>exact .v x
 | nil t u h=>exact .nil t u h
 | own id off len es xs zs hi hl hz h ih=>exact .own id off len es xs zs (hg _ _ hi) hl hz ih
 | agg cs ds hl h ih=>exact .agg cs ds hl ih
 | aO cs ds hl h ih=>exact .aO cs ds hl ih
theorem lZ.NI(h:lZ S bC id km b4 b5 n most ss nx en v vN vE rs [] []){g:Nat→Option aB}(hg:∀i,bC.n≤i→i≠b4→i < S.n→g i=S.g i):kQ g vN (aU nx)∧kQ g vE (bA en):=by
 have hrows:=h.rows.frame (g':=g) (n':=S.n) (Nat.le_refl _) (fun w hw i hi=>hg i (h.new w hw i hi) (fun e=>(h.rows.out w hw i hi).2 (by simp[e])) (h.rows.out w hw i hi).1);obtain⟨_,_,_,hr⟩:=hrows.head;obtain⟨hN,_,_,hr2⟩:=hr.head;obtain⟨hE,_,_,hr3⟩:=hr2.head;simp only[List.append_nil] at hr3;refine⟨?_,?_⟩
 ·have hl:nx.length=rs.length:=by have:=hr3.len;simpa[wm] using this.symm
  refine hN.P6n (by simpa using hl) (fun i h1 h2=>?_);have h3:=hr3.row i h1 (by simpa[wm,hl] using h1);simp only[wm,List.getElem_map] at h3 ⊢;exact h3.NI
 ·refine hE.P6n (by simp) (fun i h1 h2=>?_)
  simp only[List.getElem_map];exact .v _
end
def rQ(p:aF)(l:List Int)(at_:Int):List Int:=if at_ < 0∨(l.length:Int) < at_ then [] else (zC (zf l p at_)).mergeSort fun x y=>decide (x≤y)
def jU(p:aF)(l:List Int)(a b:Int):Bool:=(rQ p l a).contains b
theorem Zi2{p:aF}{l:List Int}{at_:Int}:∀x∈rQ p l at_,0≤x∧x≤(l.length:Int):=by
 intro x hx;unfold rQ at hx;split at hx
 ·simp at hx
 ·rename_i h
  have h1:=y5.mp ((List.mergeSort_perm _ _).mem_iff.mp hx);have:=DL l p at_ (by omega) (by omega) x h1
  omega
theorem Zlo{p:aF}{l:List Int}{at_:Int}:(rQ p l at_).length≤l.length+1:=by
 unfold rQ;split
 ·simp
 ·rename_i h
  rw[List.length_mergeSort];exact ZqM (fun x hx=>by have:=DL l p at_ (by omega) (by omega) x hx;omega)
theorem Zhu:∀{ks:List aF},(∀q∈ks,oP q)→yB ks
 | [],_=>trivial
 | p::ps,h=>⟨h p (by simp),Zhu (fun q hq=>h q (by simp[hq]))⟩
structure lN where
 num:Int
 cut:Bool
 before:aF
 after:aF
 pos:Int
def mq(r:lN):AV:=.agg ([ah r.num,aD r.cut]++(cB r.before).cells++(cB r.after).cells++[ah r.pos])
theorem Zfe(r:lN):∃cs:List AV,mq r=.agg cs∧cs.length=11∧∀y∈cs,aY y:=by
 refine⟨_,rfl,?_,fun y hy=>?_⟩
 ·simp[VF]
 ·simp only[List.mem_append,List.mem_cons,List.not_mem_nil,or_false] at hy
  rcases hy with(((rfl | rfl) | hy) | hy) | rfl
  ·exact aW _
  ·exact dY _
  ·exact(pF r.before).cells y hy
  ·exact(pF r.after).cells y hy
  ·exact aW _
theorem Zjm(r:lN):aY (mq r):=by
 obtain⟨cs,h1,_,h3⟩:=Zfe r;rw[h1];exact .agg _ h3
theorem Zqa(r:lN):(mq r).cells.length=11:=by
 obtain⟨cs,h1,h2,_⟩:=Zfe r;rw[h1];simpa[AV.cells] using h2
structure Bk where
 vars:AV
 rules:List lN
 allows:AV
 used:AV
def Nj(g:Nat→Option aB)(v:AV)(es:Nat)(xs:List AV):Prop:=(v=.sl true []∧xs=[])∨∃id,v=.own id 0 xs.length∧g id=some (.arr es xs)
theorem Nj.vec{g:Nat→Option aB}{v:AV}{es:Nat}{xs:List AV}(h:Nj g v es xs):Vec g v es xs:=by
 rcases h with⟨rfl,rfl⟩ | ⟨id,rfl,h⟩
 ·exact .nil
 ·exact .mk h
theorem Nj.frame{g g':Nat→Option aB}{v:AV}{es:Nat}{xs:List AV}(h:Nj g v es xs)(hs:∀i∈v.ids,g' i=g i):Nj g' v es xs:=by
 rcases h with h | ⟨id,rfl,h⟩
 ·exact .inl h
 ·exact .inr ⟨id,rfl,by rw[hs id (by simp[AV.ids])];exact h⟩
inductive kC (r:Int→Int→Prop):Int→Int→Prop
 | one {a b:Int} (h:r a b):kC r a b
 | more {a b c:Int} (h:kC r a b) (k:r b c):kC r a c
theorem kC.trans{r:Int→Int→Prop}{a b c:Int}(h:kC r a b)(k:kC r b c):kC r a c:=by
 induction k with
 | one k=>exact .more h k
 | more _ k ih=>exact .more ih k
theorem kC.head{r:Int→Int→Prop}{a c:Int}(h:kC r a c):∃b,r a b∧(b=c∨kC r b c):=by
 induction h with
 | one h=>exact⟨_,h,.inl rfl⟩
 | more h k ih=>
  obtain⟨b,h1,h2⟩:=ih;refine⟨b,h1,.inr ?_⟩;rcases h2 with rfl | h2
  ·exact .one k
  ·exact .more h2 k
mutual
def MR(S:List Int→Int→Int→Prop):aF→Int→Int→Prop
 | .mk k _ g ks,a,b=>if k=1 then a=b else if k=2 then S g a b else if k=3 then MA S ks a b else if k=4 then MO S ks a b else if k=7∨k=5∨k=6 then MG S ks k a b else False
def MA(S:List Int→Int→Int→Prop):List aF→Int→Int→Prop
 | [],a,b=>a=b
 | q::qs,a,b=>∃m,MR S q a m∧MA S qs m b
def MO(S:List Int→Int→Int→Prop):List aF→Int→Int→Prop
 | [],_,_=>False
 | q::qs,a,b=>MR S q a b∨MO S qs a b
def MG(S:List Int→Int→Int→Prop):List aF→Int→Int→Int→Prop
 | [q],k,a,b=>(k≠6∧a=b)∨(if k=7 then MR S q a b else kC (MR S q) a b)
 | _,_,_,_=>False
end
def jX(l:List Int)(g:List Int)(a b:Int):Prop:=b=a+1∧0≤a∧a < l.length∧l.getD a.toNat 0∈g
theorem Zkr(xs:List Int):∀(acc:List Int),∃t,yH acc xs=acc++t:=by
 induction xs with
 | nil=>intro acc;exact⟨[],by simp[yH]⟩
 | cons x xs ih=>
  intro acc;simp only[yH];obtain⟨t,ht⟩:=ih (if acc.contains x=true then acc else acc++[x]);split at ht
  ·exact⟨t,by rw[if_pos (by assumption)];exact ht⟩
  ·rw[if_neg (by assumption)]
   exact⟨[x]++t,by rw[ht];simp⟩
theorem Zo0{v:Int→List Int}{n:Nat}{at_:Int}(hv:∀x:Int,0≤x→x≤n→∀y∈v x,0≤y∧y≤(n:Int))(h0:0≤at_∧at_≤n) :
  ∀(f:Nat) (met:List Int) (i:Nat),met.Nodup→(∀x∈met,0≤x∧x≤(n:Int))→i≤met.length→n+2≤f+i→(∀y∈v at_,y∈met)→(∀x∈met,kC (fun a b=>b∈v a) at_ x)→
   (∀j (h:j < met.length),j < i→∀y∈v met[j],y∈met)→∀y,y∈JY v f met i↔kC (fun a b=>b∈v a) at_ y:=by
 have done:∀(met:List Int),(∀y∈v at_,y∈met)→(∀x∈met,∀y∈v x,y∈met)→∀y,kC (fun a b=>b∈v a) at_ y→y∈met:=by
  intro met h1 h2 y hy;induction hy with
  | one h=>exact h1 _ h
  | more h k ih=>exact h2 _ ih _ k
 intro f;induction f with
 | zero=>
  intro met i hnd hb hi hf h1 h2 h3 y;have:=Qg (n+1) hnd (fun x hx=>by have:=hb x hx;omega);omega
 | succ f ih=>
  intro met i hnd hb hi hf h1 h2 h3 y;simp only[JY];split
  ·rename_i hlt
   have hbi:=hb _ (List.getElem_mem hlt);obtain⟨t,ht⟩:=Zkr (v met[i]) met;have hlen:met.length≤(yH met (v met[i])).length:=by rw[ht];simp
   refine ih _ _ (VW hnd) (fun x hx=>?_) (by omega) (by omega) (fun y hy=>DT.mpr (.inl (h1 y hy))) (fun x hx=>?_) (fun j hj hji y hy=>?_) y
   ·rcases DT.mp hx with hx | hx
    ·exact hb x hx
    ·exact hv _ hbi.1 hbi.2 x hx
   ·rcases DT.mp hx with hx | hx
    ·exact h2 x hx
    ·exact .more (h2 _ (List.getElem_mem hlt)) hx
   ·have hjm:j < met.length:=by omega
    have e:(yH met (v met[i]))[j]=met[j]:=by simp only[ht];exact List.getElem_append_left hjm
    rw[e] at hy;by_cases aaM:j=i
    ·subst aaM;exact DT.mpr (.inr hy)
    ·exact DT.mpr (.inl (h3 j hjm (by omega) y hy))
  ·rename_i hlt
   have hie:i=met.length:=by omega
   refine⟨fun h=>h2 y h,fun h=>done met h1 (fun x hx y hy=>?_) y h⟩;obtain⟨j,hj,rfl⟩:=List.mem_iff_getElem.mp hx;exact h3 j hj (by omega) y hy
theorem Zqk{v:Int→List Int}{n:Nat}{k at_:Int}(hv:∀x:Int,0≤x→x≤n→∀y∈v x,0≤y∧y≤(n:Int))(h0:0≤at_∧at_≤n)(y:Int) :
  y∈NA v k n at_↔(k≠6∧at_=y)∨(if k=7 then y∈v at_ else kC (fun a b=>b∈v a) at_ y):=by
 unfold NA;rw[List.mem_append]
 have h1:y∈(if k=6 then ([]:List Int) else [at_])↔k≠6∧at_=y:=by
  by_cases h:k=6
  ·simp[h]
  ·simp[h];exact⟨fun e=>e.symm,fun e=>e.symm⟩
 rw[h1];by_cases h7:k=7
 ·rw[if_pos h7,if_pos h7,y5]
 ·rw[if_neg h7,if_neg h7]
  have:=Zo0 hv h0 (n+2) (zC (v at_)) 0 (Wn _) (fun x hx=>hv _ h0.1 h0.2 x (y5.mp hx)) (Nat.zero_le _) (by omega) (fun y hy=>y5.mpr hy) (fun x hx=>.one (y5.mp hx)) (fun j hj h=>by omega) y;rw[this]
theorem kC.congr{r s:Int→Int→Prop}{lo hi:Int}(hrs:∀a b,lo≤a→a≤hi→(r a b↔s a b))(hb:∀a b,lo≤a→a≤hi→r a b→lo≤b∧b≤hi){a b:Int}(ha:lo≤a∧a≤hi):kC r a b↔kC s a b:=by
 constructor
 ·intro h
  have key:∀{b},kC r a b→(lo≤b∧b≤hi)∧kC s a b:=by
   intro b h;induction h with
   | one h=>exact⟨hb _ _ ha.1 ha.2 h,.one ((hrs _ _ ha.1 ha.2).mp h)⟩
   | more _ k ih=>
    obtain⟨h1,h2⟩:=ih;exact⟨hb _ _ h1.1 h1.2 k,.more h2 ((hrs _ _ h1.1 h1.2).mp k)⟩
  exact(key h).2
 ·intro h
  have key:∀{b},kC s a b→(lo≤b∧b≤hi)∧kC r a b:=by
   intro b h;induction h with
   | one h=>have h':=(hrs _ _ ha.1 ha.2).mpr h;exact⟨hb _ _ ha.1 ha.2 h',.one h'⟩
   | more _ k ih=>
    obtain⟨h1,h2⟩:=ih;have h':=(hrs _ _ h1.1 h1.2).mpr k;exact⟨hb _ _ h1.1 h1.2 h',.more h2 h'⟩
  exact(key h).2
mutual
theorem I7(l:List Int):∀(p:aF) (a b:Int),0≤a→a≤l.length→(b∈zf l p a↔MR (jX l) p a b)
 | .mk k s g ks,a,b,h0,hn=>by
  rw[zf,MR];by_cases h1:k=1
  ·rw[if_pos h1,if_pos h1];simp;exact⟨fun e=>e.symm,fun e=>e.symm⟩
  ·rw[if_neg h1,if_neg h1]
   by_cases h2:k=2
   ·rw[if_pos h2,if_pos h2]
    unfold jX;by_cases hc:a < l.length∧g.contains (l.getD a.toNat 0)=true
    ·rw[if_pos hc]
     have hm:l.getD a.toNat 0∈g:=by simpa using hc.2
     simp only[List.mem_cons,List.not_mem_nil,or_false];exact⟨fun e=>⟨e,h0,hc.1,hm⟩,fun e=>e.1⟩
    ·rw[if_neg hc]
     simp only[List.not_mem_nil,false_iff];rintro⟨_,_,h3,h4⟩;exact hc ⟨h3,by simpa using h4⟩
   ·rw[if_neg h2,if_neg h2]
    by_cases h3:k=3
    ·rw[if_pos h3,if_pos h3,Zgg l ks [a] b (by simp;exact⟨h0,hn⟩)];simp
    ·rw[if_neg h3,if_neg h3]
     by_cases h4:k=4
     ·rw[if_pos h4,if_pos h4,ZiZ l ks a b h0 hn]
     ·rw[if_neg h4,if_neg h4]
      by_cases h5:k=7∨k=5∨k=6
      ·rw[if_pos h5,if_pos h5];exact Zpd l ks k a b h0 hn
      ·rw[if_neg h5,if_neg h5];simp
theorem Zgg(l:List Int):∀(ks:List aF) (cur:List Int) (b:Int),(∀x∈cur,0≤x∧x≤l.length)→(b∈Ee l ks cur↔∃a∈cur,MA (jX l) ks a b)
 | [],cur,b,h=>by rw[Ee];simp[MA]
 | q::qs,cur,b,h=>by
  rw[Ee,Zgg l qs _ b (fun x hx=>by
   obtain⟨a,ha,hx2⟩:=List.mem_flatMap.mp (y5.mp hx);have h1:=h a ha;have:=DL l q a h1.1 h1.2 x hx2;omega)]
  constructor
  ·rintro⟨m,hm,hr⟩
   obtain⟨a,ha,hx2⟩:=List.mem_flatMap.mp (y5.mp hm);have h1:=h a ha;exact⟨a,ha,by rw[MA];exact⟨m,(I7 l q a m h1.1 h1.2).mp hx2,hr⟩⟩
  ·rintro⟨a,ha,hr⟩
   rw[MA] at hr;obtain⟨m,h2,h3⟩:=hr;have h1:=h a ha;exact⟨m,y5.mpr (List.mem_flatMap.mpr ⟨a,ha,(I7 l q a m h1.1 h1.2).mpr h2⟩),h3⟩
theorem ZiZ(l:List Int):∀(ks:List aF) (a b:Int),0≤a→a≤l.length→(b∈Em l ks a↔MO (jX l) ks a b)
 | [],a,b,_,_=>by rw[Em,MO];simp
 | q::qs,a,b,h0,hn=>by rw[Em,MO,List.mem_append,I7 l q a b h0 hn,ZiZ l qs a b h0 hn]
theorem Zpd(l:List Int):∀(ks:List aF) (k a b:Int),0≤a→a≤l.length→(b∈CZ l ks k a↔MG (jX l) ks k a b)
 | [q],k,a,b,h0,hn=>by
  rw[CZ,MG,Zqk (fun x hx hy y hm=>by have:=DL l q x hx hy y hm;omega) ⟨h0,hn⟩]
  have e1:(if k=7 then b∈zf l q a else kC (fun a b=>b∈zf l q a) a b)↔(if k=7 then MR (jX l) q a b else kC (MR (jX l) q) a b):=by
   by_cases h7:k=7
   ·rw[if_pos h7,if_pos h7];exact I7 l q a b h0 hn
   ·rw[if_neg h7,if_neg h7]
    exact kC.congr (lo:=0) (hi:=l.length) (fun x y hx hy=>I7 l q x y hx hy) (fun x y hx hy hm=>by have:=DL l q x hx hy y hm;omega) ⟨h0,hn⟩
  rw[e1]
 | [],k,a,b,_,_=>by rw[CZ,MG]<;>simp
 | q::r::qs,k,a,b,_,_=>by rw[CZ,MG]<;>simp
end
theorem Zi1{p:aF}{l:List Int}{a b:Int}:b∈rQ p l a↔0≤a∧a≤l.length∧MR (jX l) p a b:=by
 unfold rQ;by_cases h:a < 0∨(l.length:Int) < a
 ·rw[if_pos h];simp;intro h1 h2;omega
 ·rw[if_neg h,(List.mergeSort_perm _ _).mem_iff,y5,I7 l p a b (by omega) (by omega)]
  constructor
  ·intro hm;exact⟨by omega,by omega,hm⟩
  ·exact fun hm=>hm.2.2
theorem DU{p:aF}{l:List Int}{a b:Int}:jU p l a b=true↔0≤a∧a≤l.length∧MR (jX l) p a b:=by
 unfold jU;rw[List.contains_iff_mem,Zi1]
def Inc(S:List Int→Int→Int→Prop):Prop:=∀g a b,S g a b→a < b
theorem MF{r:Int→Int→Prop}(h:∀a b,r a b→a≤b){a b:Int}(k:kC r a b):a≤b:=by
 induction k with
 | one k=>exact h _ _ k
 | more _ k ih=>have:=h _ _ k;omega
mutual
theorem D9{S:List Int→Int→Int→Prop}(hS:Inc S):∀(p:aF) (a b:Int),MR S p a b→a≤b
 | .mk k s g ks,a,b,h=>by
  rw[MR] at h;split at h
  ·omega
  ·split at h
   ·have:=hS _ _ _ h;omega
   ·split at h
    ·exact XB hS ks a b h
    ·split at h
     ·exact Zph hS ks a b h
     ·split at h
      ·exact Zsu hS ks k a b h
      ·exact h.elim
theorem XB{S:List Int→Int→Int→Prop}(hS:Inc S):∀(ks:List aF) (a b:Int),MA S ks a b→a≤b
 | [],a,b,h=>by rw[MA] at h;omega
 | q::qs,a,b,h=>by
  rw[MA] at h;obtain⟨m,h1,h2⟩:=h;have:=D9 hS q a m h1;have:=XB hS qs m b h2;omega
theorem Zph{S:List Int→Int→Int→Prop}(hS:Inc S):∀(ks:List aF) (a b:Int),MO S ks a b→a≤b
 | [],a,b,h=>by rw[MO] at h;exact h.elim
 | q::qs,a,b,h=>by
  rw[MO] at h;rcases h with h | h
  ·exact D9 hS q a b h
  ·exact Zph hS qs a b h
theorem Zsu{S:List Int→Int→Int→Prop}(hS:Inc S):∀(ks:List aF) (k a b:Int),MG S ks k a b→a≤b
 | [q],k,a,b,h=>by
  rw[MG] at h;rcases h with h | h
  ·omega
  ·split at h
   ·exact D9 hS q a b h
   ·exact MF (fun a b h=>D9 hS q a b h) h
 | [],k,a,b,h=>by simp[MG] at h
 | q::r::qs,k,a,b,h=>by simp[MG] at h
end
structure GE where
 bH:Prop
 fst:Nat→Prop
 aS:Nat→Prop
 dh:Nat→Nat→Prop
section
variable(T:Nat→Int→Int→Prop)
inductive Rn (F:Nat→Nat→Prop):Nat→Int→Nat→Int→Prop where
 | refl (s:Nat) (a:Int):Rn F s a s a
 | step (s t u:Nat) (a m b:Int) (h:F s t) (k:T t a m) (r:Rn F t m u b):Rn F s a u b
def Acc(E:GE)(a b:Int):Prop:=(E.bH∧a=b)∨∃s m t,E.fst s∧T s a m∧Rn T E.dh s m t b∧E.aS t
end
section
variable{T:Nat→Int→Int→Prop}
theorem Rn.mono{F G:Nat→Nat→Prop}(h:∀s t,F s t→G s t){s t:Nat}{a b:Int}(r:Rn T F s a t b):Rn T G s a t b:=by
 induction r with
 | refl s a=>exact .refl s a
 | step s t u a m b hf k r ih=>exact .step s t u a m b (h _ _ hf) k ih
theorem Rn.trans{F:Nat→Nat→Prop}{s t u:Nat}{a m b:Int}(r:Rn T F s a t m)(r2:Rn T F t m u b):Rn T F s a u b:=by
 induction r with
 | refl s a=>exact r2
 | step s t u a m b hf k r ih=>exact .step _ _ _ _ _ _ hf k (ih r2)
structure In(E:GE)(b c:Nat):Prop where
 fst:∀s,E.fst s→b≤s∧s < c
 aS:∀s,E.aS s→b≤s∧s < c
 dh:∀s t,E.dh s t→(b≤s∧s < c)∧b≤t∧t < c
def tq(E G:GE):GE:=⟨E.bH∧G.bH,fun s=>E.fst s∨(E.bH∧G.fst s),fun s=>(E.aS s∧G.bH)∨G.aS s,fun s t=>E.dh s t∨G.dh s t∨(E.aS s∧G.fst t)⟩
def uF(E G:GE):GE:=⟨E.bH∨G.bH,fun s=>E.fst s∨G.fst s,fun s=>E.aS s∨G.aS s,fun s t=>E.dh s t∨G.dh s t⟩
def Aq(E:GE)(n:Prop):GE:=⟨E.bH∨n,E.fst,E.aS,fun s t=>E.dh s t∨(E.aS s∧E.fst t)⟩
def CR(E:GE):GE:=⟨True,E.fst,E.aS,E.dh⟩
theorem In.cat{E G:GE}{b c d:Nat}(h:In E b c)(k:In G c d)(hbc:b≤c)(hcd:c≤d):In (tq E G) b d:=by
 refine⟨fun s hs=>?_,fun s hs=>?_,fun s t hs=>?_⟩
 ·rcases hs with hs | ⟨_,hs⟩
  ·have:=h.fst s hs;omega
  ·have:=k.fst s hs;omega
 ·rcases hs with⟨hs,_⟩ | hs
  ·have:=h.aS s hs;omega
  ·have:=k.aS s hs;omega
 ·rcases hs with hs | hs | ⟨h1,h2⟩
  ·have:=h.dh s t hs;omega
  ·have:=k.dh s t hs;omega
  ·have:=h.aS s h1;have:=k.fst t h2;omega
theorem In.alt{E G:GE}{b c d:Nat}(h:In E b c)(k:In G c d)(hbc:b≤c)(hcd:c≤d):In (uF E G) b d:=by
 refine⟨fun s hs=>?_,fun s hs=>?_,fun s t hs=>?_⟩
 ·rcases hs with hs | hs
  ·have:=h.fst s hs;omega
  ·have:=k.fst s hs;omega
 ·rcases hs with hs | hs
  ·have:=h.aS s hs;omega
  ·have:=k.aS s hs;omega
 ·rcases hs with hs | hs
  ·have:=h.dh s t hs;omega
  ·have:=k.dh s t hs;omega
theorem In.plus{E:GE}{b c:Nat}(h:In E b c)(n:Prop):In (Aq E n) b c:=by
 refine⟨h.fst,h.aS,fun s t hs=>?_⟩;rcases hs with hs | ⟨h1,h2⟩
 ·exact h.dh s t hs
 ·exact⟨h.aS s h1,h.fst t h2⟩
theorem Rn.right{E G:GE}{b c d:Nat}(h:In E b c)(k:In G c d){F:Nat→Nat→Prop}(hF:∀s t,F s t→E.dh s t∨G.dh s t∨(E.aS s∧G.fst t)){s t:Nat}{a e:Int}(r:Rn T F s a t e)(hs:c≤s):Rn T G.dh s a t e∧c≤t:=by
 induction r with
 | refl s a=>exact⟨.refl s a,hs⟩
 | step s t u a m e hf kk r ih=>
  rcases hF s t hf with hf | hf | ⟨h1,_⟩
  ·have:=h.dh s t hf;omega
  ·have:=k.dh s t hf
   obtain⟨i1,i2⟩:=ih (by omega);exact⟨.step _ _ _ _ _ _ hf kk i1,i2⟩
  ·have:=h.aS s h1;omega
theorem Rn.left{E G:GE}{b c d:Nat}(h:In E b c)(k:In G c d){F:Nat→Nat→Prop}(hF:∀s t,F s t→E.dh s t∨G.dh s t∨(E.aS s∧G.fst t)){s t:Nat}{a e:Int}(r:Rn T F s a t e)(hs:s < c) :
  (t < c∧Rn T E.dh s a t e)∨∃u m v w,Rn T E.dh s a u m∧E.aS u∧G.fst v∧T v m w∧Rn T G.dh v w t e∧c≤t:=by
 induction r with
 | refl s a=>exact .inl ⟨hs,.refl s a⟩
 | step s t u a m e hf kk r ih=>
  rcases hF s t hf with hf | hf | ⟨h1,h2⟩
  ·have:=h.dh s t hf
   rcases ih (by omega) with⟨i1,i2⟩ | ⟨u',m',v,w,j1,j2,j3,j4,j5,j6⟩
   ·exact .inl ⟨i1,.step _ _ _ _ _ _ hf kk i2⟩
   ·exact .inr ⟨u',m',v,w,.step _ _ _ _ _ _ hf kk j1,j2,j3,j4,j5,j6⟩
  ·have:=k.dh s t hf;omega
  ·have:=k.fst t h2
   obtain⟨i1,i2⟩:=Rn.right h k hF r (by omega);exact .inr ⟨s,a,t,m,.refl s a,h1,h2,kk,i1,i2⟩
theorem Zqg{E G:GE}{b c d:Nat}(h:In E b c)(k:In G c d){a e:Int}:Acc T (tq E G) a e↔∃m,Acc T E a m∧Acc T G m e:=by
 constructor
 ·rintro(⟨⟨h1,h2⟩,rfl⟩ | ⟨s,m,t,hf,hT,hr,hl⟩)
  ·exact⟨a,.inl ⟨h1,rfl⟩,.inl ⟨h2,rfl⟩⟩
  ·rcases hf with hf | ⟨hn,hf⟩
   ·have hs:=h.fst s hf
    rcases Rn.left h k (fun _ _ x=>x) hr (by omega) with⟨i1,i2⟩ | ⟨u,m',v,w,j1,j2,j3,j4,j5,j6⟩
    ·rcases hl with⟨hl,hn⟩ | hl
     ·exact⟨e,.inr ⟨s,m,t,hf,hT,i2,hl⟩,.inl ⟨hn,rfl⟩⟩
     ·have:=k.aS t hl;omega
    ·rcases hl with⟨hl,hn⟩ | hl
     ·have:=h.aS t hl;omega
     ·exact⟨m',.inr ⟨s,m,u,hf,hT,j1,j2⟩,.inr ⟨v,w,t,j3,j4,j5,hl⟩⟩
   ·have hs:=k.fst s hf
    obtain⟨i1,i2⟩:=Rn.right h k (fun _ _ x=>x) hr (by omega);rcases hl with⟨hl,_⟩ | hl
    ·have:=h.aS t hl;omega
    ·exact⟨a,.inl ⟨hn,rfl⟩,.inr ⟨s,m,t,hf,hT,i1,hl⟩⟩
 ·rintro⟨m,(⟨h1,rfl⟩ | ⟨s,m1,t,hf,hT,hr,hl⟩),(⟨h2,rfl⟩ | ⟨s2,m2,t2,hf2,Tc,hr2,hl2⟩)⟩
  ·exact .inl ⟨⟨h1,h2⟩,rfl⟩
  ·exact .inr ⟨s2,m2,t2,.inr ⟨h1,hf2⟩,Tc,hr2.mono fun _ _ x=>.inr (.inl x),.inr hl2⟩
  ·exact .inr ⟨s,m1,t,.inl hf,hT,hr.mono fun _ _ x=>.inl x,.inl ⟨hl,h2⟩⟩
  ·exact .inr ⟨s,m1,t2,.inl hf,hT,(hr.mono fun _ _ x=>.inl x).trans (.step _ _ _ _ _ _ (.inr (.inr ⟨hl,hf2⟩)) Tc (hr2.mono fun _ _ x=>.inr (.inl x))),.inr hl2⟩
theorem Zqf{E G:GE}{b c d:Nat}(h:In E b c)(k:In G c d){a e:Int}:Acc T (uF E G) a e↔Acc T E a e∨Acc T G a e:=by
 have hF:∀s t,(uF E G).dh s t→E.dh s t∨G.dh s t∨(E.aS s∧(fun _=>False) t):=fun s t x=>x.elim .inl (fun x=>.inr (.inl x))
 have k':In ⟨G.bH,fun _=>False,G.aS,G.dh⟩ c d:=⟨fun s hs=>hs.elim,k.aS,k.dh⟩;constructor
 ·rintro(⟨h1 | h1,rfl⟩ | ⟨s,m,t,hf,hT,hr,hl⟩)
  ·exact .inl (.inl ⟨h1,rfl⟩)
  ·exact .inr (.inl ⟨h1,rfl⟩)
  ·rcases hf with hf | hf
   ·have hs:=h.fst s hf
    rcases Rn.left (G:=⟨G.bH,fun _=>False,G.aS,G.dh⟩) h k' hF hr (by omega) with⟨i1,i2⟩ | ⟨u,m',v,w,j1,j2,j3,j4,j5,j6⟩
    ·rcases hl with hl | hl
     ·exact .inl (.inr ⟨s,m,t,hf,hT,i2,hl⟩)
     ·have:=k.aS t hl;omega
    ·exact j3.elim
   ·have hs:=k.fst s hf
    obtain⟨i1,i2⟩:=Rn.right (G:=⟨G.bH,fun _=>False,G.aS,G.dh⟩) h k' hF hr (by omega);rcases hl with hl | hl
    ·have:=h.aS t hl;omega
    ·exact .inr (.inr ⟨s,m,t,hf,hT,i1,hl⟩)
 ·rintro((⟨h1,rfl⟩ | ⟨s,m,t,hf,hT,hr,hl⟩) | (⟨h1,rfl⟩ | ⟨s,m,t,hf,hT,hr,hl⟩))
  ·exact .inl ⟨.inl h1,rfl⟩
  ·exact .inr ⟨s,m,t,.inl hf,hT,hr.mono fun _ _ x=>.inl x,.inl hl⟩
  ·exact .inl ⟨.inr h1,rfl⟩
  ·exact .inr ⟨s,m,t,.inr hf,hT,hr.mono fun _ _ x=>.inr x,.inr hl⟩
end
section
variable{T:Nat→Int→Int→Prop}
theorem Acc.mono{E G:GE}(hn:E.bH→G.bH)(h1:∀s,E.fst s→G.fst s)(h2:∀s,E.aS s→G.aS s)(h3:∀s t,E.dh s t→G.dh s t){a e:Int}(h:Acc T E a e):Acc T G a e:=by
 rcases h with⟨h,rfl⟩ | ⟨s,m,t,hf,hT,hr,hl⟩
 ·exact .inl ⟨hn h,rfl⟩
 ·exact .inr ⟨s,m,t,h1 s hf,hT,hr.mono h3,h2 t hl⟩
theorem Zkp{E:GE}{a e:Int}:Acc T (CR E) a e↔a=e∨Acc T E a e:=by
 constructor
 ·rintro(⟨_,rfl⟩ | h)
  ·exact .inl rfl
  ·exact .inr (.inr h)
 ·rintro(rfl | h)
  ·exact .inl ⟨trivial,rfl⟩
  ·exact Acc.mono (E:=E) (G:=CR E) (fun _=>trivial) (fun _ x=>x) (fun _ x=>x) (fun _ _ x=>x) h
theorem ZoQ{E:GE}{s t:Nat}{m e:Int}(r:Rn T (fun s t=>E.dh s t∨(E.aS s∧E.fst t)) s m t e)(hl:E.aS t):∀{a:Int} {s0:Nat} {m0:Int},E.fst s0→T s0 a m0→Rn T E.dh s0 m0 s m→kC (Acc T E) a e:=by
 induction r with
 | refl s m=>intro a s0 m0 h0 hT hr;exact .one (.inr ⟨s0,m0,s,h0,hT,hr,hl⟩)
 | step s t u m m2 e hf kk r ih=>
  intro a s0 m0 h0 hT hr;rcases hf with hf | ⟨h1,h2⟩
  ·exact ih hl h0 hT (hr.trans (.step _ _ _ _ _ _ hf kk (.refl _ _)))
  ·exact(kC.one (.inr ⟨s0,m0,s,h0,hT,hr,h1⟩)).trans (ih hl h2 kk (.refl _ _))
theorem ZnJ{E:GE}{n:Prop}{a e:Int}:Acc T (Aq E n) a e↔(n∧a=e)∨kC (Acc T E) a e:=by
 constructor
 ·rintro(⟨h | h,rfl⟩ | ⟨s,m,t,hf,hT,hr,hl⟩)
  ·exact .inr (.one (.inl ⟨h,rfl⟩))
  ·exact .inl ⟨h,rfl⟩
  ·exact .inr (ZoQ hr hl hf hT (.refl _ _))
 ·rintro(⟨h,rfl⟩ | h)
  ·exact .inl ⟨.inr h,rfl⟩
  ·have up:∀{a e:Int},Acc T E a e→Acc T (Aq E n) a e:=fun h=>Acc.mono (E:=E) (G:=Aq E n) (fun x=>.inl x) (fun _ x=>x) (fun _ x=>x) (fun _ _ x=>.inl x) h
   induction h with
   | one h=>exact up h
   | more h k ih=>
    rcases ih with⟨_,rfl⟩ | ⟨s,m,t,hf,hT,hr,hl⟩
    ·exact up k
    ·rcases k with⟨_,rfl⟩ | ⟨s2,m2,t2,hf2,Tc,hr2,hl2⟩
     ·exact .inr ⟨s,m,t,hf,hT,hr,hl⟩
     ·exact .inr ⟨s,m,t2,hf,hT,hr.trans (.step _ _ _ _ _ _ (.inr ⟨hl,hf2⟩) Tc (hr2.mono fun _ _ x=>.inl x)),hl2⟩
end
mutual
def jE:aF→Nat
 | .mk k _ _ ks=>if k=1 then 0 else if k=2 then 1 else jZ ks
def jZ:List aF→Nat
 | []=>0
 | q::qs=>jE q+jZ qs
end
def nu:GE:=⟨False,fun _=>False,fun _=>False,fun _ _=>False⟩
def uG:GE:=⟨True,fun _=>False,fun _=>False,fun _ _=>False⟩
def GH(b:Nat):GE:=⟨False,fun s=>s=b,fun s=>s=b,fun _ _=>False⟩
mutual
def ko:aF→Nat→GE
 | .mk k _ _ ks,b=>if k=1 then uG else if k=2 then GH b else if k=3 then vK ks b else if k=4 then wW ks b else ⟨(mI ks k b).bH,(mI ks k b).fst,(mI ks k b).aS,fun s t=>(mI ks k b).dh s t∨lT ks b s t⟩
def vK:List aF→Nat→GE
 | [],_=>uG
 | q::qs,b=>tq (ko q b) (vK qs (b+jE q))
def wW:List aF→Nat→GE
 | [],_=>nu
 | q::qs,b=>uF (ko q b) (wW qs (b+jE q))
def mI:List aF→Int→Nat→GE
 | [q],k,b=>if k=7 then CR (ko q b) else if k=5∨k=6 then Aq (ko q b) (k≠6) else nu
 | _,_,_=>nu
def lT:List aF→Nat→Nat→Nat→Prop
 | [],_,_,_=>False
 | q::qs,b,s,t=>(ko q b).dh s t∨lT qs (b+jE q) s t
end
mutual
theorem Dc:∀(p:aF) (b:Nat),In (ko p b) b (b+jE p)
 | .mk k r g ks,b=>by
  simp only[ko,jE];split
  ·exact⟨fun s hs=>hs.elim,fun s hs=>hs.elim,fun s t hs=>hs.elim⟩
  ·split
   ·exact⟨fun s hs=>by have:s=b:=hs;omega,fun s hs=>by have:s=b:=hs;omega,fun s t hs=>hs.elim⟩
   ·split
    ·exact Yw ks b
    ·split
     ·exact Yx ks b
     ·have h:=ZvV ks k b
      refine⟨h.fst,h.aS,fun s t hs=>?_⟩;rcases hs with hs | hs
      ·exact h.dh s t hs
      ·exact Zvx ks b s t hs
theorem Yw:∀(ks:List aF) (b:Nat),In (vK ks b) b (b+jZ ks)
 | [],b=>by
  simp only[vK];exact⟨fun s hs=>hs.elim,fun s hs=>hs.elim,fun s t hs=>hs.elim⟩
 | q::qs,b=>by
  simp only[vK,jZ];have:=(Dc q b).cat (Yw qs (b+jE q)) (by omega) (by omega);rwa[Nat.add_assoc] at this
theorem Yx:∀(ks:List aF) (b:Nat),In (wW ks b) b (b+jZ ks)
 | [],b=>by
  simp only[wW];exact⟨fun s hs=>hs.elim,fun s hs=>hs.elim,fun s t hs=>hs.elim⟩
 | q::qs,b=>by
  simp only[wW,jZ];have:=(Dc q b).alt (Yx qs (b+jE q)) (by omega) (by omega);rwa[Nat.add_assoc] at this
theorem ZvV:∀(ks:List aF) (k:Int) (b:Nat),In (mI ks k b) b (b+jZ ks)
 | [],k,b=>by
  simp only[mI];exact⟨fun s hs=>hs.elim,fun s hs=>hs.elim,fun s t hs=>hs.elim⟩
 | [q],k,b=>by
  have h:=Dc q b;simp only[mI,jZ,Nat.add_zero];split
  ·exact⟨h.fst,h.aS,h.dh⟩
  ·split
   ·exact h.plus _
   ·exact⟨fun s hs=>hs.elim,fun s hs=>hs.elim,fun s t hs=>hs.elim⟩
 | _::_::_,k,b=>by
  simp only[mI];exact⟨fun s hs=>hs.elim,fun s hs=>hs.elim,fun s t hs=>hs.elim⟩
theorem Zvx:∀(ks:List aF) (b s t:Nat),lT ks b s t→(b≤s∧s < b+jZ ks)∧b≤t∧t < b+jZ ks
 | [],b,s,t,h=>by simp only[lT] at h
 | q::qs,b,s,t,h=>by
  simp only[lT] at h;simp only[jZ];rcases h with h | h
  ·have:=(Dc q b).dh s t h;omega
  ·have:=Zvx qs (b+jE q) s t h;omega
end
mutual
def Ie(T:Nat→Int→Int→Prop)(S:List Int→Int→Int→Prop):aF→Nat→Prop
 | .mk k _ g ks,b=>(k=2→∀a e,T b a e↔S g a e)∧(k≠1→k≠2→zP T S ks b)
def zP(T:Nat→Int→Int→Prop)(S:List Int→Int→Int→Prop):List aF→Nat→Prop
 | [],_=>True
 | q::qs,b=>Ie T S q b∧zP T S qs (b+jE q)
end
section
variable{T:Nat→Int→Int→Prop}{S:List Int→Int→Int→Prop}
theorem Zkq{a e:Int}:Acc T uG a e↔a=e:=⟨fun h=>h.elim (fun h=>h.2) (fun⟨_,_,_,h,_⟩=>h.elim),fun h=>.inl ⟨trivial,h⟩⟩
theorem ZsD{a e:Int}:Acc T nu a e↔False:=⟨fun h=>h.elim (fun h=>h.1) (fun⟨_,_,_,h,_⟩=>h.elim),False.elim⟩
theorem Zqi{b:Nat}{a e:Int}:Acc T (GH b) a e↔T b a e:=by
 constructor
 ·rintro(⟨h,_⟩ | ⟨s,m,t,rfl,hT,hr,rfl⟩)
  ·exact h.elim
  ·cases hr with
   | refl=>exact hT
   | step _ _ _ _ _ _ h=>exact h.elim
 ·intro h
  exact .inr ⟨b,e,b,rfl,h,.refl _ _,rfl⟩
theorem Zf4{r q:Int→Int→Prop}(h:∀a b,r a b↔q a b){a b:Int}:kC r a b↔kC q a b:=by
 have:r=q:=funext fun a=>funext fun b=>propext (h a b)
 rw[this]
mutual
theorem MV:∀(p:aF) (b:Nat),Ie T S p b→∀a e,Acc T (ko p b) a e↔MR S p a e
 | .mk k r g ks,b,h,a,e=>by
  simp only[Ie] at h;simp only[ko,MR];by_cases h1:k=1
  ·rw[if_pos h1,if_pos h1];exact Zkq
  rw[if_neg h1,if_neg h1];by_cases h2:k=2
  ·rw[if_pos h2,if_pos h2,Zqi];exact h.1 h2 a e
  rw[if_neg h2,if_neg h2];have hL:=h.2 h1 h2;by_cases h3:k=3
  ·rw[if_pos h3,if_pos h3];exact Yb ks b hL a e
  rw[if_neg h3,if_neg h3];by_cases h4:k=4
  ·rw[if_pos h4,if_pos h4];exact ZsC ks b hL a e
  rw[if_neg h4,if_neg h4];exact ZuE ks k b hL a e
theorem Yb:∀(ks:List aF) (b:Nat),zP T S ks b→∀a e,Acc T (vK ks b) a e↔MA S ks a e
 | [],b,h,a,e=>by simp only[vK,MA];exact Zkq
 | q::qs,b,h,a,e=>by
  simp only[zP] at h;simp only[vK,MA];rw[Zqg (Dc q b) (Yw qs (b+jE q))];exact⟨fun⟨m,h1,h2⟩=>⟨m,(MV q b h.1 a m).mp h1,(Yb qs _ h.2 m e).mp h2⟩,fun⟨m,h1,h2⟩=>⟨m,(MV q b h.1 a m).mpr h1,(Yb qs _ h.2 m e).mpr h2⟩⟩
theorem ZsC:∀(ks:List aF) (b:Nat),zP T S ks b→∀a e,Acc T (wW ks b) a e↔MO S ks a e
 | [],b,h,a,e=>by simp only[wW,MO];exact ZsD
 | q::qs,b,h,a,e=>by
  simp only[zP] at h;simp only[wW,MO];rw[Zqf (Dc q b) (Yx qs (b+jE q)),MV q b h.1 a e,ZsC qs _ h.2 a e]
theorem ZuE:∀(ks:List aF) (k:Int) (b:Nat),zP T S ks b→∀a e,Acc T ⟨(mI ks k b).bH,(mI ks k b).fst,(mI ks k b).aS,fun s t=>(mI ks k b).dh s t∨lT ks b s t⟩ a e↔(if k=7∨k=5∨k=6 then MG S ks k a e else False)
 | [],k,b,h,a,e=>by
  simp only[mI,MG];have:Acc T ⟨nu.bH,nu.fst,nu.aS,fun s t=>nu.dh s t∨lT [] b s t⟩ a e↔False:=⟨fun h=>h.elim (fun h=>h.1) (fun⟨_,_,_,h,_⟩=>h.elim),False.elim⟩;rw[this];split<;>rfl
 | [q],k,b,h,a,e=>by
  simp only[zP] at h;have hq:=MV q b h.1;have hW:∀s t,lT [q] b s t↔(ko q b).dh s t:=fun s t=>by simp only[lT];exact⟨fun h=>h.elim id False.elim,.inl⟩
  by_cases h7:k=7
  ·have hg:mI [q] k b=CR (ko q b):=by simp only[mI];rw[if_pos h7]
   rw[if_pos (.inl h7),hg];have e1:(fun s t=>(CR (ko q b)).dh s t∨lT [q] b s t)=(CR (ko q b)).dh:=funext fun s=>funext fun t=>propext ⟨fun h=>h.elim id (hW s t).mp,.inl⟩
   rw[e1];show Acc T (CR (ko q b)) a e↔_
   rw[Zkp,hq a e];simp only[MG];rw[if_pos h7];have:k≠6:=by omega
   exact⟨fun h=>h.elim (fun h=>.inl ⟨this,h⟩) .inr,fun h=>h.elim (fun h=>.inl h.2) .inr⟩
  ·by_cases Kc:k=5∨k=6
   ·have hg:mI [q] k b=Aq (ko q b) (k≠6):=by simp only[mI];rw[if_neg h7,if_pos Kc]
    rw[if_pos (.inr Kc),hg];have e1:(fun s t=>(Aq (ko q b) (k≠6)).dh s t∨lT [q] b s t)=(Aq (ko q b) (k≠6)).dh:=funext fun s=>funext fun t=>propext ⟨fun h=>h.elim id (fun h=>.inl ((hW s t).mp h)),.inl⟩
    rw[e1];show Acc T (Aq (ko q b) (k≠6)) a e↔_
    rw[ZnJ];simp only[MG];rw[if_neg h7,Zf4 hq]
   ·have hg:mI [q] k b=nu:=by simp only[mI];rw[if_neg h7,if_neg Kc]
    rw[if_neg (by omega),hg];exact⟨fun h=>h.elim (fun h=>h.1) (fun⟨_,_,_,h,_⟩=>h.elim),False.elim⟩
 | p::q::r,k,b,h,a,e=>by
  simp only[mI,MG];have:Acc T ⟨nu.bH,nu.fst,nu.aS,fun s t=>nu.dh s t∨lT (p::q::r) b s t⟩ a e↔False:=⟨fun h=>h.elim (fun h=>h.1) (fun⟨_,_,_,h,_⟩=>h.elim),False.elim⟩;rw[this];split<;>rfl
end
end
structure Rv(n:Net)(E:GE):Prop where
 R:mY n
 inn:In E 1 n.au.length
 f0:∀t:Nat,(t:Int)∈n.follow.getD 0 []↔E.fst t
 fs:∀s t:Nat,1≤s→((t:Int)∈n.follow.getD s []↔E.dh s t)
 l0:(0:Int)∈n.last↔E.bH
 ls:∀s:Nat,1≤s→((s:Int)∈n.last↔E.aS s)
def H8(n:Net)(l:List Int)(s:Nat)(a b:Int):Prop:=jX l (n.au.getD s []) a b
theorem Rl{n:Net}{l:List Int}{i q:Nat}(h:i < l.length){m:Int}:H8 n l q i m↔m=(i:Int)+1∧vC n l[i] q=true:=by
 unfold H8 jX vC;have hg:l.getD i 0=l[i]:=by rw[List.getD_eq_getElem?_getD,List.getElem?_eq_getElem h];rfl
 rw[Int.toNat_natCast,Int.toNat_natCast,hg];constructor
 ·rintro⟨h1,h2,h3,h4⟩;exact⟨h1,by simpa using h4⟩
 ·rintro⟨h1,h2⟩;exact⟨h1,by omega,by omega,by simpa using h2⟩
theorem QF{n:Net}{E:GE}(h:Rv n E){p:Nat}{q:Int}{s:Int}(hp:p < n.au.length):Gc n p q s↔∃t:Nat,q=t∧(if p=0 then E.fst t else E.dh p t)∧vC n s t=true:=by
 unfold Gc;rw[Int.toNat_natCast];constructor
 ·rintro⟨h1,h2,h3,h4⟩
  have hq:0≤q:=by
   rw[Zc5 (by omega)] at h3;have:=(h.R.follow p (by omega)).2 q h3;omega
  have e:((q.toNat:Nat):Int)=q:=by omega
  refine⟨q.toNat,e.symm,?_,by rw[e];exact h4⟩;rw[←e] at h3;split
  ·rename_i hp0;subst hp0;exact(h.f0 _).mp h3
  ·exact(h.fs p _ (by omega)).mp h3
 ·rintro⟨t,rfl,h1,h2⟩
  refine⟨by omega,by rw[h.R.len];omega,?_,h2⟩;split at h1
  ·rename_i hp0;subst hp0;exact(h.f0 _).mpr h1
  ·exact(h.fs p _ (by omega)).mpr h1
theorem QB{n:Net}{E:GE}(h:Rv n E){l:List Int}:∀(k i t:Nat),i+k=l.length→1≤t→t < n.au.length→(JQ n t (l.drop i)↔∃u,Rn (H8 n l) E.dh t i u l.length∧E.aS u)
 | 0,i,t,hk,h1,h2=>by
  rw[List.drop_eq_nil_of_le (by omega)];have hi:i=l.length:=by omega
  subst hi;show(t:Int)∈n.last↔_
  rw[h.ls t h1];constructor
  ·intro hl;exact⟨t,.refl _ _,hl⟩
  ·rintro⟨u,hr,hl⟩
   cases hr with
   | refl=>exact hl
   | step _ q _ _ m _ hf hT hr=>
    obtain⟨_,_,h4,_⟩:=hT;omega
 | k+1,i,t,hk,h1,h2=>by
  have hi:i < l.length:=by omega
  rw[List.drop_eq_getElem_cons hi];show(∃q,Gc n t q l[i]∧JQ n q (l.drop (i+1)))↔_
  constructor
  ·rintro⟨q,he,ha⟩
   obtain⟨q',rfl,hf,hb⟩:=(QF h h2).mp he;rw[if_neg (by omega)] at hf;obtain⟨_,hq1,hq2⟩:=h.inn.dh t q' hf;obtain⟨u,hr,hl⟩:=(QB h k (i+1) q' (by omega) hq1 hq2).mp ha;exact⟨u,.step _ _ _ _ _ _ hf ((Rl hi).mpr ⟨rfl,hb⟩) (by rw[Int.natCast_add,Int.natCast_one] at hr;exact hr),hl⟩
  ·rintro⟨u,hr,hl⟩
   generalize hL:(l.length:Int)=L at hr;cases hr with
   | refl=>omega
   | step _ q' _ _ m _ hf hT hr=>
    subst hL;obtain⟨rfl,hb⟩:=(Rl hi).mp hT;obtain⟨_,hq1,hq2⟩:=h.inn.dh t q' hf;refine⟨q',(QF h h2).mpr ⟨q',rfl,by rw[if_neg (by omega)];exact hf,hb⟩,(QB h k (i+1) q' (by omega) hq1 hq2).mpr ⟨u,?_,hl⟩⟩;rw[Int.natCast_add,Int.natCast_one];exact hr
theorem Zqh{n:Net}{E:GE}(h:Rv n E)(l:List Int):zq n l=true↔Acc (H8 n l) E 0 l.length:=by
 have hR:qC n=true:=(Bh n).mpr h.R;have hn1:=h.R.n1;rw[ZnI];simp only[hR,true_and];cases l with
 | nil=>
  show(0:Int)∈n.last↔_
  rw[h.l0];constructor
  ·intro hn;exact .inl ⟨hn,rfl⟩
  ·rintro(⟨hn,_⟩ | ⟨s,m,t,hf,hT,hr,hl⟩)
   ·exact hn
   ·obtain⟨_,_,h4,_⟩:=hT
    simp at h4
 | cons s l=>
  have hi:0 < (s::l).length:=by simp
  show(∃q,Gc n 0 q s∧JQ n q l)↔_
  constructor
  ·rintro⟨q,he,ha⟩
   obtain⟨q',rfl,hf,hb⟩:=(QF h (p:=0) (by omega)).mp he;rw[if_pos rfl] at hf;obtain⟨hq1,hq2⟩:=h.inn.fst q' hf;obtain⟨u,hr,hl⟩:=(QB h (l:=s::l) l.length 1 q' (by simp;omega) hq1 hq2).mp ha;exact .inr ⟨q',1,u,hf,(Rl (i:=0) hi).mpr ⟨rfl,hb⟩,hr,hl⟩
  ·rintro(⟨_,hn⟩ | ⟨q',m,u,hf,hT,hr,hl⟩)
   ·simp at hn;omega
   ·obtain⟨rfl,hb⟩:=(Rl (i:=0) hi).mp hT
    obtain⟨hq1,hq2⟩:=h.inn.fst q' hf;refine⟨q',(QF h (p:=0) (by omega)).mpr ⟨q',rfl,by rw[if_pos rfl];exact hf,hb⟩,?_⟩;exact(QB h (l:=s::l) l.length 1 q' (by simp;omega) hq1 hq2).mpr ⟨u,hr,hl⟩
structure Gs where
 au:List (List Int)
 fo:List (List Int)
structure Ed where
 bH:Bool
 fst:List Int
 aS:List Int
def jN(fo:List (List Int)):List Int→List Int→List (List Int)
 | [],_=>fo
 | s::ss,be=>jN (fo.set s.toNat (jo (fo.getD s.toNat []++be))) ss be
def kE:List Ed→Ed→Gs→Ed×Gs
 | [],all,st=>(all,st)
 | e::es,all,st=>kE es ⟨all.bH && e.bH,if all.bH=true then jo (all.fst++e.fst) else all.fst,jo ((if e.bH=true then all.aS else [])++e.aS)⟩ ⟨st.au,jN st.fo all.aS e.fst⟩
def tZ:List Ed→Ed→Ed
 | [],all=>all
 | e::es,all=>tZ es ⟨all.bH || e.bH,jo (all.fst++e.fst),jo (all.aS++e.aS)⟩
def uW:List Ed→Int→Gs→Ed×Gs
 | [e],k,st=>if 5≤k∧k≤7 then (⟨e.bH || decide (k≠6),e.fst,e.aS⟩,if k=7 then st else ⟨st.au,jN st.fo e.aS e.fst⟩) else (⟨false,[],[]⟩,st)
 | _,_,st=>(⟨false,[],[]⟩,st)
def Ap(sg:Int)(g:List Int):List Int:=jo (g.filter fun n=>decide (0≤n) && decide (n < sg))
mutual
def dU(sg:Int):aF→Gs→Ed×Gs
 | .mk k _ g ks,st=>if k=1 then (⟨true,[],[]⟩,st) else if k=2 then (⟨false,[(st.au.length:Int)],[(st.au.length:Int)]⟩,⟨st.au++[Ap sg g],st.fo++[[]]⟩)
  else if k=3 then kE (cZ sg ks st).1 ⟨true,[],[]⟩ (cZ sg ks st).2 else if k=4 then (tZ (cZ sg ks st).1 ⟨false,[],[]⟩,(cZ sg ks st).2) else uW (cZ sg ks st).1 k (cZ sg ks st).2
def cZ(sg:Int):List aF→Gs→List Ed×Gs
 | [],st=>([],st)
 | q::qs,st=>((dU sg q st).1::(cZ sg qs (dU sg q st).2).1,(cZ sg qs (dU sg q st).2).2)
end
def nQ(fo:List (List Int))(s t:Nat):Prop:=(t:Int)∈fo.getD s []
def Up(l:List Int):Prop:=l.Pairwise (· < ·)∧∀x∈l,0≤x
structure uV(e:Ed)(E:GE):Prop where
 bH:e.bH=true↔E.bH
 fst:∀t:Nat,(t:Int)∈e.fst↔E.fst t
 aS:∀t:Nat,(t:Int)∈e.aS↔E.aS t
 uf:Up e.fst
 ul:Up e.aS
theorem F6:Up []:=⟨by simp,by simp⟩
theorem X3(n:Nat):Up [(n:Int)]:=⟨by simp,fun x hx=>by simp at hx;omega⟩
theorem Ju{a b:List Int}(ha:∀x∈a,0≤x)(hb:∀x∈b,0≤x):Up (jo (a++b)):=
 ⟨FX _,fun x hx=>(List.mem_append.mp (vU.mp hx)).elim (ha x) (hb x)⟩
theorem DR:∀(ss:List Int) (fo:List (List Int)) (be:List Int),(jN fo ss be).length=fo.length
 | [],fo,be=>rfl
 | s::ss,fo,be=>by rw[jN,DR ss];simp
theorem WM:∀(ss:List Int) (fo:List (List Int)) (be:List Int),(∀x∈ss,0≤x)→∀s t:Nat,nQ (jN fo ss be) s t↔nQ fo s t∨((s:Int)∈ss∧s < fo.length∧(t:Int)∈be)
 | [],fo,be,_,s,t=>by simp[jN]
 | x::ss,fo,be,h,s,t=>by
  have h0:=h x (by simp);rw[jN,WM ss _ be (fun y hy=>h y (by simp[hy])) s t,List.length_set]
  have key:nQ (fo.set x.toNat (jo (fo.getD x.toNat []++be))) s t↔nQ fo s t∨(x=s∧s < fo.length∧(t:Int)∈be):=by
   unfold nQ;rw[List.getD_eq_getElem?_getD,List.getElem?_set];by_cases e:x.toNat=s
   ·rw[if_pos e]
    have e2:x=s:=by omega
    by_cases hl:s < fo.length
    ·rw[if_pos (by omega),Option.getD_some,vU,List.mem_append,e]
     exact⟨fun h=>h.elim .inl (fun h=>.inr ⟨e2,hl,h⟩),fun h=>h.elim .inl (fun h=>.inr h.2.2)⟩
    ·rw[if_neg (by omega),Option.getD_none]
     constructor
     ·intro h;simp at h
     ·rintro(h | ⟨_,h,_⟩)
      ·rw[List.getD_eq_getElem?_getD,List.getElem?_eq_none (by omega)] at h;exact h
      ·omega
   ·rw[if_neg e,←List.getD_eq_getElem?_getD]
    exact⟨.inl,fun h=>h.elim id (fun h=>by omega)⟩
  rw[key];simp only[List.mem_cons];constructor
  ·rintro((h | ⟨h1,h2,h3⟩) | ⟨h1,h2,h3⟩)
   ·exact .inl h
   ·exact .inr ⟨.inl h1.symm,h2,h3⟩
   ·exact .inr ⟨.inr h1,h2,h3⟩
  ·rintro(h | ⟨h1 | h1,h2,h3⟩)
   ·exact .inl (.inl h)
   ·exact .inl (.inr ⟨h1.symm,h2,h3⟩)
   ·exact .inr ⟨h1,h2,h3⟩
theorem Xi:∀(ss:List Int) (fo:List (List Int)) (be:List Int),(∀r∈fo,Up r)→(∀x∈be,0≤x)→∀r∈jN fo ss be,Up r
 | [],fo,be,h,_=>h
 | x::ss,fo,be,h,hb=>by
  refine Xi ss _ be (fun r hr=>?_) hb;rcases List.mem_or_eq_of_mem_set hr with hr | rfl
  ·exact h r hr
  ·refine Ju (fun y hy=>?_) hb
   rw[List.getD_eq_getElem?_getD] at hy;cases hg:fo[x.toNat]? with
   | none=>rw[hg] at hy;simp at hy
   | some r=>rw[hg] at hy;exact(h r (List.mem_of_getElem? hg)).2 y hy
def F4:List aF→Nat→Nat→Nat→Prop
 | [],_,_,_=>False
 | q::qs,b,s,t=>((ko q b).aS s∧(vK qs (b+jE q)).fst t)∨F4 qs (b+jE q) s t
theorem ZlK:∀(ks:List aF) (b s t:Nat),(vK ks b).dh s t↔lT ks b s t∨F4 ks b s t
 | [],b,s,t=>by simp only[vK,lT,F4,uG];simp
 | q::qs,b,s,t=>by
  simp only[vK,lT,F4,tq];rw[ZlK qs];constructor
  ·rintro(h | (h | h) | h)
   ·exact .inl (.inl h)
   ·exact .inl (.inr h)
   ·exact .inr (.inr h)
   ·exact .inr (.inl h)
  ·rintro((h | h) | (h | h))
   ·exact .inl h
   ·exact .inr (.inl (.inl h))
   ·exact .inr (.inr h)
   ·exact .inr (.inl (.inr h))
theorem ZlL:∀(ks:List aF) (b s t:Nat),(wW ks b).dh s t↔lT ks b s t
 | [],b,s,t=>by simp only[wW,lT,nu]
 | q::qs,b,s,t=>by
  simp only[wW,lT,uF];rw[ZlL qs]
def wh:List Ed→List aF→Nat→Prop
 | [],[],_=>True
 | e::es,q::qs,b=>uV e (ko q b)∧wh es qs (b+jE q)
 | _,_,_=>False
theorem ZsZ{e f:Ed}{E G:GE}(h:uV e E)(k:uV f G):uV ⟨e.bH && f.bH,if e.bH=true then jo (e.fst++f.fst) else e.fst,jo ((if f.bH=true then e.aS else [])++f.aS)⟩ (tq E G):=by
 refine⟨?_,fun t=>?_,fun t=>?_,?_,?_⟩
 ·simp only[Bool.and_eq_true,h.bH,k.bH,tq]
 ·simp only[tq]
  have h1:=h.fst t;have h2:=k.fst t;have h3:=h.bH;cases hn:e.bH with
  | true=>
   rw[hn] at h3;have:=h3.mp rfl;simp only[if_true,vU,List.mem_append,h1,h2];exact⟨fun x=>x.elim .inl (fun x=>.inr ⟨this,x⟩),fun x=>x.elim .inl (fun x=>.inr x.2)⟩
  | false=>
   rw[hn] at h3;have:¬E.bH:=fun x=>by have:=h3.mpr x;cases this
   simp only[Bool.false_eq_true,if_false,h1];exact⟨.inl,fun x=>x.elim id (fun x=>(this x.1).elim)⟩
 ·simp only[tq,vU,List.mem_append]
  have h1:=h.aS t;have h2:=k.aS t;have h3:=k.bH;cases hn:f.bH with
  | true=>
   rw[hn] at h3;have:=h3.mp rfl;simp only[if_true,h1,h2];exact⟨fun x=>x.elim (fun x=>.inl ⟨x,this⟩) .inr,fun x=>x.elim (fun x=>.inl x.1) .inr⟩
  | false=>
   rw[hn] at h3;have:¬G.bH:=fun x=>by have:=h3.mpr x;cases this
   simp only[Bool.false_eq_true,if_false,List.not_mem_nil,false_or,h2];exact⟨.inr,fun x=>x.elim (fun x=>(this x.2).elim) id⟩
 ·simp only
  split
  ·exact Ju h.uf.2 k.uf.2
  ·exact h.uf
 ·refine Ju (fun x hx=>?_) k.ul.2
  split at hx
  ·exact h.ul.2 x hx
  ·simp at hx
theorem ZsY{e f:Ed}{E G:GE}(h:uV e E)(k:uV f G):uV ⟨e.bH || f.bH,jo (e.fst++f.fst),jo (e.aS++f.aS)⟩ (uF E G):=by
 refine⟨?_,fun t=>?_,fun t=>?_,Ju h.uf.2 k.uf.2,Ju h.ul.2 k.ul.2⟩
 ·simp only[Bool.or_eq_true,h.bH,k.bH,uF]
 ·simp only[vU,List.mem_append,h.fst,k.fst,uF]
 ·simp only[vU,List.mem_append,h.aS,k.aS,uF]
theorem Je{e:Ed}{E G:GE}(h:uV e E)(hn:E.bH↔G.bH)(h1:∀t,E.fst t↔G.fst t)(h2:∀t,E.aS t↔G.aS t):uV e G:=
 ⟨h.bH.trans hn,fun t=>(h.fst t).trans (h1 t),fun t=>(h.aS t).trans (h2 t),h.uf,h.ul⟩
structure zo(st:Gs):Prop where
 len:st.fo.length=st.au.length
 up:∀r∈st.fo,Up r
theorem Qp:∀(es:List Ed) (all:Ed) (st:Gs),(kE es all st).2.au=st.au∧(kE es all st).2.fo.length=st.fo.length
 | [],all,st=>⟨rfl,rfl⟩
 | e::es,all,st=>by
  obtain⟨h1,h2⟩:=Qp es ⟨all.bH && e.bH,if all.bH=true then jo (all.fst++e.fst) else all.fst,jo ((if e.bH=true then all.aS else [])++e.aS)⟩ ⟨st.au,jN st.fo all.aS e.fst⟩;rw[kE];exact⟨h1,h2.trans (DR _ _ _)⟩
theorem Zic:∀(es:List Ed) (ks:List aF) (b:Nat) (all:Ed) (A:GE) (st:Gs),wh es ks b→uV all A→zo st→b+jZ ks≤st.fo.length→(∀s,A.aS s→s < st.fo.length)→
  uV (kE es all st).1 (tq A (vK ks b))∧(∀r∈(kE es all st).2.fo,Up r)∧∀s t,nQ (kE es all st).2.fo s t↔nQ st.fo s t∨F4 ks b s t∨(A.aS s∧(vK ks b).fst t)
 | [],[],b,all,A,st,_,hA,hst,_,_=>by
  simp only[kE,vK,F4];refine⟨Je hA ?_ (fun t=>?_) (fun t=>?_),hst.up,fun s t=>?_⟩
  ·simp[tq,uG]
  ·simp[tq,uG]
  ·simp[tq,uG]
  ·simp[uG]
 | [],_::_,_,_,_,_,h,_,_,_,_=>by simp[wh] at h
 | _::_,[],_,_,_,_,h,_,_,_,_=>by simp[wh] at h
 | e::es,q::qs,b,all,A,st,h,hA,hst,hl,hlt=>by
  simp only[wh] at h;simp only[jZ] at hl;have hE:=Dc q b;have hc:=ZsZ hA h.1;have hst':zo ⟨st.au,jN st.fo all.aS e.fst⟩:=⟨(DR _ _ _).trans hst.len,Xi _ _ _ hst.up h.1.uf.2⟩
  obtain⟨i1,i2,i3⟩:=Zic es qs (b+jE q) ⟨all.bH && e.bH,if all.bH=true then jo (all.fst++e.fst) else all.fst,jo ((if e.bH=true then all.aS else [])++e.aS)⟩ (tq A (ko q b)) ⟨st.au,jN st.fo all.aS e.fst⟩ h.2 hc hst' (by rw[DR];omega) (fun s hs=>by
   rw[DR];rcases hs with⟨hs,_⟩ | hs
   ·exact hlt s hs
   ·have:=hE.aS s hs;omega)
  simp only[kE,vK,F4];refine⟨Je i1 ?_ (fun t=>?_) (fun t=>?_),i2,fun s t=>?_⟩
  ·simp only[tq,and_assoc]
  ·simp only[tq]
   constructor
   ·rintro((h | ⟨h1,h2⟩) | ⟨⟨h1,h2⟩,h3⟩)
    ·exact .inl h
    ·exact .inr ⟨h1,.inl h2⟩
    ·exact .inr ⟨h1,.inr ⟨h2,h3⟩⟩
   ·rintro(h | ⟨h1,h2 | ⟨h2,h3⟩⟩)
    ·exact .inl (.inl h)
    ·exact .inl (.inr ⟨h1,h2⟩)
    ·exact .inr ⟨⟨h1,h2⟩,h3⟩
  ·simp only[tq]
   constructor
   ·rintro(⟨⟨h1,h2⟩ | h1,h3⟩ | h)
    ·exact .inl ⟨h1,h2,h3⟩
    ·exact .inr (.inl ⟨h1,h3⟩)
    ·exact .inr (.inr h)
   ·rintro(⟨h1,h2,h3⟩ | ⟨h1,h3⟩ | h)
    ·exact .inl ⟨.inl ⟨h1,h2⟩,h3⟩
    ·exact .inl ⟨.inr h1,h3⟩
    ·exact .inr h
  ·rw[i3,WM _ _ _ hA.ul.2]
   have e1:=hA.aS s;have e2:=h.1.fst t;rw[e1,e2];simp only[tq];constructor
   ·rintro((h | ⟨h1,h2,h3⟩) | h | ⟨⟨h1,h2⟩ | h1,h3⟩)
    ·exact .inl h
    ·exact .inr (.inr ⟨h1,.inl h3⟩)
    ·exact .inr (.inl (.inr h))
    ·exact .inr (.inr ⟨h1,.inr ⟨h2,h3⟩⟩)
    ·exact .inr (.inl (.inl ⟨h1,h3⟩))
   ·rintro(h | (⟨h1,h3⟩ | h) | ⟨h1,h2 | ⟨h2,h3⟩⟩)
    ·exact .inl (.inl h)
    ·exact .inr (.inr ⟨.inr h1,h3⟩)
    ·exact .inr (.inl h)
    ·exact .inl (.inr ⟨h1,hlt s h1,h2⟩)
    ·exact .inr (.inr ⟨.inl ⟨h1,h2⟩,h3⟩)
theorem Zdc:∀(es:List Ed) (ks:List aF) (b:Nat) (all:Ed) (A:GE),wh es ks b→uV all A→uV (tZ es all) (uF A (wW ks b))
 | [],[],b,all,A,_,hA=>by
  simp only[tZ,wW];exact Je hA (by simp[uF,nu]) (fun t=>by simp[uF,nu]) (fun t=>by simp[uF,nu])
 | [],_::_,_,_,_,h,_=>by simp[wh] at h
 | _::_,[],_,_,_,h,_=>by simp[wh] at h
 | e::es,q::qs,b,all,A,h,hA=>by
  simp only[wh] at h;simp only[tZ,wW];exact Je (Zdc es qs (b+jE q) _ _ h.2 (ZsY hA h.1)) (by simp only[uF,or_assoc]) (fun t=>by simp only[uF,or_assoc]) (fun t=>by simp only[uF,or_assoc])
mutual
def qR(sg:Int):aF→List (List Int)
 | .mk k _ g ks=>if k=1 then [] else if k=2 then [Ap sg g] else tF sg ks
def tF(sg:Int):List aF→List (List Int)
 | []=>[]
 | q::qs=>qR sg q++tF sg qs
end
structure Zso(sg:Int)(p:aF)(st:Gs)(r:Ed×Gs):Prop where
 au:r.2.au=st.au++qR sg p
 len:(qR sg p).length=jE p
 ok:zo r.2
 ed:uV r.1 (ko p st.au.length)
 fo:∀s t,nQ r.2.fo s t↔nQ st.fo s t∨(ko p st.au.length).dh s t
structure Zsm(sg:Int)(ks:List aF)(st:Gs)(r:List Ed×Gs):Prop where
 au:r.2.au=st.au++tF sg ks
 len:(tF sg ks).length=jZ ks
 ok:zo r.2
 SV:wh r.1 ks st.au.length
 fo:∀s t,nQ r.2.fo s t↔nQ st.fo s t∨lT ks st.au.length s t
theorem Zpx:uV ⟨true,[],[]⟩ uG:=⟨by simp[uG],by simp[uG],by simp[uG],F6,F6⟩
theorem Zt0:uV ⟨false,[],[]⟩ nu:=⟨by simp[nu],by simp[nu],by simp[nu],F6,F6⟩
theorem Zfl:∀(ss:List Int) (fo:List (List Int)) (be:List Int) (s t:Nat),nQ fo s t→nQ (jN fo ss be) s t
 | [],fo,be,s,t,h=>h
 | x::ss,fo,be,s,t,h=>by
  refine Zfl ss _ be s t ?_;unfold nQ at h ⊢;rw[List.getD_eq_getElem?_getD,List.getElem?_set];by_cases e:x.toNat=s
  ·rw[if_pos e]
   by_cases hl:s < fo.length
   ·rw[if_pos (by omega),Option.getD_some,vU,List.mem_append,e]
    exact .inl h
   ·rw[List.getD_eq_getElem?_getD,List.getElem?_eq_none (by omega)] at h
    simp at h
  ·rw[if_neg e,←List.getD_eq_getElem?_getD];exact h
theorem ZlR(es:List Ed)(k:Int)(st:Gs)(s t:Nat)(h:nQ st.fo s t):nQ (uW es k st).2.fo s t:=by
 match es with
 | []=>exact h
 | [e]=>
  simp only[uW];split
  ·split
   ·exact h
   ·exact Zfl _ _ _ s t h
  ·exact h
 | _::_::_=>exact h
theorem Zr1{es:List Ed}{ks:List aF}{k:Int}{b:Nat}{st:Gs}(h:wh es ks b)(hst:zo st)(hl:b+jZ ks≤st.fo.length) :
  (uW es k st).2.au=st.au∧zo (uW es k st).2∧uV (uW es k st).1 (mI ks k b)∧∀s t,(nQ st.fo s t→lT ks b s t→True)→(nQ (uW es k st).2.fo s t∨lT ks b s t↔nQ st.fo s t∨(mI ks k b).dh s t∨lT ks b s t):=by
 have no:∀(st:Gs),zo st→st.au=st.au∧zo st∧uV ⟨false,[],[]⟩ nu∧∀s t,(nQ st.fo s t→lT ks b s t→True)→(nQ st.fo s t∨lT ks b s t↔nQ st.fo s t∨nu.dh s t∨lT ks b s t):=fun st h=>
  ⟨rfl,h,Zt0,fun s t _=>by simp[nu]⟩
 match es,ks,h with
 | [],[],_=>simp only[uW,mI];exact⟨trivial,(no st hst).2⟩
 | [e],[q],h=>
  simp only[wh,and_true] at h;simp only[uW,mI];by_cases h7:k=7
  ·subst h7
   rw[if_pos (by omega),if_pos rfl,if_pos rfl];refine⟨rfl,hst,⟨by simp[CR],h.fst,h.aS,h.uf,h.ul⟩,fun s t _=>?_⟩;simp only[CR,lT,or_false];constructor
   ·rintro(h | h)
    ·exact .inl h
    ·exact .inr (.inl h)
   ·rintro(h | h | h)
    ·exact .inl h
    ·exact .inr h
    ·exact .inr h
  ·by_cases Kc:k=5∨k=6
   ·rw[if_pos (by omega),if_neg h7,if_neg h7,if_pos Kc]
    simp only[jZ,Nat.add_zero] at hl;refine⟨rfl,⟨(DR _ _ _).trans hst.len,Xi _ _ _ hst.up h.uf.2⟩,⟨?_,h.fst,h.aS,h.uf,h.ul⟩,fun s t _=>?_⟩
    ·simp only[Aq,Bool.or_eq_true,h.bH,decide_eq_true_eq]
    ·rw[WM _ _ _ h.ul.2,h.aS,h.fst]
     simp only[Aq,lT,or_false];constructor
     ·rintro((h1 | ⟨h1,h2,h3⟩) | h1)
      ·exact .inl h1
      ·exact .inr (.inl (.inr ⟨h1,h3⟩))
      ·exact .inr (.inr h1)
     ·rintro(h1 | (h1 | ⟨h1,h3⟩) | h1)
      ·exact .inl (.inl h1)
      ·exact .inr h1
      ·have:=(Dc q b).aS s h1
       exact .inl (.inr ⟨h1,by omega,h3⟩)
      ·exact .inr h1
   ·rw[if_neg (by omega),if_neg h7,if_neg Kc]
    exact no st hst
 | _::_::_,_::_::_,_=>simp only[uW,mI];exact⟨trivial,(no st hst).2⟩
 | [],_::_,h=>simp[wh] at h
 | _::_,[],h=>simp[wh] at h
 | [_],_::_::_,h=>simp[wh] at h
 | _::_::_,[_],h=>simp[wh] at h
mutual
theorem QG(sg:Int):∀(p:aF) (st:Gs),zo st→Zso sg p st (dU sg p st)
 | .mk k r g ks,st,h=>by
  simp only[dU];by_cases h1:k=1
  ·have hp:ko (.mk k r g ks) st.au.length=uG:=by simp only[ko];rw[if_pos h1]
   rw[if_pos h1];refine⟨by simp[qR,h1],by simp[qR,jE,h1],h,by rw[hp];exact Zpx,fun s t=>by rw[hp];simp[uG]⟩
  rw[if_neg h1];by_cases h2:k=2
  ·have hp:ko (.mk k r g ks) st.au.length=GH st.au.length:=by simp only[ko];rw[if_neg h1,if_pos h2]
   rw[if_pos h2];refine⟨by simp[qR,h2],by simp[qR,jE,h2],⟨by simp[h.len],fun r hr=>?_⟩,?_,fun s t=>?_⟩
   ·rcases List.mem_append.mp hr with hr | hr
    ·exact h.up r hr
    ·rw[List.mem_singleton] at hr;subst hr;exact F6
   ·rw[hp]
    exact⟨by simp[GH],fun t=>by simp[GH];omega,fun t=>by simp[GH];omega,X3 _,X3 _⟩
   ·rw[hp]
    simp only[GH,or_false];unfold nQ;rw[List.getD_eq_getElem?_getD,List.getD_eq_getElem?_getD];by_cases hs:s < st.fo.length
    ·rw[List.getElem?_append_left hs]
    ·rw[List.getElem?_eq_none (l:=st.fo) (by omega),List.getElem?_append_right (by omega)]
     by_cases he:s - st.fo.length=0
     ·rw[he];simp
     ·rw[List.getElem?_eq_none (by simp;omega)]
  rw[if_neg h2];have he:=Zll sg ks st h;have hlv:qR sg (.mk k r g ks)=tF sg ks:=by simp only[qR];rw[if_neg h1,if_neg h2]
  have hcn:jE (.mk k r g ks)=jZ ks:=by simp only[jE];rw[if_neg h1,if_neg h2]
  have hlen:st.au.length+jZ ks≤(cZ sg ks st).2.fo.length:=by
   rw[he.ok.len,he.au,List.length_append,he.len];exact Nat.le_refl _
  by_cases h3:k=3
  ·have hp:ko (.mk k r g ks) st.au.length=vK ks st.au.length:=by simp only[ko];rw[if_neg h1,if_neg h2,if_pos h3]
   rw[if_pos h3];obtain⟨j1,j2⟩:=Qp (cZ sg ks st).1 ⟨true,[],[]⟩ (cZ sg ks st).2;obtain⟨i1,i2,i3⟩:=Zic (cZ sg ks st).1 ks st.au.length ⟨true,[],[]⟩ uG (cZ sg ks st).2 he.SV Zpx he.ok hlen (fun s hs=>hs.elim);refine⟨by rw[j1,he.au,hlv],by rw[hlv,hcn];exact he.len,⟨by rw[j2,j1];exact he.ok.len,i2⟩,?_,fun s t=>?_⟩
   ·rw[hp]
    exact Je i1 (by simp[tq,uG]) (fun t=>by simp[tq,uG]) (fun t=>by simp[tq,uG])
   ·rw[i3,he.fo,hp,ZlK]
    simp only[uG,false_and,or_false,or_assoc]
  rw[if_neg h3];by_cases h4:k=4
  ·have hp:ko (.mk k r g ks) st.au.length=wW ks st.au.length:=by simp only[ko];rw[if_neg h1,if_neg h2,if_neg h3,if_pos h4]
   rw[if_pos h4];refine⟨by rw[he.au,hlv],by rw[hlv,hcn];exact he.len,he.ok,?_,fun s t=>?_⟩
   ·rw[hp]
    exact Je (Zdc _ ks st.au.length _ nu he.SV Zt0) (by simp[uF,nu]) (fun t=>by simp[uF,nu]) (fun t=>by simp[uF,nu])
   ·rw[he.fo,hp,ZlL]
  rw[if_neg h4]
  have hp:ko (.mk k r g ks) st.au.length=⟨(mI ks k st.au.length).bH,(mI ks k st.au.length).fst,(mI ks k st.au.length).aS,fun s t=>(mI ks k st.au.length).dh s t∨lT ks st.au.length s t⟩:=by
   simp only[ko];rw[if_neg h1,if_neg h2,if_neg h3,if_neg h4]
  obtain⟨o1,o2,o3,o4⟩:=Zr1 (k:=k) he.SV he.ok hlen;refine⟨by rw[o1,he.au,hlv],by rw[hlv,hcn];exact he.len,o2,?_,fun s t=>?_⟩
  ·rw[hp]
   exact⟨o3.bH,o3.fst,o3.aS,o3.uf,o3.ul⟩
  ·rw[hp]
   have h5:=o4 s t (fun _ _=>trivial);have h6:=he.fo s t;have h7:lT ks st.au.length s t→nQ (uW (cZ sg ks st).1 k (cZ sg ks st).2).2.fo s t:=fun hw=>ZlR _ k _ s t (h6.mpr (.inr hw))
   simp only;constructor
   ·intro hx
    rcases h5.mp (.inl hx) with hx | hx | hx
    ·rcases h6.mp hx with hx | hx
     ·exact .inl hx
     ·exact .inr (.inr hx)
    ·exact .inr (.inl hx)
    ·exact .inr (.inr hx)
   ·rintro(hx | hx | hx)
    ·exact(h5.mpr (.inl (h6.mpr (.inl hx)))).elim id h7
    ·exact(h5.mpr (.inr (.inl hx))).elim id h7
    ·exact h7 hx
theorem Zll(sg:Int):∀(ks:List aF) (st:Gs),zo st→Zsm sg ks st (cZ sg ks st)
 | [],st,h=>by
  simp only[cZ];exact⟨by simp[tF],rfl,h,trivial,fun s t=>by simp only[lT,or_false]⟩
 | q::qs,st,h=>by
  simp only[cZ];have f:=QG sg q st h;have e:=Zll sg qs (dU sg q st).2 f.ok;have hb:(dU sg q st).2.au.length=st.au.length+jE q:=by rw[f.au,List.length_append,f.len]
  refine⟨by rw[e.au,f.au];simp[tF],by simp[tF,jZ,f.len,e.len],e.ok,⟨f.ed,?_⟩,fun s t=>?_⟩
  ·have:=e.SV
   rwa[hb] at this
  ·simp only
   rw[e.fo,f.fo,hb];simp only[lT,or_assoc]
end
theorem ZqG{r s:Int→Int→Prop}{f:Int→Int}{lo hi:Int}(hle:∀a b,r a b→a≤b)(h:∀a b,lo≤a→b≤hi→r a b→s (f a) (f b)){a b:Int}(ha:lo≤a)(k:kC r a b):b≤hi→kC s (f a) (f b):=by
 induction k with
 | one k=>intro hb;exact .one (h _ _ ha hb k)
 | more k1 k2 ih=>
  intro hb;have h1:=MF hle k1;have h2:=hle _ _ k2;exact .more (ih (by omega)) (h _ _ (by omega) hb k2)
def Ov(S S':List Int→Int→Int→Prop)(f:Int→Int)(lo hi:Int):Prop:=∀g x y,lo≤x→y≤hi→S g x y→S' g (f x) (f y)
mutual
theorem Jk{S S':List Int→Int→Int→Prop}(hS:Inc S){f:Int→Int}{lo hi:Int}(H:Ov S S' f lo hi):∀(p:aF) (a b:Int),lo≤a→b≤hi→MR S p a b→MR S' p (f a) (f b)
 | .mk k s g ks,a,b,ha,hb,h=>by
  rw[MR] at h ⊢;by_cases h1:k=1
  ·rw[if_pos h1] at h ⊢;rw[h]
  ·rw[if_neg h1] at h ⊢
   by_cases h2:k=2
   ·rw[if_pos h2] at h ⊢;exact H g a b ha hb h
   ·rw[if_neg h2] at h ⊢
    by_cases h3:k=3
    ·rw[if_pos h3] at h ⊢;exact Zpf hS H ks a b ha hb h
    ·rw[if_neg h3] at h ⊢
     by_cases h4:k=4
     ·rw[if_pos h4] at h ⊢;exact Zpg hS H ks a b ha hb h
     ·rw[if_neg h4] at h ⊢
      by_cases h5:k=7∨k=5∨k=6
      ·rw[if_pos h5] at h ⊢;exact Zst hS H ks k a b ha hb h
      ·rw[if_neg h5] at h;exact h.elim
theorem Zpf{S S':List Int→Int→Int→Prop}(hS:Inc S){f:Int→Int}{lo hi:Int}(H:Ov S S' f lo hi):∀(ks:List aF) (a b:Int),lo≤a→b≤hi→MA S ks a b→MA S' ks (f a) (f b)
 | [],a,b,ha,hb,h=>by rw[MA] at h ⊢;rw[h]
 | q::qs,a,b,ha,hb,h=>by
  rw[MA] at h ⊢;obtain⟨m,h1,h2⟩:=h;have i1:=D9 hS q a m h1;have i2:=XB hS qs m b h2;exact⟨f m,Jk hS H q a m ha (by omega) h1,Zpf hS H qs m b (by omega) hb h2⟩
theorem Zpg{S S':List Int→Int→Int→Prop}(hS:Inc S){f:Int→Int}{lo hi:Int}(H:Ov S S' f lo hi):∀(ks:List aF) (a b:Int),lo≤a→b≤hi→MO S ks a b→MO S' ks (f a) (f b)
 | [],a,b,ha,hb,h=>by rw[MO] at h;exact h.elim
 | q::qs,a,b,ha,hb,h=>by
  rw[MO] at h ⊢;rcases h with h | h
  ·exact .inl (Jk hS H q a b ha hb h)
  ·exact .inr (Zpg hS H qs a b ha hb h)
theorem Zst{S S':List Int→Int→Int→Prop}(hS:Inc S){f:Int→Int}{lo hi:Int}(H:Ov S S' f lo hi):∀(ks:List aF) (k a b:Int),lo≤a→b≤hi→MG S ks k a b→MG S' ks k (f a) (f b)
 | [q],k,a,b,ha,hb,h=>by
  rw[MG] at h ⊢;rcases h with⟨h1,h2⟩ | h
  ·exact .inl ⟨h1,by rw[h2]⟩
  ·right
   by_cases h7:k=7
   ·rw[if_pos h7] at h ⊢;exact Jk hS H q a b ha hb h
   ·rw[if_neg h7] at h ⊢;exact ZqG (fun a b h=>D9 hS q a b h) (fun a b ha hb h=>Jk hS H q a b ha hb h) ha h hb
 | [],k,a,b,_,_,h=>by simp[MG] at h
 | q::r::qs,k,a,b,_,_,h=>by simp[MG] at h
end
theorem QS(l:List Int):Inc (jX l):=fun g a b h=>by have:=h.1;omega
theorem Z9b(l:List Int)(c n:Nat)(k:Nat)(hk:k < n):((l.drop c).take n).getD k 0=l.getD (c+k) 0:=by
 simp only[List.getD_eq_getElem?_getD,List.getElem?_take,hk,if_true,List.getElem?_drop]
theorem ZpL(l:List Int)(c n:Nat)(h:c+n≤l.length):((l.drop c).take n).length=n:=by simp;omega
theorem Zkh{p:aF}{l:List Int}{c n a b:Nat}(h:c+n≤l.length)(hca:c≤a)(hb:b≤c+n):MR (jX l) p a b↔MR (jX ((l.drop c).take n)) p (a - c) (b - c):=by
 have hl:=ZpL l c n h;constructor
 ·exact Jk (f:=fun x=>x - c) (lo:=a) (hi:=b) (QS l) (fun g x y hx hy hs=>by
   obtain⟨h1,h2,h3,h4⟩:=hs;show jX _ g (x - c) (y - c)
   refine⟨by omega,by omega,by omega,?_⟩;rw[Z9b l c n _ (by omega)];have:c+(x - (c:Int)).toNat=x.toNat:=by omega
   rw[this];exact h4) p a b (by omega) (by omega)
 ·intro hm
  have:=Jk (f:=fun x=>x+c) (lo:=(a:Int) - c) (hi:=(b:Int) - c) (QS _) (S':=jX l) (fun g x y hx hy hs=>by
   obtain⟨h1,h2,h3,h4⟩:=hs;show jX _ g (x+c) (y+c)
   refine⟨by omega,by omega,by omega,?_⟩;rw[Z9b l c n _ (by omega)] at h4;have:c+x.toNat=(x+(c:Int)).toNat:=by omega
   rw[←this];exact h4) p _ _ (by omega) (by omega) hm
  have e1:(a:Int) - c+c=a:=by omega
  have e2:(b:Int) - c+c=b:=by omega
  simp only[e1,e2] at this;exact this
theorem ZfB(p:aF)(l:List Int)(a b:Nat)(hab:a≤b)(hb:b≤l.length):jU p ((l.drop a).take (b - a)) 0 ((b:Int) - a)=jU p l a b:=by
 rw[Bool.eq_iff_iff,DU,DU,Zkh (c:=a) (n:=b - a) (by omega) (Nat.le_refl _) (by omega),ZpL l a (b - a) (by omega)];have e:(a:Int) - a=0:=by omega
 rw[e];constructor
 ·rintro⟨h1,h2,h3⟩;exact⟨by omega,by omega,h3⟩
 ·rintro⟨h1,h2,h3⟩;exact⟨by omega,by omega,h3⟩
theorem Qe(p:aF)(l:List Int)(a b:Nat)(hab:a≤b)(hb:b≤l.length):jU p (l.take b) a b=jU p l a b:=by
 have:=Zkh (p:=p) (l:=l) (c:=0) (n:=b) (a:=a) (b:=b) (by omega) (by omega) (by omega);rw[Bool.eq_iff_iff,DU,DU,this];simp only[List.drop_zero,List.length_take,Int.natCast_zero,Int.sub_zero];constructor
 ·rintro⟨h1,h2,h3⟩;exact⟨by omega,by omega,by simpa using h3⟩
 ·rintro⟨h1,h2,h3⟩;exact⟨by omega,by omega,by simpa using h3⟩
theorem ZoA(p:aF)(l:List Int)(a b:Int)(hb:(l.length:Int) < b):jU p l a b=false:=by
 rw[Bool.eq_false_iff];intro h;unfold jU at h;rw[List.contains_iff_mem] at h;have:=Zi2 _ h;omega
def st0:Gs:=⟨[[]],[[]]⟩
theorem X0:zo st0:=⟨rfl,fun r hr=>by simp[st0] at hr;subst hr;exact F6⟩
def jT(p:aF)(sg:Int):Net:=
 ⟨sg,(dU sg p st0).2.au,(dU sg p st0).2.fo.set 0 (dU sg p st0).1.fst,if (dU sg p st0).1.bH=true then jo ((dU sg p st0).1.aS++[0]) else (dU sg p st0).1.aS⟩
theorem ZjD(sg:Int)(g:List Int):Ea (Ap sg g) 0 sg:=⟨FX _,fun x hx=>by
 have:=List.mem_filter.mp (vU.mp hx);simpa using this.2⟩
theorem Ziq{sg:Int}{g:List Int}{x:Int}:x∈Ap sg g↔x∈g∧0≤x∧x < sg:=by
 unfold Ap;rw[vU,List.mem_filter];simp
mutual
theorem Zfy(sg:Int):∀(p:aF),∀r∈qR sg p,Ea r 0 sg
 | .mk k _ g ks,r,hr=>by
  simp only[qR] at hr;split at hr
  ·simp at hr
  ·split at hr
   ·rw[List.mem_singleton] at hr;subst hr;exact ZjD sg g
   ·exact Zfx sg ks r hr
theorem Zfx(sg:Int):∀(ks:List aF),∀r∈tF sg ks,Ea r 0 sg
 | [],r,hr=>by simp[tF] at hr
 | q::qs,r,hr=>by
  simp only[tF] at hr;rcases List.mem_append.mp hr with hr | hr
  ·exact Zfy sg q r hr
  ·exact Zfx sg qs r hr
end
theorem Zis(p:aF)(sg:Int):(jT p sg).au=[]::qR sg p∧(jT p sg).au.length=1+jE p∧(jT p sg).follow.length=1+jE p:=by
 have f:=QG sg p st0 X0;have h1:(jT p sg).au=[]::qR sg p:=f.au;have h2:(jT p sg).au.length=1+jE p:=by rw[h1,List.length_cons,f.len];omega
 refine⟨h1,h2,?_⟩;show((dU sg p st0).2.fo.set 0 _).length=_
 rw[List.length_set,f.ok.len];exact h2
theorem Qt{p:aF}{sg:Int}(h1:1≤sg)(h2:sg≤400)(hc:jE p≤300):Rv (jT p sg) (ko p 1):=by
 have f:=QG sg p st0 X0;have hI:=Dc p 1;obtain⟨hb,hbl,hfl⟩:=Zis p sg;have hb1:st0.au.length=1:=rfl;have hed:=f.ed;rw[hb1] at hed;have hfo:=fun s t=>f.fo s t
 have hz:∀s t,¬nQ st0.fo s t:=fun s t=>by
  unfold nQ st0;cases s with
  | zero=>simp
  | succ s=>simp
 have hl0:0 < (dU sg p st0).2.fo.length:=by
  have:(jT p sg).follow.length=(dU sg p st0).2.fo.length:=List.length_set ..;omega
 have f0:∀t:Nat,(t:Int)∈(jT p sg).follow.getD 0 []↔(ko p 1).fst t:=fun t=>by
  show(t:Int)∈((dU sg p st0).2.fo.set 0 (dU sg p st0).1.fst).getD 0 []↔_
  rw[List.getD_eq_getElem?_getD,List.getElem?_set,if_pos rfl,if_pos hl0,Option.getD_some];exact hed.fst t
 have fs:∀s t:Nat,1≤s→((t:Int)∈(jT p sg).follow.getD s []↔(ko p 1).dh s t):=fun s t hs=>by
  show(t:Int)∈((dU sg p st0).2.fo.set 0 (dU sg p st0).1.fst).getD s []↔_
  rw[List.getD_eq_getElem?_getD,List.getElem?_set,if_neg (by omega),←List.getD_eq_getElem?_getD];have:=hfo s t;rw[hb1] at this;exact this.trans ⟨fun h=>h.elim (fun h=>(hz s t h).elim) id,.inr⟩
 have hlast:∀q:Int,q∈(jT p sg).last↔((ko p 1).bH∧q=0)∨q∈(dU sg p st0).1.aS:=fun q=>by
  show q∈(if (dU sg p st0).1.bH=true then jo ((dU sg p st0).1.aS++[0]) else (dU sg p st0).1.aS)↔_
  by_cases hn:(dU sg p st0).1.bH=true
  ·rw[if_pos hn,vU,List.mem_append,List.mem_singleton]
   have:=hed.bH.mp hn;exact⟨fun h=>h.elim .inr (fun h=>.inl ⟨this,h⟩),fun h=>h.elim (fun h=>.inr h.2) .inl⟩
  ·rw[if_neg hn]
   exact⟨.inr,fun h=>h.elim (fun h=>(hn (hed.bH.mpr h.1)).elim) id⟩
 have hlp:∀q∈(dU sg p st0).1.aS,1≤q∧q < 1+jE p:=fun q hq=>by
  have h0:=hed.ul.2 q hq;have e:((q.toNat:Nat):Int)=q:=by omega
  rw[←e] at hq;have:=hI.aS _ ((hed.aS q.toNat).mp hq);omega
 refine⟨⟨h1,h2,by omega,by omega,by omega,by rw[hb];rfl,⟨?_,fun q hq=>?_⟩,fun i h=>?_,fun i h=>?_⟩,by rw[hbl];exact hI,f0,fs,?_,fun s hs=>?_⟩
 ·show(if (dU sg p st0).1.bH=true then jo ((dU sg p st0).1.aS++[0]) else (dU sg p st0).1.aS).Pairwise (· < ·)
  split
  ·exact FX _
  ·exact hed.ul.1
 ·rcases(hlast q).mp hq with⟨_,rfl⟩ | hq
  ·omega
  ·have:=hlp q hq;omega
 ·have hm:(jT p sg).au[i]∈[]::qR sg p:=by rw[←hb];exact List.getElem_mem h
  rcases List.mem_cons.mp hm with e | hm
  ·rw[e];exact⟨by simp,by simp⟩
  ·exact Zfy sg p _ hm
 ·have hrow:(jT p sg).follow.getD i []=(jT p sg).follow[i]:=Zc5 h
  have hup:Up (jT p sg).follow[i]:=by
   have hm:(jT p sg).follow[i]∈(dU sg p st0).2.fo.set 0 (dU sg p st0).1.fst:=List.getElem_mem h;rcases List.mem_or_eq_of_mem_set hm with hm | e
   ·exact f.ok.up _ hm
   ·rw[e];exact hed.uf
  refine⟨hup.1,fun x hx=>?_⟩;have h0:=hup.2 x hx;have e:((x.toNat:Nat):Int)=x:=by omega
  rw[←hrow,←e] at hx;by_cases hi:i=0
  ·subst hi
   have:=hI.fst _ ((f0 x.toNat).mp hx);omega
  ·have:=hI.dh _ _ ((fs i x.toNat (by omega)).mp hx);omega
 ·rw[hlast]
  exact⟨fun h=>h.elim (fun h=>h.1) (fun h=>by have:=hlp 0 h;omega),fun h=>.inl ⟨h,rfl⟩⟩
 ·rw[hlast]
  rw[←hed.aS s];exact⟨fun h=>h.elim (fun h=>by omega) id,.inr⟩
def BZ(sg:Int)(l:List Int)(g:List Int)(a b:Int):Prop:=jX l (Ap sg g) a b
mutual
theorem ZvB(sg:Int)(l:List Int):∀(p:aF) (pre post:List (List Int)),Ie (fun s a e=>jX l ((pre++qR sg p++post).getD s []) a e) (BZ sg l) p pre.length
 | .mk k _ g ks,pre,post=>by
  simp only[Ie];refine⟨fun h2 a e=>?_,fun h1 h2=>?_⟩
  ·subst h2
   have:qR sg (.mk 2 ‹_› g ks)=[Ap sg g]:=by simp[qR]
   rw[this,List.append_assoc,List.getD_eq_getElem?_getD,List.getElem?_append_right (Nat.le_refl _)];simp[BZ]
  ·have:qR sg (.mk k ‹_› g ks)=tF sg ks:=by simp only[qR];rw[if_neg h1,if_neg h2]
   rw[this];exact ZvA sg l ks pre post
theorem ZvA(sg:Int)(l:List Int):∀(ks:List aF) (pre post:List (List Int)),zP (fun s a e=>jX l ((pre++tF sg ks++post).getD s []) a e) (BZ sg l) ks pre.length
 | [],pre,post=>by simp only[zP]
 | q::qs,pre,post=>by
  simp only[zP];have h1:=ZvB sg l q pre (tF sg qs++post);have h2:=ZvA sg l qs (pre++qR sg q) post;have e1:pre++qR sg q++(tF sg qs++post)=pre++tF sg (q::qs)++post:=by simp[tF]
  have e2:pre++qR sg q++tF sg qs++post=pre++tF sg (q::qs)++post:=by simp[tF]
  have hc:(qR sg q).length=jE q:=(QG sg q st0 X0).len;rw[e1] at h1;rw[e2,List.length_append,hc] at h2;exact⟨h1,h2⟩
end
mutual
def Dh(sg:Int):aF→aF
 | .mk k _ g ks=>.mk k [] (Ap sg g) (zF sg ks)
def zF(sg:Int):List aF→List aF
 | []=>[]
 | q::qs=>Dh sg q::zF sg qs
end
mutual
theorem Gl(sg:Int)(l:List Int):∀(p:aF) (a b:Int),MR (BZ sg l) p a b↔MR (jX l) (Dh sg p) a b
 | .mk k r g ks,a,b=>by
  simp only[Dh,MR];by_cases h1:k=1
  ·rw[if_pos h1,if_pos h1]
  rw[if_neg h1,if_neg h1];by_cases h2:k=2
  ·rw[if_pos h2,if_pos h2];rfl
  rw[if_neg h2,if_neg h2];by_cases h3:k=3
  ·rw[if_pos h3,if_pos h3];exact Yj sg l ks a b
  rw[if_neg h3,if_neg h3];by_cases h4:k=4
  ·rw[if_pos h4,if_pos h4];exact Ztq sg l ks a b
  rw[if_neg h4,if_neg h4];by_cases h5:k=7∨k=5∨k=6
  ·rw[if_pos h5,if_pos h5];exact Zvb sg l ks k a b
  ·rw[if_neg h5,if_neg h5]
theorem Yj(sg:Int)(l:List Int):∀(ks:List aF) (a b:Int),MA (BZ sg l) ks a b↔MA (jX l) (zF sg ks) a b
 | [],a,b=>by simp only[zF,MA]
 | q::qs,a,b=>by
  simp only[zF,MA];exact⟨fun⟨m,h1,h2⟩=>⟨m,(Gl sg l q a m).mp h1,(Yj sg l qs m b).mp h2⟩,fun⟨m,h1,h2⟩=>⟨m,(Gl sg l q a m).mpr h1,(Yj sg l qs m b).mpr h2⟩⟩
theorem Ztq(sg:Int)(l:List Int):∀(ks:List aF) (a b:Int),MO (BZ sg l) ks a b↔MO (jX l) (zF sg ks) a b
 | [],a,b=>by simp only[zF,MO]
 | q::qs,a,b=>by
  simp only[zF,MO];rw[Gl sg l q a b,Ztq sg l qs a b]
theorem Zvb(sg:Int)(l:List Int):∀(ks:List aF) (k a b:Int),MG (BZ sg l) ks k a b↔MG (jX l) (zF sg ks) k a b
 | [],k,a,b=>by simp only[zF,MG]
 | [q],k,a,b=>by
  simp only[zF,MG];rw[Gl sg l q a b,Zf4 (Gl sg l q)]
 | _::_::_,k,a,b=>by simp only[zF,MG]
end
theorem Zrl{p:aF}{sg:Int}(h1:1≤sg)(h2:sg≤400)(hc:jE p≤300)(l:List Int):zq (jT p sg) l=jU (Dh sg p) l 0 l.length:=by
 have hL:=ZvB sg l p [[]] [];rw[List.append_nil] at hL;have hb:=(Zis p sg).1
 have hL':Ie (H8 (jT p sg) l) (BZ sg l) p 1:=by
  have:H8 (jT p sg) l=fun s a e=>jX l (([[]]++qR sg p).getD s []) a e:=by
   funext s a e;unfold H8;rw[hb];rfl
  rw[this];exact hL
 have h3:=(Zqh (Qt h1 h2 hc) l).trans ((MV p 1 hL' 0 l.length).trans (Gl sg l p 0 l.length));have h4:jU (Dh sg p) l 0 l.length=true↔MR (jX l) (Dh sg p) 0 l.length:=DU.trans ⟨fun h=>h.2.2,fun h=>⟨by omega,by omega,h⟩⟩;cases hA:zq (jT p sg) l<;>cases hB:jU (Dh sg p) l 0 l.length<;>simp_all
def jD(N:Nat)(l:List Int):Prop:=Up l∧∀x∈l,x < (N:Int)
theorem jD.len{N:Nat}{l:List Int}(h:jD N l):l.length≤N:=
 Qg N (h.1.1.imp fun h=>by omega) fun x hx=>⟨h.1.2 x hx,h.2 x hx⟩
theorem jD.mono{N M:Nat}{l:List Int}(h:jD N l)(hm:N≤M):jD M l:=⟨h.1,fun x hx=>by have:=h.2 x hx;omega⟩
theorem jD.nil{N:Nat}:jD N []:=⟨F6,by simp⟩
theorem jD.one{N k:Nat}(h:k < N):jD N [(k:Int)]:=⟨X3 k,fun x hx=>by simp at hx;omega⟩
theorem jD.app{N:Nat}{a b:List Int}(ha:jD N a)(hb:jD N b):jD N (jo (a++b)):=
 ⟨Ju ha.1.2 hb.1.2,fun x hx=>(List.mem_append.mp (vU.mp hx)).elim (ha.2 x) (hb.2 x)⟩
structure qZ(st:Gs):Prop where
 len:st.fo.length=st.au.length
 rows:∀r∈st.fo,jD st.au.length r
structure uM(N:Nat)(e:Ed):Prop where
 f:jD N e.fst
 l:jD N e.aS
theorem uM.mono{N M:Nat}{e:Ed}(h:uM N e)(hm:N≤M):uM M e:=⟨h.f.mono hm,h.l.mono hm⟩
theorem Zib{N:Nat}{fo:List (List Int)}(h:∀r∈fo,jD N r)(i:Nat):jD N (fo.getD i []):=by
 rw[List.getD_eq_getElem?_getD];cases e:fo[i]? with
 | none=>exact jD.nil
 | some r=>exact h r (List.mem_of_getElem? e)
theorem XH{N:Nat}:∀(ss:List Int) (fo:List (List Int)) (be:List Int),(∀r∈fo,jD N r)→jD N be→∀r∈jN fo ss be,jD N r
 | [],fo,be,h,_=>h
 | x::ss,fo,be,h,hb=>by
  refine XH ss _ be (fun r hr=>?_) hb;rcases List.mem_or_eq_of_mem_set hr with hr | rfl
  ·exact h r hr
  ·exact(Zib h _).app hb
theorem Zfm:∀(ss:List Int) (fo:List (List Int)) (s:Int) (be:List Int),jN fo (ss++[s]) be=(jN fo ss be).set s.toNat (jo ((jN fo ss be).getD s.toNat []++be))
 | [],fo,s,be=>rfl
 | x::ss,fo,s,be=>by rw[List.cons_append,jN,Zfm ss];rfl
theorem qZ.dh{st:Gs}(h:qZ st){a b:List Int}(hb:jD st.au.length b):qZ ⟨st.au,jN st.fo a b⟩:=⟨(DR _ _ _).trans h.len,XH _ _ _ h.rows hb⟩
theorem Xn:∀(es:List Ed) (all:Ed) (st:Gs),qZ st→uM st.au.length all→(∀e∈es,uM st.au.length e)→qZ (kE es all st).2∧uM st.au.length (kE es all st).1
 | [],all,st,h,ha,_=>⟨h,ha⟩
 | e::es,all,st,h,ha,he=>by
  have h1:=he e (by simp);rw[kE];refine Xn es _ ⟨st.au,jN st.fo all.aS e.fst⟩ (h.dh h1.f) ⟨?_,?_⟩ (fun e' h'=>he e' (by simp[h']))
  ·simp only
   split
   ·exact ha.f.app h1.f
   ·exact ha.f
  ·simp only
   split
   ·exact ha.l.app h1.l
   ·exact jD.nil.app h1.l
theorem Ws{N:Nat}:∀(es:List Ed) (all:Ed),uM N all→(∀e∈es,uM N e)→uM N (tZ es all)
 | [],all,ha,_=>ha
 | e::es,all,ha,he=>by
  have h1:=he e (by simp);rw[tZ];exact Ws es _ ⟨ha.f.app h1.f,ha.l.app h1.l⟩ (fun e' h'=>he e' (by simp[h']))
theorem Zte(es:List Ed)(k:Int)(st:Gs)(h:qZ st)(he:∀e∈es,uM st.au.length e):qZ (uW es k st).2∧(uW es k st).2.au=st.au∧uM st.au.length (uW es k st).1:=by
 have no:uM st.au.length ⟨false,[],[]⟩:=⟨jD.nil,jD.nil⟩
 match es,he with
 | [],_=>exact⟨h,rfl,no⟩
 | [e],he=>
  have h1:=he e (by simp);simp only[uW];split
  ·refine⟨?_,?_,⟨h1.f,h1.l⟩⟩
   ·split
    ·exact h
    ·exact h.dh h1.f
   ·split<;>rfl
  ·exact⟨h,rfl,no⟩
 | _::_::_,_=>exact⟨h,rfl,no⟩
mutual
theorem ZlN(sg:Int):∀(p:aF) (st:Gs),qZ st→qZ (dU sg p st).2∧uM (dU sg p st).2.au.length (dU sg p st).1∧(dU sg p st).2.au.length=st.au.length+jE p
 | .mk k s g ks,st,h=>by
  simp only[dU,jE];split
  ·exact⟨h,⟨jD.nil,jD.nil⟩,rfl⟩
  ·split
   ·refine⟨⟨by simp[h.len],fun r hr=>?_⟩,⟨jD.one (by simp),jD.one (by simp)⟩,by simp⟩
    simp only at hr ⊢;rcases List.mem_append.mp hr with hr | hr
    ·exact(h.rows r hr).mono (by simp)
    ·rw[List.mem_singleton] at hr;subst hr;exact jD.nil
   ·obtain⟨i1,i2,i3⟩:=QH sg ks st h
    split
    ·obtain⟨j1,j2⟩:=Xn (cZ sg ks st).1 ⟨true,[],[]⟩ (cZ sg ks st).2 i1 ⟨jD.nil,jD.nil⟩ i2
     have hb:=(Qp (cZ sg ks st).1 ⟨true,[],[]⟩ (cZ sg ks st).2).1;exact⟨j1,by rw[hb];exact j2,by rw[hb];exact i3⟩
    ·split
     ·exact⟨i1,Ws _ _ ⟨jD.nil,jD.nil⟩ i2,i3⟩
     ·obtain⟨j1,j2,j3⟩:=Zte (cZ sg ks st).1 k (cZ sg ks st).2 i1 i2
      exact⟨j1,by rw[j2];exact j3,by rw[j2];exact i3⟩
theorem QH(sg:Int):∀(ks:List aF) (st:Gs),qZ st→qZ (cZ sg ks st).2∧(∀e∈(cZ sg ks st).1,uM (cZ sg ks st).2.au.length e)∧(cZ sg ks st).2.au.length=st.au.length+jZ ks
 | [],st,h=>by simp only[cZ,jZ];exact⟨h,by simp,rfl⟩
 | q::qs,st,h=>by
  obtain⟨i1,i2,i3⟩:=ZlN sg q st h;obtain⟨j1,j2,j3⟩:=QH sg qs (dU sg q st).2 i1;simp only[cZ,jZ];refine⟨j1,fun e he=>?_,by omega⟩;rcases List.mem_cons.mp he with rfl | he
  ·exact i2.mono (by omega)
  ·exact j2 e he
end
theorem Zdb(sg:Int):∀(ks:List aF) (q:aF) (st:Gs),cZ sg (ks++[q]) st=((cZ sg ks st).1++[(dU sg q (cZ sg ks st).2).1],(dU sg q (cZ sg ks st).2).2)
 | [],q,st=>by simp only[List.nil_append,cZ]
 | k::ks,q,st=>by simp only[List.cons_append,cZ];rw[Zdb sg ks]
theorem Zdd:∀(es:List Ed) (e:Ed) (all:Ed) (st:Gs),kE (es++[e]) all st =
  (⟨(kE es all st).1.bH && e.bH,if (kE es all st).1.bH=true then jo ((kE es all st).1.fst++e.fst) else (kE es all st).1.fst,jo ((if e.bH=true then (kE es all st).1.aS else [])++e.aS)⟩,⟨(kE es all st).2.au,jN (kE es all st).2.fo (kE es all st).1.aS e.fst⟩)
 | [],e,all,st=>rfl
 | k::es,e,all,st=>by simp only[List.cons_append,kE];rw[Zdd es];rfl
theorem ZaS:∀(es:List Ed) (e:Ed) (all:Ed),tZ (es++[e]) all=⟨(tZ es all).bH || e.bH,jo ((tZ es all).fst++e.fst),jo ((tZ es all).aS++e.aS)⟩
 | [],e,all=>rfl
 | k::es,e,all=>by simp only[List.cons_append,tZ];rw[ZaS es]
theorem VJ:∀(a b:List aF),jZ (a++b)=jZ a+jZ b
 | [],b=>by simp[jZ]
 | p::a,b=>by simp only[List.cons_append,jZ];rw[VJ a b];omega
def bM(sg:Int)(v w:AV):AV:=.agg [ah sg,v,w,.sl true []]
def mG(sg:Int)(o:Bool)(st:Gs)(a b c:Nat):List (Nat×Option aB):=
 [(a,some (.arr 4 [bM sg (vV o b (st.au.map aj)) (vV o c (st.fo.map aj))])),(b,vB o 1 (st.au.map aj)),(c,vB o 1 (st.fo.map aj))]
def Yv(sg:Int)(st:Gs)(S:St):Prop:=S.n=10∧S.g 0=some (.arr 4 [bM sg (.own 3 0 st.au.length) (.own 4 0 st.fo.length)])∧S.g 3=some (.arr 1 (st.au.map aj))∧S.g 4=some (.arr 1 (st.fo.map aj))
theorem Yv.of{sg:Int}{st:Gs}{G:List (Nat×Option aB)}:Yv sg st ⟨10,bn (mG sg true st 0 3 4++G)⟩:=⟨rfl,by simp[mG,bn,dW],by simp[mG,bn,bN],by simp[mG,bn,bN]⟩
def nS(P:Program)(f:FuncId)(args:List AV)(sg:Int)(o:Bool)(st st':Gs)(r:AV):Prop:=
 aN P f (.ptr 0 0 0::args) ⟨3,bn (mG sg o st 0 1 2)⟩ fun r' S'=>r'=r∧Yv sg st' S'
def mE(sg:Int)(st:Gs)(id b c:Nat)(S:St):St:=
 ((((((St.mk (S.n+7) S.g).set id (some (.arr 4 [bM sg (.own S.n 0 st.au.length) (.own (S.n+1) 0 st.fo.length)]))).set b none).set c none).set S.n (some (.arr 1 (st.au.map aj)))).set (S.n+1) (some (.arr 1 (st.fo.map aj))))
theorem nS.P6w{P:Program}{f:FuncId}{args NC:List AV}{sg:Int}{o:Bool}{st st':Gs}{r:AV}(h:nS P f args sg o st st' r)(ha:∀R,gL yM R NC args)(hr:aY r){S:St}{K:AV→St→Prop}{id b c:Nat}
  (h1:S.g id=some (.arr 4 [bM sg (vV o b (st.au.map aj)) (vV o c (st.fo.map aj))])) (h2:∀R,BI yM R (S.g b) (vB o 1 (st.au.map aj))) (h3:∀R,BI yM R (S.g c) (vB o 1 (st.fo.map aj)))
  (hd:id≠b∧id≠c∧b≠c) (hl:id < S.n∧b < S.n∧c < S.n) (hk:K r (mE sg st' id b c S)):aN P f (.ptr id 0 0::NC) S K:=by
 refine aN.frame 3 [(0,id),(1,b),(2,c)] (mG sg o st 0 1 2) (.ptr 0 0 0::args) _ (by simp;omega) (by simp;omega) ?_ ?_ h ?_
 ·intro p hp
  simp only[mG,List.mem_cons,List.not_mem_nil,or_false] at hp;rcases hp with rfl | rfl | rfl
  ·refine .inr ⟨id,by simp,?_⟩
   rw[h1,jy];refine⟨rfl,?_⟩;simp only[bM,nZ,oH,and_true,ou];exact⟨.cl (aW _),qW (by simp) (kU _),qW (by simp) (kU _),.cl (mM _)⟩
  ·exact .inr ⟨b,by simp,h2 _⟩
  ·exact .inr ⟨c,by simp,h3 _⟩
 ·exact .cons (.ptr _ _ _ _ (by simp)) (ha _)
 ·rintro r1 S1 hn ⟨rfl,q1,q2,q3,q4⟩
  refine⟨r1,_,hk,.cl hr,by simp[mE,bT,q1],fun i k hi=>?_⟩;simp only[mE,aL] at hi;by_cases e5:i=S.n+1
  ·rw[if_pos e5] at hi
   refine .inr ⟨4,.inr ⟨by omega,by omega⟩,?_⟩;rw[←hi,q4,jy];exact⟨rfl,.cl (kU _)⟩
  rw[if_neg e5] at hi;by_cases e4:i=S.n
  ·rw[if_pos e4] at hi
   refine .inr ⟨3,.inr ⟨by omega,by omega⟩,?_⟩;rw[←hi,q3,jy];exact⟨rfl,.cl (kU _)⟩
  rw[if_neg e4] at hi;by_cases ec:i=c
  ·rw[if_pos ec] at hi;cases hi
  rw[if_neg ec] at hi;by_cases eb:i=b
  ·rw[if_pos eb] at hi;cases hi
  rw[if_neg eb] at hi;by_cases ea:i=id
  ·rw[if_pos ea] at hi
   refine .inr ⟨0,.inl ⟨by omega,by simp[ea]⟩,?_⟩;rw[←hi,q2,jy];refine⟨rfl,?_⟩;simp only[bM,nZ,oH,and_true,ou,rW];exact⟨.cl (aW _),(.inr ⟨by omega,by omega⟩),(.inr ⟨by omega,by omega⟩),.cl (mM _)⟩
  ·rw[if_neg ea] at hi
   refine .inl ⟨?_,hi⟩;simp;omega
theorem nS.use{P:Program}{f:FuncId}{args NC:List AV}{sg:Int}{o:Bool}{st st':Gs}{r:AV}(h:nS P f args sg o st st' r)(ha:∀R,gL yM R NC args)(hr:aY r){S:St}{K:AV→St→Prop}{id b c:Nat}
  (h1:S.g id=some (.arr 4 [bM sg (vV o b (st.au.map aj)) (vV o c (st.fo.map aj))])) (h2:S.g b=vB o 1 (st.au.map aj)) (h3:S.g c=vB o 1 (st.fo.map aj))
  (hd:id≠b∧id≠c∧b≠c) (hl:id < S.n∧b < S.n∧c < S.n) (hk:K r (mE sg st' id b c S)):aN P f (.ptr id 0 0::NC) S K:=
 nS.P6w h ha hr h1 (fun _=>by rw[h2];exact qD (kU _)) (fun _=>by rw[h3];exact qD (kU _)) hd hl hk
def qM(most:Int):Int→List Int→Int
 | s,[]=>s
 | s,w::ws=>if s≤most then qM most (s+w) ws else s
theorem Zna{most B M:Int}(hM:most+B≤M):∀{ws:List Int} {s:Int},(∀w∈ws,0≤w∧w≤B)→s≤M→s≤qM most s ws∧qM most s ws≤M
 | [],s,_,hs=>⟨Int.le_refl _,hs⟩
 | w::ws,s,h,hs=>by
  have hw:=h w (by simp);simp only[qM];split
  ·have:=Zna hM (ws:=ws) (s:=s+w) (fun x hx=>h x (by simp[hx])) (by omega)
   omega
  ·exact⟨Int.le_refl _,hs⟩
theorem ZiV{most:Int}:∀{ws:List Int} {s:Int},(∀w∈ws,0≤w)→qM most s ws≤most→s≤most∧(∀w∈ws,w≤most - s)∧s+ws.sum≤most
 | [],s,_,h=>by simp only[qM] at h;simp;exact h
 | w::ws,s,h0,h=>by
  simp only[qM] at h;have hw:=h0 w (by simp);split at h
  ·rename_i hs
   obtain⟨h1,h2,h3⟩:=ZiV (ws:=ws) (s:=s+w) (fun x hx=>h0 x (by simp[hx])) h;refine⟨hs,fun x hx=>?_,by simp;omega⟩;rcases List.mem_cons.mp hx with rfl | hx
   ·omega
   ·have:=h2 x hx;omega
  ·omega
theorem Znb{most s:Int}{ws:List Int}{i:Nat}(h:i < ws.length)(hs:s≤most):qM most s (ws.drop i)=qM most (s+ws[i]) (ws.drop (i+1)):=by
 rw[List.drop_eq_getElem_cons h,qM,if_pos hs]
theorem Znd{most s:Int}{ws:List Int}(hs:¬s≤most):qM most s ws=s:=by cases ws with
 | nil=>rfl
 | cons w ws=>rw[qM,if_neg hs]
theorem Zne:∀(ws:List Int),(∀w∈ws,1≤w)→(ws.length:Int)≤ws.sum
 | [],_=>by simp
 | w::ws,h=>by have:=Zne ws (fun x hx=>h x (by simp[hx]));have:=h w (by simp);simp;omega
mutual
def zk:aF→Prop
 | .mk _ s g ks=>Len s∧g.length≤17592186043904∧Len ks∧Ai ks
def Ai:List aF→Prop
 | []=>True
 | p::ps=>zk p∧Ai ps
end
theorem Ai.mem:∀{ks:List aF},Ai ks→∀q∈ks,zk q
 | [],_,q,h=>by simp at h
 | p::ps,h,q,hq=>by
  simp only[Ai] at h;rcases List.mem_cons.mp hq with rfl | hq
  ·exact h.1
  ·exact Ai.mem h.2 q hq
inductive zR where
 | mk (kind:Int) (name:ByteArray) (low high:Int) (kids:List zR)
def zR.kids:zR→List zR | .mk _ _ _ _ ks=>ks
theorem Cr(p:aF):∃x1 x2 x3 x4:AV,cB p=.agg [x1,x2,x3,x4]:=by obtain⟨k,s,a,b⟩:=p;rw[cO];exact⟨_,_,_,_,rfl⟩
def Zvu(s:ByteArray):Prop:=s.size≤140737488351232
mutual
def R3:zR→Prop
 | .mk _ s _ _ ks=>Zvu s∧Len ks∧F5 ks
def F5:List zR→Prop
 | []=>True
 | p::ps=>R3 p∧F5 ps
end
theorem F5.mem:∀{ks:List zR},F5 ks→∀q∈ks,R3 q
 | [],_,q,h=>by simp at h
 | p::ps,h,q,hq=>by
  simp only[F5] at h;rcases List.mem_cons.mp hq with rfl | hq
  ·exact h.1
  ·exact F5.mem h.2 q hq
def without(x:Bk)(i:Int):Bk:=if 0≤i∧i < x.rules.length then { x with rules:=x.rules.take i.toNat++x.rules.drop (i.toNat+1) } else x
theorem mZ.look{P:Program}{f:FuncId}{args args':List AV}{r:AV}{S:St}{F:List Nat}(h:aJ P f args' r)(hz:dJ (only F S.g) args args')(hr:xO r):mZ P f args S F r:=⟨args',h,hz.1,hz.2,.inl hr⟩
theorem Zff(p:aF)(l:List Int)(a:Int):(rQ p l a).Pairwise (· < ·):=by
 unfold rQ;split
 ·exact .nil
 ·have h1:(zC (zf l p a)).mergeSort (fun x y=>decide (x≤y)) |>.Nodup:=(List.mergeSort_perm _ _).nodup_iff.mpr (Wn _)
  have h2:=List.pairwise_mergeSort (le:=fun x y:Int=>decide (x≤y)) (fun a b c h1 h2=>by simp at h1 h2 ⊢;omega) (fun a b=>by simp;omega) (zC (zf l p a));exact(h1.and h2).imp fun⟨h,k⟩=>by simp at k;omega
theorem qZ.ok{st:Gs}(h:qZ st):zo st:=⟨h.len,fun r hr=>(h.rows r hr).1⟩
def xP(n:Int):Prop:=IntKind.i64.min≤n∧n≤IntKind.i64.max
def Gx(P:Program)(t:TypeId):Bool:=(match P.underlying t with | some (.int .i64)=>true | _=>false) && Nat.beq (P.cellsOf t) 1
def JX(P:Program)(t:TypeId):Bool:=(match P.underlying t with | some .bool=>true | _=>false) && Nat.beq (P.cellsOf t) 1
def wu(P:Program)(t e:TypeId):Bool:=(match P.underlying t with | some (.slice e')=>Nat.beq e' e | _=>false) && (Nat.beq (P.cellsOf t) 1 && (decide (0 < P.cellsOf e) && decide (0 < P.bytesOf e)))
def yI(P:Program):Nat→List Field→List TypeId→Bool
 | _,[],[]=>true
 | o,f::fs,t::ts=>Nat.beq f.offset o && (Nat.beq f.type t && yI P (o+P.cellsOf t) fs ts)
 | _,_,_=>false
def Eu(P:Program)(t:TypeId)(ts:List TypeId):Bool:=match P.underlying t with
 | some (.struct fs)=>yI P 0 fs.toList ts && Nat.beq (P.cellsOf t) ((fs.toList.map fun f=>P.cellsOf f.type).sum)
 | _=>false
section
variable{P:Program}
theorem FV{t:TypeId}(h:Gx P t=true)(n:Nat):jl P n t ah xP:=by
 simp only[Gx,Bool.and_eq_true] at h;obtain⟨h1,h2⟩:=h;split at h1
 ·rename_i hu;exact jl.int hu (Nat.eq_of_beq_eq_true h2) n
 ·cases h1
theorem ZqB{t:TypeId}(h:JX P t=true)(n:Nat):jl P n t aD (fun _=>True):=by
 simp only[JX,Bool.and_eq_true] at h;obtain⟨h1,h2⟩:=h;split at h1
 ·rename_i hu;exact jl.bool hu (Nat.eq_of_beq_eq_true h2) n
 ·cases h1
theorem Zla{X:Type}{enc:X→AV}{good:X→Prop}{t e:TypeId}(h:wu P t e=true)(he:∀n,jl P n e enc good):∀n,jl P n t (fun l:List X=>.sl false (l.map enc)) (fun l=>Len l∧∀x∈l,good x):=by
 simp only[wu,Bool.and_eq_true,decide_eq_true_eq] at h;obtain⟨h1,h2,h3,h4⟩:=h;have hc:=Nat.eq_of_beq_eq_true h2;intro n;cases n with
 | zero=>exact .zero (fun _ _=>by simp[AV.cells,hc]) (fun _ _=>by simp[AV.cells,AV.atom])
 | succ n=>
  split at h1
  ·rename_i e' hu
   have:=Nat.eq_of_beq_eq_true h1;subst this;exact jl.slice hu hc h3 h4 (he n)
  ·cases h1
def Sj{X:Type}(l:List X):Prop:=l.length≤17592186043904
def MX(P:Program)(t e:TypeId):Bool:=wu P t e && Nat.beq (P.bytesOf e) 8
theorem ZqD{t e:TypeId}(h:MX P t e=true):wu P t e=true:=by simp only[MX,Bool.and_eq_true] at h;exact h.1
theorem ZnZ{X:Type}{enc:X→AV}{good:X→Prop}{t e:TypeId}(h:MX P t e=true)(he:∀n,jl P n e enc good):∀n,jl P n t (fun l:List X=>.sl false (l.map enc)) (fun l=>Sj l∧∀x∈l,good x):=by
 simp only[MX,wu,Bool.and_eq_true,decide_eq_true_eq] at h;obtain⟨⟨h1,h2,h3,h4⟩,h8⟩:=h;have hc:=Nat.eq_of_beq_eq_true h2;have hb:=Nat.eq_of_beq_eq_true h8;intro n;cases n with
 | zero=>exact .zero (fun _ _=>by simp[AV.cells,hc]) (fun _ _=>by simp[AV.cells,AV.atom])
 | succ n=>
  split at h1
  ·rename_i e' hu
   have:=Nat.eq_of_beq_eq_true h1;subst this;have hD:=jl.sliceB hu hc h3 h4 (he n);rw[hb] at hD;refine⟨fun x _=>by simp[AV.cells,hc],fun x _ y hy=>by simp[AV.cells] at hy;subst hy;rfl,fun eh w cs r hr hw=>?_⟩;obtain⟨x,hx,g⟩:=hD.run eh w cs r hr hw;exact⟨x,⟨by have:=hx.1;unfold Sj;omega,hx.2⟩,g⟩
  ·cases h1
theorem Zlb{X:Type}{enc:X→AV}{good:X→Prop}{t e:TypeId}(h:wu P t e=true){n:Nat}(he:jl P n e enc good):jl P (n+1) t (fun l:List X=>.sl false (l.map enc)) (fun l=>Len l∧∀x∈l,good x):=by
 simp only[wu,Bool.and_eq_true,decide_eq_true_eq] at h;obtain⟨h1,h2,h3,h4⟩:=h;have hc:=Nat.eq_of_beq_eq_true h2;split at h1
 ·rename_i e' hu
  have:=Nat.eq_of_beq_eq_true h1;subst this;exact jl.slice hu hc h3 h4 he
 ·cases h1
theorem Zlc{X:Type}{enc:X→AV}{good:List X→Prop}{t e:TypeId}(h:wu P t e=true):jl P 0 t (fun l:List X=>.sl false (l.map enc)) good:=by
 simp only[wu,Bool.and_eq_true,decide_eq_true_eq] at h;have hc:=Nat.eq_of_beq_eq_true h.2.1;exact .zero (fun _ _=>by simp[AV.cells,hc]) (fun _ _=>by simp[AV.cells,AV.atom])
theorem WK{n o:Nat}(fs:List Field)(h:yI P o fs []=true):zn P n o fs (fun _:Unit=>[]) (fun _=>True):=by
 cases fs with
 | nil=>exact zn.nil
 | cons f fs=>simp[yI] at h
theorem zX{n o:Nat}{t:TypeId}{ts:List TypeId}{X Y:Type}{e1:X→AV}{g1:X→Prop}{e2:Y→List AV}{g2:Y→Prop}(h1:jl P n t e1 g1)(h2:∀fs,yI P (o+P.cellsOf t) fs ts=true→zn P n (o+P.cellsOf t) fs e2 g2)
  (fs:List Field) (h:yI P o fs (t::ts)=true):zn P n o fs (fun p:X×Y=>(e1 p.1).cells++e2 p.2) (fun p=>g1 p.1∧g2 p.2):=by
 cases fs with
 | nil=>simp[yI] at h
 | cons f fs=>
  simp only[yI,Bool.and_eq_true] at h;obtain⟨a,b,c⟩:=h;have hb:=Nat.eq_of_beq_eq_true b;subst hb;exact zn.cons (Nat.eq_of_beq_eq_true a) h1 (h2 fs c)
theorem Xd{t:TypeId}{ts:List TypeId}{n:Nat}{X:Type}{enc:X→List AV}{good:X→Prop}(h:Eu P t ts=true)(hR:∀fs,yI P 0 fs ts=true→zn P n 0 fs enc good):jl P (n+1) t (fun x=>.agg (enc x)) good:=by
 unfold Eu at h;split at h
 ·rename_i fs hu
  simp only[Bool.and_eq_true] at h;exact jl.struct hu (Nat.eq_of_beq_eq_true h.2) (hR _ h.1)
 ·cases h
theorem V3{t:TypeId}{ts:List TypeId}(h:Eu P t ts=true):P.cellsOf t=(ts.map fun t=>P.cellsOf t).sum:=by
 unfold Eu at h;split at h
 ·rename_i fs hu
  simp only[Bool.and_eq_true] at h;rw[Nat.eq_of_beq_eq_true h.2]
  have key:∀(o:Nat) (l:List Field) (ts:List TypeId),yI P o l ts=true→l.map (fun f=>P.cellsOf f.type)=ts.map fun t=>P.cellsOf t:=by
   intro o l;induction l generalizing o with
   | nil=>intro ts h;cases ts with
    | nil=>rfl
    | cons t ts=>simp[yI] at h
   | cons f l ih=>intro ts h;cases ts with
    | nil=>simp[yI] at h
    | cons t ts=>
     simp only[yI,Bool.and_eq_true] at h;rw[List.map_cons,List.map_cons,ih _ _ h.2.2,Nat.eq_of_beq_eq_true h.2.1]
  rw[key _ _ _ h.1]
 ·cases h
theorem XD{t:TypeId}(h:Gx P t=true):P.cellsOf t=1:=by simp only[Gx,Bool.and_eq_true] at h;exact Nat.eq_of_beq_eq_true h.2
theorem ZsN{t:TypeId}(h:JX P t=true):P.cellsOf t=1:=by simp only[JX,Bool.and_eq_true] at h;exact Nat.eq_of_beq_eq_true h.2
theorem XE{t e:TypeId}(h:wu P t e=true):P.cellsOf t=1:=by simp only[wu,Bool.and_eq_true] at h;exact Nat.eq_of_beq_eq_true h.2.1
structure KI where
 i:TypeId
 b:TypeId
 s:TypeId
 is:TypeId
 rg:TypeId
 rgs:TypeId
 p:TypeId
 ps:TypeId
 ru:TypeId
 rus:TypeId
 nd:TypeId
 nds:TypeId
 it:TypeId
 its:TypeId
 vr:TypeId
 vrs:TypeId
 ss:TypeId
 bk:TypeId
def F3(P:Program)(T:KI):Bool:=Gx P T.i && MX P T.is T.i && Eu P T.rg [T.i,T.i] && wu P T.rgs T.rg && Eu P T.p [T.i,T.rgs,T.is,T.ps] && wu P T.ps T.p
def XL(r:Rg):Prop:=xP r.low∧xP r.high
mutual
def xZ:aF→Prop
 | .mk k s g ks=>xP k∧(Len s∧∀r∈s,XL r)∧(Sj g∧∀x∈g,xP x)∧Len ks∧AL ks
def AL:List aF→Prop
 | []=>True
 | p::ps=>xZ p∧AL ps
end
theorem WU:∀{ks:List aF},AL ks↔∀q∈ks,xZ q
 | []=>by simp[AL]
 | p::ps=>by simp[AL,WU (ks:=ps)]
mutual
def Np:zR→Prop
 | .mk k s a b ks=>xP k∧Zvu s∧xP a∧xP b∧Len ks∧GL ks
def GL:List zR→Prop
 | []=>True
 | p::ps=>Np p∧GL ps
end
theorem ZuP{T:KI}(h:F3 P T=true):∀n,jl P n T.rg Ey XL:=by
 simp only[F3,Bool.and_eq_true] at h;obtain⟨⟨⟨⟨⟨hi,his⟩,hrg⟩,Zf⟩,hp⟩,hps⟩:=h;intro n;cases n with
 | zero=>exact .zero (fun x _=>by rw[V3 hrg];simp[Ey,AV.cells,XD hi]) (fun x _ y hy=>by simp[Ey,AV.cells] at hy;rcases hy with rfl | rfl<;>rfl)
 | succ n=>
  have hD:=Xd (n:=n) hrg (zX (FV hi n) (zX (FV hi n) WK));exact hD.map Ey XL (fun p=>⟨p.1,p.2.1⟩) (fun r=>(r.low,r.high,())) (fun x=>by simp[Ey,ah,AV.cells]) (fun x hx=>⟨hx.1,hx.2.1⟩) (fun y hy=>⟨⟨hy.1,hy.2,trivial⟩,by simp[Ey,ah,AV.cells]⟩)
theorem ZsV{T:KI}(h:F3 P T=true):∀n,jl P n T.p cB xZ∧jl P n T.ps (fun l:List aF=>.sl false (l.map cB)) (fun l=>Len l∧∀x∈l,xZ x):=by
 have hr:=ZuP h;simp only[F3,Bool.and_eq_true] at h;obtain⟨⟨⟨⟨⟨hi,his⟩,hrg⟩,Zf⟩,hp⟩,hps⟩:=h;intro n;induction n with
 | zero=>
  refine⟨.zero (fun x _=>?_) (fun x _ y hy=>?_),Zlc hps⟩
  ·rw[V3 hp];simp[VF,XD hi,XE Zf,XE (ZqD his),XE hps]
  ·obtain⟨k,s,g,ks⟩:=x
   rw[cO] at hy;simp only[AV.cells,List.mem_cons,List.not_mem_nil,or_false] at hy;rcases hy with rfl | rfl | rfl | rfl<;>rfl
 | succ n ih=>
  refine⟨?_,Zlb hps ih.1⟩;have hD:=Xd (n:=n) hp (zX (FV hi n) (zX (Zla Zf hr n) (zX (ZnZ his (FV hi) n) (zX ih.2 WK))));refine hD.map cB xZ (fun p=>.mk p.1 p.2.1 p.2.2.1 p.2.2.2.1) (fun p=>(p.kind,p.set,p.signs,p.kids,())) (fun x=>?_) (fun x hx=>?_) (fun y hy=>?_)
  ·rw[cO];simp[ah,Bz,aj,AV.cells]
  ·rw[xZ,WU];exact⟨hx.1,hx.2.1,hx.2.2.1,hx.2.2.2.1.1,hx.2.2.2.1.2⟩
  ·obtain⟨k,s,g,ks⟩:=y
   rw[xZ,WU] at hy;exact⟨⟨hy.1,hy.2.1,hy.2.2.1,⟨hy.2.2.2.1,hy.2.2.2.2⟩,trivial⟩,by rw[cO];simp[ah,Bz,aj,AV.cells,aF.kind,aF.set,aF.signs,aF.kids]⟩
structure Nb(r:lN):Prop where
 num:xP r.num
 b:xZ r.before
 a:xZ r.after
 pos:xP r.pos
theorem ZhC(p:aF):∀y∈(cB p).cells,y.atom=true:=by
 obtain⟨k,s,g,ks⟩:=p;rw[cO];intro y hy;simp only[AV.cells,List.mem_cons,List.not_mem_nil,or_false] at hy;rcases hy with rfl | rfl | rfl | rfl<;>rfl
theorem ZsW{T:KI}(h:F3 P T=true)(hb:JX P T.b=true)(hr:Eu P T.ru [T.i,T.b,T.p,T.p,T.i]=true):∀n,jl P n T.ru mq Nb:=by
 have hp:=fun n=>(ZsV h n).1
 have hpc:P.cellsOf T.p=4:=by have:=(hp 0).size (.mk 0 [] [] []) (by simp[xZ,AL,xP,Len,Sj,IntKind.min,IntKind.max];decide);rw[VF] at this;exact this.symm
 have hi:Gx P T.i=true:=by simp only[F3,Bool.and_eq_true] at h;exact h.1.1.1.1.1
 intro n;cases n with
 | zero=>
  refine .zero (fun x _=>?_) (fun x _ y hy=>?_)
  ·rw[V3 hr,Zqa];simp[XD hi,ZsN hb,hpc]
  ·unfold mq at hy
   simp only[AV.cells,List.mem_append,List.mem_cons,List.not_mem_nil,or_false] at hy;rcases hy with(((rfl | rfl) | hy) | hy) | rfl
   ·rfl
   ·rfl
   ·exact ZhC _ _ hy
   ·exact ZhC _ _ hy
   ·rfl
 | succ n=>
  have hD:=Xd (n:=n) hr (zX (FV hi n) (zX (ZqB hb n) (zX (hp n) (zX (hp n) (zX (FV hi n) WK)))));refine hD.map mq Nb (fun p=>⟨p.1,p.2.1,p.2.2.1,p.2.2.2.1,p.2.2.2.2.1⟩) (fun r=>(r.num,r.cut,r.before,r.after,r.pos,())) (fun x=>?_) (fun x hx=>⟨hx.1,hx.2.2.1,hx.2.2.2.1,hx.2.2.2.2.1⟩) (fun y hy=>⟨⟨hy.num,trivial,hy.b,hy.a,hy.pos,trivial⟩,?_⟩)
  ·simp[mq,ah,aD,AV.cells]
  ·simp[mq,ah,aD,AV.cells]
end
mutual
theorem xZ.good:∀{p:aF},xZ p→zk p
 | .mk k s g ks,h=>by simp only[xZ] at h;simp only[zk];exact⟨h.2.1.1,h.2.2.1.1,h.2.2.2.1,AL.good h.2.2.2.2⟩
theorem AL.good:∀{ks:List aF},AL ks→Ai ks
 | [],_=>trivial
 | p::ps,h=>by simp only[AL] at h;exact⟨xZ.good h.1,AL.good h.2⟩
end
mutual
theorem Np.good:∀{p:zR},Np p→R3 p
 | .mk k s a b ks,h=>by simp only[Np] at h;simp only[R3];exact⟨h.2.1,h.2.2.2.2.1,GL.good h.2.2.2.2.2⟩
theorem GL.good:∀{ks:List zR},GL ks→F5 ks
 | [],_=>trivial
 | p::ps,h=>by simp only[GL] at h;exact⟨Np.good h.1,GL.good h.2⟩
end
theorem jl.arr{P:Program}{t e:TypeId}{n fuel:Nat}{X:Type}{enc:X→AV}{good:X→Prop}(ht:P.underlying t=some (.array n e))(hc:P.cellsOf t=n)(he:P.cellsOf e=1)(hat:∀x,(enc x).atom=true)(h:jl P fuel e enc good) :
  jl P (fuel+1) t (fun l:List X=>.agg (l.map enc)) (fun l=>l.length=n∧∀x∈l,good x):=by
 refine⟨fun x hx=>by simp[AV.cells,hc,hx.1],fun x hx y hy=>?_,fun eh w cs r hr hw=>?_⟩
 ·simp only[AV.cells] at hy
  obtain⟨z,_,rfl⟩:=List.mem_map.mp hy;exact hat z
 ·unfold DataW.trod at hr
  rw[ht] at hr
  have hr':(if cs.length=P.cellsOf t then ((List.range n).mapM fun i=>DataW.trod eh P w 0 (fun _=>true) true fuel e ((cs.drop (i*P.cellsOf e)).take (P.cellsOf e))).map fun xs=>(DataW.agg (xs.map (·.1)),xs.flatMap (·.2)) else none)=some r:=by
   revert hr;split<;>simp_all
  clear hr;split at hr'
  ·rename_i hlen
   simp only[Option.map_eq_some_iff] at hr';obtain⟨ds,hds,hr2⟩:=hr';obtain⟨hdl,hget⟩:=Bp hds;rw[List.length_range] at hdl
   have hw2:∀i (hi:i < ds.length),F8 P e (ds[i]).1:=by
    intro i hi k hk;refine hw k ?_;rw[←hr2];simp only[DataW.weights,ht]
    have key:∀(l:List (DataW _×List MemPlace)),ds[i]∈l→k∈DataW.weightsAll P e (l.map (·.1)):=by
     intro l hl;induction l with
     | nil=>simp at hl
     | cons d l ih=>
      simp only[List.map_cons,DataW.weightsAll,List.mem_append];rcases List.mem_cons.mp hl with rfl | hl
      ·exact .inl hk
      ·exact .inr (ih hl)
    exact key ds (List.getElem_mem hi)
   obtain⟨l,hll,hq⟩:=Vy (X:=X) (Q:=fun i x=>good x∧∃v,cs[i]? = some v∧aK (E0 w) (enc x) v) n (by
    intro i hi;obtain⟨j,h1,h2⟩:=hget i (by omega);rw[List.getElem?_range hi] at h1;cases h1;obtain⟨x,g1,g2,g3⟩:=h.run eh w _ _ h2 (hw2 i (by omega));have hcx:=AV.Fa (hat x);obtain⟨v,g4,g5⟩:=g3 0 (by rw[hcx];simp);refine⟨x,g1,v,?_,?_⟩
    ·rw[he,List.getElem?_take,if_pos (by omega),List.getElem?_drop] at g4
     simpa using g4
    ·simpa[hcx] using g5)
   refine⟨l,⟨hll,fun x hx=>?_⟩,hlen,fun k hk=>?_⟩
   ·obtain⟨i,hi,rfl⟩:=List.mem_iff_getElem.mp hx
    exact(hq i hi).1
   ·have hk':k < l.length:=by simpa[AV.cells] using hk
    obtain⟨_,v,g1,g2⟩:=hq k hk';exact⟨v,g1,by simpa[AV.cells] using g2⟩
  ·cases hr'
structure TU where
 i:TypeId
 b:TypeId
 is:TypeId
 Zk:TypeId
 bs:TypeId
 d:TypeId
def XF(P:Program)(T:TU):Bool:=Gx P T.i && JX P T.b && wu P T.is T.i && wu P T.Zk T.is && wu P T.bs T.b && Eu P T.d [T.i,T.Zk,T.bs]
def SY(l:List Int):Prop:=Len l∧∀x∈l,xP x
def ZvQ(l:List (List Int)):Prop:=Len l∧∀x∈l,SY x
def gBs(l:List Bool):Prop:=Len l∧∀x∈l,True
def Zvw(d:aC):Prop:=xP d.signs∧ZvQ d.next∧gBs d.fin
theorem Zvw.ok{d:aC}(h:Zvw d):nU d:=
 ⟨h.2.1.1,h.2.2.1,fun r hr=>(h.2.1.2 r hr).1,by have:=h.1;simp[xP,IntKind.min,IntKind.max] at this;first | exact this | (simp[IntKind.bits] at this;omega)⟩
section
variable{P:Program}{T:TU}
theorem ZsU(h:XF P T=true):∀n,jl P n T.is aj SY:=by
 simp only[XF,Bool.and_eq_true] at h;obtain⟨⟨⟨⟨⟨hi,hb⟩,his⟩,abn⟩,hbs⟩,hd⟩:=h;exact Zla his (FV hi)
end
end Go.Rf
namespace Go.Rf
open Go.RowKit
attribute [local simp] mh lW l7 mP mQ mU mR l9 mX mO mJ eG iB iU iy iR iN iM iT iO gG iP fH iF iQ iE eT eU gD ig je jf gZ jk fU fQ fE eO gV gW gX gP gQ jg iV iH jc iX iZ iY jd jh iK iq gT gU gM iw dO eP gI iL ji ex aH fF dF eY cK dn aL bT fJ gH eZ gN iD iC iW iJ bS dN dV fZ fV gY fu bD bX dL eH dz gu fC gB gq gy fM dA eX eB d9 bB AV.solid S0 ah aD
def Xa(Ig:FuncId):AC:= (.block 2 (.loop (sq [ro 36 (.bin .lss (.t 35) (.t 34))] (.seq (.cond (.t 36) .skip (.exit 2)) (.seq (.block 3 (sq [rm 37 35,rm 8 37] (.lU [rm 38 7,rm 39 8,rm 40 0,rm 41 1,rm 42 0,ro 43 (.fO (.t 42)),rF 44 6 43,rL 45 44,rm 46 6,ro 47 (.aM 1 (.t 45) (.t 46)),rL 48 47,rm 49 8,⟨(some 50),.mv (.c .junk),none,(some ((.t 41),[(.t 48),(.t 49)]))⟩,rk 51 Ig [(.t 40),(.t 50)],ro 52 (.aM 1 (.t 38) (.t 39)),rn (.store 1 (.t 52) (.t 51))] none))) (.reg none [ro 53 (.bin .add (.t 35) (ci 1)),rm 35 53]))))))
def Wh(ET:FuncId):AC:= (.reg (some [[],[],[],[],[],[true],[false,true],[false,false,true],[false,false,false,true],[false,false,false,false,true],[false,false,false,false,false,true],[false,false,false,false,false,false,true],[false,false,false,false,false,false,false,true],[false,false,false,false,false,false,false,false,true],[false,false,false,false,false,false,false,false,false,true],[],[],[],[true]]) [rF 54 1 5,rL 55 54,rm 56 7,ro 57 (.dH 1 1 (.sl true []) [(0,(.t 56))]),ro 58 (.app 1 24 (.t 55) (.t 57)),rF 59 2 5,rL 60 59,rm 61 0,rm 62 0,ro 63 (.fO (.t 62)),rF 64 6 63,rL 65 64,rm 66 6,ro 67 (.aM 1 (.t 65) (.t 66)),rL 68 67,rk 69 ET [(.t 61),(.t 68)],ro 70 (.dH 1 1 (.v (.bool false)) [(0,(.t 69))]),ro 71 (.app 1 1 (.t 60) (.t 70)),rF 72 1 5,rn (.store 1 (.t 72) (.t 58)),rF 73 2 5,rn (.store 1 (.t 73) (.t 71))])
def WH(Ig ET:FuncId):AC:= (.block 0 (.loop (.seq (sq [rm 18 6,rm 19 0,ro 20 (.fO (.t 19)),rF 21 6 20,rL 22 21,ro 23 (.len (.t 22)),ro 24 (.bin .lss (.t 18) (.t 23))] (.cond (.t 24) .skip (.exit 0))) (.seq (.block 1 (sq [rm 27 0,ro 28 (.fO (.t 27)),rF 29 0 28,rF 30 0 29,rL 31 30,ro 32 (.zL 1 8 (.v (.int .i64 0)) (.t 31) (.t 31)),rm 7 32] (.seq (sq [rm 33 7,ro 34 (.len (.t 33)),ro 35 (.mv (ci 0))] (Xa Ig)) (Wh ET)))) (.reg none [rm 25 6,ro 26 (.bin .add (.t 25) (ci 1)),rm 6 26])))))
def LJ(Ig ET:FuncId):AC:= (sq [ro 4 (.alloc (.agg [(.v (.int .i64 0)),(.sl true []),(.sl true [])]) 3)] (sq [rm 9 0,ro 10 (.fO (.t 9)),rF 11 0 10,rF 12 0 11,rL 13 12,ro 14 (.build (.agg [(.v (.int .i64 0)),(.sl true []),(.sl true [])]) [(0,1)] [(0,(.t 13))]),ro 5 (.alloc (.agg [(.v (.int .i64 0)),(.sl true []),(.sl true [])]) 3),rn (.store 3 (.t 5) (.t 14))] (.seq (.lU [rm 15 0,ro 16 (.dH 1 1 (.v (.int .i64 0)) [(0,(ci 0))]),rk 17 Ig [(.t 15),(.t 16)]] none) (.seq (sq [ro 6 (.mv (ci 0))] (WH Ig ET)) (sq [ro 74 (.load (some 3) (.t 5)),rn (.store 3 (.t 4) (.t 74))] .ret)))))
def KG(fT:TypeId):Value:=.iface fT (.agg #[])
def JU(P:Program)(uI fT:FuncId)(n:Net):Prop:=∀(id km:Nat) (most:Int) (ss:List (List Int)) (v:AV) (set:List Int) (S:St) (K:AV→St→Prop) (X:Value→St→Prop),xB S id km n most ss v→Val n set→Es n most ss→most≤3000→
 (set∈ss→∀m,S.n≤m→K (ah (ss.idxOf set)) ⟨m,S.g⟩)→
 (set∉ss→(ss.length:Int) < most→∀S' v',xB S' id km n most (ss++[set]) v'→T9 S S' (id::km::v.ids)→(∀i∈v'.ids,S.n≤i)→K (ah ss.length) S')→
 (set∉ss→(ss.length:Int)=most→∀m,S.n≤m→X (KG fT) ⟨m,S.g⟩)→nT P uI [.ptr id 0 0,aj set] S K X
def Old(bC S:St)(id km:Nat):Prop:=bC.n≤S.n∧∀i,i < bC.n→i≠id→i≠km→S.g i=bC.g i
def Sd(P:Program)(cf:FuncId)(cap:List AV)(bC:St)(id km:Nat)(n:Net)(most:Int)(kd:Kd):Prop:=∀(S:St) (ss:List (List Int)) (v:AV) (set:List Int) (s:Int) (K:AV→St→Prop),xB S id km n most ss v→Old bC S id km→Val n set→
 (∀m,S.n≤m→K (aj (kL kd n set s)) ⟨m,S.g⟩)→aN P cf ([aj set,ah s]++cap) S K
structure EP(f:AF)(id b4 b5 q L i:Nat)(aP:AV):Prop where
 e0:f 0=.ptr id 0 0
 e1:f 1=aP
 e4:f 4=.ptr b4 0 0
 e5:f 5=.ptr b5 0 0
 e6:f 6=ah i
 e7:f 7=.own q 0 L
theorem EP.same{f f':AF}{id b4 b5 q L i:Nat}{aP:AV}(h:EP f id b4 b5 q L i aP)(hf:∀j,j=0∨j=1∨j=4∨j=5∨j=6∨j=7→f' j=f j):EP f' id b4 b5 q L i aP:=
 ⟨by rw[hf _ (by simp)];exact h.e0,by rw[hf _ (by simp)];exact h.e1,by rw[hf _ (by simp)];exact h.e4,by rw[hf _ (by simp)];exact h.e5,by rw[hf _ (by simp)];exact h.e6,by rw[hf _ (by simp)];exact h.e7⟩
structure DaI(bC:St)(id km b4 b5 q i L:Nat)(n:Net)(most:Int)(b:Int→List Int)(sK nx:List (List Int))(en:List Bool)(vN vE:AV)(rs:List AV)(aP:AV)(k:Nat)(f:AF)(S:St)(ss:List (List Int))(r:List Int)(v:AV):Prop where
 rf:uH most b k sK=some (ss,r)
 A:lZ S bC id km b4 b5 n most ss nx en v vN vE rs [.own q 0 L] [r.map ah++List.replicate (L - k) (ah 0)]
 I:EP f id b4 b5 q L i aP
 e34:f 34=ah L
 e35:f 35=ah k
 pre:∀j (h:j < sK.length),ss[j]? = some sK[j]
def DaE(bC:St)(id km b4 b5 q i L:Nat)(n:Net)(most:Int)(b:Int→List Int)(sK nx:List (List Int))(en:List Bool)(vN vE:AV)(rs:List AV)(aP:AV)(k:Nat)(f:AF)(S:St):Prop:=
 ∃ss r v,DaI bC id km b4 b5 q i L n most b sK nx en vN vE rs aP k f S ss r v
theorem Zo8{P:Program}{uI fT cf:FuncId}{cap:List AV}{bC:St}{id km b4 b5 q i:Nat}{n:Net}{most:Int}{kd:Kd}{sK nx:List (List Int)}{en:List Bool}{vN vE:AV}{rs:List AV}{v0:AV}{set:List Int}
  (R:mY n) (zK:JU P uI fT n) (Hg:Sd P cf cap bC id km n most kd) (EF:most≤3000) {L:Nat} (hLe:n.signs.toNat=L) (hss:Es n most sK) (hset:sK[i]? = some set) {f:AF} {S:St} {Q:Exit→AF→St→Prop}
  (A:lZ S bC id km b4 b5 n most sK nx en v0 vN vE rs [.own q 0 L] [List.replicate L (ah 0)]) (I:EP f id b4 b5 q L i (.aP cf [] cap)) (e34:f 34=ah L) (e35:f 35=ah 0)
  (hk:∀f' S' ss' r v',uH most (kL kd n set) L sK=some (ss',r)→lZ S' bC id km b4 b5 n most ss' nx en v' vN vE rs [.own q 0 L] [r.map ah]→EP f' id b4 b5 q L i (.aP cf [] cap)→(∀j (h:j < sK.length),ss'[j]? = some sK[j])→Q .normal f' S')
  (hp:uH most (kL kd n set) L sK=none→∀f' S',Old bC S' id km→Q (pn (KG fT)) f' S'):AW P (Xa uI) Q f S:=by
 obtain⟨hil,hse⟩:=List.getElem?_eq_some_iff.mp hset;have hL4:L≤400:=by have:=R.s2;omega
 have hvs:Val n set:=hss.v set (by rw[←hse];exact List.getElem_mem hil);simp[Xa];refine y7 L (DaE bC id km b4 b5 q i L n most (kL kd n set) sK nx en vN vE rs (.aP cf [] cap)) ?_ ?_
 ·exact⟨sK,[],v0,rfl,by simpa using A,I,e34,e35,fun j hj=>List.getElem?_eq_getElem hj⟩
 ·rintro k f S hk' ⟨ss,r,v,D⟩
  obtain⟨hok,hle,hrl⟩:=QO (n:=n) (fun s=>QU R hvs s) hss k D.rf;simp only at hok hle hrl;have e0:=D.I.e0;have e1:=D.I.e1;have e6:=D.I.e6;have e7:=D.I.e7;have e34:=D.e34;have e35:=D.e35;have EG:=D.A.mg;by_cases hlt:k < L
  ·
   have hpi:=D.pre i hil;rw[hse] at hpi;obtain⟨Kn,Ko,_⟩:=D.A.rows.head
   have hown:∃tH off ys,v=.own tH off ss.length∧S.g tH=some (.arr 1 ys)∧off+ss.length≤ys.length∧ys[off+i]? = some (aj set):=by
    rcases Kn with⟨_,h0⟩ | ⟨tH,off,ys,h1,h2,h3,h4⟩
    ·simp at h0;subst h0;simp at hpi
    ·refine⟨tH,off,ys,by rw[h1];simp,h2,?_,?_⟩
     ·have:=congrArg List.length h4
      simp at this;omega
     ·have:(ys.drop off)[i]? = some (aj set):=by rw[h4,List.getElem?_map,hpi];rfl
      simpa using this
   obtain⟨tH,off,ys,hv,hgv,hol,hyi⟩:=hown;have hi2:i < ss.length:=by omega
   have hilt:(i:Int) < ss.length:=by omega
   subst hv;have hce:(aj set).cells=[aj set]:=rfl;have A:=D.A;simp[Bq,uS,uP,Cq,Ck,e0,e1,e6,e7,e34,e35,hlt,EG,kg,hgv,hilt,hol,hyi,hce];refine nT.H6 (Hg _ ss _ set k _ (A.up (m:=S.n+1+2+16) (by omega)).mk' ⟨by have:=A.jW;show bC.n≤S.n+1+2+16;omega,A.old⟩ hvs fun m hm=>?_);simp[Cq,Ck,yY];have hvb:=QU (kd:=kd) R hvs (k:Int)
   have hzk:∃zs,zs=r.map ah++List.replicate (L - k) (ah 0)∧zs.length=L∧zs[k]? = some (ah 0)∧∀j:Int,zs.set k (ah j)=(r++[j]).map ah++List.replicate (L - (k+1)) (ah 0):=by
    refine⟨_,rfl,by simp[hrl];omega,?_,fun j=>?_⟩
    ·rw[List.getElem?_append_right (by simp[hrl]),List.length_map,hrl,Nat.sub_self,List.getElem?_replicate,if_pos (by omega)]
    ·rw[List.set_append_right _ _ (by simp[hrl]),List.length_map,hrl,Nat.sub_self,show L - k=(L - (k+1))+1 by omega,List.replicate_succ,List.set_cons_zero]
     simp
   obtain⟨zs,hz1,hz2,hz3,hz4⟩:=hzk;have Tg:(k:Int) < L:=by omega
   have Kq:(ah 0)=.v (.int .i64 0):=rfl;rw[Kq] at hz3;have ab0:yF most ss (kL kd n set k)=none→uH most (kL kd n set) (k+1) sK=none:=fun h=>by simp only[uH,D.rf,h]
   have aaf:∀s2 j,yF most ss (kL kd n set k)=some (s2,j)→uH most (kL kd n set) (k+1) sK=some (s2,r++[j]):=fun s2 j h=>by simp only[uH,D.rf,h]
   have A0:=A;rw[←hz1] at A0;refine zK id km most ss _ (kL kd n set k) ⟨m,S.g⟩ _ _ (A.up (m:=m) (by simp only at hm;omega)).mk' hvb hok EF (fun hin m2 hm2=>?_) (fun hin hlt2 S' v' M' F' hv'=>?_) (fun hin hfull m2 hm2=>?_)
   ·have hnf:yF most ss (kL kd n set k)=some (ss,(ss.idxOf (kL kd n set k):Int)):=by unfold yF;rw[if_pos hin]
    have A2:=A0.up (m:=m2) (by simp only at hm hm2;omega);obtain⟨g7,_,xX⟩:=A2.b7
    try simp only at g7
    simp[Ac,uS,uP,yY,g7,Tg,hz2,hz3,e35];rw[bE _ (by omega)];refine⟨hlt,ss,r++[(ss.idxOf (kL kd n set k):Int)],(.own tH off ss.length),⟨aaf _ _ hnf,?_,?_,?_,?_,?_⟩⟩
    ·have A3:=A2.put (zs':=zs.set k (ah (ss.idxOf (kL kd n set k):Int))) (by simp) (Nat.le_refl _)
     rw[←hz4];refine A3.up ?_;simp[bT]
    ·refine D.I.same fun j hj=>?_
     rcases hj with rfl | rfl | rfl | rfl | rfl | rfl<;>simp[aH]
    ·simp[aH,e34,ah]
    ·simp[aH,ah]
    ·first
      | exact D.pre
      | exact fun j hj=>(List.getElem?_append_left (List.getElem?_eq_some_iff.mp (D.pre j hj)).1).trans (D.pre j hj)
   ·have hnf:yF most ss (kL kd n set k)=some (ss++[kL kd n set k],(ss.length:Int)):=by unfold yF;rw[if_neg hin,if_neg (by omega)]
    have A2:=(A0.up (m:=m) (by simp only at hm;omega)).num M' F' hv';obtain⟨g7,_,xX⟩:=A2.b7
    try simp only at g7
    simp[Ac,uS,uP,yY,g7,Tg,hz2,hz3,e35];rw[bE _ (by omega)];refine⟨hlt,(ss++[kL kd n set k]),r++[(ss.length:Int)],v',⟨aaf _ _ hnf,?_,?_,?_,?_,?_⟩⟩
    ·have A3:=A2.put (zs':=zs.set k (ah (ss.length:Int))) (by simp) (Nat.le_refl _)
     rw[←hz4];refine A3.up ?_;simp[bT]
    ·refine D.I.same fun j hj=>?_
     rcases hj with rfl | rfl | rfl | rfl | rfl | rfl<;>simp[aH]
    ·simp[aH,e34,ah]
    ·simp[aH,ah]
    ·first
      | exact D.pre
      | exact fun j hj=>(List.getElem?_append_left (List.getElem?_eq_some_iff.mp (D.pre j hj)).1).trans (D.pre j hj)
   ·have hnf:yF most ss (kL kd n set k)=none:=by unfold yF;rw[if_neg hin,if_pos hfull]
    rw[ZmE,P6,DN,DN,P6];refine hp (ZfU (ab0 hnf) L (by omega)) _ _ ⟨by have:=A.jW;show bC.n≤m2;simp only at hm hm2;omega,A.old⟩
  ·have Tg:k=L:=by omega
   subst Tg;have hnlt:¬((k:Int) < k):=by omega
   simp[e34,e35,hnlt];refine hk _ _ ss r v D.rf (by simpa using D.A.up (m:=S.n+1) (by omega)) (D.I.same fun j hj=>?_) D.pre;rcases hj with rfl | rfl | rfl | rfl | rfl | rfl<;>simp[aH]
theorem Zjq{P:Program}{fe:FuncId}{bC:St}{id km b4 b5 q i L:Nat}{n:Net}{most:Int}{ss nx:List (List Int)}{en:List Bool}{v vN vE aP:AV}{rs:List AV}{r set:List Int}(EF:most≤3000)(hss:Es n most ss)(hset:ss[i]? = some set)
  (hend:aJ P fe [nW n,aj set] (aD (kW n set))) {f:AF} {S:St} {Q:Exit→AF→St→Prop} (hnx:nx.length=i) (hen:en.length=i)
  (A:lZ S bC id km b4 b5 n most ss nx en v vN vE rs [.own q 0 L] [r.map ah]) (I:EP f id b4 b5 q L i aP)
  (hk:∀f' S' Zo Zn,lZ S' bC id km b4 b5 n most ss (nx++[r]) (en++[kW n set]) v Zo Zn (rs++[.own q 0 L]) [] []→(∀j,j≤6→f' j=f j)→Q .normal f' S'):AW P (Wh fe) Q f S:=by
 obtain⟨hil,hse⟩:=List.getElem?_eq_some_iff.mp hset;obtain⟨Kn,Ko,hvs,hr1⟩:=A.rows.head;obtain⟨hN,Ta,hNs,hr2⟩:=hr1.head;obtain⟨hE,NN,hEs,hr3⟩:=hr2.head;have e0:=I.e0;have e5:=I.e5;have e6:=I.e6;have e7:=I.e7;have EG:=A.mg;have hg5:=A.g5
 have hown:∃tH off ys,v=.own tH off ss.length∧S.g tH=some (.arr 1 ys)∧off+ss.length≤ys.length∧ys[off+i]? = some (aj set):=by
  rcases Kn with⟨_,h0⟩ | ⟨tH,off,ys,h1,h2,h3,h4⟩
  ·simp at h0;subst h0;simp at hil
  ·refine⟨tH,off,ys,by rw[h1];simp,h2,?_,?_⟩
   ·have:=congrArg List.length h4
    simp at this;omega
   ·have:(ys.drop off)[i]? = some (aj set):=by rw[h4,List.getElem?_map,hset];rfl
    simpa using this
 obtain⟨tH,off,ys,hv,hgv,hol,hyi⟩:=hown;have hilt:(i:Int) < ss.length:=by omega
 subst hv;have hce:(aj set).cells=[aj set]:=rfl;simp[Wh,e5,e7,hg5];have hrl:rs.length=nx.length:=by have:=hr3.len;simpa[wm] using this
 have hi3:i≤3000:=by have:=hss.l;omega
 have hrc:∀z∈rs,z.cells.length=1:=by
  intro z hz;obtain⟨t,ht,rfl⟩:=List.mem_iff_getElem.mp hz;have:=hr3.row t (by simp;omega) (by simp[wm];omega);rw[List.getElem_append_left ht] at this;rcases this with⟨e,_⟩ | ⟨_,_,_,e,_⟩<;>rw[e]<;>rfl
 rw[Vec.P6l (au:=24) (hN.frame fun _ _=>rfl) hrc rfl (by unfold bY;omega)];have Y1:b5∉vN.ids:=fun h=>(Ta b5 h).2 (by simp)
 have Te:id∉vN.ids:=fun h=>(Ta id h).2 (by simp)
 have aal:tH∉vN.ids:=fun h=>hvs vN (by simp) tH (by simp[AV.ids]) h
 have Y9:=A.lid;have Tm:=A.jW;have Ti:=A.t5;have q1:b5≠S.n+4:=by omega
 have q2:id≠S.n+4:=by omega
 have abr:tH < S.n:=(Ko tH (by simp[AV.ids])).1;have q3:tH≠S.n+4:=by omega
 simp[e0,e5,e6,EG,hg5,kg,hgv,hilt,hol,hyi,hce,yh b5 Y1,yh id Te,yh tH aal,q1,q2,q3]
 have hfz:∀S':St,S'.g id=S.g id→mZ P fe [.ptr id 0 0,aj set] S' [id] (aD (kW n set)):=fun S' h=>by
  have hz:dJ (only [id] S'.g) [.ptr id 0 0,aj set] [nW n,aj set]:=
   dJ.cons (.pre id 7 [ah n.signs,aU n.au,aU n.follow,aj n.last] [ah most,.mp km,.own tH off ss.length] (by rw[Ec,if_pos (by simp),h];exact A.mg) (by
    intro y hy;simp only[List.mem_cons,List.not_mem_nil,or_false] at hy;rcases hy with rfl | rfl | rfl | rfl
    ·exact aW _
    ·exact jR _
    ·exact jR _
    ·exact aT _)) (dJ.cons (.closed _ (aT _)) dJ.nil)
  exact⟨_,hend,hz.1,hz.2,.inl (QM _)⟩
 have nN:∀j,j∈vN.ids∨j=S.n+4→¬j=b5:=by
  rintro j (h | rfl) rfl
  ·exact Y1 h
  ·exact q1 rfl
 have nI:∀j,j∈vN.ids∨j=S.n+4→¬j=id:=by
  rintro j (h | rfl) rfl
  ·exact Te h
  ·exact q2 rfl
 have nV:∀j,j∈vN.ids∨j=S.n+4→¬j=tH:=by
  rintro j (h | rfl) rfl
  ·exact aal h
  ·exact q3 rfl
 refine⟨nN,nI,nV,aD (kW n set),[id],hfz _ (by rw[aL,if_neg q2,yh id Te]),?_⟩;simp;have k1:∀i,i∉vN.ids→i≠S.n+4→(((⟨S.n+22,S.g⟩:St).without vN).set (S.n+4) (some (.arr 1 (rs++[.own q 0 L])))).g i=S.g i:=fun i h1 h2=>by rw[aL,if_neg h2,yh i h1]
 have k2:(((⟨S.n+22,S.g⟩:St).without vN).set (S.n+4) (some (.arr 1 (rs++[.own q 0 L])))).g (S.n+4)=some (.arr 1 (rs++[.own q 0 L])):=by rw[aL,if_pos rfl]
 have k3:(((⟨S.n+22,S.g⟩:St).without vN).set (S.n+4) (some (.arr 1 (rs++[.own q 0 L])))).n=S.n+22:=by simp[bT,FK]
 generalize(((⟨S.n+22,S.g⟩:St).without vN).set (S.n+4) (some (.arr 1 (rs++[.own q 0 L]))))=S1 at *;obtain⟨n1,g1⟩:=S1;simp only at k1 k2 k3;have hEN:∀i∈vE.ids,i∉vN.ids:=fun i h1 h2=>hNs vE (by simp) i h2 h1
 have hEl:∀i∈vE.ids,i < S.n:=fun i hi=>(NN i hi).1
 have hE1:Vec g1 vE 1 (en.map aD):=hE.frame fun i hi=>k1 i (hEN i hi) (by have:=hEl i hi;omega)
 have hec:∀z∈en.map aD,z.cells.length=1:=by
  intro z hz;obtain⟨b,_,rfl⟩:=List.mem_map.mp hz;rfl
 have happ:=Vec.P6l (n:=n1) (aA:=S.n+17) (x:=aD (kW n set)) (au:=1) hE1 hec rfl (by rw[List.length_map,hen];unfold bY;omega);simp only[aD] at happ;rw[happ];have aax:b5∉vE.ids:=fun h=>(NN b5 h).2 (by simp)
 have q5:b5≠S.n+17:=by omega
 have g15:=(k1 b5 Y1 q1).trans hg5;simp[e5,g15,yh b5 aax,q5];refine hk _ _ (.own (S.n+4) 0 (rs.length+1)) (.own (S.n+17) 0 (en.length+1)) ?_ (fun j hj=>?_)
 ·have key:∀i,i∉vN.ids→i∉vE.ids→i < S.n→i≠b5→∀b b2 b3,(((((⟨n1,g1⟩:St).without vE).set (S.n+17) b).set b5 b2).set b5 b3).g i=S.g i:=fun i h1 h2 h3 h4 b b2 b3=>by
   rw[aL,if_neg h4,aL,if_neg h4,aL,if_neg (by omega),yh i h2];exact k1 i h1 (by omega)
  have aaH:id∉vE.ids:=fun h=>(NN id h).2 (by simp)
  have aaQ:km∉vN.ids:=fun h=>(Ta km h).2 (by simp)
  have aaP:km∉vE.ids:=fun h=>(NN km h).2 (by simp)
  have h4N:b4∉vN.ids:=fun h=>(Ta b4 h).2 (by simp)
  have h4E:b4∉vE.ids:=fun h=>(NN b4 h).2 (by simp)
  have Za:=A.vL;have hl5:=A.l5;have hl4:=A.l4;have NW:=A.t4;have hn45:=A.n45;have q4E:S.n+4∉vE.ids:=fun h=>by have:=hEl _ h;omega
  have abq:=hr3;refine⟨?_,?_,?_,?_,?_,A.ne,A.lid,A.vL,A.l4,A.l5,A.n45,?_,?_,fun w hw i hi=>?_,fun i h1 h2 h3=>?_,?_⟩
  ·rw[key id Te aaH (by omega) (by omega)];exact A.mg
  ·rw[key km aaQ aaP (by omega) (by omega)];exact A.mm
  ·rw[key b4 h4N h4E NW hn45];exact A.g4
  ·simp[aL,ah]
  ·have hr4:lS (((((⟨n1,g1⟩:St).without vE).set (S.n+17) (some (.arr 1 (en.map aD++[.v (.bool (kW n set))])))).set b5 (some (.arr 3 [.agg [.v (.int .i64 n.signs),.own (S.n+4) 0 (rs.length+1),vE]]))).set b5 (some (.arr 3 [.agg [.v (.int .i64 n.signs),.own (S.n+4) 0 (rs.length+1),.own (S.n+17) 0 (en.length+1)]]))).g (S.n+22) [id,km,b4,b5] (rs++[.own q 0 L]) (wm nx++[r.map ah]):=by
    refine hr3.frame (by omega) (fun w hw i hi=>?_);have ho:=hr3.out w hw i hi;have ho2:=ho.2;simp only[List.mem_cons,List.not_mem_nil,or_false,not_or] at ho2;exact key i (fun h=>hNs w (by simp at hw ⊢;exact .inr hw) i h hi) (fun h=>hEs w hw i h hi) ho.1 ho2.2.2.2 _ _ _
   have hrw:wm (nx++[r])=wm nx++[r.map ah]:=by simp[wm]
   have aaF:(en++[kW n set]).map aD=en.map aD++[.v (.bool (kW n set))]:=by simp[aD]
   rw[List.append_nil,List.append_nil,hrw,aaF];have hnn:(((((⟨n1,g1⟩:St).without vE).set (S.n+17) (some (.arr 1 (en.map aD++[.v (.bool (kW n set))])))).set b5 (some (.arr 3 [.agg [.v (.int .i64 n.signs),.own (S.n+4) 0 (rs.length+1),vE]]))).set b5 (some (.arr 3 [.agg [.v (.int .i64 n.signs),.own (S.n+4) 0 (rs.length+1),.own (S.n+17) 0 (en.length+1)]]))).n=S.n+22:=by simp[bT,FK,k3]
   rw[hnn];refine lS.cons ?_ (fun i hi=>?_) (fun w hw i hi hi2=>?_) (lS.cons ?_ (fun i hi=>?_) (fun w hw i hi hi2=>?_) (lS.cons ?_ (fun i hi=>?_) (fun w hw i hi hi2=>?_) hr4))
   ·refine Kn.frame fun i hi=>?_
    have ho:=Ko i hi;have ho2:=ho.2;simp only[List.mem_cons,List.not_mem_nil,or_false,not_or] at ho2;exact key i (fun h=>hvs vN (by simp) i hi h) (fun h=>hvs vE (by simp) i hi h) ho.1 ho2.2.2.2 _ _ _
   ·exact⟨by have:=(Ko i hi).1;omega,(Ko i hi).2⟩
   ·have hvl:=(Ko i hi).1
    simp only[List.mem_cons,List.mem_append,List.not_mem_nil,or_false] at hw;rcases hw with rfl | rfl | hw
    ·simp only[AV.ids,List.mem_singleton] at hi2;omega
    ·simp only[AV.ids,List.mem_singleton] at hi2;omega
    ·exact hvs w (by simp;exact .inr (.inr hw)) i hi hi2
   ·refine .mk' ?_ (by simp)
    rw[aL,if_neg (by omega),aL,if_neg (by omega),aL,if_neg (by omega),yh _ q4E];exact k2
   ·simp only[AV.ids,List.mem_singleton] at hi
    subst hi;refine⟨by omega,?_⟩;simp only[List.mem_cons,List.not_mem_nil,or_false,not_or];omega
   ·simp only[AV.ids,List.mem_singleton] at hi
    subst hi;simp only[List.mem_cons] at hw;rcases hw with rfl | hw
    ·simp only[AV.ids,List.mem_singleton] at hi2;omega
    ·have:=(hr3.out w hw _ hi2).1;omega
   ·refine .mk' ?_ (by simp)
    rw[aL,if_neg (by omega),aL,if_neg (by omega),aL,if_pos rfl]
   ·simp only[AV.ids,List.mem_singleton] at hi
    subst hi;refine⟨by omega,?_⟩;simp only[List.mem_cons,List.not_mem_nil,or_false,not_or];omega
   ·simp only[AV.ids,List.mem_singleton] at hi
    subst hi;have:=(hr3.out w hw _ hi2).1;omega
  ·simp[bT,FK,k3];omega
  ·simp[bT,FK,k3];omega
  ·have hnew:=A.new
   simp only[List.append_nil,List.mem_cons,List.mem_append,List.not_mem_nil,or_false] at hw;rcases hw with rfl | rfl | rfl | hw | rfl
   ·exact hnew _ (by simp) i hi
   ·simp only[AV.ids,List.mem_singleton] at hi;omega
   ·simp only[AV.ids,List.mem_singleton] at hi;omega
   ·exact hnew w (by simp[hw]) i hi
   ·exact hnew _ (by simp) i hi
  ·have hnew:=A.new
   rw[key i (fun h=>by have:=hnew vN (by simp) i h;omega) (fun h=>by have:=hnew vE (by simp) i h;omega) (by omega) (by omega)];exact A.old i h1 h2 h3
  ·simp[bT,FK,k3];omega
 ·have:∀x:Nat,x≥54→j≠x:=fun x hx=>by omega
  simp[aH,this]
structure OuI(bC:St)(id km b4 b5:Nat)(n:Net)(most:Int)(kd:Kd)(aP:AV)(i:Nat)(f:AF)(S:St)(st:qV)(v vN vE:AV)(rs:List AV):Prop where
 eq:nO kd n most i=some st
 A:lZ S bC id km b4 b5 n most st.1 st.2.1 st.2.2 v vN vE rs [] []
 e0:f 0=.ptr id 0 0
 e1:f 1=aP
 e4:f 4=.ptr b4 0 0
 e5:f 5=.ptr b5 0 0
 e6:f 6=ah i
 min:∀m,m < i→∀nP,nO kd n most m=some nP→m≠nP.1.length
def Zr(bC:St)(id km b4 b5:Nat)(n:Net)(most:Int)(kd:Kd)(aP:AV)(i:Nat)(f:AF)(S:St):Prop:=∃st v vN vE rs,OuI bC id km b4 b5 n most kd aP i f S st v vN vE rs
theorem Zlk{P:Program}{uI fT cf fe:FuncId}{cap:List AV}{bC:St}{id km b4 b5:Nat}{n:Net}{most:Int}{kd:Kd}(R:mY n)(zK:JU P uI fT n)(Hg:Sd P cf cap bC id km n most kd)
  (hend:∀set,Val n set→aJ P fe [nW n,aj set] (aD (kW n set))) (hm1:1≤most) (EF:most≤3000) {f:AF} {S:St} {Q:Exit→AF→St→Prop}
  (h0:Zr bC id km b4 b5 n most kd (.aP cf [] cap) 0 f S)
  (hk:∀f' S' st v vN vE rs,y8 kd n most=some st→lZ S' bC id km b4 b5 n most st.1 st.2.1 st.2.2 v vN vE rs [] []→f' 4=.ptr b4 0 0→f' 5=.ptr b5 0 0→Q .normal f' S')
  (hp:y8 kd n most=none→∀f' S',Old bC S' id km→Q (pn (KG fT)) f' S'):AW P (WH uI fe) Q f S:=by
 simp[WH];refine y7 most.toNat (Zr bC id km b4 b5 n most kd (.aP cf [] cap)) h0 ?_;rintro i f S hi ⟨st,v,vN,vE,rs,O⟩;have o:=JD R hm1 i O.eq;have e0:=O.e0;have e1:=O.e1;have e6:=O.e6;have EG:=O.A.mg;obtain⟨Kn,_⟩:=O.A.rows.head;have hlv:=Kn.len;rw[List.length_map] at hlv;simp only[gu] at hlv;have hle:=o.le;have hsl:=o.ss.l;by_cases hlt:i < st.1.length
 ·have lF:(i:Int) < st.1.length:=by omega
  have hs0:(0:Int)≤n.signs:=by have:=R.s1;omega
  have hs4:n.signs≤400:=R.s2;have tC:8*n.signs≤281474976710656:=by omega
  have qQ:n.signs≤9223372036854775807:=by omega
  obtain⟨set,hset⟩:∃set,st.1[i]? = some set:=⟨_,List.getElem?_eq_getElem hlt⟩;have hvs:Val n set:=o.ss.v set (by obtain⟨h1,h2⟩:=List.getElem?_eq_some_iff.mp hset;rw[←h2];exact List.getElem_mem h1);have Ki:nO kd n most (i+1)=uY kd n most i st:=by simp only[nO,O.eq]
  simp[e0,e6,EG,kg,hlv,hlt,sU,hs0,tC,qQ];refine Zo8 (set:=set) R zK Hg EF rfl o.ss hset (lZ.row O.A (by omega) (by omega) (by simp)) ⟨?_,?_,?_,?_,?_,?_⟩ ?_ ?_ (fun f1 S1 ss1 r v1 hrow A1 I1 hpre=>?_) (fun hrow f1 S1 hold=>?_)
  ·simp[aH,e0]
  ·simp[aH,e1]
  ·simp[aH,O.e4]
  ·simp[aH,O.e5]
  ·simp[aH,e6]
  ·simp[aH]
  ·simp[aH,ah]
  ·simp[aH,ah]
  ·have hsr:uY kd n most i st=some (ss1,st.2.1++[r],st.2.2++[kW n set]):=by simp only[uY,hset,hrow]
   obtain⟨hok1,_,_⟩:=QO (n:=n) (fun s=>QU R hvs s) o.ss _ hrow
   have ab6:ss1[i]? = some set:=by
    rw[hpre i hlt,←hset,List.getElem?_eq_getElem hlt]
   simp;refine Zjq EF hok1 ab6 (hend set hvs) o.nx o.en A1 I1 (fun f2 S2 Zo Zn A2 hf2=>?_);have e6':f2 6=ah i:=by rw[hf2 6 (by omega)];exact I1.e6
   simp[e6'];rw[bE _ (by omega)];refine⟨by omega,(ss1,st.2.1++[r],st.2.2++[kW n set]),v1,Zo,Zn,rs++[.own _ 0 n.signs.toNat],⟨by rw[Ki,hsr],A2.up (by simp),?_,?_,?_,?_,?_,?_⟩⟩
   ·simp[aH,hf2,I1.e0]
   ·simp[aH,hf2,I1.e1]
   ·simp[aH,hf2,I1.e4]
   ·simp[aH,hf2,I1.e5]
   ·simp[aH,ah]
   ·intro m hm' nP uJ
    by_cases nL:m=i
    ·subst nL
     rw[O.eq] at uJ;cases uJ;omega
    ·exact O.min m (by omega) nP uJ
  ·rw[DN,P6,DN,DN,P6]
   refine hp ?_ _ _ hold;have hsr:uY kd n most i st=none:=by simp only[uY,hset,hrow]
   refine Zid R (most.toNat+1) 0 rfl i (Nat.zero_le _) (by rw[Ki,hsr]) (fun m _ h2 nP uJ=>?_);by_cases nL:m=i
   ·subst nL
    rw[O.eq] at uJ;cases uJ;omega
   ·exact O.min m (by omega) nP uJ
 ·have aaJ:i=st.1.length:=by omega
  have lF:¬((i:Int) < st.1.length):=by omega
  simp[e0,e6,EG,kg,hlv,hlt];refine hk _ _ st v vN vE rs ?_ (O.A.up (by omega)) (by simp[aH,O.e4]) (by simp[aH,O.e5]);exact ZlP R hm1 (most.toNat+1) 0 rfl (by omega) i st (Nat.zero_le _) O.eq aaJ (fun m _ h2=>O.min m h2)
theorem Zql{P:Program}(Aw:P.follows .mixedOrders=true){fall uI fT cf fe:FuncId}(hall:Cc P fall (LJ uI fe) [.c 4 (some 3)] 2){cap:List AV}{bC:St}{id km:Nat}{n:Net}{most:Int}{kd:Kd}(R:mY n)(zK:JU P uI fT n)(Hg:Sd P cf cap bC id km n most kd)
  (hend:∀set,Val n set→aJ P fe [nW n,aj set] (aD (kW n set))) (hm1:1≤most) (EF:most≤3000) (M:xB bC id km n most [] (.sl true [])) {K:AV→St→Prop} {X:Value→St→Prop}
  (hK:∀st S' vN vE g,y8 kd n most=some st→Old bC S' id km→(∀i k,g i=some k→S'.g i=some k∧bC.n≤i∧i < S'.n)→kQ g vN (aU st.2.1)→kQ g vE (bA st.2.2)→K (.agg [ah n.signs,vN,vE]) S') (hX:y8 kd n most=none→∀S',Old bC S' id km→X (KG fT) S'):nT P fall [.ptr id 0 0,.aP cf [] cap] bC K X:=by
 refine hall.Fg Aw rfl ?_;have EG:=M.g;have hv0:Val n [0]:=⟨fun x hx=>by simp at hx;subst hx;have:=R.n1;have:=R.len;omega,by simp⟩;have aaI:id≠bC.n:=by have:=M.lid;omega
 simp[Bq,uS,uP,Cq,Ck,LJ,EG,kg,jr,gJ,aaI];refine nT.weak (args':=[.ptr id 0 0,aj [0]]) ?_ rfl (fun j h1 h2 E v hv=>?_)
 ·have A0:lZ ⟨bC.n+1+8+3,((((⟨bC.n+1+8,((⟨bC.n+1,bC.g⟩:St).set bC.n (some (.arr 3 [.agg [.v (.int .i64 0),.sl true [],.sl true []]]))).g⟩:St).set (bC.n+1+6) (some (.arr 3 [.agg [.v (.int .i64 0),.sl true [],.sl true []]]))).set (bC.n+1+6) (some (.arr 3 [.agg [.v (.int .i64 n.signs),.sl true [],.sl true []]])))).g⟩ bC id km bC.n (bC.n+1+6) n most [] [] [] (.sl true []) (.sl true []) (.sl true []) [] [] []:=by
   have Y9:=M.lid;have Za:=M.vL;refine⟨?_,?_,?_,?_,?_,M.ne,M.lid,M.vL,Nat.le_refl _,by omega,by omega,by show bC.n < bC.n+1+8+3;omega,by show bC.n+1+6 < bC.n+1+8+3;omega,?_,fun i h1 h2 h3=>?_,by show bC.n≤bC.n+1+8+3;omega⟩
   ·rw[aL,if_neg (by omega),aL,if_neg (by omega),aL,if_neg (by omega)];exact M.g
   ·rw[aL,if_neg (by omega),aL,if_neg (by omega),aL,if_neg (by omega)];exact M.m
   ·rw[aL,if_neg (by omega),aL,if_neg (by omega),aL,if_pos rfl];rfl
   ·rw[aL,if_pos rfl];rfl
   ·refine lS.cons .nil (by simp[AV.ids]) (by simp[AV.ids]) (lS.cons .nil (by simp[AV.ids]) (by simp[AV.ids]) (lS.cons .nil (by simp[AV.ids]) (by simp[AV.ids]) .nil))
   ·intro w hw i hi
    simp only[List.append_nil,List.mem_cons,List.not_mem_nil,or_false,or_self] at hw;subst hw;simp[AV.ids] at hi
   ·rw[aL,if_neg (by omega),aL,if_neg (by omega),aL,if_neg (by omega)]
  refine zK id km most [] _ [0] _ _ _ A0.mk' hv0 ⟨by simp,by simp;omega⟩ EF (fun h=>by simp at h) (fun _ _ S1 v1 M1 F1 hv1=>?_) (fun _ h=>by simp at h;omega);have A1:=A0.num M1 F1 hv1;simp[Ac,yY];refine Zlk R zK Hg hend hm1 EF ⟨([[0]],[],[]),v1,.sl true [],.sl true [],[],⟨rfl,A1.up (by simp),?_,?_,?_,?_,?_,fun m hm=>by omega⟩⟩ (fun f' S' st v vN vE rs Di A e4 e5=>?_) (fun Di f' S' hold=>?_)
  ·simp[aH,cK]
  ·simp[aH,cK,dn]
  ·simp[aH]
  ·simp[aH]
  ·simp[aH,ah]
  ·have g4:=A.g4
   have g5:=A.g5;have h45:=A.n45;simp only[lM] at g4;simp[WC,e4,e5,g4,g5,bL,bP,RV.ev,eF,bV];have hold:=A.old;have Tm:=A.jW;obtain⟨z1,z2⟩:=A.NI (g:=fun i=>if bC.n≤i∧i≠bC.n∧i < S'.n then S'.g i else none) (fun i h1 h2 h3=>if_pos ⟨h1,h2,h3⟩);refine hK st _ vN vE _ Di ⟨by simp only[bT];omega,fun i h1 h2 h3=>?_⟩ (fun i k e=>?_) z1 z2
   ·rw[aL,if_neg (by omega)];exact hold i h1 h2 h3
   ·have e:(if bC.n≤i∧i≠bC.n∧i < S'.n then S'.g i else none)=some k:=e
    split at e
    ·rename_i h;exact⟨by rw[aL,if_neg h.2.1];exact e,h.1,by rw[bT];show i < S'.n+2;omega⟩
    ·cases e
  ·simp[DN,Zkm]
   exact hX Di _ hold
 ·match j with
  | 0=>exact hv
  | 1=>exact hv.loose
  | j+2=>simp at h1;omega
def Xz(P4I P4n:FuncId):AC:= (sq [ro 22 (.load (some 4) (.t 3)),rm 23 1,ro 24 (.EK),ro 25 (.build (.agg [(.v (.int .i64 0)),(.sl true []),(.sl true []),(.sl true []),(.v (.int .i64 0)),(.v (.map none)),(.sl true [])]) [(0,4),(4,1),(5,1)] [(0,(.t 22)),(1,(.t 23)),(2,(.t 24))]),ro 26 (.box 7 (.t 25)),ro 8 (.alloc (.v (.pointer none)) 1),rn (.store 1 (.t 8) (.t 26))] (.seq (.lU [rL 27 8,ro 28 (.A8 P4I [] [(.t 5),(.t 8)]),rk 29 P4n [(.t 27),(.t 28)],rn (.store 3 (.t 6) (.t 29)),rn (.store 1 (.t 7) (ci 0))] none) .ret))
def Jo(P53:FuncId):AC:= (.seq (.lU [ro 9 (.load (some 4) (.t 3)),rk 10 P53 [(.t 9)],ro 11 (.un .not (.t 10)),rm 12 11,rg 13 12 false (.mv (.t 1)),rg 14 12 false (.bin .lss (.t 13) (ci 1)),ro 15 (.pick (.t 12) (.c (.v (.bool true))) (.t 14)),rm 16 15,rg 17 16 false (.mv (.t 1)),rg 18 16 false (.bin .gtr (.t 17) (ci 3000)),ro 19 (.pick (.t 16) (.c (.v (.bool true))) (.t 18))] none) (.cond (.t 19) (sq [ro 20 (.build (.agg [(.v (.int .i64 0)),(.sl true []),(.sl true [])]) [] []),rn (.store 3 (.t 6) (.t 20)),rn (.store 1 (.t 7) (ci 1))] .ret) .skip))
def Xy:AC:= (.reg none [ro 3 (.box 4 (.t 0)),ro 5 (.box 1 (.t 2)),ro 6 (.alloc (.agg [(.v (.int .i64 0)),(.sl true []),(.sl true [])]) 3),ro 7 (.alloc (.v (.int .i64 0)) 1)])
def FU(YM:FuncId):AC:= (sq [rm 7 2,ro 8 (.Oq YM (.agg []) (.t 7)),rm 6 8,ro 9 (.ext 0 (.t 6)),ro 10 (.ext 1 (.t 6)),ro 3 (.alloc (.agg []) 0),rn (.store 0 (.t 3) (.t 9)),rm 4 10] (sq [rm 11 4] (.cond (.t 11) (.reg none [ro 12 (.build (.agg [(.v (.int .i64 0)),(.sl true []),(.sl true [])]) [] []),rn (.store 3 (.t 0) (.t 12)),rn (.store 1 (.t 1) (ci 13))]) (sq [rm 13 2,ro 14 (.N7 true (.t 13))] (.cond (.t 14) .bad .skip)))))
def LK:AC:= (sq [ro 6 (.mv (.c (.sl true [])))] (sq [rL 7 2,rL 8 3,rm 9 0,rm 10 1,⟨(some 11),.mv (.c .junk),none,(some ((.t 7),[(.t 8),(.t 9),(.t 10)]))⟩,rm 6 11] .ret))
def Vw(KY uZ:FuncId):AC:= (sq [ro 6 (.mv (.c (.sl true [])))] (sq [ro 7 (.dH 1 1 (.v (.int .i64 0)) [(0,(ci 0))]),rm 8 0,rm 9 1,rm 10 2,rk 11 KY [(.t 8),(.t 9),(.t 10)],ro 12 (.dH 1 2 (.sl true []) [(0,(.t 7)),(1,(.t 11))]),rk 13 uZ [(.t 12)],rm 6 13] .ret))
def Vv(ET KY:FuncId):AC:= (sq [ro 6 (.mv (.c (.sl true [])))] (.seq (sq [rm 7 0,rm 8 1,rk 9 ET [(.t 7),(.t 8)]] (.cond (.t 9) (sq [rm 10 1,rm 6 10] .ret) .skip)) (sq [rm 11 0,rm 12 1,rm 13 2,rk 14 KY [(.t 11),(.t 12),(.t 13)],rm 6 14] .ret)))
def HB(P:Program)(fb:FuncId)(n:Net)(kd:Kd):Prop:=∀(S:St) (id km:Nat) (most:Int) (ss:List (List Int)) (v:AV) (set:List Int) (s:Int) (K:AV→St→Prop),xB S id km n most ss v→Val n set→
 (∀m,S.n≤m→K (aj (kL kd n set s)) ⟨m,S.g⟩)→aN P fb [.ptr id 0 0,aj set,ah s] S K
def Si(P:Program)(f:FuncId)(n:Net):Prop:=∀set s,Val n set→Ak P f [nW n,aj set,ah s] (aj (qJ n set s))
def RF(P:Program)(f:FuncId)(n:Net):Prop:=∀set,Val n set→aJ P f [nW n,aj set] (aD (kW n set))
theorem xB.pre{S:St}{id km:Nat}{n:Net}{most:Int}{ss:List (List Int)}{v:AV}(M:xB S id km n most ss v){g:Nat→Option aB}(hg:g id=S.g id):Fz g (.ptr id 0 0) (nW n):=
 .pre id 7 [ah n.signs,aU n.au,aU n.follow,aj n.last] [ah most,.mp km,v] (by rw[hg];exact M.g) (by
  intro y hy;simp only[List.mem_cons,List.not_mem_nil,or_false] at hy;rcases hy with rfl | rfl | rfl | rfl
  ·exact aW _
  ·exact jR _
  ·exact jR _
  ·exact aT _)
theorem HB.whole{P:Program}{f:FuncId}{n:Net}(h:Si P f n):HB P f n .whole:=by
 intro S id km most ss v set s K M hv hk;have hz:dJ S.g [.ptr id 0 0,aj set,ah s] [nW n,aj set,ah s]:=dJ.cons (M.pre rfl) (dJ.cons (.closed _ (aT _)) (dJ.cons (.closed _ (aW _)) dJ.nil));exact aN.U5 (h set s hv) S.g (fun _ _ e=>e) hz.1 hz.2 (aT _) (hk S.n (Nat.le_refl _))
theorem HB.tails{P:Program}(hm:P.follows .mixedOrders=true){f fs fc:FuncId}{n:Net}(R:mY n)(h:Si P fs n)(hf:Is P f (Vw fs fc) [6] 3)
  (hc:∀l:List Int,l.length≤1000→aJ P fc [.sl true [.sl true [ah 0],aj l]] (aj (0::l))):HB P f n .tails:=by
 intro S id km most ss v set s K M hv hk;have hb:=HB.whole h;refine hf.xD hm rfl ?_;simp[Vw];refine hb _ id km most ss v set s _ ⟨M.g,M.m,M.vec,M.ne,M.hv,Nat.lt_of_lt_of_le M.lid (by show S.n≤S.n+1+8;omega),Nat.lt_of_lt_of_le M.vL (by show S.n≤S.n+1+8;omega),fun i hi=>Nat.lt_of_lt_of_le (M.lv i hi) (by show S.n≤S.n+1+8;omega)⟩ hv fun m hm2=>?_
 have h1:(aj (kL .whole n set s)).cells=[aj (kL .whole n set s)]:=rfl;have h2:(aj (kL .whole n set s)).solid=true:=rfl;simp only[AV.solid] at h2;simp[h1,h2]
 refine aN.pure (hc _ ?_) (aG (.sl _ _ (by
  intro y hy;simp only[List.mem_cons,List.not_mem_nil,or_false] at hy;rcases hy with rfl | rfl
  ·exact .sl _ _ (by intro y hy;simp only[List.mem_cons,List.not_mem_nil,or_false] at hy;subst hy;exact aW _)
  ·exact aT _)) aQ) (aT _) ?_
 ·have:=(ZiU R set s).2
  show(qJ n set s).length≤1000
  omega
 ·simp
  exact hk _ (by simp only at hm2;omega)
theorem HB.heads{P:Program}(hm:P.follows .mixedOrders=true){f fs fe:FuncId}{n:Net}(h:Si P fs n)(he:RF P fe n)(hf:Is P f (Vv fe fs) [6] 3):HB P f n .heads:=by
 intro S id km most ss v set s K M hv hk;have hb:=HB.whole h;have YZ:∀m,S.n≤m→xB ⟨m,S.g⟩ id km n most ss v:=fun m hm2=>⟨M.g,M.m,M.vec,M.ne,M.hv,Nat.lt_of_lt_of_le M.lid hm2,Nat.lt_of_lt_of_le M.vL hm2,fun i hi=>Nat.lt_of_lt_of_le (M.lv i hi) hm2⟩
 refine hf.xD hm rfl ?_;simp[Vv];refine aN.looks (S:=⟨S.n+1+3,S.g⟩) (he set hv) (dJ.cons (M.pre rfl) (dJ.cons (.closed _ (aT _)) dJ.nil)) (QM _) ?_;cases hq:kW n set with
 | true=>
  simp;have:=hk (S.n+1+3+2) (by omega);simp only[kL,hq,if_true] at this;exact this
 | false=>
  simp;refine hb _ id km most ss v set s _ (YZ _ (by omega)) hv fun m hm2=>?_
  simp;have:=hk m (by simp only at hm2;omega);simp only[kL,hq,Bool.false_eq_true,if_false] at this;exact this
theorem HB.aP{P:Program}(hm:P.follows .mixedOrders=true){f fb:FuncId}{n:Net}{kd:Kd}(h:HB P fb n kd)(hf:Is P f LK [6] 4){bC:St}{id km k5 k8:Nat}{most:Int}(h5:bC.g k5=some (.arr 1 [.aP fb [] []]))(h8:bC.g k8=some (.arr 1 [.ptr id 0 0]))
  (l5:k5 < bC.n) (l8:k8 < bC.n) (n5:k5≠id∧k5≠km) (n8:k8≠id∧k8≠km):Sd P f [.ptr k5 0 0,.ptr k8 0 0] bC id km n most kd:=by
 intro S ss v set s K M hold hv hk;have g5:S.g k5=some (.arr 1 [.aP fb [] []]):=(hold.2 k5 l5 n5.1 n5.2).trans h5;have g8:S.g k8=some (.arr 1 [.ptr id 0 0]):=(hold.2 k8 l8 n8.1 n8.2).trans h8;have YZ:∀m,S.n≤m→xB ⟨m,S.g⟩ id km n most ss v:=fun m hm2=>⟨M.g,M.m,M.vec,M.ne,M.hv,Nat.lt_of_lt_of_le M.lid hm2,Nat.lt_of_lt_of_le M.vL hm2,fun i hi=>Nat.lt_of_lt_of_le (M.lv i hi) hm2⟩
 refine hf.xD hm rfl ?_;simp[LK,g5,g8];refine h _ id km most ss v set s _ (YZ _ (by omega)) hv fun m hm2=>?_
 simp;exact hk m (by simp only at hm2;omega)
def X7:AV:=aR ⟨0,[],[]⟩
def CO(kd:Kd)(n:Net)(most:Int):AV:=
 if qC n=true∧1≤most∧most≤3000 then (match y8 kd n most with
  | some st=>.aO [aR ⟨n.signs,st.2.1,st.2.2⟩,ah 0]
  | none=>.aO [X7,ah 13])
 else .aO [X7,ah 1]
def Gi(fr f1 f2 fall:FuncId):M1:=⟨Xy,Jo fr,21,f1,6,7,Xz f2 fall,30,[.c 6 (some 3),.c 7 none]⟩
theorem Qo(g:Nat→Option aB)(e:Int):kQ g (.aO [.agg [.v (.int .i64 0),.sl true [],.sl true []],.v (.int .i64 e)]) (.aO [X7,ah e]):=by
 refine .aO _ _ rfl (fun i h1 h2=>?_)
 match i,h1 with
 | 0,_=>
  refine .agg _ _ rfl (fun j k1 k2=>?_)
  match j,k1 with
  | 0,_=>exact .v _
  | 1,_=>exact .nil true false (by simp)
  | 2,_=>exact .nil true false (by simp)
 | 1,_=>exact .v _
theorem Zrh{P:Program}(hm:P.follows .mixedOrders=true){f1 f2 fall uI fe fb fT:FuncId}(hall:Cc P fall (LJ uI fe) [.c 4 (some 3)] 2)(hf2:Is P f2 LK [6] 4)
  {n:Net} {kd:Kd} {most:Int} (R:mY n) (zK:JU P uI fT n) (hb:HB P fb n kd) (hend:RF P fe n) (h1:1≤most) (h3:most≤3000) {f:AF} {S:St} (e1:f 1=ah most) (e3:f 3=.ptr 0 0 0) (e5:f 5=.ptr 1 0 0) (e6:f 6=.ptr 2 0 0) (e7:f 7=.ptr 3 0 0)
  (g0:S.g 0=some (.arr 4 [jA n])) (g1:S.g 1=some (.arr 1 [.aP fb [] []])) (g2:S.g 2=some (.arr 3 [lM])) (g3:S.g 3=some (.arr 1 [ah 0])) (hn:4≤S.n) :
  AW P (Xz f2 fall) (Rw P (FU fT) 5 2 [.c 6 (some 3),.c 7 none] [.ptr 2 0 0,.ptr 3 0 0] fun r' S'=>kQ S'.g r' (CO kd n most)) (f.put (some 21) (.aP f1 [] [.ptr 2 0 0,.ptr 3 0 0])) S:=by
 have hR:qC n=true:=(Bh n).mpr R;have ec:(jA n).cells=[ah n.signs,aU n.au,aU n.follow,aj n.last]:=rfl;have es:(jA n).solid=true:=rfl;simp only[AV.solid] at es;simp[Bq,uS,uP,Cq,Ck,Xz,e1,e3,e5,g0,ec,jr,gJ,Gd]
 have k1:∀i,i < S.n→(((((⟨S.n+7,S.g⟩:St).set (S.n+2) (some (.map []))).set (S.n+4) (some (.arr 7 [.agg [.v (.int .i64 n.signs),aU n.au,aU n.follow,aj n.last,.v (.int .i64 most),.mp (S.n+2),.sl true []]]))).set (S.n+5) (some (.arr 1 [.v (.pointer none)]))).set (S.n+5) (some (.arr 1 [.ptr (S.n+4) 0 0]))).g i=S.g i:=fun i hi=>by
  rw[aL,if_neg (by omega),aL,if_neg (by omega),aL,if_neg (by omega),aL,if_neg (by omega)]
 have k2:(((((⟨S.n+7,S.g⟩:St).set (S.n+2) (some (.map []))).set (S.n+4) (some (.arr 7 [.agg [.v (.int .i64 n.signs),aU n.au,aU n.follow,aj n.last,.v (.int .i64 most),.mp (S.n+2),.sl true []]]))).set (S.n+5) (some (.arr 1 [.v (.pointer none)]))).set (S.n+5) (some (.arr 1 [.ptr (S.n+4) 0 0]))).g (S.n+2)=some (.map []):=by
  rw[aL,if_neg (by omega),aL,if_neg (by omega),aL,if_neg (by omega),aL,if_pos rfl]
 have k3:(((((⟨S.n+7,S.g⟩:St).set (S.n+2) (some (.map []))).set (S.n+4) (some (.arr 7 [.agg [.v (.int .i64 n.signs),aU n.au,aU n.follow,aj n.last,.v (.int .i64 most),.mp (S.n+2),.sl true []]]))).set (S.n+5) (some (.arr 1 [.v (.pointer none)]))).set (S.n+5) (some (.arr 1 [.ptr (S.n+4) 0 0]))).g (S.n+4)=some (.arr 7 [.agg [ah n.signs,aU n.au,aU n.follow,aj n.last,ah most,.mp (S.n+2),.sl true []]]):=by
  rw[aL,if_neg (by omega),aL,if_neg (by omega),aL,if_pos rfl];rfl
 have k4:(((((⟨S.n+7,S.g⟩:St).set (S.n+2) (some (.map []))).set (S.n+4) (some (.arr 7 [.agg [.v (.int .i64 n.signs),aU n.au,aU n.follow,aj n.last,.v (.int .i64 most),.mp (S.n+2),.sl true []]]))).set (S.n+5) (some (.arr 1 [.v (.pointer none)]))).set (S.n+5) (some (.arr 1 [.ptr (S.n+4) 0 0]))).g (S.n+5)=some (.arr 1 [.ptr (S.n+4) 0 0]):=by
  rw[aL,if_pos rfl]
 generalize(((((⟨S.n+7,S.g⟩:St).set (S.n+2) (some (.map []))).set (S.n+4) (some (.arr 7 [.agg [.v (.int .i64 n.signs),aU n.au,aU n.follow,aj n.last,.v (.int .i64 most),.mp (S.n+2),.sl true []]]))).set (S.n+5) (some (.arr 1 [.v (.pointer none)]))).set (S.n+5) (some (.arr 1 [.ptr (S.n+4) 0 0]))).g=G at *
 have M:xB ⟨S.n+7+5,G⟩ (S.n+4) (S.n+2) n most [] (.sl true []):=
  ⟨k3,k2,.nil,by omega,by simp[AV.ids],by show S.n+4 < S.n+7+5;omega,by show S.n+2 < S.n+7+5;omega,by simp[AV.ids]⟩
 have Hg:=hb.aP hm hf2 (bC:=⟨S.n+7+5,G⟩) (id:=S.n+4) (km:=S.n+2) (k5:=1) (k8:=S.n+5) (most:=most) ((k1 1 (by omega)).trans g1) k4 (by show 1 < S.n+7+5;omega) (by show S.n+5 < S.n+7+5;omega) ⟨by omega,by omega⟩ ⟨by omega,by omega⟩
 have hpre:∀S':St,Old ⟨S.n+7+5,G⟩ S' (S.n+4) (S.n+2)→S'.g 2=some (.arr 3 [lM])∧S'.g 3=some (.arr 1 [ah 0]):=fun S' hold=>
  ⟨((hold.2 2 (by show 2 < S.n+7+5;omega) (by omega) (by omega)).trans (k1 2 (by omega))).trans g2,((hold.2 3 (by show 3 < S.n+7+5;omega) (by omega) (by omega)).trans (k1 3 (by omega))).trans g3⟩
 refine Zql hm hall R zK Hg hend h1 h3 M (fun st S' vN vE g Di hold aa4 z1 z2=>?_) (fun Di S' hold=>?_)
 ·obtain⟨q2,q3⟩:=hpre S' hold
  simp only[lM] at q2;have hnn:S.n+7+5≤S'.n:=hold.1;have hs2:S'.n≠2:=by omega
  have hs3:S'.n≠3:=by omega
  simp[Ac,uS,uP,yY,e6,e7,q2,q3,Rw,Ib,vD];simp[FU,M7,Q9];have x2:¬(2=S'.n+5):=by omega
  have x3:¬(3=S'.n+5):=by omega
  refine⟨[.agg [.v (.int .i64 n.signs),vN,vE],.v (.int .i64 0)],?_,?_⟩
  ·simp[bP,RV.ev,eF,aH,aL,e6,e7,bB,eZ,fJ]
  ·rw[CO,if_pos ⟨hR,h1,h3⟩,Di]
   refine .aO _ _ rfl (fun i k1 k2=>?_)
   match i,k1 with
   | 0,_=>
    refine .agg _ _ rfl (fun j k1 k2=>?_)
    match j,k1 with
    | 0,_=>exact .v _
    | 1,_=>
     refine z1.mono fun i k e=>?_
     obtain⟨w1,w2,w3⟩:=aa4 i k e;have w2':S.n+7+5≤i:=w2;rw[aL,if_neg (by omega),aL,if_neg (by omega),aL,if_neg (by omega),aL,if_neg (by omega)];exact w1
    | 2,_=>
     refine z2.mono fun i k e=>?_
     obtain⟨w1,w2,w3⟩:=aa4 i k e;have w2':S.n+7+5≤i:=w2;rw[aL,if_neg (by omega),aL,if_neg (by omega),aL,if_neg (by omega),aL,if_neg (by omega)];exact w1
   | 1,_=>exact .v _
 ·obtain⟨q2,q3⟩:=hpre S' hold
  simp only[lM] at q2;have hnn:S.n+7+5≤S'.n:=hold.1;simp[ZmE,DN];simp only[pn];refine⟨KG fT,rfl,rfl,?_⟩;have x2:¬(2=S'.n+5):=by omega
  have x3:¬(3=S'.n+5):=by omega
  have hbe:Nat.beq fT fT=true:=Nat.beq_refl fT;have hov:C9 (.agg #[])=some (.agg []):=rfl;simp[Ib,vD,KG];simp[FU,M7,hov,jr,gJ,q2,q3];refine⟨[.agg [.v (.int .i64 0),.sl true [],.sl true []],.v (.int .i64 13)],?_,?_⟩
  ·simp[bP,RV.ev,eF,aH,aL,e6,e7,bB,eZ,fJ]
  ·rw[CO,if_pos ⟨hR,h1,h3⟩,Di]
   exact Qo _ 13
theorem Zoy{P:Program}(hm:P.follows .mixedOrders=true){f fr f1 f2 fall uI fe fb fT:FuncId}(h:J2 P f=some (Gi fr f1 f2 fall))(h':Gm P f1=some (5,2,FU fT,16))(hall:Cc P fall (LJ uI fe) [.c 4 (some 3)] 2)(hf2:Is P f2 LK [6] 4)
  {n:Net} {kd:Kd} {most:Int} (hr:aJ P fr [jA n] (aD (qC n))) (zK:qC n=true→JU P uI fT n) (hb:qC n=true→HB P fb n kd) (hend:qC n=true→RF P fe n):Ak P f [jA n,ah most,.aP fb [] []] (CO kd n most):=by
 refine .xC (ZnX hm h h' (by omega) (by show 3≤30;omega) ?_);show AW P Xy (Sk P (Gi fr f1 f2 fall) (FU fT) 5 2 _) _ _
 have ha:fu 4 (jA n)=.new (some (.arr 4 [jA n],fun i=>.ptr i 0 0)):=rfl;simp[Xy,jA,aU,aj,Sk];show AW P (Jo fr) _ _ _
 by_cases hR:qC n=true
 ·by_cases h1:most < 1
  ·simp[Bq,uS,uP,Cq,Ck,Jo]
   refine nT.H6 (aN.pure hr (aG (Cm n) aQ) (dY _) ?_);simp[P7,XK,ZpE,Ac,uS,uP,yY,hR,h1,jr,gJ,JR,Gi,bP,RV.ev,eF,bV];rw[CO,if_neg (by omega)];exact Qo _ 1
  ·by_cases h3:3000 < most
   ·simp[Bq,uS,uP,Cq,Ck,Jo]
    refine nT.H6 (aN.pure hr (aG (Cm n) aQ) (dY _) ?_);simp[P7,XK,Ac,uS,uP,yY,hR,h1,h3,jr,gJ,JR,Gi,bP,RV.ev,eF,bV];rw[CO,if_neg (by omega)];exact Qo _ 1
   ·simp[Bq,uS,uP,Cq,Ck,Jo]
    refine nT.H6 (aN.pure hr (aG (Cm n) aQ) (dY _) ?_);simp[P7,XK,Ac,uS,uP,yY,hR,h1,h3];have R:=(Bh n).mp hR;simp only[JR];refine Zrh hm hall hf2 R (zK hR) (hb hR) (hend hR) (by omega) (by omega) ?_ ?_ ?_ ?_ ?_ ?_ ?_ ?_ ?_ ?_
    ·simp[aH,cK,dn,ah]
    ·simp[aH]
    ·simp[aH]
    ·simp[aH]
    ·simp[aH]
    ·simp[aL,jA,ah,aU,aj]
    ·simp[aL]
    ·simp[aL,lM,ah]
    ·simp[aL,ah]
    ·simp
 ·simp[Bq,uS,uP,Cq,Ck,Jo]
  refine nT.H6 (aN.pure hr (aG (Cm n) aQ) (dY _) ?_);simp[P7,ZpE,Ac,uS,uP,yY,hR,jr,gJ,JR,Gi,bP,RV.ev,eF,bV];rw[CO,if_neg (by simp[hR])];exact Qo _ 1
end Go.Rf
