import Derived.Test.YtdmcjhnbmgmgoaaGreatDoorRfTxt
import Derived.Sort.Row
import Derived.Sort.Grow
import Derived.Lib.SlicesCompact
import Derived.ChangeArms
import Derived.WideShapes
import GoSem.ClaimJoined
import Derived.SizedLaws
import Derived.Lib.LaidTab
import Derived.Lib.ItoaNum
set_option linter.unusedVariables false
set_option linter.unusedSimpArgs false
set_option linter.unusedSectionVars false
namespace Go.Rf
open Go.RowKit
def AV.ids:AV→List Nat
 | .own id _ _=>[id]
 | _=>[]
def Vec(g:Nat→Option aF)(v:AV)(es:Nat)(xs:List AV):Prop:=
 (v=.sl true []∧xs=[])∨∃id off ys,v=.own id off xs.length∧g id=some (.arr es ys)∧off≤ys.length∧ys.drop off=xs
def Jr(v:AV)(i:Nat):AV:=
 match v with
 | .own id off _=>.ptr id (off+i) 0
 | _=>.junk
def St.without(S:St)(v:AV):St:=
 match v with
 | .own id _ _=>S.set id none
 | _=>S
def St.setAt(S:St)(v:AV)(i:Nat)(x:AV):St:=
 match v with
 | .own id off _=>match S.g id with
  | some (.arr es ys)=>S.set id (some (.arr es (ys.set (off+i) x)))
  | _=>S
 | _=>S
theorem mU{S:St}{v:AV}(j:Nat)(hj:j∉v.ids):(S.without v).g j=S.g j:=by
 cases v<;>simp_all [St.without,AV.ids,aG]
theorem sU{S:St}{v:AV}:(S.without v).n=S.n:=by cases v<;>simp[St.without,bB]
section
variable{g:Nat→Option aF}{n:Nat}{v:AV}{es:Nat}{xs:List AV}{aC:Nat}
theorem Vec.nil:Vec g (.sl true []) es []:=.inl ⟨rfl,rfl⟩
theorem Vec.mk{id:Nat}(h:g id=some (.arr es xs)):Vec g (.own id 0 xs.length) es xs:=.inr ⟨id,0,xs,rfl,h,by simp,by simp⟩
theorem Vec.mk'{id m:Nat}(h:g id=some (.arr es xs))(hm:m=xs.length):Vec g (.own id 0 m) es xs:=hm ▸ Vec.mk h
theorem Vec.frame{g':Nat→Option aF}(h:Vec g v es xs)(hs:∀i∈v.ids,g' i=g i):Vec g' v es xs:=by
 rcases h with h | ⟨id,off,ys,rfl,h1,h2,h3⟩
 ·exact .inl h
 ·exact .inr ⟨id,off,ys,rfl,by rw[hs id (by simp[AV.ids])];exact h1,h2,h3⟩
theorem Vec.live(h:Vec g v es xs):∀i∈v.ids,∃ys,g i=some (.arr es ys):=by
 rcases h with⟨rfl,_⟩ | ⟨id,off,ys,rfl,h1,h2,h3⟩
 ·simp[AV.ids]
 ·simp[AV.ids,h1]
theorem Vec.len(h:Vec g v es xs):fq v=some (.v (.int .i64 xs.length)):=by
 rcases h with⟨rfl,rfl⟩ | ⟨id,off,ys,rfl,h1,h2,h3⟩<;>simp[fq]
theorem Vec.idx(h:Vec g v es xs)(k:IntKind)(i:Nat)(hi:i < xs.length):(dD es v (.v (.int k i))).run ⟨n,g⟩ aC=some (Jr v i,⟨n,g⟩):=by
 rcases h with⟨rfl,rfl⟩ | ⟨id,off,ys,rfl,h1,h2,h3⟩
 ·simp at hi
 ·have hl:off+xs.length=ys.length:=by rw[←h3];simp;omega
  simp[dD,h1,Jr,hi];omega
theorem Vec.load(h:Vec g v es xs)(i:Nat)(hi:i < xs.length)(hc:(xs[i]).cells=[xs[i]]):(bW none (Jr v i)).run ⟨n,g⟩ aC=some (xs[i],⟨n,g⟩):=by
 rcases h with⟨rfl,rfl⟩ | ⟨id,off,ys,rfl,h1,h2,h3⟩
 ·simp at hi
 ·have hl:off+xs.length=ys.length:=by rw[←h3];simp;omega
  have hg:ys[off+i]? = some xs[i]:=by
   subst h3;rw[List.getElem_drop];exact List.getElem?_eq_getElem (by omega)
  simp[bW,Jr,h1,hg,bq,hc]
theorem Vec.store{x:AV}(h:Vec g v 1 xs)(i:Nat)(hi:i < xs.length)(hx:x.solid=true)(hc:x.cells.length=1)(hy:(xs[i]).cells.length=1) :
  (dA 1 (Jr v i) x).run ⟨n,g⟩ aC=some (.junk,St.setAt ⟨n,g⟩ v i x)∧Vec (St.setAt ⟨n,g⟩ v i x).g v 1 (xs.set i x)∧(∀j,j∉v.ids→(St.setAt ⟨n,g⟩ v i x).g j=g j)∧(St.setAt ⟨n,g⟩ v i x).n=n:=by
 rcases h with⟨rfl,rfl⟩ | ⟨id,off,ys,rfl,h1,h2,h3⟩
 ·simp at hi
 ·have hl:off+xs.length=ys.length:=by rw[←h3];simp;omega
  have hg:ys[off+i]? = some xs[i]:=by
   subst h3;rw[List.getElem_drop];exact List.getElem?_eq_getElem (by omega)
  refine⟨?_,.inr ⟨id,off,ys.set (off+i) x,by simp,by simp[St.setAt,h1,aG],by simpa using h2,?_⟩,fun j hj=>?_,?_⟩
  ·simp[dA,Jr,h1,hg,hx,hc,hy,bL,St.setAt]
  ·rw[←h3,List.drop_set,if_neg (by omega)]
   congr 1;omega
  ·simp only[AV.ids,List.mem_singleton] at hj
   simp[St.setAt,h1,aG,hj]
  ·simp[St.setAt,h1,bB]
theorem Vec.tail(h:Vec g v es xs)(k:IntKind)(hp:0 < xs.length):∃v',(xD es v (some (.v (.int k 1))) none).run ⟨n,g⟩ aC=some (v',⟨n,g⟩)∧Vec g v' es xs.tail∧v'.ids=v.ids:=by
 rcases h with⟨rfl,rfl⟩ | ⟨id,off,ys,rfl,h1,h2,h3⟩
 ·simp at hp
 ·have hl:off+xs.length=ys.length:=by rw[←h3];simp;omega
  refine⟨.own id (off+1) (xs.length - 1),?_,.inr ⟨id,off+1,ys,by simp,h1,by omega,?_⟩,rfl⟩
  ·simp[xD,h1,bnd]
   exact List.ne_nil_of_length_pos hp
  ·rw[←h3,List.tail_drop]
theorem Vec.app{x:AV}{aB:Nat}(h:Vec g v es xs)(hes:∀z∈xs,z.cells.length=es)(hx:x.cells.length=es)(hok:dF aB xs.length 1) :
  (kP es aB v (.sl true [x])).run ⟨n,g⟩ aC=some (.own aC 0 (xs.length+1),(St.without ⟨n,g⟩ v).set aC (some (.arr es (xs++[x])))):=by
 rcases h with⟨rfl,rfl⟩ | ⟨id,off,ys,rfl,h1,h2,h3⟩
 ·simp only[List.length_nil] at hok
  simp[kP,Eff.run,AV.kF,mq,hx,hok,St.without,St.fD,St.iU]
 ·have hl:off+xs.length=ys.length:=by rw[←h3];simp;omega
  simp[kP,Eff.run,AV.kF,mq,hx,hok,St.without,St.fD,St.iU,h1,hl,h3]
theorem Vec.fz{X:Type}{enc:X→AV}{l:List X}(h:Vec g v es (l.map enc))(hc:∀x,aY (enc x)):Fz g v (.sl false (l.map enc)):=by
 rcases h with⟨rfl,h0⟩ | ⟨id,off,ys,rfl,h1,h2,h3⟩
 ·rw[h0];exact .loose true [] (.sl _ _ (by simp))
 ·have hl:off+(l.map enc).length=ys.length:=by rw[←h3];simp;omega
  have ht:(ys.drop off).take (l.map enc).length=l.map enc:=by rw[h3,List.take_length]
  refine .own id off _ es ys _ h1 (by omega) rfl (fun i h1 h2=>?_);simp only[ht];refine .closed _ ?_;rw[List.getElem_map];exact hc _
end
theorem Vec.Nc{g:Nat→Option aF}{v:AV}{es:Nat}{l:List Int}(h:Vec g v es (l.map aj)):kI g v (.sl false (l.map aj)):=by
 rcases h with⟨rfl,h0⟩ | ⟨id,off,ys,rfl,h1,h2,h3⟩
 ·rw[h0];exact .nil true false (by simp)
 ·have hl:off+(l.map aj).length=ys.length:=by rw[←h3];simp;omega
  have ht:(ys.drop off).take (l.map aj).length=l.map aj:=by rw[h3,List.take_length]
  refine .own id off _ es ys _ h1 (by omega) rfl (fun i h1 h2=>?_);simp only[ht];rw[List.getElem_map];exact .v _
theorem BQ(l:List Int):∀z∈l.map aj,z.cells.length=1:=by
 intro z hz;obtain⟨n,_,rfl⟩:=List.mem_map.mp hz;rfl
theorem FD{n:Nat}(h:n≤1000000000000):dF 8 n 1:=by unfold dF;omega
structure Rows(g:Nat→Option aF)(n:Nat)(av:List Nat)(vs:List AV)(ls:List (List Int)):Prop where
 len:vs.length=ls.length
 row:∀t (h:t < vs.length) (h':t < ls.length),Vec g vs[t] 1 ((ls[t]).map aj)
 sep:vs.Pairwise (fun a b=>∀i∈a.ids,i∉b.ids)
 out:∀v∈vs,∀i∈v.ids,i < n∧i∉av
theorem Rows.frame{g g':Nat→Option aF}{n n':Nat}{av:List Nat}{vs:List AV}{ls:List (List Int)}(h:Rows g n av vs ls)(hn:n≤n')(hg:∀i,i < n→i∉av→g' i=g i):Rows g' n' av vs ls:=
 ⟨h.len,fun t h1 h2=>(h.row t h1 h2).frame (fun i hi=>hg i (h.out _ (List.getElem_mem h1) i hi).1 (h.out _ (List.getElem_mem h1) i hi).2),h.sep,fun v hv i hi=>⟨Nat.lt_of_lt_of_le (h.out v hv i hi).1 hn,(h.out v hv i hi).2⟩⟩
theorem Rows.other{g:Nat→Option aF}{n:Nat}{av:List Nat}{vs:List AV}{ls:List (List Int)}(h:Rows g n av vs ls){t u:Nat}(ht:t < vs.length)(hu:u < vs.length)(hne:t≠u):∀i∈vs[t].ids,i∉vs[u].ids:=by
 have hp:=List.pairwise_iff_getElem.mp h.sep;rcases Nat.lt_or_ge t u with h1 | h1
 ·exact hp t u ht hu h1
 ·intro i hi hi2
  exact hp u t hu ht (by omega) i hi2 hi
theorem Rows.upd{g g':Nat→Option aF}{n n':Nat}{av:List Nat}{vs:List AV}{ls:List (List Int)}(h:Rows g n av vs ls){t:Nat}(ht:t < vs.length){v:AV}{l:List Int}(hv:Vec g' v 1 (l.map aj))(hn:n≤n')
  (hid:∀i∈v.ids,i < n'∧i∉av∧(i∈vs[t].ids∨n≤i)) (hg:∀i,i < n→i∉av→i∉vs[t].ids→g' i=g i):Rows g' n' av (vs.set t v) (ls.set t l):=by
 refine⟨by simp[h.len],fun u h1 h2=>?_,?_,fun w hw i hi=>?_⟩
 ·simp only[List.length_set] at h1 h2
  rw[List.getElem_set,List.getElem_set];by_cases hu:t=u
  ·rw[if_pos hu,if_pos hu];exact hv
  ·rw[if_neg hu,if_neg hu]
   refine(h.row u h1 h2).frame fun i hi=>?_
   obtain⟨o1,o2⟩:=h.out _ (List.getElem_mem h1) i hi;exact hg i o1 o2 (fun h3=>h.other ht h1 hu i h3 hi)
 ·rw[List.pairwise_iff_getElem]
  intro a b ha hb hab i hi;simp only[List.length_set] at ha hb;rw[List.getElem_set] at hi ⊢;by_cases h1:t=a
  ·rw[if_pos h1] at hi
   rw[if_neg (by omega)];rcases(hid i hi).2.2 with h3 | h3
   ·exact h.other ht hb (by omega) i h3
   ·intro h4;have:=(h.out _ (List.getElem_mem hb) i h4).1;omega
  ·rw[if_neg h1] at hi
   by_cases h2:t=b
   ·rw[if_pos h2]
    intro h4;rcases(hid i h4).2.2 with h3 | h3
    ·exact h.other ht ha h1 i h3 hi
    ·have:=(h.out _ (List.getElem_mem ha) i hi).1;omega
   ·rw[if_neg h2]
    exact h.other ha hb (by omega) i hi
 ·rcases List.mem_or_eq_of_mem_set hw with hw | rfl
  ·obtain⟨o1,o2⟩:=h.out w hw i hi;exact⟨by omega,o2⟩
  ·exact⟨(hid i hi).1,(hid i hi).2.1⟩
theorem Rows.app{g:Nat→Option aF}{n m:Nat}{av:List Nat}{vs:List AV}{ls:List (List Int)}(h:Rows g n av vs ls){t:Nat}(ht:t < vs.length)(ht':t < ls.length)(x:Int){aC:Nat}(h1:n≤aC)(h2:aC < m)(h3:aC∉av) :
  Rows ((St.without ⟨m,g⟩ vs[t]).set aC (some (.arr 1 ((ls[t]).map aj++[aj x])))).g m av (vs.set t (.own aC 0 ((ls[t]).length+1))) (ls.set t (ls[t]++[x])):=by
 refine h.upd ht (.mk' (by simp[aG]) (by simp)) (by omega) (fun i hi=>?_) (fun i h4 h5 h6=>?_)
 ·simp only[AV.ids,List.mem_singleton] at hi
  subst hi;exact⟨h2,h3,.inr h1⟩
 ·rw[aG,if_neg (by omega),mU i h6]
theorem Rows.av{g:Nat→Option aF}{n m:Nat}{av:List Nat}{vs:List AV}{ls:List (List Int)}(h:Rows g n av vs ls){t:Nat}(ht:t < vs.length){aC:Nat}(b:Option aF){i:Nat}(hi:i∈av)(hne:i≠aC) :
  ((St.without ⟨m,g⟩ vs[t]).set aC b).g i=g i:=by
 rw[aG,if_neg hne,mU i (fun h6=>(h.out _ (List.getElem_mem ht) i h6).2 hi)]
theorem Rows.init{g:Nat→Option aF}{n:Nat}{av:List Nat}(k:Nat):Rows g n av (List.replicate k (.sl true [])) (List.replicate k []):=by
 refine⟨by simp,fun t h1 h2=>?_,?_,fun v hv i hi=>?_⟩
 ·simp;exact .nil
 ·rw[List.pairwise_iff_getElem];intro a b ha hb _ i hi;simp[AV.ids] at hi
 ·rw[(List.mem_replicate.mp hv).2] at hi;simp[AV.ids] at hi
inductive RV where
 | t (i:Nat)
 | c (i:Nat) (k:Option Nat)
def vv(P:Program):ResultVar→Option RV
 | .tmp t=>some (.t t)
 | .cell a t=>(xq P t).map (.c a)
def gH(k:Option Nat)(g:Nat→Option aF):AV→Option AV
 | .ptr id ix c=>match g id with
  | some (.arr _ xs)=>(xs[ix]?).bind fun x=>bq k x c
  | _=>none
 | _=>none
def RV.ev(a:AF)(g:Nat→Option aF):RV→Option AV
 | .t i=>some (a i)
 | .c i k=>gH k g (a i)
def bV(a:AF)(g:Nat→Option aF):List RV→Option (List AV)
 | []=>some []
 | r::rs=>(r.ev a g).bind fun x=>(bV a g rs).map (x::·)
def cK:List AV→AV
 | [x]=>x
 | xs=>.aM xs
def bK(rs:List RV)(K:AV→St→Prop):Exit→AF→St→Prop
 | .ret,a,S=>∃xs,bV a S.g rs=some xs∧K (cK xs) S
 | .normal,a,S=>∃xs,bV a S.g rs=some xs∧K (cK xs) S
 | _,_,_=>False
theorem ZrN{P:Program}{E:Env}{S:St}{w:World}(hS:bf E S w){t:TypeId}{k:Option Nat}(hk:xq P t=some k){p x:AV}{u:Value}(r:aL E p u)(h:gH k S.g p=some x) :
  ∃val,(do loadVar t (←asAddr u):Sem Value).run P w=.ok val w∧aL E x val:=by
 cases p<;>simp only[gH] at h
 all_goals (try (cases h))
 rename_i id ix c;cases r with
 | ptr _ _ _ l hl=>
  split at h
  ·rename_i es xs hg
   cases hxi:xs[ix]? with
   | none=>rw[hxi] at h;simp at h
   | some y=>
    rw[hxi] at h;simp only[Option.bind_some] at h;obtain⟨l',e,hN,h2,h3,h4,h5,cs,el,h6,h7,h8⟩:=hS.live id _ hg;rw[hl] at e;cases e;obtain⟨GN,hye⟩:=List.getElem?_eq_some_iff.mp hxi;have hfl:=Fy h4 ix GN
    have hcells:∀j (hj:j < y.cells.length),∃u,cs[l.o+ix*l.es+j]? = some u∧aL E (y.cells[j]) u:=by
     intro j hj;subst hye;obtain⟨hk',e⟩:=hfl j hj;obtain⟨u,a1,a2⟩:=h8 _ hk';rw[e] at a2;refine⟨u,?_,a2⟩;rw[h2,Nat.add_assoc];exact a1
    have hat:∀z∈y.cells,z.atom=true:=by
     intro z hz;refine h5 z ?_;simp only[flat,List.mem_flatMap];exact⟨y,by rw[←hye];exact List.getElem_mem GN,hz⟩
    obtain⟨val,h9,h10⟩:=Vu (P:=P) hk h h6 hat hcells;exact⟨val,by simp only[Sem.run_bind];exact h9,h10⟩
  ·cases h
theorem Aw{P:Program}{fn:Func}{E:Env}{S:St}{w:World}(hS:bf E S w){n:Nat}{a:AF}{act:Act}(hF:fu E n a act){rs:List RV}(hr:fn.results.toList.mapM (vv P)=some rs){xs:List AV}(hx:bV a S.g rs=some xs) :
  ∃val,(results fn act.tmps).run P w=.ok val w∧aL E (cK xs) val:=by
 have hm:∀(l:List ResultVar) (rs:List RV) (xs:List AV),l.mapM (vv P)=some rs→bV a S.g rs=some xs→∃vals:List Value,(l.mapM (fun
   | .tmp t=>pure (act.tmps.getD t undef)
   | .cell a t=>do loadVar t (←asAddr (act.tmps.getD a undef)):ResultVar→Sem Value)).run P w=.ok vals w∧vals.length=xs.length∧∀j (h:j < xs.length),aL E (xs[j]) (vals.getD j undef):=by
  intro l;induction l with
  | nil=>intro rs xs h1 h2;simp at h1;subst h1;simp[bV] at h2;subst h2;exact⟨[],rfl,rfl,by simp⟩
  | cons q l ih=>
   intro rs xs h1 h2;simp only[List.mapM_cons,Option.bind_eq_bind,Option.bind_eq_some_iff,Option.pure_def,Option.some.injEq] at h1;obtain⟨y,hy,zs,hz,rfl⟩:=h1;simp only[bV,Option.bind_eq_some_iff,Option.map_eq_some_iff] at h2;obtain⟨x,hx,us,hu,rfl⟩:=h2;obtain⟨vals,g1,g2,g3⟩:=ih _ _ hz hu
   have key:∀val,(match q with
     | .tmp t=>pure (act.tmps.getD t undef)
     | .cell a t=>do loadVar t (←asAddr (act.tmps.getD a undef)):Sem Value).run P w=.ok val w→aL E x val→∃vals:List Value,((q::l).mapM (fun
    | .tmp t=>pure (act.tmps.getD t undef)
    | .cell a t=>do loadVar t (←asAddr (act.tmps.getD a undef)):ResultVar→Sem Value)).run P w=.ok vals w∧vals.length=(x::us).length∧∀j (h:j < (x::us).length),aL E ((x::us)[j]) (vals.getD j undef):=by
    intro val k1 k2;refine⟨val::vals,?_,by simp[g2],fun j hj=>?_⟩
    ·simp only[List.mapM_cons,Sem.run_bind]
     rw[k1];simp only[Result.andThen_ok];rw[g1];rfl
    ·cases j with
     | zero=>simpa using k2
     | succ j=>simpa using g3 j (by simpa using hj)
   cases q with
   | tmp t=>
    simp only[vv,Option.some.injEq] at hy;subst hy;simp only[RV.ev,Option.some.injEq] at hx;subst hx;exact key _ rfl (hF.at_ t)
   | cell c t=>
    simp only[vv,Option.map_eq_some_iff] at hy;obtain⟨k,hk,rfl⟩:=hy;simp only[RV.ev] at hx;obtain⟨val,k1,k2⟩:=ZrN hS hk (hF.at_ c) hx;exact key val k1 k2
 obtain⟨vals,g1,g2,g3⟩:=hm _ _ _ hr hx;unfold results;rw[Array.mapM_eq_mapM_toList,map_eq_pure_bind];simp only[Sem.run_bind];erw [g1];simp only[Result.andThen_ok]
 match xs,vals,g2 with
 | [],[],_=>exact⟨_,rfl,.aM _ _ (by simp) (by simp)⟩
 | [x],[v],_=>exact⟨v,rfl,by simpa[cK] using g3 0 (by simp)⟩
 | x::y::xs,v::u::vals,g2=>
  refine⟨.tuple (v::u::vals).toArray,?_,?_⟩
  ·show Result.ok (if h:_ then _ else _) w=_
   rw[dif_neg (by simp)]
  ·refine .aM _ _ (by simp at g2 ⊢;omega) (fun j hj=>?_)
   have:=g3 j hj;simpa[Array.getD_eq_getD_getElem?,List.getD_eq_getElem?_getD] using this
def jS(P:Program)(f:FuncId)(ac:AC)(rs:List RV)(n:Nat):Prop:=
 ∃fn c,P.funcs[f]? = some fn∧(fn.name == "runtime.NumGoroutine")=false∧fn.body=some c∧comp P fn.ntmps c=some ac∧fn.results.toList.mapM (vv P)=some rs∧n≤fn.ntmps
theorem jS.wV{P:Program}(hm:P.follows .mixedOrders=true){f:FuncId}{ac:AC}{rs:List RV}{n:Nat}(h:jS P f ac rs n){args:List AV}(hn:args.length=n){S:St}{K:AV→St→Prop}
  (hb:AW P ac (bK rs K) (bP args) S):aQ P f args S K:=by
 obtain⟨fn,c,hf,hnm,hbd,hc,hr,h6⟩:=h;refine⟨vK hf hnm hbd,fun E w vals hG hS hv=>?_⟩;refine calls_of_wp hf hbd (wp_mono (Wv hm ac c hc _ _ _ hb E w _ hG hS (AA hv (by omega))) fun e act w' hp=>?_);obtain⟨a,S',E',q,s,r,ev⟩:=hp;cases e<;>simp only[bK] at q
 ·obtain⟨xs,q1,q2⟩:=q
  obtain⟨val,k1,k2⟩:=Aw (P:=P) (fn:=fn) s r hr q1;exact⟨r.defers,_,k1,_,_,S',E',rfl,q2,s,k2,ev⟩
 ·obtain⟨xs,q1,q2⟩:=q
  obtain⟨val,k1,k2⟩:=Aw (P:=P) (fn:=fn) s r hr q1;exact⟨r.defers,_,k1,_,_,S',E',rfl,q2,s,k2,ev⟩
theorem jS.pure{P:Program}(hm:P.follows .mixedOrders=true){f:FuncId}{ac:AC}{rs:List RV}{n:Nat}(h:jS P f ac rs n){args:List AV}(hn:args.length=n){r:AV}
  (hb:AW P ac (bK rs (iQ r)) (bP args) S0):aN P f args r:=
 .uQ (h.wV hm hn hb)
end Go.Rf
namespace Go.Rf
theorem mo.kl{P:Program}{f:FuncId}{args:List AV}{r:AV}{S:St}(h:aN P f args r)(hc:∀x∈args,aY x)(hr:aY r):mo P f args S [] r:=
 ⟨args,h,rfl,fun j h1 _=>.closed _ (hc _ (List.getElem_mem h1)),.inr (.inl ⟨rfl,hr⟩)⟩
end Go.Rf
namespace Go.Rf
open Go.RowKit
inductive T (α:Type) where
 | nil
 | node (l:T α) (v:Option α) (r:T α)
def T.get{α:Type}:T α→Nat→Option α
 | .nil,_=>none
 | .node l v r,k=>match k with
  | 0=>v
  | k+1=>bif Nat.beq (k % 2) 0 then l.get (k / 2) else r.get (k / 2)
def T.wF{α β:Type}:Nat→T α→Nat→Option α→(T α→Option β)→Option β
 | 0,_,_,_,_=>none
 | d+1,t,k,x,c=>match t with
  | .nil=>match k with
   | 0=>c (.node .nil x .nil)
   | k+1=>bif Nat.beq (k % 2) 0 then T.wF d .nil (k / 2) x (fun l'=>c (.node l' none .nil)) else T.wF d .nil (k / 2) x (fun r'=>c (.node .nil none r'))
  | .node l v r=>match k with
   | 0=>c (.node l x r)
   | k+1=>bif Nat.beq (k % 2) 0 then T.wF d l (k / 2) x (fun l'=>c (.node l' v r)) else T.wF d r (k / 2) x (fun r'=>c (.node l v r'))
theorem T.get_nil{α:Type}(j:Nat):(T.nil:T α).get j=none:=by simp[T.get]
theorem T.BA{α:Type}{l:T α}{v:Option α}{r:T α}{j:Nat}:(T.node l v r).get (j+1)=if j % 2=0 then l.get (j / 2) else r.get (j / 2):=by
 simp only[T.get];cases h:Nat.beq (j % 2) 0 with
 | true=>rw[if_pos (Nat.eq_of_beq_eq_true h)];rfl
 | false=>rw[if_neg (Nat.ne_of_beq_eq_false h)];rfl
theorem T.Bz{α β:Type}:∀(d:Nat) (t:T α) (k:Nat) (x:Option α) (c:T α→Option β) (r:β),T.wF d t k x c=some r→∃t',(∀j,t'.get j=if j=k then x else t.get j)∧c t'=some r
 | 0,t,k,x,c,r,h=>by simp[T.wF] at h
 | d+1,t,k,x,c,r,h=>by
  cases t with
  | nil=>
   cases k with
   | zero=>
    simp only[T.wF] at h;refine⟨_,fun j=>?_,h⟩;cases j with
    | zero=>simp[T.get]
    | succ j=>rw[T.BA];simp[T.get_nil]
   | succ k=>
    simp only[T.wF] at h;cases hb:Nat.beq (k % 2) 0 with
    | true=>
     rw[hb] at h;have hk:=Nat.eq_of_beq_eq_true hb;obtain⟨t',h1,h2⟩:=T.Bz d _ _ _ _ _ h;refine⟨_,fun j=>?_,h2⟩;cases j with
     | zero=>simp[T.get]
     | succ j=>
      rw[T.BA,h1];simp only[T.get_nil];split<;>split<;>first | rfl | omega | (split<;>first | rfl | omega)
    | false=>
     rw[hb] at h;have hk:=Nat.ne_of_beq_eq_false hb;obtain⟨t',h1,h2⟩:=T.Bz d _ _ _ _ _ h;refine⟨_,fun j=>?_,h2⟩;cases j with
     | zero=>simp[T.get]
     | succ j=>
      rw[T.BA,h1];simp only[T.get_nil];split<;>split<;>first | rfl | omega | (split<;>first | rfl | omega)
  | node l v rr=>
   cases k with
   | zero=>
    simp only[T.wF] at h;refine⟨_,fun j=>?_,h⟩;cases j with
    | zero=>simp[T.get]
    | succ j=>rw[T.BA,T.BA];simp
   | succ k=>
    simp only[T.wF] at h;cases hb:Nat.beq (k % 2) 0 with
    | true=>
     rw[hb] at h;have hk:=Nat.eq_of_beq_eq_true hb;obtain⟨t',h1,h2⟩:=T.Bz d _ _ _ _ _ h;refine⟨_,fun j=>?_,h2⟩;cases j with
     | zero=>simp[T.get]
     | succ j=>
      rw[T.BA,T.BA,h1];split<;>split<;>first | rfl | omega | (split<;>first | rfl | omega)
    | false=>
     rw[hb] at h;have hk:=Nat.ne_of_beq_eq_false hb;obtain⟨t',h1,h2⟩:=T.Bz d _ _ _ _ _ h;refine⟨_,fun j=>?_,h2⟩;cases j with
     | zero=>simp[T.get]
     | succ j=>
      rw[T.BA,T.BA,h1];split<;>split<;>first | rfl | omega | (split<;>first | rfl | omega)
def xI{β:Type}(n:Nat)(c:Nat→Option β):Option β:=match n with | 0=>c 0 | m+1=>c (m+1)
theorem DC{β:Type}(n:Nat)(c:Nat→Option β):xI n c=c n:=by cases n<;>rfl
def Yt{β:Type}(n:Int)(c:Int→Option β):Option β:=match n with | .ofNat m=>xI m fun m'=>c (.ofNat m') | .negSucc m=>xI m fun m'=>c (.negSucc m')
theorem Zr3{β:Type}(n:Int)(c:Int→Option β):Yt n c=c n:=by cases n<;>simp[Yt,DC]
def ZsC{β:Type}(b:Bool)(c:Bool→Option β):Option β:=match b with | true=>c true | false=>c false
theorem ZnD{β:Type}(n:Bool)(c:Bool→Option β):ZsC n c=c n:=by cases n<;>rfl
def Ye{β:Type}(x:AV)(c:AV→Option β):Option β:=
 match x with
 | .v y=>match y with
  | .int k z=>Yt z fun z'=>c (.v (.int k z'))
  | .bool b=>ZsC b fun b'=>c (.v (.bool b'))
  | y=>c (.v y)
 | .own id off len=>xI id fun id'=>xI off fun off'=>xI len fun len'=>c (.own id' off' len')
 | .ptr id ix d=>xI id fun id'=>xI ix fun ix'=>xI d fun d'=>c (.ptr id' ix' d')
 | .mp id=>xI id fun id'=>c (.mp id')
 | x=>c x
theorem Zos{β:Type}(x:AV)(c:AV→Option β):Ye x c=c x:=by
 unfold Ye;split
 ·split<;>simp[Zr3,ZnD]
 ·simp[DC]
 ·simp[DC]
 ·simp[DC]
 ·rfl
abbrev TE:=T AV
abbrev TB:=T aF
def T.af(a:TE):AF:=fun s=>match a.get s with | some x=>x | none=>.junk
def T.lT(n:Nat)(t:TB):St:=⟨n,t.get⟩
def dK{β:Type}(d:Option Nat)(a:TE)(x:AV)(c:TE→Option β):Option β:=
 match d with
 | none=>c a
 | some d=>Ye x fun x'=>T.wF 64 a d (some x') c
theorem Cr{β:Type}{d:Option Nat}{a:TE}{x:AV}{c:TE→Option β}{r:β}(h:dK d a x c=some r):∃a':TE,a'.af=a.af.put d x∧c a'=some r:=by
 cases d with
 | none=>exact⟨a,rfl,h⟩
 | some d=>
  simp only[dK,Zos] at h;obtain⟨t',h1,h2⟩:=T.Bz _ _ _ _ _ _ h;refine⟨t',funext fun j=>?_,h2⟩;simp only[T.af,h1,AF.put,bF];by_cases hj:j=d
  ·rw[if_pos hj,if_pos hj]
  ·rw[if_neg hj,if_neg hj]
def MS(t:TB):List Nat→Option (List aF)
 | []=>some []
 | i::is=>match t.get i with
  | none=>none
  | some b=>match MS t is with
   | none=>none
   | some bs=>some (b::bs)
theorem Zlz(t:TB):∀(F:List Nat),MS t F=F.mapM t.get
 | []=>by simp[MS]
 | i::is=>by
  simp only[MS,List.mapM_cons,Zlz t is];cases t.get i with
  | none=>rfl
  | some b=>cases is.mapM t.get<;>rfl
def RF{β:Type}(t:TB):List Nat→List (Option aF)→(TB→Option β)→Option β
 | i::is,k::ks,c=>T.wF 64 t i k fun t'=>RF t' is ks c
 | _,_,c=>c t
theorem ZiQ{β:Type}{n:Nat}:∀{F:List Nat} {ks:List (Option aF)} {t:TB} {c:TB→Option β} {r:β},RF t F ks c=some r→∃t':TB,t'.lT n=(t.lT n).fD F ks∧c t'=some r
 | [],ks,t,c,r,h=>by cases ks<;>exact⟨t,rfl,h⟩
 | i::is,[],t,c,r,h=>⟨t,rfl,h⟩
 | i::is,k::ks,t,c,r,h=>by
  simp only[RF] at h;obtain⟨t',h1,h2⟩:=T.Bz _ _ _ _ _ _ h;obtain⟨t2,h3,h4⟩:=ZiQ h2;refine⟨t2,?_,h4⟩;rw[h3];simp only[St.fD];congr 1;exact St.ext' rfl (fun j=>by simp only[T.lT,h1,aG])
def ZtP{β:Type}(t:TB)(i:Nat)(b:Option aF)(c:TB→Option β):Option β:=
 match b with
 | none=>c t
 | some b=>T.wF 64 t i (some b) c
theorem Zp6{β:Type}{n i:Nat}{b:Option aF}{t:TB}{c:TB→Option β}{r:β}(h:ZtP t i b c=some r):∃t':TB,t'.lT n=(t.lT n).iU i b∧c t'=some r:=by
 cases b with
 | none=>exact⟨t,rfl,h⟩
 | some b=>
  obtain⟨t',h1,h2⟩:=T.Bz _ _ _ _ _ _ h;exact⟨t',St.ext' rfl (fun j=>by simp only[T.lT,h1,St.iU,aG]),h2⟩
def wOf(F:List Nat)(o:Out)(aC:Nat):List Nat:=(match o.up with | []=>[] | _=>F)++(match o.nw with | some _=>[aC] | none=>[])
def ML{β:Type}(e:Eff)(t:TB)(aC:Nat)(c:AV→TB→List Nat→List Nat→Option β):Option β:=
 match e with
 | ⟨F,k⟩=>match MS t F with
  | none=>none
  | some bs=>match k bs with
   | none=>none
   | some o=>RF t F o.up fun t1=>ZtP t1 aC o.nw fun t2=>c (o.v aC) t2 F (wOf F o aC)
theorem Xb{β:Type}{n:Nat}{e:Eff}{t:TB}{aC:Nat}{c:AV→TB→List Nat→List Nat→Option β}{r:β}(h:ML e t aC c=some r) :
  ∃v t' F W,e.run (t.lT n) aC=some (v,t'.lT n)∧e.runT (t.lT n) aC=some (v,t'.lT n,F,W)∧c v t' F W=some r:=by
 obtain⟨F,k⟩:=e;simp only[ML,Zlz] at h;split at h
 ·cases h
 ·rename_i bs hbs
  split at h
  ·cases h
  ·rename_i o ho
   obtain⟨t1,h1,h2⟩:=ZiQ (n:=n) h;obtain⟨t2,h3,h4⟩:=Zp6 (n:=n) h2;refine⟨_,t2,_,_,?_,?_,h4⟩
   ·simp only[Eff.run,T.lT,hbs,ho]
    simp only[Option.some.injEq,Prod.mk.injEq,true_and];rw[h1] at h3;exact h3.symm
   ·simp only[Eff.runT,T.lT,hbs,ho]
    simp only[Option.some.injEq,Prod.mk.injEq,true_and];rw[h1] at h3;exact⟨h3.symm,rfl⟩
def u7(f:AV→Option (AV×List Nat)):List AV→Option (List AV×List Nat)
 | []=>some ([],[])
 | x::xs=>match f x with
  | none=>none
  | some (y,F)=>match u7 f xs with
   | none=>none
   | some (ys,G)=>some (y::ys,F++G)
def Ac:Nat→AV→Bool
 | 0,_=>false
 | n+1,x=>match x with
  | .v _=>true
  | .sl _ xs | .agg xs | .aM xs=>xs.all (Ac n)
  | .bJ x _=>Ac n x
  | .aP _ a b=>a.all (Ac n) && b.all (Ac n)
  | _=>false
theorem zI:∀(n:Nat) (x:AV),Ac n x=true→aY x
 | 0,x,h=>by simp[Ac] at h
 | n+1,x,h=>by
  cases x<;>simp only[Ac,List.all_eq_true,Bool.and_eq_true,Bool.false_eq_true] at h
  ·exact .v _
  ·exact .sl _ _ fun y hy=>zI n y (h y hy)
  ·exact .bJ _ _ (zI n _ h)
  ·exact .agg _ fun y hy=>zI n y (h y hy)
  ·exact .aM _ fun y hy=>zI n y (h y hy)
  ·exact .aP _ _ _ (fun y hy=>zI n y (h.1 y hy)) (fun y hy=>zI n y (h.2 y hy))
def NU:Nat→AV→Bool
 | 0,_=>false
 | n+1,x=>match x with
  | .v _=>true
  | .agg xs | .aM xs=>xs.all (NU n)
  | _=>false
theorem XR:∀(n:Nat) (x:AV),NU n x=true→xB x
 | 0,x,h=>by simp[NU] at h
 | n+1,x,h=>by
  cases x<;>simp only[NU,List.all_eq_true,Bool.false_eq_true] at h
  ·exact .v _
  ·exact .agg _ fun y hy=>XR n y (h y hy)
  ·exact .aM _ fun y hy=>XR n y (h y hy)
def sO:Nat→(Nat→Option aF)→AV→Option (AV×List Nat)
 | 0,_,_=>none
 | n+1,g,x=>match x with
  | .v y=>some (.v y,[])
  | .own id off len=>match g id with
   | some (.arr es xs)=>if off+len≤xs.length then (u7 (sO n g) ((xs.drop off).take len)).map fun p=>(.sl false p.1,id::p.2) else none
   | _=>none
  | .ptr id ix c=>match g id with
   | some (.arr es xs)=>match xs[ix]? with
    | some y=>(sO n g y).map fun p=>(.bJ p.1 c,id::p.2)
    | none=>none
   | _=>none
  | .agg cs=>(u7 (sO n g) cs).map fun p=>(.agg p.1,p.2)
  | .aM cs=>(u7 (sO n g) cs).map fun p=>(.aM p.1,p.2)
  | .aP f a b=>(u7 (sO n g) a).bind fun p=>(u7 (sO n g) b).map fun q=>(.aP f p.1 q.1,p.2++q.2)
  | .sl t xs=>if Ac n (.sl t xs)=true then some (.sl t xs,[]) else none
  | .bJ x c=>if Ac n (.bJ x c)=true then some (.bJ x c,[]) else none
  | _=>none
theorem L8{f:AV→Option (AV×List Nat)}{R:List Nat→AV→AV→Prop}(hm:∀F G x y,(∀i∈F,i∈G)→R F x y→R G x y)(hf:∀x y F,f x=some (y,F)→R F x y) :
  ∀{xs ys:List AV} {F:List Nat},u7 f xs=some (ys,F)→ys.length=xs.length∧∀i (h1:i < xs.length) (h2:i < ys.length),R F (xs[i]) (ys[i])
 | [],ys,F,h=>by simp[u7] at h;obtain⟨rfl,rfl⟩:=h;simp
 | x::xs,ys,F,h=>by
  simp only[u7] at h;split at h
  ·cases h
  ·rename_i y F1 hy
   split at h
   ·cases h
   ·rename_i zs G hz
    simp only[Option.some.injEq,Prod.mk.injEq] at h;obtain⟨rfl,rfl⟩:=h;obtain⟨h1,h2⟩:=L8 hm hf hz;refine⟨by simp[h1],fun i k1 k2=>?_⟩;cases i with
    | zero=>exact hm _ _ _ _ (fun i hi=>List.mem_append_left _ hi) (hf _ _ _ hy)
    | succ i=>exact hm _ _ _ _ (fun i hi=>List.mem_append_right _ hi) (h2 i (by simpa using k1) (by simpa using k2))
theorem Fz.mono'{g g':Nat→Option aF}{x y:AV}(h:Fz g x y)(hg:∀i k,g i=some k→g' i=some k):Fz g' x y:=by
 induction h with
 | closed x h=>exact .closed x h
 | loose t xs h=>exact .loose t xs h
 | own id off len es xs zs hi hl hz h ih=>exact .own id off len es xs zs (hg _ _ hi) hl hz ih
 | agg cs ds hl h ih=>exact .agg cs ds hl ih
 | aM cs ds hl h ih=>exact .aM cs ds hl ih
 | ptr id ix c es xs z hi hl h ih=>exact .ptr id ix c es xs z (hg _ _ hi) hl ih
 | pre id es cs ds hi hc=>exact .pre id es cs ds (hg _ _ hi) hc
 | aP f vw bs as' bs' hl hm h k ih ik=>exact .aP f vw bs as' bs' hl hm ih ik
theorem PO{F G:List Nat}{g:Nat→Option aF}(h:∀i∈F,i∈G):∀i k,only F g i=some k→only G g i=some k:=by
 intro i k e;simp only[only] at e ⊢;split at e
 ·rename_i hi;rw[if_pos (h i hi)];exact e
 ·cases e
theorem Jf{g:Nat→Option aF}:∀(n:Nat) (x y:AV) (F:List Nat),sO n g x=some (y,F)→Fz (only F g) x y
 | 0,x,y,F,h=>by simp[sO] at h
 | n+1,x,y,F,h=>by
  have hm:∀(F G:List Nat) (x y:AV),(∀i∈F,i∈G)→Fz (only F g) x y→Fz (only G g) x y:=fun F G x y hs h=>h.mono' (PO hs)
  have ih:=fun {xs ys:List AV} {F:List Nat} (h:u7 (sO n g) xs=some (ys,F))=>L8 (R:=fun F x y=>Fz (only F g) x y) hm (fun x y F h=>Jf n x y F h) h
  cases x<;>simp only[sO] at h
  ·cases h
  ·simp only[Option.some.injEq,Prod.mk.injEq] at h;obtain⟨rfl,rfl⟩:=h;exact .closed _ (.v _)
  ·split at h
   ·rename_i hc
    simp only[Option.some.injEq,Prod.mk.injEq] at h;obtain⟨rfl,rfl⟩:=h;exact .closed _ (zI _ _ hc)
   ·cases h
  ·rename_i id off len
   split at h
   ·rename_i es xs hg
    split at h
    ·rename_i hl
     simp only[Option.map_eq_some_iff,Prod.mk.injEq] at h;obtain⟨⟨ys,G⟩,h1,rfl,rfl⟩:=h;obtain⟨h2,h3⟩:=ih h1;refine .own id off len es xs ys (by simp[only,hg]) hl (by rw[h2];simp;omega) (fun i k1 k2=>hm _ _ _ _ (fun i hi=>List.mem_cons_of_mem _ hi) (h3 i k1 k2))
    ·cases h
   ·cases h
  ·rename_i id ix c
   split at h
   ·rename_i es xs hg
    split at h
    ·rename_i z hz
     simp only[Option.map_eq_some_iff,Prod.mk.injEq] at h;obtain⟨⟨y,G⟩,h1,rfl,rfl⟩:=h;obtain⟨hix,rfl⟩:=List.getElem?_eq_some_iff.mp hz;exact .ptr id ix c es xs y (by simp[only,hg]) hix (hm _ _ _ _ (fun i hi=>List.mem_cons_of_mem _ hi) (Jf n _ _ _ h1))
    ·cases h
   ·cases h
  ·split at h
   ·rename_i hc
    simp only[Option.some.injEq,Prod.mk.injEq] at h;obtain⟨rfl,rfl⟩:=h;exact .closed _ (zI _ _ hc)
   ·cases h
  ·simp only[Option.map_eq_some_iff,Prod.mk.injEq] at h
   obtain⟨⟨ys,G⟩,h1,rfl,rfl⟩:=h;obtain⟨h2,h3⟩:=ih h1;exact .agg _ _ h2 h3
  ·simp only[Option.map_eq_some_iff,Prod.mk.injEq] at h
   obtain⟨⟨ys,G⟩,h1,rfl,rfl⟩:=h;obtain⟨h2,h3⟩:=ih h1;exact .aM _ _ h2 h3
  ·simp only[Option.bind_eq_some_iff,Option.map_eq_some_iff,Prod.mk.injEq] at h
   obtain⟨⟨ys,G⟩,h1,⟨zs,H⟩,k1,rfl,rfl⟩:=h;obtain⟨h2,h3⟩:=ih h1;obtain⟨k2,k3⟩:=ih k1;exact .aP _ _ _ _ _ h2 k2 (fun i a b=>hm _ _ _ _ (fun i hi=>List.mem_append_left _ hi) (h3 i a b)) (fun i a b=>hm _ _ _ _ (fun i hi=>List.mem_append_right _ hi) (k3 i a b))
  ·cases h
def Gm:Nat→(Nat→Option aF)→AV→Bool
 | 0,_,_=>false
 | n+1,g,x=>match x with
  | .v _=>true
  | .sl _ []=>true
  | .own id off len=>match g id with
   | some (.arr _ xs)=>((xs.drop off).take len).all (Gm n g)
   | _=>false
  | .agg cs | .aM cs=>cs.all (Gm n g)
  | _=>false
theorem Zip{f:AV→Option (AV×List Nat)}{R:AV→AV→Prop}{p:AV→Bool}(hf:∀x y F,p x=true→f x=some (y,F)→R x y) :
  ∀{xs ys:List AV} {F:List Nat},xs.all p=true→u7 f xs=some (ys,F)→ys.length=xs.length∧∀i (h1:i < xs.length) (h2:i < ys.length),R (xs[i]) (ys[i])
 | [],ys,F,_,h=>by simp[u7] at h;obtain⟨rfl,rfl⟩:=h;simp
 | x::xs,ys,F,hp,h=>by
  simp only[List.all_cons,Bool.and_eq_true] at hp;simp only[u7] at h;split at h
  ·cases h
  ·rename_i y F1 hy
   split at h
   ·cases h
   ·rename_i zs G hz
    simp only[Option.some.injEq,Prod.mk.injEq] at h;obtain⟨rfl,rfl⟩:=h;obtain⟨h1,h2⟩:=Zip hf hp.2 hz;refine⟨by simp[h1],fun i k1 k2=>?_⟩;cases i with
    | zero=>exact hf _ _ _ hp.1 hy
    | succ i=>exact h2 i (by simpa using k1) (by simpa using k2)
theorem Zm8{g:Nat→Option aF}:∀(n:Nat) (x y:AV) (F:List Nat),Gm n g x=true→sO n g x=some (y,F)→kI g x y
 | 0,x,y,F,h,_=>by simp[Gm] at h
 | n+1,x,y,F,hn,h=>by
  have ih:=fun {xs ys:List AV} {F:List Nat} (h1:xs.all (Gm n g)=true) (h:u7 (sO n g) xs=some (ys,F))=>Zip (R:=fun x y=>kI g x y) (fun x y F h1 h=>Zm8 n x y F h1 h) h1 h
  unfold Gm at hn;split at hn
  ·simp only[sO,Option.some.injEq,Prod.mk.injEq] at h;obtain⟨rfl,rfl⟩:=h;exact .v _
  ·rename_i t
   simp only[sO] at h;split at h
   ·simp only[Option.some.injEq,Prod.mk.injEq] at h;obtain⟨rfl,rfl⟩:=h;exact .nil _ _ id
   ·cases h
  ·rename_i id off len
   split at hn
   ·rename_i es xs hg
    simp only[sO,hg] at h;split at h
    ·rename_i hl
     simp only[Option.map_eq_some_iff,Prod.mk.injEq] at h;obtain⟨⟨ys,G⟩,h1,rfl,rfl⟩:=h;obtain⟨h2,h3⟩:=ih hn h1;exact .own id off len es xs ys hg hl (by rw[h2];simp;omega) h3
    ·cases h
   ·cases hn
  ·simp only[sO,Option.map_eq_some_iff,Prod.mk.injEq] at h
   obtain⟨⟨ys,G⟩,h1,rfl,rfl⟩:=h;obtain⟨h2,h3⟩:=ih hn h1;exact .agg _ _ h2 h3
  ·simp only[sO,Option.map_eq_some_iff,Prod.mk.injEq] at h
   obtain⟨⟨ys,G⟩,h1,rfl,rfl⟩:=h;obtain⟨h2,h3⟩:=ih hn h1;exact .aM _ _ h2 h3
  ·cases hn
def CK:=List AV→Nat→TB→(AV→Nat→TB→Option AV)→Option AV
def Nf(o:aZ)(a:TE):Option Bool:=
 match o.guard with
 | none=>some true
 | some (d,want)=>match a.get d with
  | some (.v (.bool b))=>some (b == want)
  | some (.aM [])=>some false
  | _=>none
theorem Jg{o:aZ}{a:TE}{b:Bool}(h:Nf o a=some b):gd o a.af=some b:=by
 unfold Nf at h;unfold gd;split at h
 ·rename_i hg;rw[hg];exact h
 ·rename_i d w hg
  rw[hg];simp only;split at h
  ·rename_i c hc
   simp only[T.af,hc];exact h
  ·rename_i hc
   simp only[T.af,hc];exact h
  ·cases h
def G5(call:FuncId→CK)(base:Nat):List aZ→Nat→TE→Nat→TB→(TE→Nat→TB→Option AV)→Option AV
 | [],_,a,n,t,k=>k a n t
 | o::os,i,a,n,t,k=>match Nf o a with
  | none=>none
  | some false=>dK o.dst a (.aM []) fun a'=>G5 call base os (i+1) a' n t k
  | some true=>match o.call with
   | some (G,xs)=>match G.ev a.af with
    | .aP f first cap=>call f (first++xs.map (·.ev a.af)++cap) n t fun r n' t'=>dK o.dst a r fun a'=>G5 call base os (i+1) a' n' t' k
    | _=>none
   | none=>ML (ex o.op a.af) t (base+i) fun v t' _ _=>dK o.dst a v fun a'=>G5 call base os (i+1) a' n t' k
def Xv(P:Program)(call:FuncId→CK):Prop:=∀f args n t c r,call f args n t c=some r→∀K:AV→St→Prop,(∀x n t,c x n t=some r→K x (t.lT n))→aQ P f args (t.lT n) K
theorem Me{P:Program}{call:FuncId→CK}(hc:Xv P call){base:Nat}{K:AF→St→Prop}{r:AV}:∀(os:List aZ) (i:Nat) (a:TE) (n:Nat) (t:TB) (k:TE→Nat→TB→Option AV),
  G5 call base os i a n t k=some r→(∀a n t,k a n t=some r→K a.af (t.lT n))→RG P base os i K a.af (t.lT n)
 | [],i,a,n,t,k,h,hk=>hk _ _ _ h
 | o::os,i,a,n,t,k,h,hk=>by
  simp only[G5] at h;simp only[RG];split at h
  ·cases h
  ·rename_i hg
   rw[Jg hg];obtain⟨a',h1,h2⟩:=Cr h;simp only;rw[←h1];exact Me hc os _ _ _ _ _ h2 hk
  ·rename_i hg
   rw[Jg hg];simp only;cases hcl:o.call with
   | some p=>
    obtain⟨G,xs⟩:=p;rw[hcl] at h;simp only at h ⊢;split at h
    ·rename_i f first cap hG
     rw[hG];refine hc _ _ _ _ _ _ h _ fun x n t hx=>?_
     obtain⟨a',h1,h2⟩:=Cr hx;rw[←h1];exact Me hc os _ _ _ _ _ h2 hk
    ·cases h
   | none=>
    rw[hcl] at h;simp only at h ⊢;obtain⟨v,t',F,W,h1,_,h3⟩:=Xb (n:=n) h;rw[h1];obtain⟨a',h4,h5⟩:=Cr h3;simp only;rw[←h4];exact Me hc os _ _ _ _ _ h5 hk
def R4(xs ys:List Nat):Bool:=xs.all fun j=>!ys.elem j
theorem Xa{xs ys:List Nat}(h:R4 xs ys=true):∀j∈xs,j∉ys:=by
 intro j hj;have:=(List.all_eq_true.mp h) j hj;simpa using this
def Gf:List Bool→List (List Nat×List Nat)→List Nat→List Nat→Bool
 | true::bs,p::T,F,W=>R4 p.2 F && (R4 W p.1 && (R4 p.2 W && Gf bs T F W))
 | false::bs,_::T,F,W=>Gf bs T F W
 | _,_,_,_=>true
theorem Qh:∀{bs:List Bool} {T:List (List Nat×List Nat)} {F W:List Nat},Gf bs T F W=true→lW bs T F W
 | [],_,_,_,_=>by simp only[lW]
 | true::_,[],_,_,_=>by simp only[lW]
 | false::_,[],_,_,_=>by simp only[lW]
 | true::bs,p::T,F,W,h=>by
  simp only[Gf,Bool.and_eq_true] at h;simp only[lW];exact⟨⟨Xa h.1,Xa h.2.1,Xa h.2.2.1⟩,Qh h.2.2.2⟩
 | false::bs,p::T,F,W,h=>by
  simp only[Gf] at h;simp only[lW];exact Qh h
def DZ{β:Type}(b:Bool)(c:Option β):Option β:=match b with | true=>c | false=>none
theorem IX{β:Type}{b:Bool}{c:Option β}{r:β}(h:DZ b c=some r):b=true∧c=some r:=by cases b<;>simp[DZ] at h ⊢;exact h
def Ka(fn:FuncId→List AV→Option (AV×Bool))(base:Nat):List aZ→List (List Bool)→Nat→List (List Nat×List Nat)→TE→Nat→TB→(TE→Nat→TB→Option AV)→Option AV
 | [],_,_,_,a,n,t,k=>k a n t
 | o::os,fr,i,L,a,n,t,k=>match Nf o a with
  | none=>none
  | some false=>dK o.dst a (.aM []) fun a'=>Ka fn base os fr.tail (i+1) (sP fr L [] []) a' n t k
  | some true=>match o.call with
   | some (G,xs)=>match G.ev a.af with
    | .aP f first cap=>match u7 (sO 40 t.get) (first++xs.map (·.ev a.af)++cap) with
     | none=>none
     | some (args',F)=>match fn f args' with
      | none=>none
      | some (r,nw)=>DZ ((NU 40 r || (Ac 40 r && (F.isEmpty || nw))) && Gf (fr.headD []) L F []) (dK o.dst a r fun a'=>Ka fn base os fr.tail (i+1) (sP fr L F []) a' n t k)
    | _=>none
   | none=>ML (ex o.op a.af) t (base+i) fun v t' F W=>DZ (Gf (fr.headD []) L F W) (dK o.dst a v fun a'=>Ka fn base os fr.tail (i+1) (sP fr L F W) a' n t' k)
theorem QH{P:Program}{fn:FuncId→List AV→Option (AV×Bool)}(hc:∀f args r b,fn f args=some (r,b)→aN P f args r∧(b=true→rW P f args r)){base:Nat}{K:AF→St→Prop}{r:AV} :
  ∀(os:List aZ) (fr:List (List Bool)) (i:Nat) (L:List (List Nat×List Nat)) (a:TE) (n:Nat) (t:TB) (k:TE→Nat→TB→Option AV),
  Ka fn base os fr i L a n t k=some r→(∀a n t,k a n t=some r→K a.af (t.lT n))→RD P base os fr i L K a.af (t.lT n)
 | [],fr,i,L,a,n,t,k,h,hk=>hk _ _ _ h
 | o::os,fr,i,L,a,n,t,k,h,hk=>by
  simp only[Ka] at h;simp only[RD];split at h
  ·cases h
  ·rename_i hg
   rw[Jg hg];obtain⟨a',h1,h2⟩:=Cr h;simp only;rw[←h1];exact QH hc os _ _ _ _ _ _ _ h2 hk
  ·rename_i hg
   rw[Jg hg];simp only;cases hcl:o.call with
   | some p=>
    obtain⟨G,xs⟩:=p;rw[hcl] at h;simp only at h ⊢;split at h
    ·rename_i f first cap hG
     rw[hG];split at h
     ·cases h
     ·rename_i args' F hmo
      split at h
      ·cases h
      ·rename_i x nw hx
       obtain⟨h1,h2⟩:=IX h;obtain⟨a',h3,h4⟩:=Cr h2;simp only[Bool.and_eq_true,Bool.or_eq_true,List.isEmpty_iff] at h1;obtain⟨q1,q2⟩:=L8 (R:=fun F x y=>Fz (only F t.get) x y) (fun F G x y hs h=>h.mono' (PO hs)) (fun x y F h=>Jf 40 x y F h) hmo;refine⟨x,F,⟨args',(hc _ _ _ _ hx).1,q1,q2,?_⟩,Qh h1.2,?_⟩
       ·rcases h1.1 with h5 | h5
        ·exact .inl (XR _ _ h5)
        ·rcases h5.2 with h6 | h6
         ·exact .inr (.inl ⟨h6,zI _ _ h5.1⟩)
         ·exact .inr (.inr ⟨zI _ _ h5.1,(hc _ _ _ _ hx).2 h6⟩)
       ·rw[←h3];exact QH hc os _ _ _ _ _ _ _ h4 hk
    ·cases h
   | none=>
    rw[hcl] at h;simp only at h ⊢;obtain⟨v,t',F,W,_,h1,h3⟩:=Xb (n:=n) h;rw[h1];obtain⟨h6,h7⟩:=IX h3;obtain⟨a',h4,h5⟩:=Cr h7;simp only;rw[←h4];exact⟨Qh h6,QH hc os _ _ _ _ _ _ _ h5 hk⟩
mutual
def R7:Nat→AV→AV→Bool
 | 0,_,_=>false
 | n+1,x,y=>match x,y with
  | .v (.int k a),.v (.int k' a')=>decide (k=k') && decide (a=a')
  | .v (.bool a),.v (.bool b)=>decide (a=b)
  | .ptr a b c,.ptr a' b' c'=>Nat.beq a a' && (Nat.beq b b' && Nat.beq c c')
  | .own a b c,.own a' b' c'=>Nat.beq a a' && (Nat.beq b b' && Nat.beq c c')
  | .sl t xs,.sl t' ys=>decide (t=t') && Gc n xs ys
  | .agg xs,.agg ys=>Gc n xs ys
  | _,_=>false
def Gc:Nat→List AV→List AV→Bool
 | 0,_,_=>false
 | n+1,[],[]=>true
 | n+1,x::xs,y::ys=>R7 n x y && Gc n xs ys
 | _+1,_,_=>false
end
theorem ZpA:∀n,(∀x y,R7 n x y=true→x=y)∧∀xs ys,Gc n xs ys=true→xs=ys
 | 0=>⟨fun x y h=>by simp[R7] at h,fun xs ys h=>by simp[Gc] at h⟩
 | n+1=>by
  obtain⟨h1,h2⟩:=ZpA n;refine⟨fun x y h=>?_,fun xs ys h=>?_⟩
  ·unfold R7 at h
   split at h
   ·simp only[Bool.and_eq_true,decide_eq_true_eq] at h;obtain⟨rfl,rfl⟩:=h;rfl
   ·simp only[decide_eq_true_eq] at h;subst h;rfl
   ·simp only[Bool.and_eq_true] at h
    obtain⟨a,b,c⟩:=h;rw[Nat.eq_of_beq_eq_true a,Nat.eq_of_beq_eq_true b,Nat.eq_of_beq_eq_true c]
   ·simp only[Bool.and_eq_true] at h
    obtain⟨a,b,c⟩:=h;rw[Nat.eq_of_beq_eq_true a,Nat.eq_of_beq_eq_true b,Nat.eq_of_beq_eq_true c]
   ·simp only[Bool.and_eq_true,decide_eq_true_eq] at h
    obtain⟨rfl,b⟩:=h;rw[h2 _ _ b]
   ·rw[h2 _ _ h]
   ·cases h
  ·unfold Gc at h
   split at h
   ·cases ‹_+1=0›
   ·rfl
   ·rename_i m x xs y ys hm
    cases hm;simp only[Bool.and_eq_true] at h;rw[h1 _ _ h.1,h2 _ _ h.2]
   ·cases h
def Yi(x y:Option aF):Bool:=match x,y with
 | none,none=>true
 | some (.arr e xs),some (.arr e' ys)=>Nat.beq e e' && Gc 12 xs ys
 | _,_=>false
theorem Zp1{x y:Option aF}(h:Yi x y=true):x=y:=by
 unfold Yi at h;split at h
 ·rfl
 ·simp only[Bool.and_eq_true] at h
  rw[Nat.eq_of_beq_eq_true h.1,(ZpA 12).2 _ _ h.2]
 ·cases h
def RA(w:List Nat)(g g':Nat→Option aF):List (Nat×List Nat)→Bool
 | []=>true
 | (i,F)::T=>(match w.elem i with | true=>F.all fun j=>Yi (g' j) (g j) | false=>true) && RA w g g' T
theorem Zil{w:List Nat}{g g':Nat→Option aF}:∀{T:List (Nat×List Nat)},RA w g g' T=true→xE w g g' T
 | [],_=>trivial
 | (i,F)::T,h=>by
  simp only[RA,Bool.and_eq_true] at h;refine IU.mpr fun p hp hw j hj=>?_
  rcases List.mem_cons.mp hp with rfl | hp
  ·have hw':w.elem i=true:=by simpa using hw
   rw[hw'] at h;exact Zp1 (List.all_eq_true.mp h.1 j hj)
  ·exact IU.mp (Zil h.2) p hp hw j hj
def Kc(call:FuncId→CK)(base:Nat):List mQ→List (Nat×List Nat)→TE→Nat→TB→(TE→Nat→TB→Option AV)→Option AV
 | [],_,a,n,t,k=>k a n t
 | (i,o,w)::os,L,a,n,t,k=>match Nf o a with
  | none=>none
  | some false=>dK o.dst a (.aM []) fun a'=>Kc call base os ((i,Fq o a.af)::L) a' n t k
  | some true=>match o.call with
   | some (G,xs)=>match G.ev a.af with
    | .aP f first cap=>call f (first++xs.map (·.ev a.af)++cap) n t fun r n' t'=>DZ (RA w t.get t'.get L) (dK o.dst a r fun a'=>Kc call base os ((i,Fq o a.af)::L) a' n' t' k)
    | _=>none
   | none=>ML (ex o.op a.af) t (base+i) fun v t' _ _=>dK o.dst a v fun a'=>Kc call base os ((i,Fq o a.af)::L) a' n t' k
theorem QM{P:Program}{call:FuncId→CK}(hc:Xv P call){base:Nat}{K:AF→St→Prop}{r:AV}:∀(os:List mQ) (L:List (Nat×List Nat)) (a:TE) (n:Nat) (t:TB) (k:TE→Nat→TB→Option AV),
  Kc call base os L a n t k=some r→(∀a n t,k a n t=some r→K a.af (t.lT n))→jD P base os L K a.af (t.lT n)
 | [],L,a,n,t,k,h,hk=>hk _ _ _ h
 | (i,o,w)::os,L,a,n,t,k,h,hk=>by
  simp only[Kc] at h;simp only[jD,lS];split at h
  ·cases h
  ·rename_i hg
   rw[Jg hg];obtain⟨a',h1,h2⟩:=Cr h;simp only;rw[←h1];exact QM hc os _ _ _ _ _ h2 hk
  ·rename_i hg
   rw[Jg hg];simp only;cases hcl:o.call with
   | some p=>
    obtain⟨G,xs⟩:=p;rw[hcl] at h;simp only at h ⊢;split at h
    ·rename_i f first cap hG
     rw[hG];refine hc _ _ _ _ _ _ h _ fun x n' t' hx=>?_
     obtain⟨h3,h4⟩:=IX hx;obtain⟨a',h1,h2⟩:=Cr h4;refine⟨Zil h3,?_⟩;rw[←h1];exact QM hc os _ _ _ _ _ h2 hk
    ·cases h
   | none=>
    rw[hcl] at h;simp only at h ⊢;obtain⟨v,t',F,W,h1,_,h3⟩:=Xb (n:=n) h;rw[h1];obtain⟨a',h4,h5⟩:=Cr h3;simp only;rw[←h4];exact QM hc os _ _ _ _ _ h5 hk
structure Tab where
 code:FuncId→Option (AC×List RV×Nat)
 ext:FuncId→Option (List AV→Option Value)
 zq:FuncId→Option (List AV→Option AV)
def wT(P:Program)(f:FuncId)(ac:AC)(rs:List RV)(n:Nat):Prop:=∀{args:List AV} {S:St} {K:AV→St→Prop},args.length=n→AW P ac (bK rs K) (bP args) S→aQ P f args S K
structure zL(P:Program)(tab:Tab):Prop where
 code:∀f p,tab.code f=some p→wT P f p.1 p.2.1 p.2.2
 ext:∀f g args v,tab.ext f=some g→g args=some v→aN P f args (.v v)
 zq:∀f g args r,tab.zq f=some g→g args=some r→aN P f args r
def DY(a:TE)(t:TB)(rs:List RV)(c:AV→Option AV):Option AV:=match bV a.af t.get rs with | none=>none | some xs=>c (cK xs)
def RK:=AC→TE→Nat→TB→(Exit→TE→Nat→TB→Option AV)→Option AV
def MI(args:List AV)(c:TE→Option AV):Option AV:=go args 0 .nil c
where go:List AV→Nat→TE→(TE→Option AV)→Option AV
 | [],_,a,c=>c a
 | x::xs,i,a,c=>T.wF 64 a i (some x) fun a'=>go xs (i+1) a' c
theorem Zkw{c:TE→Option AV}{r:AV}:∀(xs:List AV) (i:Nat) (a:TE),MI.go xs i a c=some r→∃a':TE,(∀j,a'.get j=if i≤j∧j < i+xs.length then xs[j - i]? else a.get j)∧c a'=some r
 | [],i,a,h=>⟨a,fun j=>by rw[if_neg (by simp only[List.length_nil];omega)],h⟩
 | x::xs,i,a,h=>by
  simp only[MI.go] at h;obtain⟨t',h1,h2⟩:=T.Bz _ _ _ _ _ _ h;obtain⟨a',h3,h4⟩:=Zkw xs _ _ h2;refine⟨a',fun j=>?_,h4⟩;rw[h3,h1];simp only[List.length_cons];by_cases hj:j=i
  ·subst hj;rw[if_neg (by omega),if_pos rfl,if_pos (by omega)];simp
  ·by_cases hlt:i+1≤j∧j < i+1+xs.length
   ·rw[if_pos hlt,if_pos (by omega)]
    have:j - i=(j - (i+1))+1:=by omega
    rw[this];simp
   ·rw[if_neg hlt,if_neg hj,if_neg (by omega)]
theorem Zkx{args:List AV}{c:TE→Option AV}{r:AV}(h:MI args c=some r):∃a:TE,a.af=bP args∧c a=some r:=by
 obtain⟨a,h1,h2⟩:=Zkw _ _ _ h;refine⟨a,funext fun j=>?_,h2⟩;simp only[T.af,h1,bP,List.getD_eq_getElem?_getD,T.get_nil];by_cases hj:j < args.length
 ·rw[if_pos (by omega)];simp[List.getElem?_eq_getElem hj]
 ·rw[if_neg (by omega)];simp[List.getElem?_eq_none (Nat.le_of_not_lt hj)]
def Rm{β:Type}(t:TB):List Nat→(TB→Option β)→Option β
 | [],c=>c t
 | i::is,c=>T.wF 64 t i none fun t'=>Rm t' is c
theorem Zio{β:Type}:∀{F:List Nat} {t:TB} {c:TB→Option β} {r:β},Rm t F c=some r→∃t':TB,(∀j,t'.get j=if j∈F then none else t.get j)∧c t'=some r
 | [],t,c,r,h=>⟨t,fun j=>by simp,h⟩
 | i::is,t,c,r,h=>by
  simp only[Rm] at h;obtain⟨t1,h1,h2⟩:=T.Bz _ _ _ _ _ _ h;obtain⟨t2,h3,h4⟩:=Zio h2;refine⟨t2,fun j=>?_,h4⟩;rw[h3,h1];by_cases hj:j=i
  ·simp[hj]
  ·simp[hj]
def Ml(tab:Tab)(run:RK)(f:FuncId):CK:=fun args n t c=>
 match tab.ext f with
 | some g=>match u7 (sO 40 t.get) args with
  | none=>none
  | some (args',_)=>match g args' with
   | none=>none
   | some v=>c (.v v) n t
 | none=>match tab.zq f with
 | some g=>match u7 (sO 40 t.get) args with
  | none=>none
  | some (args',F)=>match g args' with
   | none=>none
   | some r=>DZ (Ac 40 r) (Rm t F fun t'=>c r n t')
 | none=>match tab.code f with
 | none=>none
 | some (ac,ts,m)=>DZ (Nat.beq args.length m) (MI args fun a=>run ac a n t fun e a n t=>match e with
  | .normal=>DY a t ts fun x=>c x n t
  | .ret=>DY a t ts fun x=>c x n t
  | _=>none)
def Rq(g:Nat→Option aF)(x:AV):Option AV:=match sO 40 g x with
 | some (z,_)=>some (.aM [z,.v (.bool (Gm 40 g x))])
 | none=>none
def Xt:Option AV→Option (AV×Bool)
 | some (.aM [r,.v (.bool b)])=>some (r,b)
 | _=>none
def YT(tab:Tab)(run:RK)(f:FuncId)(args:List AV):Option AV:=
 match tab.code f with
 | none=>none
 | some (ac,ts,m)=>DZ (Nat.beq args.length m) (MI args fun a=>run ac a 0 .nil fun e a n t=>match e with
  | .normal=>DY a t ts fun x=>Rq t.get x
  | .ret=>DY a t ts fun x=>Rq t.get x
  | _=>none)
def Eh(tab:Tab)(run:RK)(f:FuncId)(args:List AV):Option (AV×Bool):=
 match tab.ext f with
 | some g=>match g args with
  | none=>none
  | some v=>some (.v v,false)
 | none=>match tab.zq f with
  | some g=>match g args with
   | none=>none
   | some r=>some (r,false)
  | none=>Xt (YT tab run f args)
def wI(tab:Tab)(run:RK):RK:=fun ac a n t k=>
 match ac with
 | .skip=>k .normal a n t
 | .reg none os=>xI (n+os.length) fun n'=>G5 (Ml tab run) n os 0 a n' t fun a n t=>k .normal a n t
 | .reg (some fr) os=>xI (n+os.length) fun n'=>Ka (Eh tab run) n os fr 0 [] a n' t fun a n t=>k .normal a n t
 | .wR l=>xI (n+l.length) fun n'=>Kc (Ml tab run) n l [] a n' t fun a n t=>k .normal a n t
 | .mE os p=>match p with
  | none=>xI (n+os.length) fun n'=>G5 (Ml tab run) n os 0 a n' t fun a n t=>k .normal a n t
  | some _=>none
 | .seq x y=>run x a n t fun e a n t=>match e with
  | .normal=>run y a n t k
  | e=>k e a n t
 | .cond c x y=>match c.ev a.af with
  | .v (.bool b)=>match b with
   | true=>run x a n t k
   | false=>run y a n t k
  | _=>none
 | .block id x=>run x a n t fun e a n t=>match e with
  | .exit j=>bif Nat.beq j id then k .normal a n t else k (.exit j) a n t
  | e=>k e a n t
 | .loop x=>run x a n t fun e a n t=>match e with
  | .normal=>run (.loop x) a n t k
  | e=>k e a n t
 | .exit id=>k (.exit id) a n t
 | .ret=>k .ret a n t
 | .scp x=>run x a n t fun e a n t=>match e with
  | .goto _=>none
  | e=>k e a n t
 | .bad=>none
def zX(tab:Tab):Nat→RK
 | 0=>fun _ _ _ _ _=>none
 | n+1=>wI tab (zX tab n)
def Q9(P:Program)(run:RK):Prop:=∀(ac:AC) (a:TE) (n:Nat) (t:TB) (k:Exit→TE→Nat→TB→Option AV) (r:AV),run ac a n t k=some r→
 ∀Q:Exit→AF→St→Prop,(∀e a n t,k e a n t=some r→Q e a.af (t.lT n))→AW P ac Q a.af (t.lT n)
theorem WB{P:Program}(hm:P.follows .mixedOrders=true){tab:Tab}(ht:zL P tab){run:RK}(hr:Q9 P run):Xv P (Ml tab run):=by
 intro f args n t c r h K hK;unfold Ml at h;split at h
 ·rename_i g hg
  split at h
  ·cases h
  ·rename_i args' F hmo
   split at h
   ·cases h
   ·rename_i v hv
    obtain⟨q1,q2⟩:=L8 (R:=fun F x y=>Fz (only F t.get) x y) (fun F G x y hs h=>h.mono' (PO hs)) (fun x y F h=>Jf 40 x y F h) hmo;exact aQ.looks (ht.ext _ _ _ _ hg hv) ⟨q1,fun j h1 h2=>(q2 j h1 h2).mono' Fp⟩ (.v _) (hK _ _ _ h)
 split at h
 ·rename_i g hg
  split at h
  ·cases h
  ·rename_i args' F hmo
   split at h
   ·cases h
   ·rename_i v hv
    obtain⟨q1,q2⟩:=L8 (R:=fun F x y=>Fz (only F t.get) x y) (fun F G x y hs h=>h.mono' (PO hs)) (fun x y F h=>Jf 40 x y F h) hmo;obtain⟨h1,h2⟩:=IX h;obtain⟨t',h3,h4⟩:=Zio h2;have e:T.lT n t'=(T.lT n t).lose F:=St.ext' rfl (fun j=>by simp only[T.lT,h3,Ci]);refine aQ.gives F (ht.zq _ _ _ _ hg hv) ⟨q1,fun j h1 h2=>q2 j h1 h2⟩ (zI _ _ h1) ?_;rw[←e];exact hK _ _ _ h4
 split at h
 ·cases h
 ·rename_i ac ts m htab
  obtain⟨h1,h2⟩:=IX h;obtain⟨a,h3,h4⟩:=Zkx h2;refine ht.code _ _ htab (Nat.eq_of_beq_eq_true h1) ?_;rw[←h3];refine hr _ _ _ _ _ _ h4 _ fun e a n t he=>?_
  have key:DY a t ts (fun x=>c x n t)=some r→∃xs,bV a.af (t.lT n).g ts=some xs∧K (cK xs) (t.lT n):=by
   intro h5;unfold DY at h5;split at h5
   ·cases h5
   ·rename_i xs hx;exact⟨xs,hx,hK _ _ _ h5⟩
  cases e<;>simp only[bK] at he ⊢<;>first | exact key he | cases he
theorem Zgi{o:Option AV}{r:AV}{b:Bool}(h:Xt o=some (r,b)):o=some (.aM [r,.v (.bool b)]):=by
 unfold Xt at h;split at h
 ·simp only[Option.some.injEq,Prod.mk.injEq] at h;obtain⟨rfl,rfl⟩:=h;rfl
 ·cases h
theorem ZsZ{P:Program}(hm:P.follows .mixedOrders=true){tab:Tab}(ht:zL P tab){run:RK}(hr:Q9 P run){f:FuncId}{args:List AV}{r:AV}{b:Bool}(h:YT tab run f args=some (.aM [r,.v (.bool b)])) :
  aQ P f args S0 fun r' S'=>iQ r r' S'∧(b=true→kI S'.g r' r):=by
 unfold YT at h;split at h
 ·cases h
 ·rename_i ac ts m htab
  obtain⟨h1,h2⟩:=IX h;obtain⟨a,h3,h4⟩:=Zkx h2;refine ht.code _ _ htab (Nat.eq_of_beq_eq_true h1) ?_;rw[←h3];have e0:S0=T.lT 0 (.nil:TB):=St.ext' rfl (fun j=>by simp[S0,T.lT,T.get_nil]);rw[e0];refine hr _ _ _ _ _ _ h4 _ fun e a n t he=>?_
  have key:DY a t ts (fun x=>Rq t.get x)=some (.aM [r,.v (.bool b)])→∃xs,bV a.af (t.lT n).g ts=some xs∧iQ r (cK xs) (t.lT n)∧(b=true→kI (t.lT n).g (cK xs) r):=by
   intro h5;unfold DY at h5;split at h5
   ·cases h5
   ·rename_i xs hx
    simp only[Rq] at h5;split at h5
    ·rename_i z F h6
     simp only[Option.some.injEq,AV.aM.injEq,List.cons.injEq,AV.v.injEq,Value.bool.injEq,and_true] at h5;obtain⟨rfl,rfl⟩:=h5;exact⟨xs,hx,(Jf _ _ _ _ h6).mono' Fp,fun hnw=>Zm8 _ _ _ _ hnw h6⟩
    ·cases h5
  cases e<;>simp only[bK] at he ⊢<;>first | exact key he | cases he
theorem XI{P:Program}(hm:P.follows .mixedOrders=true){tab:Tab}(ht:zL P tab){run:RK}(hr:Q9 P run){f:FuncId}{args:List AV}{r:AV}{b:Bool}(h:Eh tab run f args=some (r,b)) :
  aN P f args r∧(b=true→rW P f args r):=by
 unfold Eh at h;split at h
 ·rename_i g hg
  split at h
  ·cases h
  ·rename_i v hv
   cases h;exact⟨ht.ext _ _ _ _ hg hv,fun hb=>by cases hb⟩
 split at h
 ·rename_i g hg
  split at h
  ·cases h
  ·rename_i v hv
   cases h;exact⟨ht.zq _ _ _ _ hg hv,fun hb=>by cases hb⟩
 have:=ZsZ hm ht hr (Zgi h);exact⟨.uQ (this.mono fun _ _ h=>h.1),fun hb=>.uQ (this.mono fun _ _ h=>h.2 hb)⟩
theorem ZmE{P:Program}(hm:P.follows .mixedOrders=true){tab:Tab}(ht:zL P tab):∀m,Q9 P (zX tab m):=by
 intro m;induction m using Nat.strongRecOn with
 | _ m ih=>
  cases m with
  | zero=>intro ac a n t k r h;cases h
  | succ m=>
   have hr:=ih m (by omega);intro ac a n t k r h Q hQ;simp only[zX] at h;cases ac with
   | skip=>simp only[wI] at h;simp only[AW];exact hQ _ _ _ _ h
   | reg d os=>
    cases d with
    | none=>
     simp only[wI,DC] at h;exact Me (WB hm ht hr) (K:=fun a S=>Q .normal a S) _ _ _ _ _ _ h (fun a n t hk=>hQ _ _ _ _ hk)
    | some fr=>
     simp only[wI,DC] at h;exact QH (fun f args r b h=>XI hm ht hr h) (K:=fun a S=>Q .normal a S) _ _ _ _ _ _ _ _ h (fun a n t hk=>hQ _ _ _ _ hk)
   | wR l=>
    simp only[wI,DC] at h;exact QM (WB hm ht hr) (K:=fun a S=>Q .normal a S) _ _ _ _ _ _ h (fun a n t hk=>hQ _ _ _ _ hk)
   | mE os p=>
    cases p with
    | some x=>simp only[wI] at h;cases h
    | none=>
     simp only[wI,DC] at h;exact Iu _ _ (Me (WB hm ht hr) (K:=fun a S=>Q .normal a S) _ _ _ _ _ _ h (fun a n t hk=>hQ _ _ _ _ hk))
   | seq x y=>
    simp only[wI] at h;simp only[AW];refine hr _ _ _ _ _ _ h _ fun e a n t he=>?_
    cases e<;>simp only[jE] at he ⊢<;>first | exact hr _ _ _ _ _ _ he _ hQ | exact hQ _ _ _ _ he
   | cond c x y=>
    simp only[wI] at h;simp only[AW];split at h
    ·rename_i b hb
     rw[hb];simp only;split at h
     ·rw[if_pos rfl];exact hr _ _ _ _ _ _ h _ hQ
     ·rw[if_neg (by simp)];exact hr _ _ _ _ _ _ h _ hQ
    ·cases h
   | block id x=>
    simp only[wI] at h;simp only[AW];refine hr _ _ _ _ _ _ h _ fun e a n t he=>?_
    cases e<;>simp only[l7] at he ⊢
    case exit j=>
     cases hb:Nat.beq j id with
     | true=>rw[hb] at he;rw[if_pos (Nat.eq_of_beq_eq_true hb)];exact hQ _ _ _ _ he
     | false=>rw[hb] at he;rw[if_neg (Nat.ne_of_beq_eq_false hb)];exact hQ _ _ _ _ he
    all_goals exact hQ _ _ _ _ he
   | loop x=>
    refine⟨fun q a S=>q≤m+1∧∃(b:TE) (n:Nat) (t:TB),a=b.af∧S=t.lT n∧zX tab q (.loop x) b n t k=some r,⟨m+1,Nat.le_refl _,a,n,t,rfl,rfl,by simp only[zX];exact h⟩,?_⟩;rintro q a' S' ⟨hq,b,n',t',rfl,rfl,hrun⟩;cases q with
    | zero=>cases hrun
    | succ q=>
     simp only[zX,wI] at hrun;refine ih q (by omega) _ _ _ _ _ _ hrun _ fun e a n t he=>?_
     cases e<;>simp only[jE] at he ⊢
     case normal=>exact⟨q,by omega,by omega,a,n,t,rfl,rfl,he⟩
     all_goals exact hQ _ _ _ _ he
   | exit id=>simp only[wI] at h;simp only[AW];exact hQ _ _ _ _ h
   | ret=>simp only[wI] at h;simp only[AW];exact hQ _ _ _ _ h
   | scp x=>
    simp only[wI] at h;simp only[AW];refine hr _ _ _ _ _ _ h _ fun e a n t he=>?_
    cases e<;>simp only[xk] at he ⊢<;>first | exact hQ _ _ _ _ he | cases he
   | bad=>simp only[wI] at h;cases h
end Go.Rf
namespace Go.Rf
def ZtS(P:Program)(fn:Func):Option (AC×List RV×Nat):=
 match fn.body with
 | none=>none
 | some c=>bif (fn.name == "runtime.NumGoroutine") || !(Nat.ble (fn.params.size+fn.nfree) fn.ntmps) then none else
  match comp P fn.ntmps c with
  | none=>none
  | some ac=>match fn.results.toList.mapM (vv P) with
   | none=>none
   | some ts=>some (ac,ts,fn.params.size+fn.nfree)
def Yz(P:Program)(f:FuncId):Option (AC×List RV×Nat):=
 match P.funcs[f]? with
 | none=>none
 | some fn=>ZtS P fn
theorem ZrW{P:Program}(f:FuncId)(p:AC×List RV×Nat)(h:Yz P f=some p):jS P f p.1 p.2.1 p.2.2:=by
 unfold Yz at h;split at h
 ·cases h
 ·rename_i fn hf
  unfold ZtS at h;split at h
  ·cases h
  ·rename_i c hb
   cases hc:((fn.name == "runtime.NumGoroutine") || !(Nat.ble (fn.params.size+fn.nfree) fn.ntmps)) with
   | true=>rw[hc] at h;cases h
   | false=>
    rw[hc] at h;simp only[cond_false] at h;simp only[Bool.or_eq_false_iff,Bool.not_eq_false'] at hc;split at h
    ·cases h
    ·rename_i ac hac
     split at h
     ·cases h
     ·rename_i ts hts
      cases h;exact⟨fn,c,hf,hc.1,hb,hac,hts,Nat.le_of_ble_eq_true hc.2⟩
def Yl(P:Program):Tab:=⟨Yz P,fun _=>none,fun _=>none⟩
theorem Zj1{P:Program}(hm:P.follows .mixedOrders=true):zL P (Yl P):=
 ⟨fun f p h=>fun hn hb=>(ZrW f p h).wV hm hn hb,(fun f g args v h=>by cases h),(fun f g args v h=>by cases h)⟩
theorem aN.run{P:Program}(hm:P.follows .mixedOrders=true)(fuel:Nat){f:FuncId}{args:List AV}{r:AV}{b:Bool}(h:Eh (Yl P) (zX (Yl P) fuel) f args=some (r,b)):aN P f args r:=
 (XI hm (Zj1 hm) (ZmE hm (Zj1 hm) fuel) h).1
theorem aN.UZ{P:Program}(hm:P.follows .mixedOrders=true){tab:Tab}(ht:zL P tab)(fuel:Nat){f:FuncId}{args:List AV}{r:AV}{b:Bool}(h:Eh tab (zX tab fuel) f args=some (r,b)):aN P f args r:=
 (XI hm ht (ZmE hm ht fuel) h).1
def Zq0(P:Program)(fn:Func):Option (AC×List RV×Nat):=
 match fn.body with
 | none=>none
 | some c=>bif (fn.name == "runtime.NumGoroutine") || !(Nat.ble (fn.params.size+fn.nfree) fn.ntmps) then none else
  match Rj P fn.ntmps c with
  | none=>none
  | some ac=>match fn.results.toList.mapM (vv P) with
   | none=>none
   | some ts=>some (ac,ts,fn.params.size+fn.nfree)
def RJ(P:Program)(f:FuncId):Option (AC×List RV×Nat):=
 match P.funcs[f]? with
 | none=>none
 | some fn=>Zq0 P fn
def vJ(P:Program)(f:FuncId)(ac:AC)(rs:List RV)(n:Nat):Prop:=
 ∃fn c,P.funcs[f]? = some fn∧(fn.name == "runtime.NumGoroutine")=false∧fn.body=some c∧Rj P fn.ntmps c=some ac∧fn.results.toList.mapM (vv P)=some rs∧n≤fn.ntmps
theorem vJ.byC{P:Program}(hm:P.follows .mixedOrders=true){f:FuncId}{ac:AC}{rs:List RV}{n:Nat}(h:vJ P f ac rs n):wT P f ac rs n:=by
 intro args S K hn hb;obtain⟨fn,c,hf,hnm,hbd,hc,hr,h6⟩:=h;refine⟨vK hf hnm hbd,fun E w vals hG hS hv=>?_⟩;refine calls_of_wp hf hbd (wp_mono (Zky hm ac c hc _ _ _ hb E w _ hG hS (AA hv (by omega))) fun e act w' hp=>?_);obtain⟨a,S',E',q,s,r,ev⟩:=hp;cases e<;>simp only[bK] at q
 ·obtain⟨xs,q1,q2⟩:=q
  obtain⟨val,k1,k2⟩:=Aw (P:=P) (fn:=fn) s r hr q1;exact⟨r.defers,_,k1,_,_,S',E',rfl,q2,s,k2,ev⟩
 ·obtain⟨xs,q1,q2⟩:=q
  obtain⟨val,k1,k2⟩:=Aw (P:=P) (fn:=fn) s r hr q1;exact⟨r.defers,_,k1,_,_,S',E',rfl,q2,s,k2,ev⟩
theorem Zj0{P:Program}(f:FuncId)(p:AC×List RV×Nat)(h:RJ P f=some p):vJ P f p.1 p.2.1 p.2.2:=by
 unfold RJ at h;split at h
 ·cases h
 ·rename_i fn hf
  unfold Zq0 at h;split at h
  ·cases h
  ·rename_i c hb
   cases hc:((fn.name == "runtime.NumGoroutine") || !(Nat.ble (fn.params.size+fn.nfree) fn.ntmps)) with
   | true=>rw[hc] at h;cases h
   | false=>
    rw[hc] at h;simp only[cond_false] at h;simp only[Bool.or_eq_false_iff,Bool.not_eq_false'] at hc;split at h
    ·cases h
    ·rename_i ac hac
     split at h
     ·cases h
     ·rename_i ts hts
      cases h;exact⟨fn,c,hf,hc.1,hb,hac,hts,Nat.le_of_ble_eq_true hc.2⟩
def YA(P:Program)(ov:FuncId→Option (AC×List RV×Nat))(ext:FuncId→Option (List AV→Option Value)):Tab:=⟨fun f=>match ov f with | some p=>some p | none=>RJ P f,ext,fun _=>none⟩
theorem Zs0{P:Program}(hm:P.follows .mixedOrders=true){ov:FuncId→Option (AC×List RV×Nat)}{ext:FuncId→Option (List AV→Option Value)}
  (h1:∀f p,ov f=some p→wT P f p.1 p.2.1 p.2.2) (h2:∀f g args v,ext f=some g→g args=some v→aN P f args (.v v)):zL P (YA P ov ext):=by
 refine⟨fun f p h=>?_,h2,fun f g args v h=>by cases h⟩;simp only[YA] at h;split at h
 ·rename_i q hq
  cases h;exact h1 f _ hq
 ·exact(Zj0 f p h).byC hm
def Sj(P:Program)(ov:FuncId→Option (AC×List RV×Nat))(ext:FuncId→Option (List AV→Option Value))(zq:FuncId→Option (List AV→Option AV)):Tab:=⟨fun f=>match ov f with | some p=>some p | none=>RJ P f,ext,zq⟩
theorem ZrY{P:Program}(hm:P.follows .mixedOrders=true){ov:FuncId→Option (AC×List RV×Nat)}{ext:FuncId→Option (List AV→Option Value)}{zq:FuncId→Option (List AV→Option AV)}
  (h1:∀f p,ov f=some p→wT P f p.1 p.2.1 p.2.2) (h2:∀f g args v,ext f=some g→g args=some v→aN P f args (.v v)) (h3:∀f g args r,zq f=some g→g args=some r→aN P f args r):zL P (Sj P ov ext zq):=by
 refine⟨fun f p h=>?_,h2,h3⟩;simp only[Sj] at h;split at h
 ·rename_i q hq
  cases h;exact h1 f _ hq
 ·exact(Zj0 f p h).byC hm
end Go.Rf
namespace Go.Rf
open Go.RowKit Go.Sort
theorem bf.widen{E:Env}{S:St}{w w':World}(h:bf E S w)(hw:∀b,b < w.heap.size→w'.heap[b]? = w.heap[b]?):bf E S w':=by
 refine⟨fun b cs e=>?_,fun id k e=>?_,h.nL,h.fresh⟩
 ·rw[hw b (h.H6 e)];exact h.hH b cs e
 ·obtain⟨l,a1,a2,a3⟩:=h.live id k e
  exact⟨l,a1,a2,a3.mono (Env.le_refl _) (hw _ a3.lt)⟩
theorem Zmx{w:World}{b o:Nat}{d:Array Int}{cs:Array Value}{el:TypeId}{fz:Nat×Nat}(h:w.heap[b]? = some (.cells cs el fz)) :
  (putRow (Value.int .i64) w b o d).heap[b]? = some (.cells (putCells (Value.int .i64) o d cs) el fz):=by
 simp only[putRow,mapBlock,Array.getElem?_modify,if_true,h,Option.map_some,onCells]
theorem ZfQ{w:World}{b o:Nat}{d:Array Int}(c:Nat)(h:c≠b):(putRow (Value.int .i64) w b o d).heap[c]? = w.heap[c]?:=by
 simp only[putRow,mapBlock,Array.getElem?_modify];rw[if_neg (Ne.symm h)]
theorem Zct{o:Nat}{d:Array Int}{cs:Array Value}(k:Nat):(putCells (Value.int .i64) o d cs)[k]? = (cs[k]?).map fun x=>if o≤k∧k < o+d.size then Value.int .i64 d[k - o]! else x:=by
 simp only[putCells,Array.getElem?_mapIdx]
theorem Zhi{w:World}{b o:Nat}{d:Array Int}:(putRow (Value.int .i64) w b o d).heap.size=w.heap.size:=by
 simp[putRow,mapBlock]
theorem Wh:∀q:List Int,flat (q.map aj)=q.map aj
 | []=>rfl
 | x::q=>by
  have ih:=Wh q;simp only[List.map_cons,flat,List.flatMap_cons] at ih ⊢;rw[ih];rfl
theorem aQ.rewrite{P:Program}{f:FuncId}(aaK:tO P f){S:St}{id off:Nat}{ys:List AV}{l l':List Int}(hg:S.g id=some (.arr 1 ys))(hd:ys.drop off=l.map aj)(hne:l≠[])(hl:l'.length=l.length)(m:Nat)(hm:m≤l'.length)
  (res:Nat→Nat→Nat→Value) (r:AV) (hres:(r=.aM []∧∀b o cap,res b o cap=.tuple #[])∨(r=.own id off m∧0 < m∧∀b o cap,res b o cap=.slice (some ⟨b,o,none⟩) m cap))
  (hc:∀b o cap w,Holds (Value.int .i64) w b o l.toArray→b < w.heap.size→l.length≤cap→Calls P f #[.slice (some ⟨b,o,none⟩) l.length cap] w fun e w'=>e=.returned (res b o cap)∧∃n os,w'=grow (putRow (Value.int .i64) (Sort.ahead w n) b o l'.toArray) os)
  {K:AV→St→Prop} (hk:K r (S.set id (some (.arr 1 (ys.take off++(l'.take m).map aj))))):aQ P f [.own id off l.length] S K:=by
 refine⟨aaK,fun E w vals hG hS hv=>?_⟩;have hlen:0 < l.length:=List.length_pos_iff.mpr hne;obtain⟨loc,hρ,hN,hok⟩:=hS.live id _ hg;have hlt:=hok.lt;obtain⟨hes,htot,hc1,hat,cs,el,hheap,hsize,hcells⟩:=hok;have hoff:off+l.length=ys.length:=by have:=congrArg List.length hd;simp at this;omega
 have hfl:(flat ys).length=ys.length:=by rw[r9 hc1];omega
 have Np:(flat ys).drop off=l.map aj:=by
  have h1:=zw hc1 off;rw[hd] at h1;rw[Wh,Nat.mul_one] at h1;exact h1.symm
 obtain⟨hvs,hvj⟩:=hv;have hv0:=hvj 0 (by simp);simp only[List.getElem_cons_zero] at hv0;clear hvj
 have aap:vals=#[vals.getD 0 undef]:=by
  apply Array.ext
  ·simpa using hvs
  ·intro i h1 h2
   have:i=0:=by simp at h2;exact h2
   subst this;simp[Array.getD_eq_getD_getElem?,h1]
 generalize hva:vals.getD 0 undef=va at hv0 aap;subst aap;cases hv0 with
 | own _ _ _ A cap l0 hl0 hle hA=>
  rw[hρ] at hl0;cases hl0;obtain⟨hA1,hA2⟩:=hA (by omega);subst hA1
  have hget:∀j (hj:j < l.length),cs[loc.o+off*loc.es+j]? = some (.int .i64 (l[j])):=by
   intro j hj;obtain⟨u,a1,a2⟩:=hcells (off+j) (by omega)
   have e:(flat ys)[off+j]'(by omega)=aj (l[j]):=by
    have:((flat ys).drop off)[j]'(by simp;omega)=aj l[j]:=by simp[Np]
    rw[List.getElem_drop] at this;exact this
   rw[e] at a2;have:=a2.jl;rw[hes,Nat.mul_one,Nat.add_assoc,a1,this]
  have hH:Holds (Value.int .i64) w loc.b (loc.o+off*loc.es) l.toArray:=by
   intro j hj;have hj':j < l.length:=by simpa using hj
   refine⟨?_,?_⟩
   ·rw[Pg hheap,hget j hj']
    simp[hj']
   ·simp[World.frozen?,hheap]
  refine(hc loc.b (loc.o+off*loc.es) cap w hH hlt hle).mono ?_;rintro e w' ⟨rfl,n,os,rfl⟩
  let w1:=putRow (Value.int .i64) (Sort.ahead w n) loc.b (loc.o+off*loc.es) l'.toArray
  have abl:w1.heap[loc.b]? = some (.cells (putCells (Value.int .i64) (loc.o+off*loc.es) l'.toArray cs) el (0,0)):=Zmx (w:=Sort.ahead w n) hheap;have aar:∀b,b≠loc.b→w1.heap[b]? = w.heap[b]?:=fun b hb=>ZfQ (w:=Sort.ahead w n) b hb
  have abm:w1.heap.size=w.heap.size:=Zhi (w:=Sort.ahead w n)
  have hfn:flat (ys.take off++(l'.take m).map aj)=(flat ys).take off++(l'.take m).map aj:=by
   rw[vL];have h1:=zx hc1 off;rw[h1,Wh,Nat.mul_one]
  have hblk:mJ E w1 loc (.arr 1 (ys.take off++(l'.take m).map aj)):=by
   refine⟨hes,?_,?_,?_,_,el,abl,?_,?_⟩
   ·simp;omega
   ·intro x hx
    rcases List.mem_append.mp hx with hx | hx
    ·exact hc1 x (List.mem_of_mem_take hx)
    ·obtain⟨z,_,rfl⟩:=List.mem_map.mp hx;rfl
   ·intro y hy
    rw[hfn] at hy;rcases List.mem_append.mp hy with hy | hy
    ·exact hat y (List.mem_of_mem_take hy)
    ·obtain⟨z,_,rfl⟩:=List.mem_map.mp hy;rfl
   ·simp only[putCells,Array.size_mapIdx];exact hsize
   ·intro k hkk
    have hkl:k < off+m:=by rw[hfn] at hkk;simp at hkk;omega
    have hk2:k < (flat ys).length:=by omega
    obtain⟨u,a1,a2⟩:=hcells k hk2;simp only[hfn];by_cases hko:k < off
    ·refine⟨u,?_,?_⟩
     ·rw[Zct,a1]
      simp only[Option.map_some];rw[if_neg (by rw[hes];omega)]
     ·rw[List.getElem_append_left (by simp;omega),List.getElem_take];exact a2
    ·have hkm:k - off < l'.length:=by omega
     refine⟨.int .i64 (l'[k - off]),?_,?_⟩
     ·rw[Zct,a1]
      simp only[Option.map_some];rw[if_pos (by rw[hes];simp;omega)];have e1:loc.o+k - (loc.o+off*loc.es)=k - off:=by rw[hes];omega
      simp[e1,hkm]
     ·have hmin:min off (flat ys).length=off:=by omega
      rw[List.getElem_append_right (by simp;omega)];simp only[List.length_take,hmin,List.getElem_map,List.getElem_take];exact .v _ rfl
  have hS1:bf E (S.set id (some (.arr 1 (ys.take off++(l'.take m).map aj)))) w1:=hS.write hg hρ aar hblk
  have hgr:∀b,b < w1.heap.size→(grow w1 os).heap[b]? = w1.heap[b]?:=by
   intro b hb;simp only[grow];rw[Array.getElem?_append_left hb]
  have hS2:=hS1.widen hgr;have wO:kH E S w E (S.set id (some (.arr 1 (ys.take off++(l'.take m).map aj)))) w1:=kH.write hg hρ rfl rfl rfl abm aar
  have xJ:kH E (S.set id (some (.arr 1 (ys.take off++(l'.take m).map aj)))) w1 E (S.set id (some (.arr 1 (ys.take off++(l'.take m).map aj)))) (grow w1 os):=
   ⟨rfl,rfl,rfl,by simp[grow],fun b hb _=>hgr b hb,fun i l k hk hl=>.inr ⟨i,l,k,hk,hl,rfl⟩,Env.le_refl _,fun _ _ e=>.inl e⟩
  refine⟨_,r,_,E,rfl,hk,hS2,?_,⟨wO.trans xJ,Nat.le_refl _,fun _ _ e=>e⟩⟩;rcases hres with⟨rfl,h1⟩ | ⟨rfl,h0,h1⟩
  ·rw[h1];exact .aM _ _ rfl (by simp)
  ·rw[h1];exact .own id off m _ cap loc hρ (by omega) (fun _=>⟨rfl,hA2⟩)
def Co(P:Program)(f:FuncId):Prop:=∀(S:St) (id off:Nat) (ys:List AV) (l:List Int) (K:AV→St→Prop),S.g id=some (.arr 1 ys)→ys.drop off=l.map aj→l≠[]→l.length≤17592186043904→
 K (.aM []) (S.set id (some (.arr 1 (ys.take off++(l.mergeSort fun x y=>decide (x≤y)).map aj))))→aQ P f [.own id off l.length] S K
def Cn(P:Program)(f:FuncId):Prop:=∀(S:St) (id off:Nat) (ys:List AV) (l:List Int) (K:AV→St→Prop),S.g id=some (.arr 1 ys)→ys.drop off=l.map aj→l≠[]→l.length≤17592186043904→
 K (.own id off (Lib.compact l).length) (S.set id (some (.arr 1 (ys.take off++(Lib.compact l).map aj))))→aQ P f [.own id off l.length] S K
end Go.Rf
namespace Go.Rf
open Go.RowKit
def E0(w:World):Env:=⟨fun _=>none,fun b=>match w.heap[b]? with | some (.cells cs _ _)=>some cs | _=>none⟩
theorem Zvx(w:World):kT (E0 w).H w:=by
 intro b cs e;simp only[E0] at e;split at e
 ·rename_i c el fz h;cases e;exact⟨el,fz,h⟩
 ·cases e
theorem Zun(w:World):E0 w=⟨uM,(E0 w).H⟩:=rfl
def FR{H:Type}(P:Program)(t:TypeId)(d:DataW H):Prop:=∀n∈d.weights P t,n≤reachBytes
theorem ZkW{w:World}{a:Addr}{v:Value}(h:w.cell? a=some v):a.spot=none∧∃cs,(E0 w).H a.block=some cs∧cs[a.off]? = some v:=by
 unfold World.cell? at h;split at h
 ·rename_i c el fz hb
  split at h
  ·cases h
  ·rename_i hs
   refine⟨by simpa using hs,c,by simp[E0,hb],h⟩
 ·cases h
structure mK(P:Program)(fuel:Nat)(t:TypeId){X:Type}(enc:X→AV)(good:X→Prop):Prop where
 size:∀x,good x→(enc x).cells.length=P.cellsOf t
 atom:∀x,good x→∀y∈(enc x).cells,y.atom=true
 run:∀{H:Type} (eh:TypeId×Value→H) (w:World) (cs:List Value) (r:DataW H×List MemPlace),DataW.trod eh P w 0 (fun _=>true) true fuel t cs=some r→FR P t r.1→
  ∃x,good x∧cs.length=P.cellsOf t∧∀k (h:k < (enc x).cells.length),∃v,cs[k]? = some v∧aL (E0 w) ((enc x).cells[k]) v
theorem mK.map{P:Program}{fuel:Nat}{t:TypeId}{X Y:Type}{enc:X→AV}{good:X→Prop}(h:mK P fuel t enc good)(enc':Y→AV)(YU:Y→Prop)(f:X→Y)(g:Y→X)
  (he:∀x,enc' (f x)=enc x) (hg:∀x,good x→YU (f x)) (hi:∀y,YU y→good (g y)∧enc' y=enc (g y)):mK P fuel t enc' YU:=by
 refine⟨fun y hy=>?_,fun y hy=>?_,fun eh w cs r hr hw=>?_⟩
 ·obtain⟨h1,h2⟩:=hi y hy;rw[h2];exact h.size _ h1
 ·obtain⟨h1,h2⟩:=hi y hy;rw[h2];exact h.atom _ h1
 ·obtain⟨x,h1,h2,h3⟩:=h.run eh w cs r hr hw
  exact⟨f x,hg x h1,h2,by rw[he];exact h3⟩
theorem mK.zero{P:Program}{t:TypeId}{X:Type}{enc:X→AV}{good:X→Prop}(h1:∀x,good x→(enc x).cells.length=P.cellsOf t)(h2:∀x,good x→∀y∈(enc x).cells,y.atom=true):mK P 0 t enc good:=
 ⟨h1,h2,fun eh w cs r hr _=>by simp[DataW.trod] at hr⟩
theorem mK.int{P:Program}{t:TypeId}{k:IntKind}(ht:P.underlying t=some (.int k))(hc:P.cellsOf t=1)(fuel:Nat) :
  mK P fuel t (fun n:Int=>AV.v (.int k n)) (fun n=>k.min≤n∧n≤k.max):=by
 refine⟨fun x _=>by simp[AV.cells,hc],fun x _ y hy=>by simp[AV.cells] at hy;subst hy;rfl,fun eh w cs r hr hw=>?_⟩;cases fuel with
 | zero=>simp[DataW.trod] at hr
 | succ n=>
  unfold DataW.trod at hr;rw[ht] at hr;split at hr<;>simp_all;obtain⟨⟨rfl,h2⟩,_⟩:=hr;refine⟨_,by simpa[Lit.wf] using h2,fun j hj=>?_⟩;simp[AV.cells] at hj;subst hj;exact⟨_,rfl,.v _ rfl⟩
theorem mK.bool{P:Program}{t:TypeId}(ht:P.underlying t=some .bool)(hc:P.cellsOf t=1)(fuel:Nat) :
  mK P fuel t (fun b:Bool=>AV.v (.bool b)) (fun _=>True):=by
 refine⟨fun x _=>by simp[AV.cells,hc],fun x _ y hy=>by simp[AV.cells] at hy;subst hy;rfl,fun eh w cs r hr hw=>?_⟩;cases fuel with
 | zero=>simp[DataW.trod] at hr
 | succ n=>
  unfold DataW.trod at hr;rw[ht] at hr;split at hr
  ·rename_i b _
   refine⟨b,trivial,by simp[hc],fun j hj=>?_⟩;simp[AV.cells] at hj;subst hj;exact⟨_,rfl,.v _ rfl⟩
  all_goals simp_all
theorem mK.str{P:Program}{t:TypeId}(ht:P.underlying t=some .string)(hc:P.cellsOf t=1)(fuel:Nat) :
  mK P fuel t (fun s:ByteArray=>AV.v (.string s)) (fun s=>s.size≤maxLen):=by
 refine⟨fun x _=>by simp[AV.cells,hc],fun x _ y hy=>by simp[AV.cells] at hy;subst hy;rfl,fun eh w cs r hr hw=>?_⟩;cases fuel with
 | zero=>simp[DataW.trod] at hr
 | succ n=>
  unfold DataW.trod at hr;rw[ht] at hr;split at hr<;>simp_all;refine⟨_,hr.1,fun j hj=>?_⟩;simp[AV.cells] at hj;subst hj;exact⟨_,rfl,.v _ rfl⟩
theorem Vn{X:Type}{Q:Nat→X→Prop}:∀(n:Nat),(∀i,i < n→∃x,Q i x)→∃l:List X,l.length=n∧∀i (h:i < l.length),Q i l[i]
 | 0,_=>⟨[],rfl,by simp⟩
 | n+1,h=>by
  obtain⟨l,h1,h2⟩:=Vn n (fun i hi=>h i (by omega));obtain⟨x,hx⟩:=h n (by omega);refine⟨l++[x],by simp[h1],fun i hi=>?_⟩;by_cases hil:i < l.length
  ·rw[List.getElem_append_left hil];exact h2 i hil
  ·have:i=l.length:=by simp at hi;omega
   subst this;simp[h1] at *;exact hx
theorem ZkX{w:World}{a:Addr}{n:Nat}{cs:List Value}(h:w.cells? 0 a n=some cs):cs.length=n∧∀i (hi:i < n),w.cell? (a.add i)=cs[i]?:=by
 simp only[World.cells?,Nat.zero_le,if_true] at h;refine⟨by simpa using mapM_some_length h,fun i hi=>mapM_some_get h i i (by simp[hi])⟩
theorem Zqj(a:Addr)(m n:Nat)(h:m≠0∨n≠0∨a.spot=none):((a.add m).add n).block=a.block∧((a.add m).add n).off=a.off+(m+n)∧((a.spot=none→((a.add m).add n).spot=none)):=by
 unfold Addr.add;split<;>split<;>simp_all<;>omega
theorem mK.sliceB{P:Program}{t e:TypeId}{fuel:Nat}{X:Type}{enc:X→AV}{good:X→Prop}(ht:P.underlying t=some (.slice e))(hc:P.cellsOf t=1)(he:0 < P.cellsOf e)(hby:0 < P.bytesOf e)(h:mK P fuel e enc good) :
  mK P (fuel+1) t (fun l:List X=>.sl false (l.map enc)) (fun l=>l.length*P.bytesOf e≤140737488351232∧∀x∈l,good x):=by
 refine⟨fun x _=>by simp[AV.cells,hc],fun x _ y hy=>by simp[AV.cells] at hy;subst hy;rfl,fun eh w cs r hr hw=>?_⟩;rcases DataW.trod_slice ht hr with⟨rfl,_⟩ | ⟨a,len,cap,elems,rest,n,hfu,rfl,hrx,hb,hl,hm,hlen,hel,hsp,hns⟩
 ·refine⟨[],⟨by simp,by simp⟩,by simp[hc],fun k hk=>?_⟩
  simp[AV.cells] at hk;subst hk;exact⟨_,rfl,.sl0 false none 0 (by simp)⟩
 ·have hnf:n=fuel:=by omega
  subst hnf
  have hw1:(elems.length+rest.length)*P.bytesOf e≤reachBytes∧∀i (hi:i < elems.length),FR P e (elems[i]).1:=by
   rw[hrx] at hw;simp only[FR,DataW.weights,ht,List.length_map] at hw;refine⟨hw _ (by simp),fun i hi n hn=>hw n ?_⟩;simp only[List.mem_cons,List.mem_append];right;left
   have key:∀(l:List (DataW _×List MemPlace)),elems[i]∈l→n∈DataW.weightsAll P e (l.map (·.1)):=by
    intro l hl;induction l with
    | nil=>simp at hl
    | cons d l ih=>
     simp only[List.map_cons,DataW.weightsAll,List.mem_append];rcases List.mem_cons.mp hl with rfl | hl
     ·exact .inl hn
     ·exact .inr (ih hl)
   exact key elems (List.getElem_mem hi)
  have hlen3:len≤140737488351232:=by
   have h1:=hw1.1;have h2:(elems.length+rest.length)*1≤(elems.length+rest.length)*P.bytesOf e:=Nat.mul_le_mul_left _ hby;have h3:reachBytes=140737488351232:=rfl;omega
  obtain⟨l,hll,hq⟩:=Vn (X:=X) (Q:=fun i x=>good x∧∃cs,w.cells? 0 (a.add (i*P.cellsOf e)) (P.cellsOf e)=some cs∧∀k (h:k < (enc x).cells.length),∃v,cs[k]? = some v∧aL (E0 w) ((enc x).cells[k]) v) len (by
   intro i hi;have h1:=hel i hi;rw[List.getElem?_eq_getElem (by omega)] at h1;simp only[Option.bind_eq_some_iff] at h1;obtain⟨cs,h2,h3⟩:=h1;obtain⟨x,g1,g2,g3⟩:=h.run eh w cs _ h3 (hw1.2 i (by omega));exact⟨x,g1,cs,h2,g3⟩)
  have hlb:l.length*P.bytesOf e≤140737488351232:=by
   have h1:=hw1.1;have h2:l.length*P.bytesOf e≤(elems.length+rest.length)*P.bytesOf e:=Nat.mul_le_mul_right _ (by omega);have h3:reachBytes=140737488351232:=rfl;omega
  refine⟨l,⟨hlb,fun x hx=>?_⟩,by simp[hc],fun k hk=>?_⟩
  ·obtain⟨i,hi,rfl⟩:=List.mem_iff_getElem.mp hx
   exact(hq i hi).1
  ·simp[AV.cells] at hk
   subst hk;refine⟨_,rfl,?_⟩;simp only[AV.cells,List.getElem_cons_zero];by_cases hl0:l=[]
   ·subst hl0
    simp at hll;subst hll;exact .sl0 false _ _ (by simp)
   ·have hpos:0 < l.length:=List.length_pos_iff.mpr hl0
    have hsz:∀y∈l.map enc,y.cells.length=P.cellsOf e:=by
     intro y hy;obtain⟨x,hx,rfl⟩:=List.mem_map.mp hy;obtain⟨i,hi,rfl⟩:=List.mem_iff_getElem.mp hx;exact h.size _ (hq i hi).1
    have hcell:∀i (hi:i < l.length) j (hj:j < (enc l[i]).cells.length),∃v,w.cell? ((a.add (i*P.cellsOf e)).add j)=some v∧aL (E0 w) ((enc l[i]).cells[j]) v:=by
     intro i hi j hj;obtain⟨g1,cs,g2,g3⟩:=hq i hi;obtain⟨v,g4,g5⟩:=g3 j hj;obtain⟨q1,q2⟩:=ZkX g2;exact⟨v,by rw[q2 j (by rw[←h.size _ g1];exact hj)];exact g4,g5⟩
    have h0:=hcell 0 hpos 0 (by rw[h.size _ (hq 0 hpos).1];exact he);obtain⟨v0,c0,_⟩:=h0;have ha0:((a.add (0*P.cellsOf e)).add 0)=a:=by simp[Addr.add]
    rw[ha0] at c0;obtain⟨s0,cs0,hH,_⟩:=ZkW c0;have aaC:a=⟨a.block,a.off,none⟩:=by cases a;simp_all
    have aa7:∀k (hk:k < (flat (l.map enc)).length),∃v,cs0[a.off+k]? = some v∧aL (E0 w) ((flat (l.map enc))[k]) v:=by
     intro k hk;have ab0:=r9 hsz;rw[List.length_map] at ab0;have hk2:k < l.length*P.cellsOf e:=by omega
     have hi:k / P.cellsOf e < l.length:=Nat.div_lt_of_lt_mul (by rw[Nat.mul_comm];exact hk2);have hj:k % P.cellsOf e < P.cellsOf e:=Nat.mod_lt _ he;have hkk:k / P.cellsOf e*P.cellsOf e+k % P.cellsOf e=k:=by rw[Nat.mul_comm];exact Nat.div_add_mod k _
     have hj2:k % P.cellsOf e < ((l.map enc)[k / P.cellsOf e]'(by simpa using hi)).cells.length:=by rw[hsz _ (List.getElem_mem _)];exact hj
     obtain⟨hk',e1⟩:=Fy hsz (k / P.cellsOf e) (by simpa using hi) (k % P.cellsOf e) hj2;obtain⟨v,g1,g2⟩:=hcell (k / P.cellsOf e) hi (k % P.cellsOf e) (by simpa using hj2);obtain⟨q1,cs1,q2,q3⟩:=ZkW g1;obtain⟨b1,b2,b3⟩:=Zqj a (k / P.cellsOf e*P.cellsOf e) (k % P.cellsOf e) (.inr (.inr s0));rw[b1,hH] at q2;cases q2;rw[b2,hkk] at q3;refine⟨v,q3,?_⟩;have:(flat (l.map enc))[k]=(flat (l.map enc))[k / P.cellsOf e*P.cellsOf e+k % P.cellsOf e]:=by simp only[hkk]
     rw[this,e1];simpa using g2
    rw[aaC]
    have hat:∀y∈flat (l.map enc),y.atom=true:=by
     intro y hy;obtain⟨x,hx,hyx⟩:=List.mem_flatMap.mp hy;obtain⟨z,hz,rfl⟩:=List.mem_map.mp hx;obtain⟨i,hi,rfl⟩:=List.mem_iff_getElem.mp hz;exact h.atom _ (hq i hi).1 y hyx
    have hlm:(l.map enc).length=len:=by rw[List.length_map,hll]
    rw[←hlm];refine .sl false (l.map enc) a.block a.off cap cs0 (P.cellsOf e) (fun k=>(cs0[a.off+k]?).getD undef) (by simpa using hpos) hH hsz (by omega) (by simp) hat (fun k hk=>?_) (fun k hk=>?_)
    ·obtain⟨v,g1,g2⟩:=aa7 k hk
     rw[g1];rfl
    ·obtain⟨v,g1,g2⟩:=aa7 k hk
     rw[g1];exact g2
theorem mK.slice{P:Program}{t e:TypeId}{fuel:Nat}{X:Type}{enc:X→AV}{good:X→Prop}(ht:P.underlying t=some (.slice e))(hc:P.cellsOf t=1)(he:0 < P.cellsOf e)(hby:0 < P.bytesOf e)(h:mK P fuel e enc good) :
  mK P (fuel+1) t (fun l:List X=>.sl false (l.map enc)) (fun l=>l.length≤140737488351232∧∀x∈l,good x):=by
 refine⟨fun x _=>by simp[AV.cells,hc],fun x _ y hy=>by simp[AV.cells] at hy;subst hy;rfl,fun eh w cs r hr hw=>?_⟩;obtain⟨x,hx,g⟩:=(mK.sliceB ht hc he hby h).run eh w cs r hr hw;refine⟨x,⟨?_,hx.2⟩,g⟩;have h1:=hx.1;have h2:x.length*1≤x.length*P.bytesOf e:=Nat.mul_le_mul_left _ hby;omega
structure JA(P:Program)(fuel:Nat)(o:Nat)(fs:List Field){X:Type}(enc:X→List AV)(good:X→Prop):Prop where
 size:∀x,good x→(enc x).length=(fs.map fun f=>P.cellsOf f.type).sum
 atom:∀x,good x→∀y∈enc x,y.atom=true
 run:∀{H:Type} (eh:TypeId×Value→H) (w:World) (cs:List Value) (r:List (DataW H×List MemPlace)),
  (fs.mapM fun f=>DataW.trod eh P w 0 (fun _=>true) true fuel f.type ((cs.drop f.offset).take (P.cellsOf f.type)))=some r→(∀n∈DataW.weightsEach P (fs.map (·.type)) (r.map (·.1)),n≤reachBytes)→
  ∃x,good x∧∀k (h:k < (enc x).length),∃v,cs[o+k]? = some v∧aL (E0 w) ((enc x)[k]) v
theorem JA.nil{P:Program}{fuel o:Nat}:JA P fuel o [] (fun _:Unit=>[]) (fun _=>True):=
 ⟨by simp,by simp,fun eh w cs r _ _=>⟨(),trivial,by simp⟩⟩
theorem JA.cons{P:Program}{fuel o:Nat}{f:Field}{fs:List Field}{X Y:Type}{e1:X→AV}{g1:X→Prop}{e2:Y→List AV}{g2:Y→Prop}(ho:f.offset=o)(h:mK P fuel f.type e1 g1)
  (k:JA P fuel (o+P.cellsOf f.type) fs e2 g2):JA P fuel o (f::fs) (fun p:X×Y=>(e1 p.1).cells++e2 p.2) (fun p=>g1 p.1∧g2 p.2):=by
 refine⟨fun x hx=>?_,fun x hx y hy=>?_,fun eh w cs r hr hw=>?_⟩
 ·simp[h.size _ hx.1,k.size _ hx.2]
 ·rcases List.mem_append.mp hy with hy | hy
  ·exact h.atom _ hx.1 y hy
  ·exact k.atom _ hx.2 y hy
 ·simp only[List.mapM_cons,Option.bind_eq_bind,Option.bind_eq_some_iff,Option.pure_def,Option.some.injEq] at hr
  obtain⟨r1,h1,r2,h2,rfl⟩:=hr;simp only[List.map_cons,DataW.weightsEach,List.mem_append] at hw;obtain⟨x,a1,a2,a3⟩:=h.run eh w _ _ h1 (fun n hn=>hw n (.inl hn));obtain⟨y,b1,b2⟩:=k.run eh w cs _ h2 (fun n hn=>hw n (.inr hn));refine⟨(x,y),⟨a1,b1⟩,fun j hj=>?_⟩;have hs:=h.size _ a1;by_cases hjl:j < (e1 x).cells.length
  ·obtain⟨v,c1,c2⟩:=a3 j hjl
   refine⟨v,?_,by simp only[List.getElem_append_left hjl];exact c2⟩;rw[List.getElem?_take,if_pos (by omega),List.getElem?_drop,ho] at c1;exact c1
  ·have hj3:j < (e1 x).cells.length+(e2 y).length:=by simpa using hj
   obtain⟨v,c1,c2⟩:=b2 (j - (e1 x).cells.length) (by omega);refine⟨v,?_,by rw[List.getElem_append_right (by show(e1 x).cells.length≤j;omega)];exact c2⟩;rw[←c1];congr 1;omega
theorem mK.struct{P:Program}{fuel:Nat}{t:TypeId}{fs:Array Field}{X:Type}{enc:X→List AV}{good:X→Prop}(ht:P.underlying t=some (.struct fs))(hs:P.cellsOf t=(fs.toList.map fun f=>P.cellsOf f.type).sum)
  (h:JA P fuel 0 fs.toList enc good):mK P (fuel+1) t (fun x=>.agg (enc x)) good:=by
 refine⟨fun x hx=>by simp[AV.cells,hs,h.size x hx],fun x hx y hy=>h.atom x hx y hy,fun eh w cs r hr hw=>?_⟩;unfold DataW.trod at hr;rw[ht] at hr;split at hr<;>simp_all;obtain⟨h1,a,h2,h3⟩:=hr
 obtain⟨x,g1,g2⟩:=h.run eh w _ _ h2 (by
  rw[←h3] at hw;simp only[FR,DataW.weights,ht] at hw;exact hw)
 refine⟨x,g1,fun k hk=>?_⟩;obtain⟨v,a1,a2⟩:=g2 k hk;exact⟨v,by simpa using a1,a2⟩
theorem ZjL{P:Program}{w:World}{r:Reach}{base:Nat}{t:TypeId}{v:Value}(h:Value.okWide P w r base t v):(∃cs,v=.agg cs)∨v.cells=#[v]:=by
 unfold Value.okWide at h;split at h
 ·obtain⟨cs,rfl,_⟩:=h;exact .inl ⟨cs,rfl⟩
 ·obtain⟨cs,rfl,_⟩:=h;exact .inl ⟨cs,rfl⟩
 ·right
  unfold Cell.okWide at h;cases v<;>simp[Value.cells]
  ·exfalso;revert h;split<;>simp_all [Cell.ok]
theorem mK.val{P:Program}{t:TypeId}{X:Type}{enc:X→AV}{good:X→Prop}(h:∀n,mK P n t enc good){w:World}{r:Reach}{base:Nat}{v:Value}(hv:Value.okWide P w r base t v)
  (hk:(∃f:X→List AV,(∀x,enc x=.agg (f x))∧∃fs,P.underlying t=some (.struct fs)∨∃n e,P.underlying t=some (.array n e))∨((∀x,(enc x).atom=true)∧(∀fs,P.underlying t≠some (.struct fs))∧∀n e,P.underlying t≠some (.array n e)))
  {H:Type} {eh:TypeId×Value→H} {d:DataW H} {p:List MemPlace} (ht:DataW.Trod eh P w 0 (fun _=>true) true t v d p) (hw:FR P t d):∃x,good x∧aL (E0 w) (enc x) v:=by
 obtain⟨fuel,hf⟩:=ht;obtain⟨x,h1,h2,h3⟩:=(h fuel).run eh w _ _ hf hw;refine⟨x,h1,?_⟩;rcases hk with⟨f,hf1,fs,hu⟩ | ⟨ha,hu1,hu2⟩
 ·have:∃cs,v=.agg cs:=by
   unfold Value.okWide at hv;rcases hu with hu | ⟨n,e,hu⟩<;>(rw[hu] at hv;obtain⟨cs,rfl,_⟩:=hv;exact⟨cs,rfl⟩)
  obtain⟨cs,rfl⟩:=this;have hs:=(h fuel).size x h1;have hat:=(h fuel).atom x h1;rw[hf1 x] at hs hat h3 ⊢;simp only[AV.cells,Value.cells] at hs hat h3 h2;refine .agg _ _ (by simpa[hs] using h2) hat (fun j hj=>?_);obtain⟨v,g1,g2⟩:=h3 j hj
  have:cs.getD j undef=v:=by
   simp only[Array.getElem?_toList] at g1;simp[Array.getD_eq_getD_getElem?,g1]
  rw[this];exact g2
 ·have hc:v.cells=#[v]:=by
   rcases ZjL hv with⟨cs,rfl⟩ | h4
   ·exfalso
    unfold Value.okWide at hv;split at hv
    ·rename_i fs hfs;exact hu1 _ hfs
    ·rename_i n e hfs;exact hu2 _ _ hfs
    ·unfold Cell.okWide at hv;revert hv;split<;>simp_all [Cell.ok]
   ·exact h4
  have hx:=ha x;rw[AV.EJ hx] at h3;rw[hc] at h3;obtain⟨v',g1,g2⟩:=h3 0 (by simp);simp at g1;subst g1;exact g2
theorem aN.calls{P:Program}{f:FuncId}{args:List AV}{x:Value}(h:aN P f args (.v x))(W:World)(hG:jI P (E0 W).H){vals:Array Value}(hv:kC (E0 W) args vals) :
  Calls P f vals W fun e W'=>e=.returned x∧Below W.heap.size W W':=
 (h.2 _ W vals hG (Zvx W) (by rw[Zun] at hv;exact hv)).mono fun e w' ⟨v,H',he,_,_,_,hr,hb⟩=>by
  cases hr;exact⟨he,hb⟩
theorem Zn3{H:Type}{eh:TypeId×Value→H}{P:Program}{w:World}{base:Nat}{spare:Nat→Bool}{held:Bool}:DataW.TrodAll eh P w base spare held [] [] [] []:=rfl
theorem Zgh{H:Type}{eh:TypeId×Value→H}{P:Program}{w:World}{base:Nat}{spare:Nat→Bool}{held:Bool}{t:TypeId}{ts:List TypeId}{v:Value}{vs:List Value}{d:DataW H}{ds:List (DataW H)}{p q:List MemPlace}
  (h:DataW.Trod eh P w base spare held t v d p) (k:DataW.TrodAll eh P w base spare held ts vs ds q):DataW.TrodAll eh P w base spare held (t::ts) (v::vs) (d::ds) (p++q):=⟨p,q,h,k,rfl⟩
theorem Zin{H:Type}{P:Program}{t:TypeId}{ts:List TypeId}{d:DataW H}{ds:List (DataW H)}(h:(DataW.weightsEach P ts ds).all (·≤reachBytes)=true){j:Nat}(ht:ts[j]? = some t)(hd:ds[j]? = some d):FR P t d:=by
 intro n hn;have:=List.all_eq_true.1 h _ (DataW.weights_mem_each ht hd n hn);simpa using this
theorem ZiJ{E:Env}{x:AV}{v:Value}(h:aL E x v):kC E [x] #[v]:=⟨rfl,fun j hj=>by
 have:j=0:=by simpa using hj
 subst this;simpa using h⟩
theorem ZoY{E:Env}{x y:AV}{v u:Value}(h:aL E x v)(k:aL E y u):kC E [x,y] #[v,u]:=(ZiJ h).append (ZiJ k)
theorem Zt4{P:Program}{W:World}(h:Lib.TabIs P W "internal/strconv.uint64pow10" .u64 Lib.pow10Tab):jI P (E0 W).H:=by
 intro t ht g hg;simp only[X8,List.mem_singleton] at ht;subst ht;simp only at hg ⊢;unfold Lib.TabIs World.var? at h;rw[hg] at h;simp only[Option.bind_some] at h;simp only[E0];split at h
 ·rename_i cs el fz hw
  rw[hw];simp only;rw[h];rfl
 ·cases h
theorem ZqX{P:Program}{H:Nat→Option (Array Value)}(hG:jI P H){w:World}(hH:kT H w){g:Nat}(hg:P.globalNamed "internal/strconv.uint64pow10" = some g):Lib.TabIs P w "internal/strconv.uint64pow10" .u64 Lib.pow10Tab:=by
 have h:=hG ("internal/strconv.uint64pow10",((List.range 20).map fun k=>Value.int .u64 ((10:Int) ^ k)).toArray) (by simp[X8]) g hg;obtain⟨el,fz,hw⟩:=hH g _ h;unfold Lib.TabIs World.var?;rw[hg];simp only[Option.bind_some,hw];rfl
theorem ZaX{P:Program}{w:World}{n:String}{d:DataW Unit}:∀{laid:List (String×DataW Unit)} {ps:List MemPlace},DataW.LaidVars P w laid ps→(n,d)∈laid→
  ∃g t cs fuel p,P.globalNamed n=some g∧(P.globals[g]?).map (·.type)=some t∧w.var? P n=some cs∧DataW.trod (fun _=>()) P w 0 (fun _=>true) false fuel t cs.toList=some (d,p)
 | [],ps,_,h=>by simp at h
 | (n',d')::r,ps,hl,h=>by
  obtain⟨g,t,cs,fuel,p,q,h1,h2,h3,h4,h5,_⟩:=hl;rcases List.mem_cons.mp h with e | h
  ·cases e;exact⟨g,t,cs,fuel,p,h1,h2,h3,h4⟩
  ·exact ZaX h5 h
theorem Zoo{P:Program}{W:World}{laid:List (String×DataW Unit)}(h:laidMetH P laid W)(hn:(laid.filter fun x=>x.2.handleName?.isSome)=[])(hm:("internal/strconv.uint64pow10",Lib.tabData .u64 Lib.pow10Tab)∈laid)
  {g:Nat} {t e:TypeId} {n:Nat} (hg:P.globalNamed "internal/strconv.uint64pow10" = some g) (hty:(P.globals[g]?).map (·.type)=some t) (ht:P.underlying t=some (.array n e)) (he:P.underlying e=some (.int .u64)) (hce:P.cellsOf e=1) (hct:P.cellsOf t=n):jI P (E0 W).H:=by
 unfold laidMetH at h;rw[hn] at h;simp only at h;obtain⟨ps,h1,_⟩:=h;obtain⟨g',t',cs,fuel,p,hg',ht',hvar,hd⟩:=ZaX h1 hm;rw[hg] at hg';cases hg';rw[hty] at ht';cases ht';refine Zt4 ?_;unfold Lib.TabIs;rw[hvar,←Lib.cells_of_tab ht he hce hct hd]
end Go.Rf
namespace Go.Rf
section
variable{K:Type}[BEq K]
def wZ(s:List K×List Int)(k:K):List K×List Int:=if s.1.contains k then (s.1,s.2++[(s.1.idxOf k:Int)]) else (s.1++[k],s.2++[(s.1.length:Int)])
def dh(l:List K):List K×List Int:=l.foldl wZ ([],[])
theorem E8(l:List K)(k:K):dh (l++[k])=wZ (dh l) k:=by simp[dh]
end
theorem ZmV{X:Type}{p:List X→Prop}(h0:p [])(h1:∀l x,p l→p (l++[x]))(l:List X):p l:=by
 have:∀r:List X,p r.reverse:=by
  intro r;induction r with
  | nil=>exact h0
  | cons x r ih=>rw[List.reverse_cons];exact h1 _ _ ih
 rw[←List.reverse_reverse l];exact this _
section
variable{K:Type}[BEq K][LawfulBEq K]
structure Zss(l:List K)(s:List K×List Int):Prop where
 len:s.2.length=l.length
 nd:s.1.Nodup
 mem:∀k,k∈s.1↔k∈l
 at_:∀i (h:i < l.length),s.2[i]? = some ((s.1.idxOf l[i]:Nat):Int)
theorem AJ(l:List K):Zss l (dh l):=by
 refine ZmV (p:=fun l=>Zss l (dh l)) ?_ ?_ l
 ·exact⟨rfl,List.nodup_nil,by simp[dh],by simp⟩
 ·intro l k ih
  rw[E8];unfold wZ;split
  ·rename_i hc
   have hin:k∈(dh l).1:=by simpa using hc
   refine⟨by simp[ih.len],ih.nd,fun x=>?_,fun i hi=>?_⟩
   ·simp only[List.mem_append,List.mem_singleton]
    rw[ih.mem];constructor
    ·exact .inl
    ·rintro(h | rfl)
     ·exact h
     ·exact(ih.mem _).mp hin
   ·simp only
    by_cases hl:i < l.length
    ·rw[List.getElem?_append_left (by rw[ih.len];exact hl),List.getElem_append_left hl];exact ih.at_ i hl
    ·have:i=l.length:=by simp at hi;omega
     subst this;rw[List.getElem?_append_right (by rw[ih.len];omega),ih.len];simp
  ·rename_i hc
   have hin:k∉(dh l).1:=by simpa using hc
   refine⟨by simp[ih.len],?_,fun x=>?_,fun i hi=>?_⟩
   ·rw[List.nodup_append]
    exact⟨ih.nd,by simp,fun a ha b hb=>by simp at hb;subst hb;rintro rfl;exact hin ha⟩
   ·simp only[List.mem_append,List.mem_singleton]
    rw[ih.mem]
   ·simp only
    by_cases hl:i < l.length
    ·rw[List.getElem?_append_left (by rw[ih.len];exact hl),List.getElem_append_left hl]
     have hm:l[i]∈(dh l).1:=(ih.mem _).mpr (List.getElem_mem hl);rw[List.idxOf_append,if_pos hm];exact ih.at_ i hl
    ·have:i=l.length:=by simp at hi;omega
     subst this;rw[List.getElem?_append_right (by rw[ih.len];omega),ih.len];simp only[List.getElem_concat_length,Nat.sub_self,List.getElem?_cons_zero];rw[List.idxOf_append,if_neg hin];simp
end
theorem Zmc{K M:Type}[BEq K][LawfulBEq K][BEq M][LawfulBEq M]{l:List K}{m:List M}(hl:l.length=m.length)(h:∀i j (h1:i < l.length) (h2:j < l.length),l[i]=l[j]↔m[i]'(by omega)=m[j]'(by omega)) :
  (dh l).2=(dh m).2∧(dh l).1.length=(dh m).1.length:=by
 have key:∀n,n≤l.length→(dh (l.take n)).2=(dh (m.take n)).2∧(dh (l.take n)).1.length=(dh (m.take n)).1.length∧
   ∀i (h1:i < n) (h2:i < l.length),((dh (l.take n)).1.idxOf l[i])=((dh (m.take n)).1.idxOf (m[i]'(by omega))):=by
  intro n;induction n with
  | zero=>intro _;simp[dh]
  | succ n ih=>
   intro hn;have hnl:n < l.length:=by omega
   have hnm:n < m.length:=by omega
   obtain⟨i1,i2,i3⟩:=ih (by omega);have e1:l.take (n+1)=l.take n++[l[n]]:=by rw[List.take_add_one,List.getElem?_eq_getElem hnl];rfl
   have e2:m.take (n+1)=m.take n++[m[n]]:=by rw[List.take_add_one,List.getElem?_eq_getElem hnm];rfl
   have o1:=AJ (l.take n);have o2:=AJ (m.take n)
   have hmem:l[n]∈(dh (l.take n)).1↔m[n]∈(dh (m.take n)).1:=by
    rw[o1.mem,o2.mem,List.mem_take_iff_getElem,List.mem_take_iff_getElem];constructor
    ·rintro⟨i,hi,e⟩
     exact⟨i,by omega,(h i n (by omega) hnl).mp e⟩
    ·rintro⟨i,hi,e⟩
     exact⟨i,by omega,(h i n (by omega) hnl).mpr e⟩
   rw[e1,e2,E8,E8];by_cases hin:l[n]∈(dh (l.take n)).1
   ·have hin2:=hmem.mp hin
    obtain⟨i,hi,ei⟩:∃i,∃hi:i < n,l[i]=l[n]:=by
     have:=(o1.mem _).mp hin;rw[List.mem_take_iff_getElem] at this;obtain⟨i,hi,e⟩:=this;exact⟨i,by omega,e⟩
    have em:=(h i n (by omega) hnl).mp ei;have hidx:=i3 i hi (by omega);rw[ei,em] at hidx;have c1:(dh (l.take n)).1.contains l[n]=true:=by simpa using hin
    have c2:(dh (m.take n)).1.contains m[n]=true:=by simpa using hin2
    simp only[wZ,c1,c2,if_true];refine⟨by rw[i1,hidx],i2,fun j hj hjl=>?_⟩;by_cases hjn:j < n
    ·exact i3 j hjn hjl
    ·have:j=n:=by omega
     subst this;exact hidx
   ·have hin2:=fun h2=>hin (hmem.mpr h2)
    have c1:(dh (l.take n)).1.contains l[n]=false:=by simpa using hin
    have c2:(dh (m.take n)).1.contains m[n]=false:=by simpa using hin2
    simp only[wZ,c1,c2,Bool.false_eq_true,if_false];refine⟨by rw[i1,i2],by simp[i2],fun j hj hjl=>?_⟩;by_cases hjn:j < n
    ·have m1:l[j]∈(dh (l.take n)).1:=(o1.mem _).mpr (List.mem_take_iff_getElem.mpr ⟨j,by omega,rfl⟩)
     have m2:m[j]'(by omega)∈(dh (m.take n)).1:=(o2.mem _).mpr (List.mem_take_iff_getElem.mpr ⟨j,by omega,rfl⟩);rw[List.idxOf_append,if_pos m1,List.idxOf_append,if_pos m2];exact i3 j hjn hjl
    ·have:j=n:=by omega
     subst this;rw[List.idxOf_append,if_neg hin,List.idxOf_append,if_neg hin2,i2];simp
 obtain⟨a,b,_⟩:=key l.length (Nat.le_refl _);rw[List.take_length,hl,List.take_length] at *;exact⟨a,b⟩
section
variable{K M:Type}[BEq K][LawfulBEq K][BEq M][LawfulBEq M]
theorem ZjK{l:List K}{m:List M}(hl:l.length=m.length)(h:∀i j (h1:i < l.length) (h2:j < l.length),l[i]=l[j]→m[i]'(by omega)=m[j]'(by omega)) :
  (dh m).1.length≤(dh l).1.length∧((dh m).1.length=(dh l).1.length→∀i j (h1:i < l.length) (h2:j < l.length),m[i]'(by omega)=m[j]'(by omega)→l[i]=l[j]):=by
 have key:∀n,n≤l.length→(dh (m.take n)).1.length≤(dh (l.take n)).1.length∧
   ((dh (m.take n)).1.length=(dh (l.take n)).1.length→∀i j (h1:i < n) (h2:j < n) (h3:i < l.length) (h4:j < l.length),m[i]'(by omega)=m[j]'(by omega)→l[i]=l[j]):=by
  intro n;induction n with
  | zero=>intro _;exact⟨by simp[dh],fun _ i j h1=>by omega⟩
  | succ n ih=>
   intro hn;have hnl:n < l.length:=by omega
   have hnm:n < m.length:=by omega
   obtain⟨i1,i2⟩:=ih (by omega);have e1:l.take (n+1)=l.take n++[l[n]]:=by rw[List.take_add_one,List.getElem?_eq_getElem hnl];rfl
   have e2:m.take (n+1)=m.take n++[m[n]]:=by rw[List.take_add_one,List.getElem?_eq_getElem hnm];rfl
   have o1:=AJ (l.take n);have o2:=AJ (m.take n);rw[e1,e2,E8,E8];by_cases hin:l[n]∈(dh (l.take n)).1
   ·obtain⟨i,hi,ei⟩:∃i,∃hi:i < n,l[i]=l[n]:=by
     have:=(o1.mem _).mp hin;rw[List.mem_take_iff_getElem] at this;obtain⟨i,hi,e⟩:=this;exact⟨i,by omega,e⟩
    have em:=h i n (by omega) hnl ei;have hin2:m[n]∈(dh (m.take n)).1:=(o2.mem _).mpr (List.mem_take_iff_getElem.mpr ⟨i,by omega,em⟩);have c1:(dh (l.take n)).1.contains l[n]=true:=by simpa using hin
    have c2:(dh (m.take n)).1.contains m[n]=true:=by simpa using hin2
    simp only[wZ,c1,c2,if_true];refine⟨i1,fun hc a b ha hb ha2 hb2 hab=>?_⟩;have i3:=i2 hc;by_cases han:a < n
    ·by_cases hbn:b < n
     ·exact i3 a b han hbn ha2 hb2 hab
     ·have:b=n:=by omega
      subst this;rw[←ei];exact i3 a i han hi ha2 (by omega) (hab.trans em.symm)
    ·have:a=n:=by omega
     subst this;by_cases hbn:b < a
     ·rw[←ei]
      exact i3 i b hi hbn (by omega) hb2 (em.trans hab)
     ·have:b=a:=by omega
      subst this;rfl
   ·have c1:(dh (l.take n)).1.contains l[n]=false:=by simpa using hin
    cases c2:(dh (m.take n)).1.contains m[n] with
    | true=>
     simp only[wZ,c1,c2,if_true,Bool.false_eq_true,if_false,List.length_append,List.length_cons,List.length_nil];exact⟨by omega,fun hc=>by omega⟩
    | false=>
     simp only[wZ,c1,c2,Bool.false_eq_true,if_false,List.length_append,List.length_cons,List.length_nil];have hin2:m[n]∉(dh (m.take n)).1:=by simpa using c2
     refine⟨by omega,fun hc a b ha hb ha2 hb2 hab=>?_⟩;have i3:=i2 (by omega);by_cases han:a < n
     ·by_cases hbn:b < n
      ·exact i3 a b han hbn ha2 hb2 hab
      ·have:b=n:=by omega
       subst this;exact(hin2 ((o2.mem _).mpr (List.mem_take_iff_getElem.mpr ⟨a,by omega,hab⟩))).elim
     ·have:a=n:=by omega
      subst this;by_cases hbn:b < a
      ·exact(hin2 ((o2.mem _).mpr (List.mem_take_iff_getElem.mpr ⟨b,by omega,hab.symm⟩))).elim
      ·have:b=a:=by omega
       subst this;rfl
 obtain⟨a,b⟩:=key l.length (Nat.le_refl _);have e1:l.take l.length=l:=List.take_length;have e2:m.take l.length=m:=by rw[hl];exact List.take_length
 rw[e1,e2] at a b;exact⟨a,fun hc i j h1 h2=>b hc i j h1 h2 h1 h2⟩
theorem ZpQ{l:List K}{i j:Nat}(hi:i < l.length)(hj:j < l.length):(dh l).2[i]? = (dh l).2[j]?↔l[i]=l[j]:=by
 have o:=AJ l;rw[o.at_ i hi,o.at_ j hj];constructor
 ·intro h
  simp only[Option.some.injEq] at h;have hi2:l[i]∈(dh l).1:=(o.mem _).mpr (List.getElem_mem hi);have hj2:l[j]∈(dh l).1:=(o.mem _).mpr (List.getElem_mem hj);have h':(dh l).1.idxOf l[i]=(dh l).1.idxOf l[j]:=by omega
  have a1:=List.getElem_idxOf (List.idxOf_lt_length_of_mem hi2);have a2:=List.getElem_idxOf (List.idxOf_lt_length_of_mem hj2);rw[←a1,←a2];congr 1
 ·intro h;rw[h]
theorem ZpR(l:List K):(dh l).1.length≤l.length:=by
 refine ZmV (p:=fun l=>(dh l).1.length≤l.length) (by simp[dh]) (fun l x ih=>?_) l;rw[E8];unfold wZ;split<;>simp<;>omega
end
theorem ZoN{K:Type}[BEq K][LawfulBEq K](l:List K):(dh (dh l).2).2=(dh l).2:=by
 have o:=AJ l;refine(Zmc (l:=(dh l).2) (m:=l) o.len (fun i j h1 h2=>?_)).1;have e:=ZpQ (l:=l) (i:=i) (j:=j) (by rw[←o.len];exact h1) (by rw[←o.len];exact h2);rw[List.getElem?_eq_getElem h1,List.getElem?_eq_getElem h2,Option.some.injEq] at e;exact e
def runT(d:aD)(i:Nat)(l:List Int):Nat:=l.foldl (bO d) i
def jy(d:aD)(i:Nat):Bool:=d.fin.getD i false
def Vl(d:aD)(l:List Int):Prop:=∀s∈l,0≤s∧s < d.signs
def zT(d:aD)(j i k:Nat):Prop:=∀l,Vl d l→l.length≤j→jy d (runT d i l)=jy d (runT d k l)
def rY(d:aD)(i k:Nat):Prop:=∀l,Vl d l→jy d (runT d i l)=jy d (runT d k l)
theorem xg{d:aD}(R:bD d){a:Nat}(ha:a < d.next.length){s:Int}(h0:0≤s)(hs:s < d.signs):bO d a s < d.next.length:=(Dx R ha h0 hs).2.2
theorem Zg3{d:aD}:∀(l:List Int) (a:Nat),Vl d l→sj d a l=some (runT d a l)
 | [],a,_=>rfl
 | s::l,a,h=>by
  rw[sj,if_pos (h s (by simp)),Zg3 l _ (fun x hx=>h x (by simp[hx]))];rfl
theorem Zcx{d:aD}:∀(l:List Int) (a:Nat),¬Vl d l→sj d a l=none
 | [],a,h=>(h (fun s hs=>by simp at hs)).elim
 | s::l,a,h=>by
  rw[sj];split
  ·rename_i hs
   refine Zcx l _ (fun hl=>h fun x hx=>?_);rcases List.mem_cons.mp hx with rfl | hx
   ·exact hs
   ·exact hl x hx
  ·rfl
theorem PG{d:aD}{j i k:Nat}:zT d (j+1) i k↔zT d j i k∧∀s,0≤s→s < d.signs→zT d j (bO d i s) (bO d k s):=by
 constructor
 ·intro h
  refine⟨fun l hl hlen=>h l hl (by omega),fun s h0 hs l hl hlen=>?_⟩;exact h (s::l) (fun x hx=>by rcases List.mem_cons.mp hx with rfl | hx;exact⟨h0,hs⟩;exact hl x hx) (by simp;omega)
 ·rintro⟨h1,h2⟩ l hl hlen
  cases l with
  | nil=>exact h1 [] hl (by simp)
  | cons s l=>
   have hs:=hl s (by simp);exact h2 s hs.1 hs.2 l (fun x hx=>hl x (by simp[hx])) (by simp at hlen;omega)
theorem Zoh{d:aD}{i k:Nat}(h:rY d i k){s:Int}(h0:0≤s)(hs:s < d.signs):rY d (bO d i s) (bO d k s):=fun l hl=>
 h (s::l) (fun x hx=>by rcases List.mem_cons.mp hx with rfl | hx;exact⟨h0,hs⟩;exact hl x hx)
theorem Zle{d:aD}:∀(l:List Int) {i k:Nat},rY d i k→Vl d l→rY d (runT d i l) (runT d k l)
 | [],i,k,h,_=>h
 | s::l,i,k,h,hl=>Zle l (Zoh h (hl s (by simp)).1 (hl s (by simp)).2) (fun x hx=>hl x (by simp[hx]))
theorem rY.refl(d:aD)(i:Nat):rY d i i:=fun _ _=>rfl
theorem rY.symm{d:aD}{i k:Nat}(h:rY d i k):rY d k i:=fun l hl=>(h l hl).symm
theorem rY.trans{d:aD}{i k m:Nat}(h:rY d i k)(h2:rY d k m):rY d i m:=fun l hl=>(h l hl).trans (h2 l hl)
theorem Zjv{d:aD}(R:bD d){j:Nat}(h:∀i k,i < d.next.length→k < d.next.length→zT d j i k→zT d (j+1) i k){i k:Nat}(hi:i < d.next.length)(hk:k < d.next.length)(he:zT d j i k):rY d i k:=by
 have key:∀(l:List Int) (i k:Nat),i < d.next.length→k < d.next.length→zT d j i k→Vl d l→jy d (runT d i l)=jy d (runT d k l):=by
  intro l;induction l with
  | nil=>intro i k hi hk he _;exact he [] (fun s hs=>by simp at hs) (by simp)
  | cons s l ih=>
   intro i k hi hk he hl;have hs:=hl s (by simp);exact ih _ _ (xg R hi hs.1 hs.2) (xg R hk hs.1 hs.2) ((PG.mp (h i k hi hk he)).2 s hs.1 hs.2) (fun x hx=>hl x (by simp[hx]))
 exact fun l hl=>key l i k hi hk he hl
def vW(d:aD):List Int:=d.fin.map fun b=>if b=true then 1 else 0
def uV(d:aD)(c:List Int)(s:Nat):List Int:=c.getD s 0::(d.next.getD s []).map fun t=>c.getD t.toNat 0
def qB(d:aD)(c:List Int):List (List Int):=(List.range d.next.length).map (uV d c)
def l9(d:aD)(c:List Int):List (List Int)×List Int:=dh (qB d c)
def FT(d:aD):Nat→List Int→Nat→List Int
 | 0,c,_=>c
 | f+1,c,n=>if (l9 d c).1.length=n then (l9 d c).2 else FT d f (l9 d c).2 (l9 d c).1.length
def vO(d:aD):List Int:=FT d (d.next.length+1) (vW d) 0
structure F8(d:aD)(j:Nat)(c:List Int):Prop where
 len:c.length=d.next.length
 eq:∀i k,i < d.next.length→k < d.next.length→(c.getD i 0=c.getD k 0↔zT d j i k)
theorem Zd5{d:aD}(R:bD d):F8 d 0 (vW d):=by
 have hf:=R.fin;refine⟨by simp[vW,hf],fun i k hi hk=>?_⟩;have h1:i < d.fin.length:=by omega
 have h2:k < d.fin.length:=by omega
 have e:∀l,Vl d l→l.length≤0→l=[]:=fun l _ hl=>List.eq_nil_of_length_eq_zero (by omega)
 simp only[vW,List.getD_eq_getElem?_getD,List.getElem?_map,List.getElem?_eq_getElem h1,List.getElem?_eq_getElem h2,Option.map_some,Option.getD_some];constructor
 ·intro h l hl hlen
  rw[e l hl hlen];simp only[runT,List.foldl_nil,jy,List.getD_eq_getElem?_getD,List.getElem?_eq_getElem h1,List.getElem?_eq_getElem h2,Option.getD_some];revert h;cases d.fin[i]<;>cases d.fin[k]<;>simp
 ·intro h
  have:=h [] (fun s hs=>by simp at hs) (by simp);simp only[runT,List.foldl_nil,jy,List.getD_eq_getElem?_getD,List.getElem?_eq_getElem h1,List.getElem?_eq_getElem h2,Option.getD_some] at this;rw[this]
theorem LP{d:aD}(R:bD d){j:Nat}{c:List Int}(h:F8 d j c){i k:Nat}(hi:i < d.next.length)(hk:k < d.next.length):uV d c i=uV d c k↔zT d (j+1) i k:=by
 have ri:=R.row i hi;have rk:=R.row k hk;have hs0:=R.s1;rw[PG];simp only[uV,List.cons.injEq];rw[h.eq i k hi hk];refine and_congr_right fun _=>?_
 simp only[List.getD_eq_getElem?_getD,List.getElem?_eq_getElem hi,List.getElem?_eq_getElem hk,Option.getD_some]
 have st:∀(a:Nat) (ha:a < d.next.length) (s:Nat) (hs:s < (d.next[a]).length),((d.next[a])[s]).toNat=bO d a s:=fun a ha s hs=>by
  simp[bO,List.getD_eq_getElem?_getD,List.getElem?_eq_getElem ha,List.getElem?_eq_getElem hs]
 constructor
 ·intro he s h0 hs
  have h1:s.toNat < (d.next[i]).length:=by omega
  have h2:s.toNat < (d.next[k]).length:=by omega
  have:=congrArg (fun l=>l[s.toNat]?) he;simp only[List.getElem?_map,List.getElem?_eq_getElem h1,List.getElem?_eq_getElem h2,Option.map_some,Option.some.injEq] at this;rw[st i hi _ h1,st k hk _ h2] at this;have e:((s.toNat:Nat):Int)=s:=by omega
  rw[e] at this;exact(h.eq _ _ (xg R hi h0 hs) (xg R hk h0 hs)).mp (by simpa[List.getD_eq_getElem?_getD] using this)
 ·intro he
  refine List.ext_getElem (by simp;omega) (fun s h1 h2=>?_);simp only[List.length_map] at h1 h2;simp only[List.getElem_map];rw[st i hi s h1,st k hk s h2];have hs:((s:Nat):Int) < d.signs:=by omega
  have:=(h.eq _ _ (xg R hi (by omega) hs) (xg R hk (by omega) hs)).mpr (he s (by omega) hs);simpa[List.getD_eq_getElem?_getD] using this
theorem Fa(d:aD)(c:List Int):(qB d c).length=d.next.length:=by simp[qB]
theorem PD{d:aD}(R:bD d){j:Nat}{c:List Int}(h:F8 d j c):F8 d (j+1) (l9 d c).2:=by
 have o:=AJ (qB d c);have hl:=Fa d c;refine⟨by rw[←hl];exact o.len,fun i k hi hk=>?_⟩;have e:=ZpQ (l:=qB d c) (i:=i) (j:=k) (by omega) (by omega);have hi2:i < (dh (qB d c)).2.length:=by rw[o.len];omega
 have hk2:k < (dh (qB d c)).2.length:=by rw[o.len];omega
 simp only[qB,List.getElem_map,List.getElem_range] at e;rw[←LP R h hi hk,←e];simp only[l9,qB,List.getD_eq_getElem?_getD];have hi3:i < (dh (List.map (uV d c) (List.range d.next.length))).2.length:=hi2;have hk3:k < (dh (List.map (uV d c) (List.range d.next.length))).2.length:=hk2;rw[List.getElem?_eq_getElem hi3,List.getElem?_eq_getElem hk3];simp
structure Cz(d:aD)(c:List Int):Prop where
 len:c.length=d.next.length
 eq:∀i k,i < d.next.length→k < d.next.length→(c.getD i 0=c.getD k 0↔rY d i k)
 num:(dh c).2=c
theorem PX{d:aD}(R:bD d){j:Nat}{c:List Int}(h:F8 d j c):(l9 d c).1.length≤(l9 d (l9 d c).2).1.length∧(l9 d c).1.length≤d.next.length∧1≤(l9 d c).1.length∧
  ((l9 d (l9 d c).2).1.length=(l9 d c).1.length→Cz d (l9 d (l9 d c).2).2):=by
 have h1:=PD R h;have h2:=PD R h1;have hn:=R.n1
 obtain⟨a,b⟩:=ZjK (l:=qB d (l9 d c).2) (m:=qB d c) (by simp[qB]) (fun i k hi hk=>by
  rw[Fa] at hi hk;simp only[qB,List.getElem_map,List.getElem_range];intro he;rw[LP R h1 hi hk] at he;rw[LP R h hi hk];exact(PG.mp he).1)
 have hpos:1≤(l9 d c).1.length:=by
  have o:=AJ (qB d c);have:(qB d c)[0]'(by simp[qB];omega)∈(dh (qB d c)).1:=(o.mem _).mpr (List.getElem_mem _);exact List.length_pos_of_mem this
 refine⟨a,by have:=ZpR (qB d c);rw[Fa] at this;exact this,hpos,fun hc=>?_⟩;have b2:=b hc.symm
 have abr:∀i k,i < d.next.length→k < d.next.length→zT d (j+1) i k→zT d (j+2) i k:=by
  intro i k hi hk he;rw[←LP R h hi hk] at he;rw[←LP R h1 hi hk];have:=b2 i k (by rw[Fa];exact hi) (by rw[Fa];exact hk);simp only[qB,List.getElem_map,List.getElem_range] at this;exact this he
 refine⟨h2.len,fun i k hi hk=>?_,ZoN _⟩;rw[h2.eq i k hi hk];constructor
 ·intro he
  exact Zjv R abr hi hk (PG.mp he).1
 ·intro he l hl _;exact he l hl
theorem ZhU{d:aD}(R:bD d):∀(f j:Nat) (c:List Int),F8 d j c→d.next.length < f+(l9 d c).1.length→Cz d (FT d f (l9 d c).2 (l9 d c).1.length)
 | 0,j,c,h,hf=>by have:=(PX R h).2.1;omega
 | f+1,j,c,h,hf=>by
  obtain⟨a1,a2,a3,a4⟩:=PX R h;rw[FT];split
  ·rename_i he;exact a4 he
  ·rename_i he
   exact ZhU R f (j+1) _ (PD R h) (by omega)
theorem Pn{d:aD}(R:bD d):Cz d (vO d):=by
 have h0:=Zd5 R;have hn:=(PX R h0).2.2.1;rw[vO,FT,if_neg (by omega)];exact ZhU R _ 0 _ h0 (by omega)
theorem P7:∀(n:Nat) (l:List Nat),l.Nodup→(∀x∈l,x < n)→l.length≤n
 | 0,l,_,h=>by
  cases l with
  | nil=>simp
  | cons x l=>have:=h x (by simp);omega
 | n+1,l,hd,h=>by
  by_cases hn:n∈l
  ·have h1:=List.length_erase_of_mem hn
   have h2:=P7 n (l.erase n) (hd.erase n) (fun x hx=>by
    have:=(hd.mem_erase_iff).mp hx;have:=h x this.2;omega)
   have:=List.length_pos_of_mem hn;omega
  ·have:=P7 n l hd (fun x hx=>by
    have:=h x hx;have:x≠n:=fun e=>hn (e ▸ hx)
    omega)
   omega
def jB(c:List Int)(q:Nat):Int:=c.getD q 0
def sI(c:List Int)(one:List Nat)(to:Nat):List Nat×Nat:=
 if jB c to∈one.map (jB c) then (one,(one.map (jB c)).idxOf (jB c to)) else (one++[to],one.length)
def nY(c:List Int)(t:Nat→Nat):Nat→List Nat→List Nat×List Int
 | 0,one=>(one,[])
 | k+1,one=>((sI c (nY c t k one).1 (t k)).1,(nY c t k one).2++[((sI c (nY c t k one).1 (t k)).2:Int)])
abbrev Db:=List Nat×List (List Int)×List Bool
def ND(d:aD)(c:List Int)(i:Nat)(st:Db):Db:=match st.1[i]? with
 | none=>st
 | some q=>((nY c (fun s=>bO d q s) d.signs.toNat st.1).1,st.2.1++[(nY c (fun s=>bO d q s) d.signs.toNat st.1).2],st.2.2++[jy d q])
def jH(d:aD)(c:List Int):Nat→Db
 | 0=>([0],[],[])
 | i+1=>ND d c i (jH d c i)
def Tn(d:aD)(c:List Int):Nat→Nat→Db→Db
 | 0,_,st=>st
 | f+1,i,st=>if i=st.1.length then st else Tn d c f (i+1) (ND d c i st)
def mI(d:aD):Db:=Tn d (vO d) (d.next.length+1) 0 ([0],[],[])
def nU(d:aD):aD:=⟨d.signs,(mI d).2.1,(mI d).2.2⟩
theorem ZfA(c:List Int)(one:List Nat)(to:Nat)(hd:(one.map (jB c)).Nodup) :
  ((sI c one to).1=one∧(sI c one to).2 < one.length∧(∃q,one[(sI c one to).2]? = some q∧jB c q=jB c to))∨((sI c one to).1=one++[to]∧(sI c one to).2=one.length∧jB c to∉one.map (jB c)):=by
 unfold sI;split
 ·rename_i h
  left;have hlt:=List.idxOf_lt_length_of_mem h;have hlt2:=hlt;rw[List.length_map] at hlt2;refine⟨rfl,hlt2,one[(one.map (jB c)).idxOf (jB c to)],List.getElem?_eq_getElem hlt2,?_⟩;have:=List.getElem_idxOf hlt;rw[List.getElem_map] at this;exact this
 ·rename_i h
  exact .inr ⟨rfl,rfl,h⟩
theorem Zr7{c:List Int}{one:List Nat}(to:Nat)(hd:(one.map (jB c)).Nodup):((sI c one to).1.map (jB c)).Nodup:=by
 rcases ZfA c one to hd with⟨h1,_,_⟩ | ⟨h1,_,h3⟩
 ·rw[h1];exact hd
 ·rw[h1,List.map_append,List.nodup_append]
  exact⟨hd,by simp,fun a ha b hb=>by simp at hb;subst hb;rintro rfl;exact h3 ha⟩
structure Zvo(c:List Int)(t:Nat→Nat)(k:Nat)(one one':List Nat)(r:List Int):Prop where
 pre:∀j q:Nat,one[j]? = some q→one'[j]? = some q
 nd:(one'.map (jB c)).Nodup
 len:r.length=k
 at_:∀s,s < k→∃j:Nat,r[s]? = some (j:Int)∧∃q,one'[j]? = some q∧jB c q=jB c (t s)
 new:∀q∈one',q∈one∨∃s < k,q=t s
 le:one.length≤one'.length
 M7:∀j,one.length≤j→j < one'.length→∃s < k,r[s]? = some (j:Int)
theorem Xm{c:List Int}{t:Nat→Nat}{one:List Nat}(hd:(one.map (jB c)).Nodup):∀k,Zvo c t k one (nY c t k one).1 (nY c t k one).2
 | 0=>⟨fun _ _ h=>h,hd,rfl,fun s hs=>by omega,fun q h=>.inl h,Nat.le_refl _,fun j h1 h2=>by simp only[nY] at h2;omega⟩
 | k+1=>by
  have ih:=Xm (t:=t) hd k;have hn:=Zr7 (t k) ih.nd;simp only[nY];generalize nY c t k one=p at ih hn;obtain⟨o1,r1⟩:=p;simp only at ih hn ⊢;rcases ZfA c o1 (t k) ih.nd with⟨h1,h2,q,h3,h4⟩ | ⟨h1,h2,h3⟩
  ·rw[h1] at hn ⊢
   refine⟨ih.pre,hn,by simp[ih.len],fun s hs=>?_,fun q hq=>?_,ih.le,fun j h5 h6=>?_⟩
   ·by_cases hsk:s=k
    ·subst hsk
     refine⟨(sI c o1 (t s)).2,?_,q,h3,h4⟩;rw[List.getElem?_append_right (by rw[ih.len];omega),ih.len];simp
    ·obtain⟨j,a1,a2⟩:=ih.at_ s (by omega)
     refine⟨j,?_,a2⟩;rw[List.getElem?_append_left (by rw[ih.len];omega)];exact a1
   ·rcases ih.new q hq with h | ⟨s,hs,h⟩
    ·exact .inl h
    ·exact .inr ⟨s,by omega,h⟩
   ·obtain⟨s,hs,h7⟩:=ih.M7 j h5 h6
    exact⟨s,by omega,by rw[List.getElem?_append_left (by rw[ih.len];omega)];exact h7⟩
  ·rw[h1] at hn ⊢
   rw[h2];refine⟨fun j q hq=>?_,hn,by simp[ih.len],fun s hs=>?_,fun q hq=>?_,?_,fun j h5 h6=>?_⟩
   ·have:=ih.pre j q hq
    rw[List.getElem?_append_left (List.getElem?_eq_some_iff.mp this).1];exact this
   ·by_cases hsk:s=k
    ·subst hsk
     refine⟨o1.length,?_,t s,by simp,rfl⟩;rw[List.getElem?_append_right (by rw[ih.len];omega),ih.len];simp
    ·obtain⟨j,a1,q,a2,a3⟩:=ih.at_ s (by omega)
     refine⟨j,?_,q,?_,a3⟩
     ·rw[List.getElem?_append_left (by rw[ih.len];omega)];exact a1
     ·rw[List.getElem?_append_left (List.getElem?_eq_some_iff.mp a2).1];exact a2
   ·rcases List.mem_append.mp hq with hq | hq
    ·rcases ih.new q hq with h | ⟨s,hs,h⟩
     ·exact .inl h
     ·exact .inr ⟨s,by omega,h⟩
    ·simp at hq;exact .inr ⟨k,by omega,hq⟩
   ·have:=ih.le;simp;omega
   ·simp only[List.length_append,List.length_cons,List.length_nil] at h6
    by_cases hj:j < o1.length
    ·obtain⟨s,hs,h7⟩:=ih.M7 j h5 hj
     exact⟨s,by omega,by rw[List.getElem?_append_left (by rw[ih.len];omega)];exact h7⟩
    ·have:j=o1.length:=by omega
     subst this;exact⟨k,by omega,by rw[List.getElem?_append_right (by rw[ih.len];omega),ih.len];simp⟩
structure N8(d:aD)(c:List Int)(i:Nat)(st:Db):Prop where
 zero:st.1[0]? = some 0
 nd:(st.1.map (jB c)).Nodup
 lt:∀q∈st.1,q < d.next.length
 le:i≤st.1.length
 nx:st.2.1.length=i
 en:st.2.2.length=i
 row:∀k,k < i→∃q r,st.1[k]? = some q∧st.2.2[k]? = some (jy d q)∧st.2.1[k]? = some r∧r.length=d.signs.toNat∧
  ∀s,s < d.signs.toNat→∃j:Nat,r[s]? = some (j:Int)∧∃q',st.1[j]? = some q'∧jB c q'=jB c (bO d q s)
 M7:∀j,1≤j→j < st.1.length→∃k < i,k < j∧∃r s,st.2.1[k]? = some r∧s < d.signs.toNat∧r[s]? = some (j:Int)
theorem N8.len{d:aD}{c:List Int}{i:Nat}{st:Db}(h:N8 d c i st):st.1.length≤d.next.length:=by
 refine P7 _ _ ?_ h.lt;have:=h.nd;exact(List.pairwise_map.mp this).imp (fun h e=>h (congrArg _ e))
theorem Md{d:aD}(R:bD d)(c:List Int):∀i,(∀m,m < i→m < (jH d c m).1.length)→N8 d c i (jH d c i)
 | 0,_=>by
  have hn:=R.n1;exact⟨rfl,by simp[jH],fun q hq=>by simp[jH] at hq;omega,by simp,rfl,rfl,fun k hk=>by omega,fun j h1 h2=>by simp[jH] at h2;omega⟩
 | i+1,hm=>by
  have ih:=Md R c i (fun m h=>hm m (by omega));have hi:=hm i (by omega);have hs1:=R.s1;simp only[jH,ND];rw[List.getElem?_eq_getElem hi];simp only;generalize hst:jH d c i=st at ih hi;obtain⟨one,nx,en⟩:=st;simp only at ih hi ⊢;have ro:=Xm (c:=c) (t:=fun s=>bO d one[i] s) (one:=one) ih.nd d.signs.toNat;generalize nY c (fun s=>bO d one[i] s) d.signs.toNat one=p at ro;obtain⟨one',r⟩:=p;simp only at ro ⊢;have hqi:one[i] < d.next.length:=ih.lt _ (List.getElem_mem hi)
  have hen:=ih.en;have hnx:=ih.nx;simp only at hen hnx;refine⟨ro.pre _ _ ih.zero,ro.nd,fun q hq=>?_,by have:=ro.le;simp only;omega,by simp[hnx],by simp[hen],fun k hk=>?_,fun j h1 h2=>?_⟩
  ·rcases ro.new q hq with h | ⟨s,hs,rfl⟩
   ·exact ih.lt q h
   ·exact xg R hqi (by omega) (by omega)
  ·simp only
   by_cases hki:k=i
   ·subst hki
    refine⟨one[k],r,ro.pre _ _ (List.getElem?_eq_getElem hi),?_,?_,ro.len,fun s hs=>ro.at_ s hs⟩
    ·rw[List.getElem?_append_right (by omega)];simp[hen]
    ·rw[List.getElem?_append_right (by omega)];simp[hnx]
   ·obtain⟨q,r',b1,b2,b3,b4,b5⟩:=ih.row k (by omega)
    refine⟨q,r',ro.pre _ _ b1,?_,?_,b4,fun s hs=>?_⟩
    ·rw[List.getElem?_append_left (List.getElem?_eq_some_iff.mp b2).1];exact b2
    ·rw[List.getElem?_append_left (List.getElem?_eq_some_iff.mp b3).1];exact b3
    ·obtain⟨j,c1,q',c2,c3⟩:=b5 s hs
     exact⟨j,c1,q',ro.pre _ _ c2,c3⟩
  ·simp only at h2 ⊢
   by_cases hj:j < one.length
   ·obtain⟨k,hk,hkj,r',s,b1,b2,b3⟩:=ih.M7 j h1 hj
    refine⟨k,by omega,hkj,r',s,?_,b2,b3⟩;rw[List.getElem?_append_left (List.getElem?_eq_some_iff.mp b1).1];exact b1
   ·obtain⟨s,hs,h7⟩:=ro.M7 j (by omega) h2
    refine⟨i,by omega,by omega,r,s,?_,hs,h7⟩;rw[List.getElem?_append_right (by omega)];simp[hnx]
theorem ZlX{d:aD}(R:bD d)(c:List Int):∀(f i:Nat),(∀m,m < i→m < (jH d c m).1.length)→d.next.length < f+i→∃k,Tn d c f i (jH d c i)=jH d c k∧k=(jH d c k).1.length∧∀m,m < k→m < (jH d c m).1.length
 | 0,i,hm,hf=>by
  have o:=Md R c i hm;have:=o.len;have:=o.le;omega
 | f+1,i,hm,hf=>by
  have o:=Md R c i hm;rw[Tn];split
  ·rename_i he;exact⟨i,rfl,he,hm⟩
  ·rename_i he
   have:=o.le
   exact ZlX R c f (i+1) (fun m h=>by
    by_cases qN:m=i
    ·subst qN;omega
    ·exact hm m (by omega)) (by omega)
theorem Ik{d:aD}(R:bD d):∃k,mI d=jH d (vO d) k∧k=(mI d).1.length∧(∀m,m < k→m < (jH d (vO d) m).1.length)∧N8 d (vO d) k (mI d):=by
 obtain⟨k,h1,h2,h3⟩:=ZlX R (vO d) (d.next.length+1) 0 (fun m h=>by omega) (by omega);have e:mI d=jH d (vO d) k:=h1;exact⟨k,e,by rw[e];exact h2,h3,by rw[e];exact Md R _ k h3⟩
theorem PK{d:aD}(R:bD d):bD (nU d)∧(nU d).next.length=(mI d).1.length∧
  ∀(l:List Int) (a q:Nat),(mI d).1[a]? = some q→Vl d l→∃q',(mI d).1[runT (nU d) a l]? = some q'∧rY d q' (runT d q l)∧jy (nU d) (runT (nU d) a l)=jy d (runT d q l):=by
 obtain⟨k,h1,h2,h3,o⟩:=Ik R;have C:=Pn R;have hle:=o.len;have h0:=(List.getElem?_eq_some_iff.mp o.zero).1;have hs1:=R.s1;have hn2:=R.n2;have hnx:=o.nx;have hen:=o.en
 have D:bD (nU d):=by
  refine⟨R.s1,R.s2,by show 1≤(mI d).2.1.length;omega,by show(mI d).2.1.length≤3000;omega,by show(mI d).2.2.length=(mI d).2.1.length;omega,fun i hi=>?_,fun i hi j hj=>?_⟩
  ·have hi':i < (mI d).2.1.length:=hi
   obtain⟨q,r,b1,b2,b3,b4,b5⟩:=o.row i (by omega);obtain⟨_,e⟩:=List.getElem?_eq_some_iff.mp b3;show(((mI d).2.1[i]'hi').length:Int)=d.signs
   rw[e,b4];omega
  ·have hi':i < (mI d).2.1.length:=hi
   obtain⟨q,r,b1,b2,b3,b4,b5⟩:=o.row i (by omega);obtain⟨_,e⟩:=List.getElem?_eq_some_iff.mp b3;subst e;have hj':j < ((mI d).2.1[i]'hi').length:=hj;obtain⟨t,c1,q',c2,c3⟩:=b5 j (by omega);obtain⟨_,c4⟩:=List.getElem?_eq_some_iff.mp c1;have ht:=(List.getElem?_eq_some_iff.mp c2).1;show 0≤((mI d).2.1[i]'hi')[j]'hj'∧((mI d).2.1[i]'hi')[j]'hj' < ((mI d).2.1.length:Int)
   rw[c4];omega
 refine⟨D,by show(mI d).2.1.length=_;omega,?_⟩;have aat:∀p q,p < d.next.length→q < d.next.length→jB (vO d) p=jB (vO d) q→rY d p q:=fun p q hp hq h=>(C.eq p q hp hq).mp h
 have fin:∀a q,(mI d).1[a]? = some q→jy (nU d) a=jy d q:=by
  intro a q ha;have hal:=(List.getElem?_eq_some_iff.mp ha).1;obtain⟨q',r,b1,b2,b3,b4,b5⟩:=o.row a (by omega);rw[ha] at b1;cases b1;show(mI d).2.2.getD a false=_
  rw[List.getD_eq_getElem?_getD,b2];rfl
 intro l;induction l with
 | nil=>
  intro a q ha _;exact⟨q,ha,rY.refl _ _,fin a q ha⟩
 | cons s l ih=>
  intro a q ha hl;have hs:=hl s (by simp);have hal:=(List.getElem?_eq_some_iff.mp ha).1;have hq:=o.lt q (List.mem_of_getElem? ha);obtain⟨q',r,b1,b2,b3,b4,b5⟩:=o.row a (by omega);rw[ha] at b1;cases b1;obtain⟨j,c1,p,c2,c3⟩:=b5 s.toNat (by omega);have e:((s.toNat:Nat):Int)=s:=by omega
  rw[e] at c3;have hp:=o.lt p (List.mem_of_getElem? c2)
  have hst:bO (nU d) a s=j:=by
   show(((mI d).2.1.getD a []).getD s.toNat 0).toNat=j
   simp only[List.getD_eq_getElem?_getD,b3,Option.getD_some,c1,Int.toNat_natCast]
  have hpe:rY d p (bO d q s):=aat p _ hp (xg R hq hs.1 hs.2) c3;have hl':Vl d l:=fun x hx=>hl x (by simp[hx])
  obtain⟨q2,d1,d2,d3⟩:=ih j p c2 hl';refine⟨q2,?_,d2.trans (Zle l hpe hl'),?_⟩
  ·show(mI d).1[runT (nU d) (bO (nU d) a s) l]? = some q2
   rw[hst];exact d1
  ·show jy (nU d) (runT (nU d) (bO (nU d) a s) l)=jy d (runT d (bO d q s) l)
   rw[hst,d3];exact hpe l hl'
end Go.Rf
namespace Go.Rf
open Go.RowKit
structure Mk(K:Type) where
 sg:Nat
 b:K→Nat→K
 e:K→Bool
 k0:K
abbrev uS(K:Type):=List K×List (List Int)×List Bool
section
variable{K:Type}[DecidableEq K]
def zY(most:Int)(ss:List K)(x:K):Option (List K×Int):=
 if x∈ss then some (ss,(ss.idxOf x:Int)) else if (ss.length:Int)=most then none else some (ss++[x],(ss.length:Int))
def wo(most:Int)(b:Nat→K):Nat→List K→Option (List K×List Int)
 | 0,ss=>some (ss,[])
 | k+1,ss=>match wo most b k ss with
  | none=>none
  | some (s1,r)=>match zY most s1 (b k) with
   | none=>none
   | some (s2,j)=>some (s2,r++[j])
def yj(M:Mk K)(most:Int)(i:Nat)(st:uS K):Option (uS K):=
 match st.1[i]? with
 | none=>none
 | some x=>match wo most (M.b x) M.sg st.1 with
  | none=>none
  | some (s2,r)=>some (s2,st.2.1++[r],st.2.2++[M.e x])
def oW(M:Mk K)(most:Int):Nat→Option (uS K)
 | 0=>some ([M.k0],[],[])
 | i+1=>match oW M most i with
  | none=>none
  | some st=>yj M most i st
def goK(M:Mk K)(most:Int):Nat→Nat→uS K→Option (uS K)
 | 0,_,_=>none
 | f+1,i,st=>if i=st.1.length then some st else match yj M most i st with
  | none=>none
  | some st'=>goK M most f (i+1) st'
def F3(M:Mk K)(most:Int):Option (uS K):=goK M most (most.toNat+1) 0 ([M.k0],[],[])
structure Mk.Inv(M:Mk K)(V:K→Prop):Prop where
 zero:V M.k0
 next:∀x s,V x→s < M.sg→V (M.b x s)
structure Lb(V:K→Prop)(most:Int)(ss:List K):Prop where
 v:∀s∈ss,V s
 l:(ss.length:Int)≤most
variable{M:Mk K}{V:K→Prop}{most:Int}
theorem Zrl{ss:List K}{x:K}(h:Lb V most ss)(hx:V x){p:List K×Int}(e:zY most ss x=some p):Lb V most p.1∧ss.length≤p.1.length:=by
 unfold zY at e;split at e
 ·cases e;exact⟨h,Nat.le_refl _⟩
 ·split at e
  ·cases e
  ·cases e
   refine⟨⟨fun s hs=>?_,?_⟩,by simp⟩
   ·rcases List.mem_append.mp hs with hs | hs
    ·exact h.v s hs
    ·simp at hs;subst hs;exact hx
   ·have:=h.l;simp only[List.length_append,List.length_cons,List.length_nil];omega
theorem Xp{b:Nat→K}{n:Nat}(hb:∀s,s < n→V (b s)){ss:List K}(h:Lb V most ss):∀(k:Nat) {p:List K×List Int},k≤n→wo most b k ss=some p→Lb V most p.1∧ss.length≤p.1.length∧p.2.length=k
 | 0,p,_,e=>by simp only[wo,Option.some.injEq] at e;subst e;exact⟨h,Nat.le_refl _,rfl⟩
 | k+1,p,hk,e=>by
  simp only[wo] at e;split at e
  ·cases e
  ·rename_i s1 r h1
   obtain⟨i1,i2,i3⟩:=Xp hb h k (by omega) h1;split at e
   ·cases e
   ·rename_i s2 j h2
    cases e;obtain⟨j1,j2⟩:=Zrl i1 (hb k (by omega)) h2;exact⟨j1,Nat.le_trans i2 j2,by simp only at i3;simp[i3]⟩
theorem Zg1{b:Nat→K}{ss:List K}{k:Nat}(h:wo most b k ss=none):∀m,k≤m→wo most b m ss=none
 | 0,hm=>by
  have:k=0:=by omega
  subst this;exact h
 | m+1,hm=>by
  by_cases hk:k=m+1
  ·subst hk;exact h
  ·simp only[wo,Zg1 h m (by omega)]
structure X9(M:Mk K)(V:K→Prop)(most:Int)(i:Nat)(st:uS K):Prop where
 ss:Lb V most st.1
 le:i≤st.1.length
 nx:st.2.1.length=i
 en:st.2.2.length=i
 row:∀r∈st.2.1,r.length=M.sg
theorem Zto(I:M.Inv V){i:Nat}{st st':uS K}(h:X9 M V most i st)(e:yj M most i st=some st'):X9 M V most (i+1) st':=by
 unfold yj at e;split at e
 ·cases e
 ·rename_i x hs
  obtain⟨hlt,hse⟩:=List.getElem?_eq_some_iff.mp hs;split at e
  ·cases e
  ·rename_i s2 r h1
   cases e;obtain⟨j1,j2,j3⟩:=Xp (V:=V) (fun s hs=>I.next x s (h.ss.v x (by rw[←hse];exact List.getElem_mem hlt)) hs) h.ss _ (Nat.le_refl _) h1;refine⟨j1,by simp only at j2 ⊢;omega,by simp[h.nx],by simp[h.en],fun r' hr=>?_⟩;rcases List.mem_append.mp hr with hr | hr
   ·exact h.row r' hr
   ·simp at hr;subst hr;exact j3
theorem Mj(I:M.Inv V)(hm:1≤most):∀(i:Nat) {st:uS K},oW M most i=some st→X9 M V most i st
 | 0,st,e=>by
  simp only[oW,Option.some.injEq] at e;subst e;exact⟨⟨fun s hs=>by simp at hs;subst hs;exact I.zero,by simpa using hm⟩,by simp,rfl,rfl,by simp⟩
 | i+1,st,e=>by
  simp only[oW] at e;split at e
  ·cases e
  ·rename_i st0 h0
   exact Zto I (Mj I hm i h0) e
theorem ZlC(I:M.Inv V)(hm:1≤most):∀(f i:Nat) {st:uS K},oW M most i=some st→most.toNat+1≤f+i→∀j yt,i≤j→oW M most j=some yt→j=yt.1.length→(∀m,i≤m→m < j→∀oq,oW M most m=some oq→m≠oq.1.length)→goK M most f i st=some yt
 | 0,i,st,h,hf,j,yt,hij,hj,hlen,hmin=>by
  have o:=Mj I hm i h;have:=o.ss.l;have:=o.le;omega
 | f+1,i,st,h,hf,j,yt,hij,hj,hlen,hmin=>by
  simp only[goK];by_cases hi:i=st.1.length
  ·rw[if_pos hi]
   by_cases hij2:i=j
   ·subst hij2;rw[h] at hj;exact hj
   ·exact(hmin i (Nat.le_refl _) (by omega) st h hi).elim
  ·rw[if_neg hi]
   by_cases hij2:i=j
   ·subst hij2;rw[h] at hj;cases hj;exact(hi hlen).elim
   ·have hs1:oW M most (i+1)=yj M most i st:=by simp only[oW,h]
    cases hn:yj M most i st with
    | none=>
     exfalso;rw[hn] at hs1
     have key:∀m,i+1≤m→oW M most m=none:=by
      intro m;induction m with
      | zero=>intro hm;omega
      | succ m ih=>
       intro hm';by_cases qN:m=i
       ·subst qN;exact hs1
       ·simp only[oW,ih (by omega)]
     rw[key j (by omega)] at hj;cases hj
    | some st'=>
     rw[hn] at hs1;exact ZlC I hm f (i+1) hs1 (by omega) j yt (by omega) hj hlen (fun m h1 h2=>hmin m (by omega) h2)
theorem Zif:∀(f i:Nat) {st:uS K},oW M most i=some st→∀j,i≤j→oW M most (j+1)=none→(∀m,i≤m→m≤j→∀oq,oW M most m=some oq→m≠oq.1.length)→goK M most f i st=none
 | 0,i,st,h,j,hij,hj,hmin=>rfl
 | f+1,i,st,h,j,hij,hj,hmin=>by
  simp only[goK];rw[if_neg (hmin i (Nat.le_refl _) hij st h)];have hs1:oW M most (i+1)=yj M most i st:=by simp only[oW,h]
  cases hn:yj M most i st with
  | none=>rfl
  | some st'=>
   rw[hn] at hs1;simp only;by_cases hij2:i=j
   ·subst hij2;rw[hs1] at hj;cases hj
   ·exact Zif f (i+1) hs1 j (by omega) hj (fun m h1 h2=>hmin m (by omega) h2)
theorem Zig:∀(f i:Nat) {st st':uS K},oW M most i=some st→goK M most f i st=some st'→∃j,oW M most j=some st'∧j=st'.1.length
 | 0,i,st,st',h,e=>by cases e
 | f+1,i,st,st',h,e=>by
  simp only[goK] at e;split at e
  ·rename_i hi
   cases e;exact⟨i,h,hi⟩
  ·split at e
   ·cases e
   ·rename_i st1 h1
    exact Zig f (i+1) (by simp only[oW,h];exact h1) e
theorem Zmb{ss ss':List K}{x:K}{j:Int}(h:zY most ss x=some (ss',j)):(∀(i:Nat) (y:K),ss[i]? = some y→ss'[i]? = some y)∧∃k:Nat,j=k∧ss'[k]? = some x:=by
 unfold zY at h;split at h
 ·rename_i hin
  cases h;have hlt:=List.idxOf_lt_length_of_mem hin;exact⟨fun i y hy=>hy,_,rfl,by rw[List.getElem?_eq_getElem hlt,List.getElem_idxOf hlt]⟩
 ·split at h
  ·cases h
  ·cases h
   refine⟨fun i y hy=>?_,ss.length,rfl,by simp⟩;have hl:=(List.getElem?_eq_some_iff.mp hy).1;rw[List.getElem?_append_left hl];exact hy
theorem Zg2{b:Nat→K}{ss:List K}:∀(k:Nat) {ss':List K} {r:List Int},wo most b k ss=some (ss',r)→
  (∀(i:Nat) (y:K),ss[i]? = some y→ss'[i]? = some y)∧r.length=k∧∀s:Nat,s < k→∃j:Nat,r[s]? = some (j:Int)∧ss'[j]? = some (b s)
 | 0,ss',r,h=>by
  simp only[wo,Option.some.injEq,Prod.mk.injEq] at h;obtain⟨rfl,rfl⟩:=h;exact⟨fun _ _ h=>h,rfl,fun s hs=>by omega⟩
 | k+1,ss',r,h=>by
  simp only[wo] at h;split at h
  ·cases h
  ·rename_i s1 r1 h1
   obtain⟨i1,i2,i3⟩:=Zg2 k h1;split at h
   ·cases h
   ·rename_i s2 j h2
    cases h;obtain⟨j1,q,rfl,j2⟩:=Zmb h2;refine⟨fun i y hy=>j1 i y (i1 i y hy),by simp[i2],fun s hs=>?_⟩;by_cases hsk:s=k
    ·subst hsk
     refine⟨q,?_,j2⟩;rw[List.getElem?_append_right (by omega),i2];simp
    ·obtain⟨j,a1,a2⟩:=i3 s (by omega)
     refine⟨j,?_,j1 _ _ a2⟩;rw[List.getElem?_append_left (by omega)];exact a1
structure Zur(M:Mk K)(i:Nat)(st:uS K):Prop where
 zero:st.1[0]? = some M.k0
 row:∀k < i,∃x r,st.1[k]? = some x∧st.2.2[k]? = some (M.e x)∧st.2.1[k]? = some r∧r.length=M.sg∧∀s:Nat,s < M.sg→∃j:Nat,r[s]? = some (j:Int)∧st.1[j]? = some (M.b x s)
theorem ZiX(I:M.Inv V)(hm:1≤most):∀(i:Nat) {st:uS K},oW M most i=some st→Zur M i st
 | 0,st,e=>by
  simp only[oW,Option.some.injEq] at e;subst e;exact⟨rfl,fun k hk=>by omega⟩
 | i+1,st,e=>by
  simp only[oW] at e;split at e
  ·cases e
  ·rename_i st0 h0
   have S:=ZiX I hm i h0;have o:=Mj I hm i h0;unfold yj at e;split at e
   ·cases e
   ·rename_i x hs
    split at e
    ·cases e
    ·rename_i s2 r h1
     cases e;obtain⟨i1,i2,i3⟩:=Zg2 _ h1;refine⟨i1 _ _ S.zero,fun k hk=>?_⟩;by_cases hki:k=i
     ·subst hki
      refine⟨x,r,i1 _ _ hs,?_,?_,i2,i3⟩
      ·rw[List.getElem?_append_right (by rw[o.en];omega),o.en];simp
      ·rw[List.getElem?_append_right (by rw[o.nx];omega),o.nx];simp
     ·obtain⟨y,r',a1,a2,a3,a4,a5⟩:=S.row k (by omega)
      refine⟨y,r',i1 _ _ a1,?_,?_,a4,fun s hs=>?_⟩
      ·rw[List.getElem?_append_left (by rw[o.en];omega)];exact a2
      ·rw[List.getElem?_append_left (by rw[o.nx];omega)];exact a3
      ·obtain⟨j,b1,b2⟩:=a5 s hs
       exact⟨j,b1,i1 _ _ b2⟩
def Zvl(M:Mk K)(l:List Int):K:=l.foldl (fun x s=>M.b x s.toNat) M.k0
def wK(sg:Int)(st:uS K):aD:=⟨sg,st.2.1,st.2.2⟩
theorem ZjE(I:M.Inv V)(hm:1≤most)(hm2:most≤3000){sg:Int}(hsg:sg=M.sg)(h1:1≤M.sg)(h2:M.sg≤400){st:uS K}(h:F3 M most=some st) :
  bD (wK sg st)∧((wK sg st).next.length:Int)≤most∧∀l,Vl (wK sg st) l→jy (wK sg st) (runT (wK sg st) 0 l)=M.e (Zvl M l):=by
 obtain⟨j,hj,hlen⟩:=Zig _ _ rfl h;have o:=Mj I hm j hj;have S:=ZiX I hm j hj;have hnx:=o.nx;have hen:=o.en;have hl:=o.ss.l;have h0:=(List.getElem?_eq_some_iff.mp S.zero).1
 have R:bD (wK sg st):=by
  refine⟨by show 1≤sg;omega,by show sg≤400;omega,by show 1≤st.2.1.length;omega,by show st.2.1.length≤3000;omega,by show st.2.2.length=st.2.1.length;omega,fun i hi=>?_,fun i hi k hk=>?_⟩
  ·have hi':i < st.2.1.length:=hi
   obtain⟨x,r,a1,a2,a3,a4,a5⟩:=S.row i (by omega);obtain⟨_,e⟩:=List.getElem?_eq_some_iff.mp a3;show((st.2.1[i]'hi').length:Int)=sg
   rw[e,a4,hsg]
  ·have hi':i < st.2.1.length:=hi
   obtain⟨x,r,a1,a2,a3,a4,a5⟩:=S.row i (by omega);obtain⟨_,e⟩:=List.getElem?_eq_some_iff.mp a3;subst e;have hk':k < (st.2.1[i]'hi').length:=hk;obtain⟨q,b1,b2⟩:=a5 k (by omega);obtain⟨_,b3⟩:=List.getElem?_eq_some_iff.mp b1;have b4:=(List.getElem?_eq_some_iff.mp b2).1;show 0≤(st.2.1[i]'hi')[k]'hk'∧(st.2.1[i]'hi')[k]'hk' < (st.2.1.length:Int)
   rw[b3];omega
 refine⟨R,by show(st.2.1.length:Int)≤most;omega,?_⟩
 have key:∀(l:List Int) (a:Nat) (x:K),st.1[a]? = some x→Vl (wK sg st) l→jy (wK sg st) (runT (wK sg st) a l)=M.e (l.foldl (fun x s=>M.b x s.toNat) x):=by
  intro l;induction l with
  | nil=>
   intro a x ha _;have hal:=(List.getElem?_eq_some_iff.mp ha).1;obtain⟨y,r,a1,a2,a3,a4,a5⟩:=S.row a (by omega);rw[ha] at a1;cases a1;show st.2.2.getD a false=_
   rw[List.getD_eq_getElem?_getD,a2];rfl
  | cons s l ih=>
   intro a x ha hl';have hs:0≤s∧s < sg:=hl' s (by simp);have hal:=(List.getElem?_eq_some_iff.mp ha).1;obtain⟨y,r,a1,a2,a3,a4,a5⟩:=S.row a (by omega);rw[ha] at a1;cases a1;obtain⟨q,b1,b2⟩:=a5 s.toNat (by omega)
   have hst:bO (wK sg st) a s=q:=by
    show((st.2.1.getD a []).getD s.toNat 0).toNat=q
    simp only[List.getD_eq_getElem?_getD,a3,Option.getD_some,b1,Int.toNat_natCast]
   show jy (wK sg st) (runT (wK sg st) (bO (wK sg st) a s) l)=_
   rw[hst];exact ih q _ b2 fun x hx=>hl' x (by simp[hx])
 intro l hl';exact key l 0 _ S.zero hl'
end
def nX(b a:aD)(x:Int×Int)(s:Nat):Int×Int:=
 if s % 2=1 then (if x.1=1∧jy b x.2.toNat=true then (2,(bO a 0 (s / 2:Nat):Int)) else (3,0))
 else if x.1=0∨x.1=1 then (1,(bO b x.2.toNat (s / 2:Nat):Int))
 else if x.1=2 then (2,(bO a x.2.toNat (s / 2:Nat):Int))
 else (3,0)
def wh(a:aD)(x:Int×Int):Bool:=decide (x.1=2) && jy a x.2.toNat
def qW(b a:aD):Mk (Int×Int):=⟨(2*b.signs).toNat,nX b a,wh a,(0,0)⟩
def vM(b a:aD)(x:Int×Int):Prop:=0≤x.1∧x.1≤3∧0≤x.2∧(x.1≤1→x.2 < b.next.length)∧(x.1=2→x.2 < a.next.length)∧(x.1=3→x.2=0)
theorem Zvh{b a:aD}(Rb:bD b)(Ra:bD a)(hs:b.signs=a.signs):(qW b a).Inv (vM b a):=by
 have h1:=Rb.n1;have h2:=Ra.n1;refine⟨⟨by simp[qW],by simp[qW],by simp[qW],fun _=>by simp[qW];omega,fun h=>by simp[qW] at h,fun h=>by simp[qW] at h⟩,fun x s hx hlt=>?_⟩;have hlt':s < (2*b.signs).toNat:=hlt;obtain⟨v0,v1,v2,v3,v4,v5⟩:=hx;show vM b a (nX b a x s)
 have three:vM b a (3,0):=⟨by simp,by simp,by simp,fun h=>by simp at h,fun h=>by simp at h,fun _=>rfl⟩;unfold nX;split
 ·split
  ·have:=xg Ra (a:=0) (by omega) (s:=((s / 2:Nat):Int)) (by omega) (by omega)
   exact⟨by simp,by simp,by simp,fun h=>by simp at h,fun _=>by simp only;omega,fun h=>by simp at h⟩
  ·exact three
 ·split
  ·have:=xg Rb (a:=x.2.toNat) (by have:=v3 (by omega);omega) (s:=((s / 2:Nat):Int)) (by omega) (by omega)
   exact⟨by simp,by simp,by simp,fun _=>by simp only;omega,fun h=>by simp at h,fun h=>by simp at h⟩
  ·split
   ·rename_i h
    have:=xg Ra (a:=x.2.toNat) (by have:=v4 h;omega) (s:=((s / 2:Nat):Int)) (by omega) (by omega);exact⟨by simp,by simp,by simp,fun h=>by simp at h,fun _=>by simp only;omega,fun h=>by simp at h⟩
   ·exact three
def lY(b a:aD)(most:Int):aD×Int:=
 if lg b=true∧lg a=true∧b.signs=a.signs∧b.signs≤200∧1≤most∧most≤3000 then
  match F3 (qW b a) most with
  | some st=>(⟨2*b.signs,st.2.1,st.2.2⟩,0)
  | none=>(⟨0,[],[]⟩,13)
 else (⟨0,[],[]⟩,1)
def Stl(K:AV→St→Prop)(r:AV)(S':St):Prop:=
 ∃z g g2,(∀i k,g i=some k→S'.g i=some k)∧Fz g r z∧(∀i k,g2 i=some k→S'.g i=some k∧g i=none)∧K z ⟨S'.n,g2⟩
theorem Wj{E E':Env}{S S':St}{w w':World}(hS:bf E' S' w')(hev:Ev E S w E' S' w'){g g2:Nat→Option aF}(hg:∀i k,g i=some k→S'.g i=some k)(hg2:∀i k,g2 i=some k→S'.g i=some k∧g i=none) :
  ∃H2,bf ⟨E'.ρ,H2⟩ ⟨S'.n,g2⟩ w'∧Ev E S w ⟨E'.ρ,H2⟩ ⟨S'.n,g2⟩ w'∧∀{x z:AV} {v:Value},Fz g x z→aL E' x v→aL ⟨E'.ρ,H2⟩ z v:=by
 have hle:E'.le ⟨E'.ρ,sW E' g w'⟩:=⟨fun _ _ e=>e,fun b cs e=>BK e⟩;refine⟨sW E' g w',⟨fun b cs e=>?_,fun i k e=>?_,fun i j ki kj li lj a b=>hS.nL i j ki kj li lj (hg2 _ _ a).1 (hg2 _ _ b).1,hS.fresh⟩,⟨⟨hev.bX.os,hev.bX.tape,hev.bX.output,hev.bX.size,hev.bX.keep,fun id l k hk hl=>hev.bX.grow id l k (hg2 _ _ hk).1 hl,Env.le_trans hev.bX.le hle,fun b cs e=>?_⟩,hev.jP,hev.low⟩,?_⟩
 ·rcases Ay e with h1 | ⟨_,h1,_⟩
  ·exact hS.hH b cs h1
  ·exact h1
 ·obtain⟨l,a1,a2,a3⟩:=hS.live i k (hg2 _ _ e).1
  refine⟨l,a1,?_,a3.mono hle rfl⟩;show sW E' g w' l.b=none
  cases e2:sW E' g w' l.b with
  | none=>rfl
  | some cs=>
   exfalso;rcases Ay e2 with h2 | ⟨_,_,i2,k2,l2,b1,b2,b3⟩
   ·rw[a2] at h2;cases h2
   ·by_cases hii:i2=i
    ·subst hii;rw[(hg2 _ _ e).2] at b1;cases b1
    ·exact hS.nL i2 i k2 k l2 l (hg _ _ b1) (hg2 _ _ e).1 hii b2 a1 b3
 ·rcases Ay e with h1 | ⟨_,_,i2,k2,l2,b1,b2,b3⟩
  ·exact hev.bX.hsub b cs h1
  ·rcases hev.bX.grow i2 l2 k2 (hg _ _ b1) b2 with h3 | ⟨jg,l0,k0,c1,c2,c3⟩
   ·right;left;omega
   ·exact .inr (.inr ⟨jg,l0,k0,c1,c2,c3.trans b3⟩)
 ·intro x z v hz hr
  refine Fz.rep hS hg (E2:=⟨E'.ρ,sW E' g w'⟩) (fun b cs e=>BK e) (fun id es xs l hgi Ah cs el fz hw=>?_) hz hr;obtain⟨l',a1,a2,_⟩:=hS.live id _ (hg _ _ hgi);rw[Ah] at a1;cases a1;exact Qd hgi Ah a2 hw
theorem aQ.settle{P:Program}{f:FuncId}{args:List AV}{S:St}{K:AV→St→Prop}(h:aQ P f args S (Stl K)):aQ P f args S K:=by
 refine⟨h.1,fun E w vals h0 h1 h2=>(h.2 E w vals h0 h1 h2).mono ?_⟩;rintro e w' ⟨v,r,S',E',rfl,⟨z,g,g2,hg,hz,hg2,hk⟩,hS,hr,hev⟩;obtain⟨H2,q1,q2,q3⟩:=Wj hS hev hg hg2;exact⟨v,z,⟨S'.n,g2⟩,⟨E'.ρ,H2⟩,rfl,hk,q1,q3 hz hr,q2⟩
theorem oO.settle{P:Program}{f:FuncId}{args:List AV}{S:St}{K:AV→St→Prop}{X:Value→St→Prop}(h:oO P f args S (Stl K) fun v S'=>∃g2,(∀i k,g2 i=some k→S'.g i=some k)∧X v ⟨S'.n,g2⟩):oO P f args S K X:=by
 refine⟨h.1,fun E w vals h0 h1 h2=>(h.2 E w vals h0 h1 h2).mono ?_⟩;rintro e w' ⟨S',E',hS,hev,⟨v,r,rfl,⟨z,g,g2,hg,hz,hg2,hk⟩,hr⟩ | ⟨v,rfl,g2,hg2,hx⟩⟩
 ·obtain⟨H2,q1,q2,q3⟩:=Wj hS hev hg hg2
  exact⟨⟨S'.n,g2⟩,⟨E'.ρ,H2⟩,q1,q2,.inl ⟨v,z,rfl,hk,q3 hz hr⟩⟩
 ·obtain⟨H2,q1,q2,_⟩:=Wj (g:=fun _=>none) hS hev (fun _ _ e=>by cases e) (fun i k e=>⟨hg2 i k e,rfl⟩)
  exact⟨⟨S'.n,g2⟩,⟨E'.ρ,H2⟩,q1,q2,.inr ⟨v,rfl,hx⟩⟩
theorem oO.weak{P:Program}{f:FuncId}{args args':List AV}{S:St}{K:AV→St→Prop}{X:Value→St→Prop}(h:oO P f args' S K X)(hl:args'.length=args.length)(hr:∀j (h1:j < args.length) (h2:j < args'.length) (E:Env) (v:Value),aL E (args[j]) v→aL E (args'[j]) v):oO P f args S K X:=
 ⟨h.1,fun E w vals hG hS hv=>h.2 E w vals hG hS ⟨by rw[hv.1,hl],fun j hj=>hr j (by omega) hj E _ (hv.2 j (by omega))⟩⟩
def Bg(rs:List RV)(K:AV→St→Prop)(X:Value→St→Prop):Exit→AF→St→Prop:=fun e a S=>
 match e with
 | .panic ch=>∃v,ch=[{ v,recovered:=false }]∧X v S
 | e=>bK rs K e a S
def Bv(P:Program)(f:FuncId)(ac:AC)(rs:List RV)(n:Nat):Prop:=
 ∃fn c,P.funcs[f]? = some fn∧(fn.name == "runtime.NumGoroutine")=false∧fn.body=some c∧xW P fn.ntmps c=some ac∧fn.results.toList.mapM (vv P)=some rs∧n≤fn.ntmps
theorem Bv.EM{P:Program}(hm:P.follows .mixedOrders=true){f:FuncId}{ac:AC}{rs:List RV}{n:Nat}(h:Bv P f ac rs n){args:List AV}{S:St}{K:AV→St→Prop}{X:Value→St→Prop}(hn:args.length=n)
  (hb:AW P ac (Bg rs K X) (bP args) S):oO P f args S K X:=by
 obtain⟨fn,c,hf,hnm,hbd,hc,hr,h6⟩:=h;refine⟨vK hf hnm hbd,fun E w vals hG hS hv=>?_⟩;refine calls_of_wp hf hbd (wp_mono (VU hm ac c hc _ _ _ hb E w _ hG hS (AA hv (by omega))) fun e act w' hp=>?_);obtain⟨a,S',E',q,s,r,ev⟩:=hp;cases e with
 | normal=>
  simp only[Bg,bK] at q;obtain⟨xs,q1,q2⟩:=q;obtain⟨val,k1,k2⟩:=Aw (P:=P) (fn:=fn) s r hr q1;exact⟨r.defers,_,k1,S',E',s,ev,.inl ⟨_,_,rfl,q2,k2⟩⟩
 | ret=>
  simp only[Bg,bK] at q;obtain⟨xs,q1,q2⟩:=q;obtain⟨val,k1,k2⟩:=Aw (P:=P) (fn:=fn) s r hr q1;exact⟨r.defers,_,k1,S',E',s,ev,.inl ⟨_,_,rfl,q2,k2⟩⟩
 | panic ch=>
  simp only[Bg] at q;obtain⟨v,rfl,hx⟩:=q;exact⟨r.defers,S',E',s,ev,.inr ⟨v,rfl,hx⟩⟩
 | _=>simp only[Bg,bK] at q
def Tw(P:Program)(base:Nat)(p:Option aJ)(os:List aZ)(i:Nat)(Q:Exit→AF→St→Prop)(a:AF)(d:Option Nat)(op:jA)(S:St)(r:Option (AV×St)):Prop:=
 match r with
 | some (v,S')=>jJ P base p os (i+1) Q (a.put d v) S'
 | none=>sJ op a fun v=>jJ P base p os (i+1) Q (a.put d v) S
def Rl(P:Program)(base:Nat)(p:Option aJ)(os:List aZ)(i:Nat)(Q:Exit→AF→St→Prop)(a:AF)(d:Option Nat):AV→St→Prop:=fun r S'=>jJ P base p os (i+1) Q (a.put d r) S'
def Sd(Q:Exit→AF→St→Prop)(a:AF):Value→St→Prop:=fun v S'=>Q (pn v) a S'
def EM(P:Program)(base:Nat)(p:Option aJ)(os:List aZ)(i:Nat)(Q:Exit→AF→St→Prop)(a:AF)(S:St)(d:Option Nat)(f:AV)(args:List AV):Prop:=
 match f with
 | .aP f first cap=>oO P f (first++args++cap) S (Rl P base p os i Q a d) (Sd Q a)
 | _=>False
def JQ(P:Program)(base:Nat)(p:Option aJ)(o:aZ)(os:List aZ)(i:Nat)(Q:Exit→AF→St→Prop)(a:AF)(S:St)(g:AV)(want:Bool):Prop:=
 match g with
 | .v (.bool b)=>if b=want then jJ P base p (⟨o.dst,o.op,none,o.call⟩::os) i Q a S else jJ P base p os (i+1) Q (a.put o.dst (.aM [])) S
 | .aM []=>jJ P base p os (i+1) Q (a.put o.dst (.aM [])) S
 | _=>False
def R6(Q:Exit→AF→St→Prop)(a:AF)(S:St)(x:AV):Prop:=
 match x with
 | .v (.iface t y)=>Q (pn (.iface t y)) a S
 | _=>False
section
variable{P:Program}{Q:Exit→AF→St→Prop}{a:AF}{S:St}{base i:Nat}{os:List aZ}{d:Option Nat}{op:jA}{p:Option aJ}{K:AF→St→Prop}
private theorem Zni:AW P (.mE os p) Q a S=jJ P S.n p os 0 Q a ⟨S.n+os.length,S.g⟩:=rfl
theorem AL:AW P (.mE os p) Q a S=jJ P S.n p os 0 Q a ⟨S.n+os.length,S.g⟩:=by rw[Zni]
theorem zC:jJ P base none [] i Q a S=Q .normal a S:=by simp only[jJ]
private theorem Zno (x:aJ):jJ P base (some x) [] i Q a S=R6 Q a S (x.ev a):=rfl
theorem Zq9(x:aJ):jJ P base (some x) [] i Q a S=R6 Q a S (x.ev a):=by rw[Zno]
theorem ZqP(t:TypeId)(y:Value):R6 Q a S (.v (.iface t y))=Q (pn (.iface t y)) a S:=by simp only[R6]
theorem uF:jJ P base p (⟨d,op,none,none⟩::os) i Q a S=Tw P base p os i Q a d op S ((ex op a).run S (base+i)):=by
 simp only[jJ,gd,Tw];cases(ex op a).run S (base+i)<;>rfl
theorem uE(v:AV)(S':St):Tw P base p os i Q a d op S (some (v,S'))=jJ P base p os (i+1) Q (a.put d v) S':=by simp only[Tw]
private theorem Zkh (G:aJ) (xs:List aJ):jJ P base p (⟨d,op,none,some (G,xs)⟩::os) i Q a S=EM P base p os i Q a S d (G.ev a) (xs.map (·.ev a)):=rfl
theorem BM(G:aJ)(xs:List aJ):jJ P base p (⟨d,op,none,some (G,xs)⟩::os) i Q a S=EM P base p os i Q a S d (G.ev a) (xs.map (·.ev a)):=by rw[Zkh]
theorem BH(f:FuncId)(first cap args:List AV):EM P base p os i Q a S d (.aP f first cap) args=oO P f (first++args++cap) S (Rl P base p os i Q a d) (Sd Q a):=by simp only[EM]
theorem yF(r:AV):Rl P base p os i Q a d r S=jJ P base p os (i+1) Q (a.put d r) S:=by simp only[Rl]
theorem Zmn(v:Value):Sd Q a v S=Q (pn v) a S:=by simp only[Sd]
theorem Px(g:Nat)(want:Bool)(c:Option (aJ×List aJ)):jJ P base p (⟨d,op,some (g,want),c⟩::os) i Q a S=JQ P base p ⟨d,op,none,c⟩ os i Q a S (a g) want:=by
 simp only[jJ,gd,JQ];cases h:a g with
 | v x=>
  cases x with
  | bool b=>
   simp only;cases hb:(b == want) with
   | true=>simp only[beq_iff_eq] at hb;rw[if_pos hb]
   | false=>simp only[beq_eq_false_iff_ne,ne_eq] at hb;rw[if_neg hb]
  | _=>rfl
 | aM vs=>cases vs<;>rfl
 | _=>rfl
theorem XM(c:Option (aJ×List aJ)):JQ P base p ⟨d,op,none,c⟩ os i Q a S (.v (.bool false)) false=jJ P base p (⟨d,op,none,c⟩::os) i Q a S:=by simp[JQ]
theorem ZpH(c:Option (aJ×List aJ)):JQ P base p ⟨d,op,none,c⟩ os i Q a S (.v (.bool true)) false=jJ P base p os (i+1) Q (a.put d (.aM [])) S:=by simp[JQ]
theorem Dm(v:Value):jE K Q (pn v) a S=Q (pn v) a S:=by simp only[pn,jE]
theorem Pw(id:Nat)(v:Value):l7 id Q (pn v) a S=Q (pn v) a S:=by simp only[pn,l7]
theorem Zkk(rs:List RV)(R:AV→St→Prop)(X:Value→St→Prop)(v:Value):Bg rs R X (pn v) a S=X v S:=by
 simp only[Bg,pn];apply propext;constructor
 ·rintro⟨u,e,h⟩
  simp only[List.cons.injEq,PanicEntry.mk.injEq,and_true] at e;obtain⟨rfl⟩:=e;exact h
 ·intro h;exact⟨v,rfl,h⟩
theorem Wt(rs:List RV)(R:AV→St→Prop)(X:Value→St→Prop):Bg rs R X .ret a S=bK rs R .ret a S:=by simp only[Bg]
end
end Go.Rf
