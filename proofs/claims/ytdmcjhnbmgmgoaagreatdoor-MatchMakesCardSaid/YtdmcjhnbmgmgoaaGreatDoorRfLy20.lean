import Derived.Test.YtdmcjhnbmgmgoaaGreatDoorRfTxt
import Derived.Lib.SlicesCompact
import Derived.Lib.RowBridge
import Derived.Sort.Row
import Derived.Sort.Grow
import Derived.ChangeArms
import Derived.WideShapes
import GoSem.ClaimJoined
import Derived.SizedLaws
import Derived.Lib.LaidTab
import Derived.Lib.ItoaNum
import Derived.Test.YtdmcjhnbmgmgoaaGreatDoorProg
import Derived.Ground.NamesProg
import Derived.Ground.Names2Prog
import Derived.Shelf.Sort.Plain
import Derived.Shelf.Slices.CompactI
import Derived.Shelf.Strings.BuilderK
import Derived.Shelf.Strconv.Itoa3
import Derived.Shelf.LaysM
import Derived.Lib.AppendIntMem
import Derived.KernelRfl
set_option linter.unusedVariables false
set_option linter.unusedSimpArgs false
set_option linter.unusedSectionVars false
namespace Go.Rf
open Go.RowKit
def AV.ids:AV→List Nat
 | .own id _ _=>[id]
 | _=>[]
def Vec(g:Nat→Option Blk)(v:AV)(es:Nat)(xs:List AV):Prop :=
 (v=.sl true []∧xs=[])∨∃id off ys,v=.own id off xs.length∧g id=some (.arr es ys)∧off≤ys.length∧ys.drop off=xs
def ZlO(v:AV)(i:Nat):AV :=
 match v with
 | .own id off _=>.ptr id (off+i) 0
 | _=>.junk
def St.without(S:St)(v:AV):St :=
 match v with
 | .own id _ _=>S.set id none
 | _=>S
def St.setAt(S:St)(v:AV)(i:Nat)(x:AV):St :=
 match v with
 | .own id off _=>match S.g id with
  | some (.arr es ys)=>S.set id (some (.arr es (ys.set (off+i) x)))
  | _=>S
 | _=>S
theorem Z4Y{S:St}{v:AV}(j:Nat)(hj:j∉v.ids):(S.without v).g j=S.g j:=by
 cases v<;>simp_all [St.without,AV.ids,Z0A]
theorem Z6q{S:St}{v:AV}:(S.without v).n=S.n:=by cases v<;>simp[St.without,Z2k]
section
variable{g:Nat→Option Blk}{n:Nat}{v:AV}{es:Nat}{xs:List AV}{nid:Nat}
theorem Vec.nil:Vec g (.sl true []) es []:=.inl ⟨rfl,rfl⟩
theorem Vec.mk{id:Nat}(h:g id=some (.arr es xs)):Vec g (.own id 0 xs.length) es xs:=.inr ⟨id,0,xs,rfl,h,by simp,by simp⟩
theorem Vec.mk'{id m:Nat}(h:g id=some (.arr es xs))(hm:m=xs.length):Vec g (.own id 0 m) es xs:=hm ▸ Vec.mk h
theorem Vec.frame{g':Nat→Option Blk}(h:Vec g v es xs)(hs:∀i∈v.ids,g' i=g i):Vec g' v es xs:=by
 rcases h with h | ⟨id,off,ys,rfl,h1,h2,h3⟩
 ·exact .inl h
 ·exact .inr ⟨id,off,ys,rfl,by rw[hs id (by simp[AV.ids])];exact h1,h2,h3⟩
theorem Vec.live(h:Vec g v es xs):∀i∈v.ids,∃ys,g i=some (.arr es ys):=by
 rcases h with⟨rfl,_⟩ | ⟨id,off,ys,rfl,h1,h2,h3⟩
 ·simp[AV.ids]
 ·simp[AV.ids,h1]
theorem Vec.len(h:Vec g v es xs):Z3S v=some (.v (.int .i64 xs.length)):=by
 rcases h with⟨rfl,rfl⟩ | ⟨id,off,ys,rfl,h1,h2,h3⟩<;>simp[Z3S]
theorem Vec.idx(h:Vec g v es xs)(k:IntKind)(i:Nat)(hi:i < xs.length):(Z1F es v (.v (.int k i))).run ⟨n,g⟩ nid=some (ZlO v i,⟨n,g⟩):=by
 rcases h with⟨rfl,rfl⟩ | ⟨id,off,ys,rfl,h1,h2,h3⟩
 ·simp at hi
 ·have hl:off+xs.length=ys.length:=by rw[←h3];simp;omega
  simp[Z1F,h1,ZlO,hi];omega
theorem Vec.load(h:Vec g v es xs)(i:Nat)(hi:i < xs.length)(hc:(xs[i]).cells=[xs[i]]):(Z1q none (ZlO v i)).run ⟨n,g⟩ nid=some (xs[i],⟨n,g⟩):=by
 rcases h with⟨rfl,rfl⟩ | ⟨id,off,ys,rfl,h1,h2,h3⟩
 ·simp at hi
 ·have hl:off+xs.length=ys.length:=by rw[←h3];simp;omega
  have hg:ys[off+i]? = some xs[i]:=by
   subst h3;rw[List.getElem_drop];exact List.getElem?_eq_getElem (by omega)
  simp[Z1q,ZlO,h1,hg,Z51,hc]
theorem Vec.store{x:AV}(h:Vec g v 1 xs)(i:Nat)(hi:i < xs.length)(hx:x.solid=true)(hc:x.cells.length=1)(hy:(xs[i]).cells.length=1) :
  (Z19 1 (ZlO v i) x).run ⟨n,g⟩ nid=some (.junk,St.setAt ⟨n,g⟩ v i x)∧Vec (St.setAt ⟨n,g⟩ v i x).g v 1 (xs.set i x)∧(∀j,j∉v.ids→(St.setAt ⟨n,g⟩ v i x).g j=g j)∧(St.setAt ⟨n,g⟩ v i x).n=n:=by
 rcases h with⟨rfl,rfl⟩ | ⟨id,off,ys,rfl,h1,h2,h3⟩
 ·simp at hi
 ·have hl:off+xs.length=ys.length:=by rw[←h3];simp;omega
  have hg:ys[off+i]? = some xs[i]:=by
   subst h3;rw[List.getElem_drop];exact List.getElem?_eq_getElem (by omega)
  refine⟨?_,.inr ⟨id,off,ys.set (off+i) x,by simp,by simp[St.setAt,h1,Z0A],by simpa using h2,?_⟩,fun j hj=>?_,?_⟩
  ·simp[Z19,ZlO,h1,hg,hx,hc,hy,Z5y,St.setAt]
  ·rw[←h3,List.drop_set,if_neg (by omega)]
   congr 1;omega
  ·simp only[AV.ids,List.mem_singleton] at hj
   simp[St.setAt,h1,Z0A,hj]
  ·simp[St.setAt,h1,Z2k]
theorem Vec.tail(h:Vec g v es xs)(k:IntKind)(hp:0 < xs.length):∃v',(ZaE es v (some (.v (.int k 1))) none).run ⟨n,g⟩ nid=some (v',⟨n,g⟩)∧Vec g v' es xs.tail∧v'.ids=v.ids:=by
 rcases h with⟨rfl,rfl⟩ | ⟨id,off,ys,rfl,h1,h2,h3⟩
 ·simp at hp
 ·have hl:off+xs.length=ys.length:=by rw[←h3];simp;omega
  refine⟨.own id (off+1) (xs.length - 1),?_,.inr ⟨id,off+1,ys,by simp,h1,by omega,?_⟩,rfl⟩
  ·simp[ZaE,h1,bnd]
   exact List.ne_nil_of_length_pos hp
  ·rw[←h3,List.tail_drop]
theorem Vec.app{x:AV}{by_:Nat}(h:Vec g v es xs)(hes:∀z∈xs,z.cells.length=es)(hx:x.cells.length=es)(hok:Z1K by_ xs.length 1) :
  (Z57 es by_ v (.sl true [x])).run ⟨n,g⟩ nid=some (.own nid 0 (xs.length+1),(St.without ⟨n,g⟩ v).set nid (some (.arr es (xs++[x])))):=by
 rcases h with⟨rfl,rfl⟩ | ⟨id,off,ys,rfl,h1,h2,h3⟩
 ·simp only[List.length_nil] at hok
  simp[Z57,Eff.run,AV.oid,Z9f,hx,hok,St.without,St.P1B,St.P1P]
 ·have hl:off+xs.length=ys.length:=by rw[←h3];simp;omega
  simp[Z57,Eff.run,AV.oid,Z9f,hx,hok,St.without,St.P1B,St.P1P,h1,hl,h3]
theorem Vec.fz{X:Type}{enc:X→AV}{l:List X}(h:Vec g v es (l.map enc))(hc:∀x,Z0S (enc x)):Fz g v (.sl false (l.map enc)):=by
 rcases h with⟨rfl,h0⟩ | ⟨id,off,ys,rfl,h1,h2,h3⟩
 ·rw[h0];exact .loose true [] (.sl _ _ (by simp))
 ·have hl:off+(l.map enc).length=ys.length:=by rw[←h3];simp;omega
  have ht:(ys.drop off).take (l.map enc).length=l.map enc:=by rw[h3,List.take_length]
  refine .own id off _ es ys _ h1 (by omega) rfl (fun i h1 h2=>?_);simp only[ht];refine .closed _ ?_;rw[List.getElem_map];exact hc _
end
theorem Vec.fzN{g:Nat→Option Blk}{v:AV}{es:Nat}{l:List Int}(h:Vec g v es (l.map Z06)):FzN g v (.sl false (l.map Z06)):=by
 rcases h with⟨rfl,h0⟩ | ⟨id,off,ys,rfl,h1,h2,h3⟩
 ·rw[h0];exact .nil true false (by simp)
 ·have hl:off+(l.map Z06).length=ys.length:=by rw[←h3];simp;omega
  have ht:(ys.drop off).take (l.map Z06).length=l.map Z06:=by rw[h3,List.take_length]
  refine .own id off _ es ys _ h1 (by omega) rfl (fun i h1 h2=>?_);simp only[ht];rw[List.getElem_map];exact .v _
theorem ZbQ(l:List Int):∀z∈l.map Z06,z.cells.length=1:=by
 intro z hz;obtain⟨n,_,rfl⟩:=List.mem_map.mp hz;rfl
theorem Zu1{n:Nat}(h:n≤1000000000000):Z1K 8 n 1:=by unfold Z1K;omega
structure Rows(g:Nat→Option Blk)(n:Nat)(av:List Nat)(vs:List AV)(ls:List (List Int)):Prop where
 len:vs.length=ls.length
 row:∀t (h:t < vs.length) (h':t < ls.length),Vec g vs[t] 1 ((ls[t]).map Z06)
 sep:vs.Pairwise (fun a b=>∀i∈a.ids,i∉b.ids)
 out:∀v∈vs,∀i∈v.ids,i < n∧i∉av
theorem Rows.frame{g g':Nat→Option Blk}{n n':Nat}{av:List Nat}{vs:List AV}{ls:List (List Int)}(h:Rows g n av vs ls)(hn:n≤n')(hg:∀i,i < n→i∉av→g' i=g i):Rows g' n' av vs ls :=
 ⟨h.len,fun t h1 h2=>(h.row t h1 h2).frame (fun i hi=>hg i (h.out _ (List.getElem_mem h1) i hi).1 (h.out _ (List.getElem_mem h1) i hi).2),h.sep,fun v hv i hi=>⟨Nat.lt_of_lt_of_le (h.out v hv i hi).1 hn,(h.out v hv i hi).2⟩⟩
theorem Rows.other{g:Nat→Option Blk}{n:Nat}{av:List Nat}{vs:List AV}{ls:List (List Int)}(h:Rows g n av vs ls){t u:Nat}(ht:t < vs.length)(hu:u < vs.length)(hne:t≠u):∀i∈vs[t].ids,i∉vs[u].ids:=by
 have hp:=List.pairwise_iff_getElem.mp h.sep;rcases Nat.lt_or_ge t u with h1 | h1
 ·exact hp t u ht hu h1
 ·intro i hi hi2
  exact hp u t hu ht (by omega) i hi2 hi
theorem Rows.upd{g g':Nat→Option Blk}{n n':Nat}{av:List Nat}{vs:List AV}{ls:List (List Int)}(h:Rows g n av vs ls){t:Nat}(ht:t < vs.length){v:AV}{l:List Int}(hv:Vec g' v 1 (l.map Z06))(hn:n≤n')
  (hid:∀i∈v.ids,i < n'∧i∉av∧(i∈vs[t].ids∨n≤i)) (hg:∀i,i < n→i∉av→i∉vs[t].ids→g' i=g i):Rows g' n' av (vs.set t v) (ls.set t l):=by
 refine⟨by simp[h.len],fun u h1 h2=>?_,?_,fun w hw i hi=>?_⟩
 ·simp only[List.length_set] at h1 h2
  rw[List.getElem_set,List.getElem_set];by_cases hu:t=u
  ·rw[if_pos hu,if_pos hu];exact hv
  ·rw[if_neg hu,if_neg hu]
   refine(h.row u h1 h2).frame fun i hi=>?_
   obtain⟨o1,o2⟩:=h.out _ (List.getElem_mem h1) i hi;exact hg i o1 o2 (fun h3=>h.other ht h1 hu i h3 hi)
 ·rw[List.pairwise_iff_getElem]
  intro a b ha hb hab i hi;simp only[List.length_set] at ha hb;rw[List.getElem_set] at hi ⊢;by_cases h1:t=a
  ·rw[if_pos h1] at hi
   rw[if_neg (by omega)];rcases(hid i hi).2.2 with h3 | h3
   ·exact h.other ht hb (by omega) i h3
   ·intro h4;have:=(h.out _ (List.getElem_mem hb) i h4).1;omega
  ·rw[if_neg h1] at hi
   by_cases h2:t=b
   ·rw[if_pos h2]
    intro h4;rcases(hid i h4).2.2 with h3 | h3
    ·exact h.other ht ha h1 i h3 hi
    ·have:=(h.out _ (List.getElem_mem ha) i hi).1;omega
   ·rw[if_neg h2]
    exact h.other ha hb (by omega) i hi
 ·rcases List.mem_or_eq_of_mem_set hw with hw | rfl
  ·obtain⟨o1,o2⟩:=h.out w hw i hi;exact⟨by omega,o2⟩
  ·exact⟨(hid i hi).1,(hid i hi).2.1⟩
theorem Rows.app{g:Nat→Option Blk}{n m:Nat}{av:List Nat}{vs:List AV}{ls:List (List Int)}(h:Rows g n av vs ls){t:Nat}(ht:t < vs.length)(ht':t < ls.length)(x:Int){nid:Nat}(h1:n≤nid)(h2:nid < m)(h3:nid∉av) :
  Rows ((St.without ⟨m,g⟩ vs[t]).set nid (some (.arr 1 ((ls[t]).map Z06++[Z06 x])))).g m av (vs.set t (.own nid 0 ((ls[t]).length+1))) (ls.set t (ls[t]++[x])):=by
 refine h.upd ht (.mk' (by simp[Z0A]) (by simp)) (by omega) (fun i hi=>?_) (fun i h4 h5 h6=>?_)
 ·simp only[AV.ids,List.mem_singleton] at hi
  subst hi;exact⟨h2,h3,.inr h1⟩
 ·rw[Z0A,if_neg (by omega),Z4Y i h6]
theorem Rows.av{g:Nat→Option Blk}{n m:Nat}{av:List Nat}{vs:List AV}{ls:List (List Int)}(h:Rows g n av vs ls){t:Nat}(ht:t < vs.length){nid:Nat}(b:Option Blk){i:Nat}(hi:i∈av)(hne:i≠nid) :
  ((St.without ⟨m,g⟩ vs[t]).set nid b).g i=g i:=by
 rw[Z0A,if_neg hne,Z4Y i (fun h6=>(h.out _ (List.getElem_mem ht) i h6).2 hi)]
inductive RV where
 | t (i:Nat)
 | c (i:Nat) (k:Option Nat)
def ZlW(P:Program):ResultVar→Option RV
 | .tmp t=>some (.t t)
 | .cell a t=>(Z8e P t).map (.c a)
def ldC(k:Option Nat)(g:Nat→Option Blk):AV→Option AV
 | .ptr id ix c=>match g id with
  | some (.arr _ xs)=>(xs[ix]?).bind fun x=>Z51 k x c
  | _=>none
 | _=>none
def RV.ev(a:AF)(g:Nat→Option Blk):RV→Option AV
 | .t i=>some (a i)
 | .c i k=>ldC k g (a i)
def evC(a:AF)(g:Nat→Option Blk):List RV→Option (List AV)
 | []=>some []
 | r::rs=>(r.ev a g).bind fun x=>(evC a g rs).map (x::·)
def Z1b:List AV→AV
 | [x]=>x
 | xs=>.tup xs
def Z2L(rs:List RV)(K:AV→St→Prop):Exit→AF→St→Prop
 | .ret,a,S=>∃xs,evC a S.g rs=some xs∧K (Z1b xs) S
 | .normal,a,S=>∃xs,evC a S.g rs=some xs∧K (Z1b xs) S
 | _,_,_=>False
theorem Zth{P:Program}{E:Env}{S:St}{w:World}(hS:Sim E S w){t:TypeId}{k:Option Nat}(hk:Z8e P t=some k){p x:AV}{u:Value}(r:Rep E p u)(h:ldC k S.g p=some x) :
  ∃val,(do loadVar t (←asAddr u):Sem Value).run P w=.ok val w∧Rep E x val:=by
 cases p<;>simp only[ldC] at h
 all_goals (try (cases h))
 rename_i id ix c;cases r with
 | ptr _ _ _ l hl =>
  split at h
  ·rename_i es xs hg
   cases hxi:xs[ix]? with
   | none=>rw[hxi] at h;simp at h
   | some y =>
    rw[hxi] at h;simp only[Option.bind_some] at h;obtain⟨l',e,hN,h2,h3,h4,h5,cs,el,h6,h7,h8⟩:=hS.live id _ hg;rw[hl] at e;cases e;obtain⟨hixl,hye⟩:=List.getElem?_eq_some_iff.mp hxi;have hfl:=ZaF h4 ix hixl
    have hcells:∀j (hj:j < y.cells.length),∃u,cs[l.o+ix*l.es+j]? = some u∧Rep E (y.cells[j]) u:=by
     intro j hj;subst hye;obtain⟨hk',e⟩:=hfl j hj;obtain⟨u,a1,a2⟩:=h8 _ hk';rw[e] at a2;refine⟨u,?_,a2⟩;rw[h2,Nat.add_assoc];exact a1
    have hat:∀z∈y.cells,z.atom=true:=by
     intro z hz;refine h5 z ?_;simp only[flat,List.mem_flatMap];exact⟨y,by rw[←hye];exact List.getElem_mem hixl,hz⟩
    obtain⟨val,h9,h10⟩:=ZaK (P:=P) hk h h6 hat hcells;exact⟨val,by simp only[Sem.run_bind];exact h9,h10⟩
  ·cases h
theorem Z4K{P:Program}{fn:Func}{E:Env}{S:St}{w:World}(hS:Sim E S w){n:Nat}{a:AF}{act:Act}(hF:Z6O E n a act){rs:List RV}(hr:fn.results.toList.mapM (ZlW P)=some rs){xs:List AV}(hx:evC a S.g rs=some xs) :
  ∃val,(results fn act.tmps).run P w=.ok val w∧Rep E (Z1b xs) val:=by
 have hm:∀(l:List ResultVar) (rs:List RV) (xs:List AV),l.mapM (ZlW P)=some rs→evC a S.g rs=some xs→∃vals:List Value,(l.mapM (fun
   | .tmp t=>pure (act.tmps.getD t undef)
   | .cell a t=>do loadVar t (←asAddr (act.tmps.getD a undef)):ResultVar→Sem Value)).run P w=.ok vals w∧vals.length=xs.length∧∀j (h:j < xs.length),Rep E (xs[j]) (vals.getD j undef):=by
  intro l;induction l with
  | nil=>intro rs xs h1 h2;simp at h1;subst h1;simp[evC] at h2;subst h2;exact⟨[],rfl,rfl,by simp⟩
  | cons q l ih =>
   intro rs xs h1 h2;simp only[List.mapM_cons,Option.bind_eq_bind,Option.bind_eq_some_iff,Option.pure_def,Option.some.injEq] at h1;obtain⟨y,hy,zs,hz,rfl⟩:=h1;simp only[evC,Option.bind_eq_some_iff,Option.map_eq_some_iff] at h2;obtain⟨x,hx,us,hu,rfl⟩:=h2;obtain⟨vals,g1,g2,g3⟩:=ih _ _ hz hu
   have key:∀val,(match q with
     | .tmp t=>pure (act.tmps.getD t undef)
     | .cell a t=>do loadVar t (←asAddr (act.tmps.getD a undef)):Sem Value).run P w=.ok val w→Rep E x val→∃vals:List Value,((q::l).mapM (fun
    | .tmp t=>pure (act.tmps.getD t undef)
    | .cell a t=>do loadVar t (←asAddr (act.tmps.getD a undef)):ResultVar→Sem Value)).run P w=.ok vals w∧vals.length=(x::us).length∧∀j (h:j < (x::us).length),Rep E ((x::us)[j]) (vals.getD j undef):=by
    intro val k1 k2;refine⟨val::vals,?_,by simp[g2],fun j hj=>?_⟩
    ·simp only[List.mapM_cons,Sem.run_bind]
     rw[k1];simp only[Result.andThen_ok];rw[g1];rfl
    ·cases j with
     | zero=>simpa using k2
     | succ j=>simpa using g3 j (by simpa using hj)
   cases q with
   | tmp t =>
    simp only[ZlW,Option.some.injEq] at hy;subst hy;simp only[RV.ev,Option.some.injEq] at hx;subst hx;exact key _ rfl (hF.at_ t)
   | cell c t =>
    simp only[ZlW,Option.map_eq_some_iff] at hy;obtain⟨k,hk,rfl⟩:=hy;simp only[RV.ev] at hx;obtain⟨val,k1,k2⟩:=Zth hS hk (hF.at_ c) hx;exact key val k1 k2
 obtain⟨vals,g1,g2,g3⟩:=hm _ _ _ hr hx;unfold results;rw[Array.mapM_eq_mapM_toList,map_eq_pure_bind];simp only[Sem.run_bind];erw [g1];simp only[Result.andThen_ok]
 match xs,vals,g2 with
 | [],[],_=>exact⟨_,rfl,.tup _ _ (by simp) (by simp)⟩
 | [x],[v],_=>exact⟨v,rfl,by simpa[Z1b] using g3 0 (by simp)⟩
 | x::y::xs,v::u::vals,g2 =>
  refine⟨.tuple (v::u::vals).toArray,?_,?_⟩
  ·show Result.ok (if h:_ then _ else _) w=_
   rw[dif_neg (by simp)]
  ·refine .tup _ _ (by simp at g2 ⊢;omega) (fun j hj=>?_)
   have:=g3 j hj;simpa[Array.getD_eq_getD_getElem?,List.getD_eq_getElem?_getD] using this
def IsC(P:Program)(f:FuncId)(ac:AC)(rs:List RV)(n:Nat):Prop :=
 ∃fn c,P.funcs[f]? = some fn∧(fn.name == "runtime.NumGoroutine")=false∧fn.body=some c∧comp P fn.ntmps c=some ac∧fn.results.toList.mapM (ZlW P)=some rs∧n≤fn.ntmps
theorem IsC.P3z{P:Program}(hm:P.follows .mixedOrders=true){f:FuncId}{ac:AC}{rs:List RV}{n:Nat}(h:IsC P f ac rs n){args:List AV}(hn:args.length=n){S:St}{K:AV→St→Prop}
  (hb:AW P ac (Z2L rs K) (Z53 args) S):Z0x P f args S K:=by
 obtain⟨fn,c,hf,hnm,hbd,hc,hr,h6⟩:=h;refine⟨Z3b hf hnm hbd,fun E w vals hG hS hv=>?_⟩;refine calls_of_wp hf hbd (wp_mono (ZfB hm ac c hc _ _ _ hb E w _ hG hS (Z6p hv (by omega))) fun e act w' hp=>?_);obtain⟨a,S',E',q,s,r,ev⟩:=hp;cases e<;>simp only[Z2L] at q
 ·obtain⟨xs,q1,q2⟩:=q
  obtain⟨val,k1,k2⟩:=Z4K (P:=P) (fn:=fn) s r hr q1;exact⟨r.defers,_,k1,_,_,S',E',rfl,q2,s,k2,ev⟩
 ·obtain⟨xs,q1,q2⟩:=q
  obtain⟨val,k1,k2⟩:=Z4K (P:=P) (fn:=fn) s r hr q1;exact⟨r.defers,_,k1,_,_,S',E',rfl,q2,s,k2,ev⟩
theorem IsC.pure{P:Program}(hm:P.follows .mixedOrders=true){f:FuncId}{ac:AC}{rs:List RV}{n:Nat}(h:IsC P f ac rs n){args:List AV}(hn:args.length=n){r:AV}
  (hb:AW P ac (Z2L rs (FzK r)) (Z53 args) S0):Z0t P f args r :=
 .P1h (h.P3z hm hn hb)
end Go.Rf
namespace Go.Rf
theorem Z5A.kl{P:Program}{f:FuncId}{args:List AV}{r:AV}{S:St}(h:Z0t P f args r)(hc:∀x∈args,Z0S x)(hr:Z0S r):Z5A P f args S [] r :=
 ⟨args,h,rfl,fun j h1 _=>.closed _ (hc _ (List.getElem_mem h1)),.inr (.inl ⟨rfl,hr⟩)⟩
end Go.Rf
namespace Go.Rf
attribute [local simp] Z4c Z48 Z2M Z2a Z2P Z2R Z2Q Z4a Z4b Z1e Z16 Z0c Z0B Z0q Z08 Z0o Z0h Z09 Z0p Z0i Z0Y Z0j Z0z Z0K Z0k Z0J Z1W Z3U Z0X Z25 Z22 Z24 Z23 Z26 Z1j Z0D Z11 Z12 Z1T Z1U Z1V Z0H Z0I Z1i Z0r Z0W Z20 Z1X Z1Z Z1Y Z21 Z1k Z13 Z1g Z0U Z0V Z0C Z1h Z0P Z1a Z1f Z14 Z1l ex Z00 Z0R Z6K Z6P Z0f Z0g Z0A Z2k Z1d Z10 Z0y Z0F Z0G Z0E Z0s Z0Z Z5y Z0O Z37 Z1c Z1O Z1R Z3s Z0b Z1q Z19 Z0Q Z1F Z3S Z1P Z6A Z3C Z6z Z3w Z2Y Z3t Z6w Z3D Z51 AV.solid S0 Z06 Z1n
def ZbO:AC :=
 (.block 0 (.loop (.seq (.seq (.reg none [
  rm 6 5,
  rm 7 0,
  ro 8 (.len (.t 7)),
  ro 9 (.bin .lss (.t 6) (.t 8)),
  rm 10 9,
  rg 11 10 true (.mv (.t 0)),
  rg 12 10 true (.mv (.t 5)),
  rg 13 10 true (.idxA 1 (.t 11) (.t 12)),
  rg 14 10 true (.load none (.t 13)),
  rg 15 10 true (.mv (.t 1)),
  rg 16 10 true (.bin .lss (.t 14) (.t 15)),
  ro 17 (.pick (.t 10) (.t 16) (.c (.v (.bool false))))])
  (.cond (.t 17) .skip (.exit 0)))
  (.block 1 (.reg none [
   rm 18 5,
   ro 19 (.bin .add (.t 18) (ci 1)),
   rm 5 19])))))
def Za2:AC :=
 (.seq (.reg (some [[],[],[],[],[],[true],[false,true],[],[true,false,false,true],[false,true,false,false,true],[false,false,true,false,false,true]]) [
 ro 33 (.bslice 1 0 (.v (.int .i64 0)) []),
 rm 34 0,
 rm 35 5,
 ro 36 (.slc 1 (.t 34) none (some (.t 35))),
 ro 37 (.app 1 8 (.t 33) (.t 36)),
 rm 38 1,
 ro 39 (.bslice 1 1 (.v (.int .i64 0)) [(0,(.t 38))]),
 ro 40 (.app 1 8 (.t 37) (.t 39)),
 rm 41 0,
 rm 42 5,
 ro 43 (.slc 1 (.t 41) (some (.t 42)) none),
 ro 44 (.app 1 8 (.t 40) (.t 43)),
 rm 4 44])
 .ret)
def Z4l:AC :=
 (.seq (.reg none [
 ro 4 (.mv (.c (.sl true [])))])
 (.seq (.reg none [
 ro 5 (.mv (ci 0))])
 (.seq ZbO
 (.seq (.seq (.reg none [
 rm 20 5,
 rm 21 0,
 ro 22 (.len (.t 21)),
 ro 23 (.bin .lss (.t 20) (.t 22)),
 rm 24 23,
 rg 25 24 true (.mv (.t 0)),
 rg 26 24 true (.mv (.t 5)),
 rg 27 24 true (.idxA 1 (.t 25) (.t 26)),
 rg 28 24 true (.load none (.t 27)),
 rg 29 24 true (.mv (.t 1)),
 rg 30 24 true (.bin .eql (.t 28) (.t 29)),
 ro 31 (.pick (.t 24) (.t 30) (.c (.v (.bool false))))])
 (.cond (.t 31) (.seq (.reg none [
  rm 32 0,
  rm 4 32])
 .ret) .skip))
 Za2))))
structure Rg where
 low:Int
 high:Int
deriving DecidableEq
def Zrc(r:Rg):AV:=.agg [Z06 r.low,Z06 r.high]
def Zdz(l:List Rg):AV:=.sl false (l.map Zrc)
theorem ZpE(r:Rg):Z0S (Zrc r):=.agg _ (by
 intro y hy;simp only[List.mem_cons,List.not_mem_nil,or_false] at hy;rcases hy with rfl | rfl<;>exact Z04 _)
theorem Z4S(l:List Rg):Z0S (Zdz l):=Z7S ZpE l
theorem Zpt{es by_:Nat}{t:Bool}{S:St}{nid:Nat}:(Z57 es by_ (.sl true []) (.sl t [])).runT S nid=if Z1K by_ 0 0 then some (.sl true [],S,[],[]) else none:=by
 by_cases h:Z1K by_ 0 0<;>simp[Z57,Eff.runT,AV.oid,Z9f,h,St.P1B,St.P1P]
theorem ZmE{es by_:Nat}{t:Bool}{ys:List AV}{S:St}{nid:Nat}(hy:∀z∈ys,z.cells.length=es)(h0:0 < ys.length)(hok:Z1K by_ 0 ys.length) :
  (Z57 es by_ (.sl true []) (.sl t ys)).runT S nid=some (.own nid 0 ys.length,S.set nid (some (.arr es ys)),[],[nid]):=by
 have hne:¬(ys=[]):=by intro e;subst e;simp at h0
 have hz:¬(ys.length=0):=by omega
 simp only[Z57,Eff.runT,AV.oid,List.mapM_nil,Z9f];rw[if_pos hy];simp only[Option.pure_def,Option.bind_some,List.length_nil,Nat.zero_add,List.nil_append];rw[if_pos ⟨by simp,hok⟩,if_neg hz];simp[St.P1B,St.P1P]
theorem Zpu{es by_ id len:Nat}{t:Bool}{xs ys:List AV}{S:St}{nid:Nat}(hg:S.g id=some (.arr es xs))(hl:len=xs.length)(hy:∀z∈ys,z.cells.length=es)(hok:Z1K by_ len ys.length) :
  (Z57 es by_ (.own id 0 len) (.sl t ys)).runT S nid=some (.own nid 0 (len+ys.length),(S.set id none).set nid (some (.arr es (xs++ys))),[id],[id,nid]):=by
 subst hl;simp only[Z57,Eff.runT,AV.oid,List.mapM_cons,List.mapM_nil,hg,Z9f];simp only[Option.pure_def,Option.bind_some,Option.bind_eq_bind];rw[if_pos hy];simp only[Option.bind_some,Nat.zero_add];rw[if_pos ⟨trivial,trivial,hok,by simp⟩];simp[St.P1B,St.P1P]
theorem ZmF{es by_ id len:Nat}{t:Bool}{xs ys:List AV}{S:St}{nid:Nat}(hg:S.g id=some (.arr es xs))(hl:len=xs.length)(hy:∀z∈ys,z.cells.length=es)(hok:Z1K by_ len ys.length) :
  (Z57 es by_ (.own id 0 len) (.sl t ys)).run S nid=some (.own nid 0 (len+ys.length),(S.set id none).set nid (some (.arr es (xs++ys)))):=by
 subst hl;simp only[Z57,Eff.run,AV.oid,List.mapM_cons,List.mapM_nil,hg,Z9f];simp only[Option.pure_def,Option.bind_some,Option.bind_eq_bind];rw[if_pos hy];simp only[Option.bind_some,Nat.zero_add];rw[if_pos ⟨trivial,trivial,hok,by simp⟩];simp[St.P1B,St.P1P]
def Z7K:List Int→Int→List Int
 | [],n=>[n]
 | x::l,n=>if x < n then x::Z7K l n else if x=n then x::l else n::x::l
theorem Zos(n:Int):∀(l:List Int) (k:Nat),k≤l.length→(∀j (h:j < l.length),j < k→l[j] < n)→(∀h:k < l.length,¬l[k] < n) →
  Z7K l n=if l[k]? = some n then l else l.take k++n::l.drop k
 | [],k,hk,_,_=>by
  have:k=0:=by simpa using hk
  subst this;simp[Z7K]
 | x::l,0,_,_,h=>by
  have h0:=h (by simp);simp only[List.getElem_cons_zero] at h0;simp only[Z7K,if_neg h0,List.getElem?_cons_zero,Option.some.injEq,List.take_zero,List.drop_zero,List.nil_append]
 | x::l,k+1,hk,h1,h2=>by
  have hx:=h1 0 (by simp) (by omega);simp only[List.getElem_cons_zero] at hx;have ih:=Zos n l k (by simpa using hk) (fun j hj hjk=>by have:=h1 (j+1) (by simpa using hj) (by omega);simpa using this) (fun h=>by have:=h2 (by simpa using h);simpa using this);simp only[Z7K,if_pos hx,List.getElem?_cons_succ,List.take_succ_cons,List.drop_succ_cons,ih];split<;>simp
def puI(l:List Int)(n:Int)(m:Nat)(f:AF)(S:St):Prop :=
 ∃k,k≤l.length∧m=l.length - k∧f 0=Z03 l∧f 1=Z06 n∧f 5=Z06 k∧∀j (h:j < l.length),j < k→l[j] < n
theorem Zqo{P:Program}{l:List Int}(hl:l.length≤100000){n:Int}{f:AF}{S:St}{Q:Exit→AF→St→Prop}(h0:puI l n l.length f S)
  (hq:∀f' S' k,k≤l.length→f' 0=Z03 l→f' 1=Z06 n→f' 5=Z06 k→(∀j (h:j < l.length),j < k→l[j] < n)→(∀h:k < l.length,¬l[k] < n)→Q .normal f' S'):AW P ZbO Q f S:=by
 simp[ZbO];refine ZbI (puI l n) l.length h0 ?_;rintro m f S ⟨k,hk,rfl,e0,e1,e5,hno⟩;by_cases hlt:k < l.length
 ·have hI:(k:Int) < l.length:=by omega
  have hg:l[k]? = some l[k]:=List.getElem?_eq_getElem hlt;have hw:IntKind.i64.wrap ((k:Int)+1)=(k:Int)+1:=Z0m _ (by omega);by_cases hc:l[k] < n
  ·simp[e0,e1,e5,hI,hlt,hg,Z03,hc,hw]
   refine⟨l.length - (k+1),by omega,k+1,by omega,rfl,?_,?_,?_,fun j hj hjk=>?_⟩
   ·simp[Z00,e0,Z03]
   ·simp[Z00,e1]
   ·simp[Z00,Z06]
   ·by_cases hjk2:j=k
    ·subst hjk2;exact hc
    ·exact hno j hj (by omega)
  ·simp[e0,e1,e5,hI,hlt,hg,Z03,hc]
   refine hq _ _ k hk ?_ ?_ ?_ hno (fun _=>hc)<;>simp[Z00,e0,e1,e5,Z03]
 ·have hI:¬(k:Int) < l.length:=by omega
  simp[e0,e1,e5,hI,hlt,Z03];refine hq _ _ k hk ?_ ?_ ?_ hno (fun h=>(hlt h).elim)<;>simp[Z00,e0,e1,e5,Z03]
theorem Zkz{P:Program}{l:List Int}(hl:l.length≤100000){n:Int}{k:Nat}(hk:k≤l.length){f:AF}{S:St}(e0:f 0=Z03 l)(e1:f 1=Z06 n)(e5:f 5=Z06 k) :
  AW P Za2 (Z75 [4] (FzK (Z03 (l.take k++n::l.drop k)))) f S:=by
 have hcs:∀y∈(l.map Z06).take k,y.cells.length=1:=fun y hy=>ZbQ l y (List.mem_of_mem_take hy)
 have hcd:∀y∈(l.map Z06).drop k,y.cells.length=1:=fun y hy=>ZbQ l y (List.mem_of_mem_drop hy)
 have hT:List.take l.length (l.map Z06)=l.map Z06:=List.take_of_length_le (by simp);have hlen:((l.map Z06).take k).length=k:=by simp;omega
 have hlen2:((l.map Z06).drop k).length=l.length - k:=by simp
 by_cases hk0:k=0
 ·subst hk0
  simp[Za2,e0,e1,e5,Z03,ZaE,bnd,Zpt,Z1K,hT];rw[ZmE]
  ·simp[e0,e1,e5,Z03,ZaE,bnd,hT]
   rw[ZmF (xs:=[.v (.int .i64 n)])]
   ·simp
    exact Vec.fz (es:=1) (l:=n::l) (Vec.mk' (by simp[Z0A,Z06]) (by simp;omega)) Z04
   ·simp[Z0A]
   ·simp
   ·exact ZbQ l
   ·unfold Z1K;simp;omega
  ·simp[AV.cells]
  ·simp
  ·unfold Z1K;simp
 ·simp[Za2,e0,e1,e5,Z03,ZaE,bnd,hk,hT]
  have hmin:min k l.length=k:=by omega
  rw[ZmE hcs (by rw[hlen];omega) (by unfold Z1K;rw[hlen];omega)];simp[e0,e1,e5,hmin];rw[Zpu (xs:=(l.map Z06).take k)]
  ·simp[e0,e1,e5,Z03,ZaE,bnd,hk,hT]
   rw[ZmF (xs:=(l.map Z06).take k++[.v (.int .i64 n)])]
   ·simp
    have e:(l.take k++n::l.drop k).map Z06=(l.map Z06).take k++AV.v (.int .i64 n)::(l.map Z06).drop k:=by simp[List.map_take,List.map_drop,Z06]
    rw[←e];exact Vec.fz (es:=1) (l:=l.take k++n::l.drop k) (Vec.mk' (by simp[Z0A,e]) (by simp;omega)) Z04
   ·simp[Z0A]
   ·simp[hmin]
   ·exact hcd
   ·unfold Z1K;rw[hlen2];omega
  ·simp[Z0A]
  ·rw[hlen]
  ·simp[AV.cells]
  ·unfold Z1K;simp;omega
theorem Z7s{P:Program}(l:List Int)(n:Int)(hl:l.length≤100000):AW P Z4l (Z75 [4] (FzK (Z03 (Z7K l n)))) (Z53 [Z03 l,Z06 n]) S0:=by
 simp[Z4l];refine Zqo hl (l:=l) (n:=n) ?_ ?_
 ·refine⟨0,by omega,rfl,?_,?_,?_,fun j _ hj=>by omega⟩<;>simp[Z00,Z0f,Z0g,Z06]
 ·intro f S k hk e0 e1 e5 h1 h2
  have hput:=Zos n l k hk h1 h2;have e0':f 0=.sl false (l.map Z06):=e0;by_cases hlt:k < l.length
  ·have hI:(k:Int) < l.length:=by omega
   have hg:l[k]? = some l[k]:=List.getElem?_eq_getElem hlt;rw[hg] at hput;by_cases he:l[k]=n
   ·have hc:(l[k] == n)=true:=by simp[he]
    rw[if_pos (by rw[he])] at hput;rw[hput];simp[e0',e1,e5,hI,hlt,hg,hc];exact .closed _ (Z02 _)
   ·have hc:(l[k] == n)=false:=by simp[he]
    rw[if_neg (by simp[he])] at hput;rw[hput];simp[e0',e1,e5,hI,hlt,hg,hc];refine Zkz hl hk ?_ ?_ ?_<;>simp[Z00,e0,e1,e5]
  ·have hI:¬(k:Int) < l.length:=by omega
   rw[List.getElem?_eq_none (by omega),if_neg (by simp)] at hput;rw[hput];simp[e0',e1,e5,hI,hlt];refine Zkz hl hk ?_ ?_ ?_<;>simp[Z00,e0,e1,e5]
def Iv(g:Nat→Option Blk)(v:AV)(l:List Int):Prop:=(∃t,v=.sl t (l.map Z06))∨Vec g v 1 (l.map Z06)
theorem Iv.frame{g g':Nat→Option Blk}{v:AV}{l:List Int}(h:Iv g v l)(hs:∀i∈v.ids,g' i=g i):Iv g' v l:=by
 rcases h with h | h
 ·exact .inl h
 ·exact .inr (h.frame hs)
theorem Iv.fz{g:Nat→Option Blk}{v:AV}{l:List Int}(h:Iv g v l):Fz g v (Z03 l):=by
 rcases h with⟨t,rfl⟩ | h
 ·exact .loose t _ (Z7S Z04 l)
 ·exact h.fz Z04
theorem Iv.only{g:Nat→Option Blk}{v:AV}{l:List Int}(h:Iv g v l):Iv (only v.ids g) v l:=h.frame (fun i hi=>by rw[Zf8,if_pos hi])
theorem Zky:∀(l:List Int) (n:Int),(Z7K l n).length≤l.length+1
 | [],_=>by simp[Z7K]
 | x::l,n=>by
  simp only[Z7K];split
  ·have:=Zky l n;simp;omega
  ·split<;>simp
end Go.Rf
namespace Go.Rf
theorem Zg3{n x:Int}:∀{l:List Int},x∈Z7K l n↔x=n∨x∈l
 | []=>by simp[Z7K]
 | y::l=>by
  simp only[Z7K];split
  ·rw[List.mem_cons,Zg3,List.mem_cons]
   constructor
   ·rintro(h | h | h)<;>simp[h]
   ·rintro(h | h | h)<;>simp[h]
  ·split
   ·rename_i h;subst h
    constructor
    ·intro h;exact .inr h
    ·rintro(h | h)
     ·rw[h];exact List.mem_cons_self ..
     ·exact h
   ·rw[List.mem_cons]
end Go.Rf
namespace Go.Rf
attribute [local simp] Z4c Z48 Z2M Z2a Z2P Z2R Z2Q Z4a Z4b Z1e Z16 Z0c Z0B Z0q Z08 Z0o Z0h Z09 Z0p Z0i Z0Y Z0j Z0z Z0K Z0k Z0J Z1W Z3U Z0X Z25 Z22 Z24 Z23 Z26 Z1j Z0D Z11 Z12 Z1T Z1U Z1V Z0H Z0I Z1i Z0r Z0W Z20 Z1X Z1Z Z1Y Z21 Z1k Z13 Z1g Z0U Z0V Z0C Z1h Z0P Z1a Z1f Z14 Z1l ex Z00 Z0R Z6K Z6P Z0f Z0g Z0A Z2k Z1d Z10 Z0y Z0F Z0G Z0E Z0s Z0Z Z5y Z0O Z37 Z1c Z1O Z1R Z3s Z0b Z1q Z19 Z0Q Z1F Z3S Z1P Z6A Z3C Z6z Z3w Z2Y Z3t Z6w Z3D Z51 AV.solid S0 Z06 Z1n
def Z3Z:AC :=
 (.seq (.reg none [
 ro 4 (.mv (ci 0))])
 (.seq (.seq (.reg none [
 rm 6 0,
 ro 7 (.len (.t 6)),
 ro 8 (.mv (ci 0))])
 (.block 0 (.loop (.seq (.reg none [
  ro 9 (.bin .lss (.t 8) (.t 7))])
  (.seq (.cond (.t 9) .skip (.exit 0))
  (.seq (.block 1 (.seq (.reg none [
   rm 10 8,
   rm 5 10])
  (.seq (.reg none [
   rm 11 1,
   rm 12 0,
   rm 13 5,
   ro 14 (.idxA 1 (.t 12) (.t 13)),
   ro 15 (.load none (.t 14)),
   ⟨(some 16),.mv (.c .junk),none,(some ((.t 11),[(.t 15)]))⟩])
  (.cond (.t 16) (.seq (.reg none [
   rm 17 5,
   rm 4 17])
   .ret) .skip))))
  (.reg none [
  ro 18 (.bin .add (.t 8) (ci 1)),
  rm 8 18])))))))
 (.seq (.reg none [
 ro 4 (.mv (ci (-1)))])
 .ret)))
def Z3J(P3G:FuncId):AC :=
 (.seq (.reg none [
 ro 4 (.mv (.c (.v (.bool false))))])
 (.seq (.reg none [
 rm 5 0,
 rm 6 1,
 rk 7 P3G [(.t 5),(.t 6)],
 ro 8 (.bin .geq (.t 7) (ci 0)),
 rm 4 8])
 .ret))
def Zep{X:Type}(p:X→Bool)(l:List X):Int:=if l.any p=true then (l.findIdx p:Int) else -1
def Zx8{X:Type}(enc:X→AV)(l:List X)(p:X→Bool)(g:FuncId)(cap:List AV)(m:Nat)(f:AF)(S:St):Prop :=
 ∃i:Nat,i≤l.length∧m=l.length - i∧f 8=Z06 i∧f 7=Z06 l.length∧f 0=.sl false (l.map enc)∧f 1=.clo g [] cap∧∀k (h:k < l.length),k < i→p l[k]=false
theorem Z6a{P:Program}{X:Type}{enc:X→AV}{l:List X}{p:X→Bool}{g:FuncId}{cap:List AV}(hl:Len l)(he:∀x,(enc x).cells=[enc x])(hcl:∀x,Z0S (enc x))(hcap:∀y∈cap,Z0S y)
  (hp:∀x∈l,Z0t P g (enc x::cap) (Z1n (p x))):AW P Z3Z (Z75 [4] (FzK (Z06 (Zep p l)))) (Z53 [.sl false (l.map enc),.clo g [] cap]) S0:=by
 unfold Len at hl;simp[Z3Z];refine ZbI (Zx8 enc l p g cap) l.length ?_ ?_
 ·refine⟨0,by omega,by omega,?_,?_,?_,?_,by omega⟩<;>simp[Z00,Z0f,Z0g,Z06]
 ·rintro m f S ⟨i,hi,rfl,e8,e7,e0,e1,hq⟩
  by_cases hlt:i < l.length
  ·simp[e8,e7,e0,e1,hlt,he]
   refine Z0x.pure (hp _ (List.getElem_mem hlt)) (Z01 (hcl _) hcap) (Z0L _) ?_;cases hb:p l[i] with
   | true =>
    have hi2:Zep p l=i:=by
     have h1:l.any p=true:=List.any_eq_true.mpr ⟨_,List.getElem_mem hlt,hb⟩;have h2:l.findIdx p=i:=(List.findIdx_eq hlt).mpr ⟨hb,fun j hj=>hq j (by omega) hj⟩;simp[Zep,h1,h2]
    simp[e8,e7,e0,e1,hi2];exact Zft _ _
   | false =>
    simp[e8,e7,e0,e1];rw[Z0m _ (by omega)];refine⟨l.length - (i+1),by omega,i+1,by omega,rfl,?_,?_,?_,?_,fun k h hk=>?_⟩
    ·simp[Z00,Z06]
    ·simp[Z00,e7]
    ·simp[Z00,e0]
    ·simp[Z00,e1]
    ·by_cases hki:k=i
     ·subst hki;exact hb
     ·exact hq k h (by omega)
  ·have hi2:Zep p l = -1:=by
    have h1:l.any p=false:=by
     rw[List.any_eq_false];intro x hx;obtain⟨k,hk,rfl⟩:=List.mem_iff_getElem.mp hx;rw[hq k hk (by omega)];simp
    simp[Zep,h1]
   simp[e8,e7,e0,e1,hlt,hi2];exact Zft _ _
theorem ZdK{X:Type}(p:X→Bool)(l:List X):decide (0≤Zep p l)=l.any p:=by
 unfold Zep;cases h:l.any p with
 | true=>simp
 | false=>simp
theorem Z6H{P:Program}{X:Type}{enc:X→AV}{l:List X}{p:X→Bool}{g:FuncId}{cap:List AV}(hcl:∀x,Z0S (enc x))(hcap:∀y∈cap,Z0S y){fi:FuncId}
  (hf:Z0t P fi [.sl false (l.map enc),.clo g [] cap] (Z06 (Zep p l))):AW P (Z3J fi) (Z75 [4] (FzK (Z1n (l.any p)))) (Z53 [.sl false (l.map enc),.clo g [] cap]) S0:=by
 simp[Z3J];refine Z0x.pure hf (Z01 (Z7S hcl l) (Z01 (.clo _ _ _ Z0a hcap) Z0a)) (Z04 _) ?_;simp;rw[←ZdK p l];exact Z2p _ _
end Go.Rf
namespace Go.Rf
theorem Ze2{n:Int}:∀{l:List Int},l.Pairwise (· < ·)→(Z7K l n).Pairwise (· < ·)
 | [],_=>by simp[Z7K]
 | x::l,h=>by
  obtain⟨h1,h2⟩:=List.pairwise_cons.mp h;simp only[Z7K];split
  ·rename_i hx
   refine List.pairwise_cons.mpr ⟨fun y hy=>?_,Ze2 h2⟩;rcases Zg3.mp hy with h3 | h3
   ·omega
   ·exact h1 y h3
  ·split
   ·exact h
   ·refine List.pairwise_cons.mpr ⟨fun y hy=>?_,h⟩
    rcases List.mem_cons.mp hy with h3 | h3
    ·omega
    ·have:=h1 y h3;omega
theorem Zo4{zs:List Int}{x:Int}:x∈Lib.compact zs↔x∈zs:=by
 have hget:∀j (hj:j < zs.length),zs.toArray[j]! = zs[j]:=fun j hj=>by simp[hj]
 simp only[Lib.compact,Lib.compactUpTo,List.mem_map,List.mem_filter,List.mem_range];constructor
 ·rintro⟨j,⟨hj,_⟩,rfl⟩
  rw[hget j hj];exact List.getElem_mem hj
 ·intro hx
  obtain⟨j,hj,rfl⟩:=List.mem_iff_getElem.mp hx
  have key:∀m,∀j (hj:j < zs.length),j≤m→∃a,(a < zs.length∧Lib.keeps zs.toArray a=true)∧zs.toArray[a]! = zs[j]:=by
   intro m;induction m with
   | zero =>
    intro j hj h0;have:j=0:=by omega
    subst this;exact⟨0,⟨hj,by simp[Lib.keeps]⟩,hget 0 hj⟩
   | succ m ih =>
    intro j hj hm;by_cases hk:Lib.keeps zs.toArray j=true
    ·exact⟨j,⟨hj,hk⟩,hget j hj⟩
    ·have hk':¬(j=0∨zs.toArray[j]!≠zs.toArray[j - 1]!):=by simpa[Lib.keeps] using hk
     have h0:j≠0:=fun e=>hk' (.inl e)
     have he:zs.toArray[j]! = zs.toArray[j - 1]!:=Decidable.byContradiction fun e=>hk' (.inr e)
     obtain⟨a,ha,hb⟩:=ih (j - 1) (by omega) (by omega);refine⟨a,ha,?_⟩;rw[hb,←hget (j - 1) (by omega),←he,hget j hj]
  obtain⟨a,h1,h2⟩:=key j j hj (Nat.le_refl _);exact⟨a,h1,h2⟩
theorem Zu9{zs:List Int}(h:zs.Pairwise (·≤·)):(Lib.compact zs).Pairwise (· < ·):=by
 have hget:∀j (hj:j < zs.length),zs.toArray[j]! = zs[j]:=fun j hj=>by simp[hj]
 have hp:=List.pairwise_iff_getElem.mp h;simp only[Lib.compact,Lib.compactUpTo];rw[List.pairwise_map];refine List.Pairwise.imp_of_mem ?_ (List.Pairwise.filter _ List.pairwise_lt_range);intro a b ha hb hab;simp only[List.mem_filter,List.mem_range] at ha hb;obtain⟨hb1,hb2⟩:=hb;have hk:b=0∨zs.toArray[b]!≠zs.toArray[b - 1]!:=by simpa[Lib.keeps] using hb2
 have h1:zs.toArray[b]!≠zs.toArray[b - 1]!:=by
  rcases hk with h1 | h1
  ·omega
  ·exact h1
 rw[hget b hb1,hget (b - 1) (by omega)] at h1;rw[hget a ha.1,hget b hb1]
 have h2:zs[b - 1]≤zs[b]:=by
  have:=hp (b - 1) b (by omega) hb1 (by omega);exact this
 have h3:zs[a]≤zs[b - 1]:=by
  by_cases e:a=b - 1
  ·subst e;exact Int.le_refl _
  ·exact hp a (b - 1) ha.1 (by omega) (by omega)
 omega
def Z6l(l:List Int):List Int:=Lib.compact (l.mergeSort fun x y=>decide (x≤y))
theorem Z4o{l:List Int}{x:Int}:x∈Z6l l↔x∈l:=by
 unfold Z6l;rw[Zo4];exact(List.mergeSort_perm _ _).mem_iff
theorem Z8r(l:List Int):(Z6l l).Pairwise (· < ·):=by
 refine Zu9 ?_;have:=List.pairwise_mergeSort (le:=fun x y:Int=>decide (x≤y)) (by simp;omega) (by simp;omega) l;simpa using this
theorem Zfc:∀{l m:List Int},l.Pairwise (· < ·)→m.Pairwise (· < ·)→(∀x,x∈l↔x∈m)→l=m
 | [],[],_,_,_=>rfl
 | [],y::m,_,_,h=>by have:=(h y).mpr (by simp);simp at this
 | x::l,[],_,_,h=>by have:=(h x).mp (by simp);simp at this
 | x::l,y::m,hl,hm,h=>by
  have hl2:=List.pairwise_cons.mp hl;have hm2:=List.pairwise_cons.mp hm
  have e:x=y:=by
   have h1:=(h x).mp (by simp);have h2:=(h y).mpr (by simp);rcases List.mem_cons.mp h1 with h1 | h1
   ·exact h1
   ·rcases List.mem_cons.mp h2 with h2 | h2
    ·exact h2.symm
    ·have:=hm2.1 x h1
     have:=hl2.1 y h2;omega
  subst e;congr 1;refine Zfc hl2.2 hm2.2 fun z=>?_
  constructor
  ·intro hz
   have:=(h z).mp (by simp[hz]);rcases List.mem_cons.mp this with h1 | h1
   ·subst h1;have:=hl2.1 z hz;omega
   ·exact h1
  ·intro hz
   have:=(h z).mpr (by simp[hz]);rcases List.mem_cons.mp this with h1 | h1
   ·subst h1;have:=hm2.1 z hz;omega
   ·exact h1
theorem ZhY{l:List Int}:Z6l l=l↔l.Pairwise (· < ·):=by
 constructor
 ·intro h;rw[←h];exact Z8r l
 ·intro h;exact Zfc (Z8r l) h (fun x=>Z4o)
theorem ZcY(l:List Int):(Z6l l).length≤l.length:=by
 unfold Z6l;have h1:(Lib.compact (l.mergeSort fun x y=>decide (x≤y))).length≤(l.mergeSort fun x y=>decide (x≤y)).length:=Lib.compact_length_le _;rw[List.length_mergeSort] at h1;exact h1
theorem Ze0:∀(l:List Int) {o:List Int},o.Pairwise (· < ·)→(l.foldl Z7K o).Pairwise (· < ·)
 | [],o,h=>h
 | x::l,o,h=>Ze0 l (Ze2 h)
theorem ZbY:∀(l:List Int) {o:List Int} {x:Int},x∈l.foldl Z7K o↔x∈o∨x∈l
 | [],o,x=>by simp
 | y::l,o,x=>by rw[List.foldl_cons,ZbY l,Zg3,List.mem_cons,or_assoc,or_left_comm]
theorem ZhF(l:List Int):l.foldl Z7K []=Z6l l:=Zfc (Ze0 l .nil) (Z8r l) (fun x=>by rw[ZbY,Z4o];simp)
theorem Zfd:∀{l:List Int} {a b:Int},l.Pairwise (· < ·)→(∀x∈l,a≤x∧x < b)→(l.length:Int)≤max 0 (b - a)
 | [],a,b,_,_=>by simp;omega
 | x::l,a,b,hl,h=>by
  have hl2:=List.pairwise_cons.mp hl;have hx:=h x (by simp);have:=Zfd (l:=l) (a:=x+1) (b:=b) hl2.2 (fun y hy=>⟨by have:=hl2.1 y hy;omega,(h y (by simp[hy])).2⟩);simp only[List.length_cons];omega
def Z4J(l:List Int)(a b:Int):Bool:=decide (l.Pairwise (· < ·)) && l.all fun x=>decide (a≤x) && decide (x < b)
def Zap(l:List Int)(a b:Int):Prop:=l.Pairwise (· < ·)∧∀x∈l,a≤x∧x < b
theorem Z5d{l:List Int}{a b:Int}:Z4J l a b=true↔Zap l a b:=by
 simp[Z4J,Zap,List.all_eq_true]
end Go.Rf
namespace Go.Rf
open Go.RowKit
inductive T (α:Type) where
 | nil
 | node (l:T α) (v:Option α) (r:T α)
def T.get{α:Type}:T α→Nat→Option α
 | .nil,_=>none
 | .node l v r,k=>match k with
  | 0=>v
  | k+1=>bif Nat.beq (k % 2) 0 then l.get (k / 2) else r.get (k / 2)
def T.P4M{α β:Type}:Nat→T α→Nat→Option α→(T α→Option β)→Option β
 | 0,_,_,_,_=>none
 | d+1,t,k,x,c=>match t with
  | .nil=>match k with
   | 0=>c (.node .nil x .nil)
   | k+1=>bif Nat.beq (k % 2) 0 then T.P4M d .nil (k / 2) x (fun l'=>c (.node l' none .nil)) else T.P4M d .nil (k / 2) x (fun r'=>c (.node .nil none r'))
  | .node l v r=>match k with
   | 0=>c (.node l x r)
   | k+1=>bif Nat.beq (k % 2) 0 then T.P4M d l (k / 2) x (fun l'=>c (.node l' v r)) else T.P4M d r (k / 2) x (fun r'=>c (.node l v r'))
theorem T.get_nil{α:Type}(j:Nat):(T.nil:T α).get j=none:=by simp[T.get]
theorem T.P4s{α:Type}{l:T α}{v:Option α}{r:T α}{j:Nat}:(T.node l v r).get (j+1)=if j % 2=0 then l.get (j / 2) else r.get (j / 2):=by
 simp only[T.get];cases h:Nat.beq (j % 2) 0 with
 | true=>rw[if_pos (Nat.eq_of_beq_eq_true h)];rfl
 | false=>rw[if_neg (Nat.ne_of_beq_eq_false h)];rfl
theorem T.P3M{α β:Type}:∀(d:Nat) (t:T α) (k:Nat) (x:Option α) (c:T α→Option β) (r:β),T.P4M d t k x c=some r→∃t',(∀j,t'.get j=if j=k then x else t.get j)∧c t'=some r
 | 0,t,k,x,c,r,h=>by simp[T.P4M] at h
 | d+1,t,k,x,c,r,h=>by
  cases t with
  | nil =>
   cases k with
   | zero =>
    simp only[T.P4M] at h;refine⟨_,fun j=>?_,h⟩;cases j with
    | zero=>simp[T.get]
    | succ j=>rw[T.P4s];simp[T.get_nil]
   | succ k =>
    simp only[T.P4M] at h;cases hb:Nat.beq (k % 2) 0 with
    | true =>
     rw[hb] at h;have hk:=Nat.eq_of_beq_eq_true hb;obtain⟨t',h1,h2⟩:=T.P3M d _ _ _ _ _ h;refine⟨_,fun j=>?_,h2⟩;cases j with
     | zero=>simp[T.get]
     | succ j =>
      rw[T.P4s,h1];simp only[T.get_nil];split<;>split<;>first | rfl | omega | (split<;>first | rfl | omega)
    | false =>
     rw[hb] at h;have hk:=Nat.ne_of_beq_eq_false hb;obtain⟨t',h1,h2⟩:=T.P3M d _ _ _ _ _ h;refine⟨_,fun j=>?_,h2⟩;cases j with
     | zero=>simp[T.get]
     | succ j =>
      rw[T.P4s,h1];simp only[T.get_nil];split<;>split<;>first | rfl | omega | (split<;>first | rfl | omega)
  | node l v rr =>
   cases k with
   | zero =>
    simp only[T.P4M] at h;refine⟨_,fun j=>?_,h⟩;cases j with
    | zero=>simp[T.get]
    | succ j=>rw[T.P4s,T.P4s];simp
   | succ k =>
    simp only[T.P4M] at h;cases hb:Nat.beq (k % 2) 0 with
    | true =>
     rw[hb] at h;have hk:=Nat.eq_of_beq_eq_true hb;obtain⟨t',h1,h2⟩:=T.P3M d _ _ _ _ _ h;refine⟨_,fun j=>?_,h2⟩;cases j with
     | zero=>simp[T.get]
     | succ j =>
      rw[T.P4s,T.P4s,h1];split<;>split<;>first | rfl | omega | (split<;>first | rfl | omega)
    | false =>
     rw[hb] at h;have hk:=Nat.ne_of_beq_eq_false hb;obtain⟨t',h1,h2⟩:=T.P3M d _ _ _ _ _ h;refine⟨_,fun j=>?_,h2⟩;cases j with
     | zero=>simp[T.get]
     | succ j =>
      rw[T.P4s,T.P4s,h1];split<;>split<;>first | rfl | omega | (split<;>first | rfl | omega)
def Zkt{β:Type}(n:Nat)(c:Nat→Option β):Option β:=match n with | 0=>c 0 | m+1=>c (m+1)
theorem Z9A{β:Type}(n:Nat)(c:Nat→Option β):Zkt n c=c n:=by cases n<;>rfl
def Zwa{β:Type}(n:Int)(c:Int→Option β):Option β:=match n with | .ofNat m=>Zkt m fun m'=>c (.ofNat m') | .negSucc m=>Zkt m fun m'=>c (.negSucc m')
theorem Zsz{β:Type}(n:Int)(c:Int→Option β):Zwa n c=c n:=by cases n<;>simp[Zwa,Z9A]
def Zu4{β:Type}(b:Bool)(c:Bool→Option β):Option β:=match b with | true=>c true | false=>c false
theorem Zpx{β:Type}(n:Bool)(c:Bool→Option β):Zu4 n c=c n:=by cases n<;>rfl
def Zsx{β:Type}(x:AV)(c:AV→Option β):Option β :=
 match x with
 | .v y=>match y with
  | .int k z=>Zwa z fun z'=>c (.v (.int k z'))
  | .bool b=>Zu4 b fun b'=>c (.v (.bool b'))
  | y=>c (.v y)
 | .own id off len=>Zkt id fun id'=>Zkt off fun off'=>Zkt len fun len'=>c (.own id' off' len')
 | .ptr id ix d=>Zkt id fun id'=>Zkt ix fun ix'=>Zkt d fun d'=>c (.ptr id' ix' d')
 | .mp id=>Zkt id fun id'=>c (.mp id')
 | x=>c x
theorem ZpZ{β:Type}(x:AV)(c:AV→Option β):Zsx x c=c x:=by
 unfold Zsx;split
 ·split<;>simp[Zsz,Zpx]
 ·simp[Z9A]
 ·simp[Z9A]
 ·simp[Z9A]
 ·rfl
abbrev TE:=T AV
abbrev TB:=T Blk
def T.af(a:TE):AF:=fun s=>match a.get s with | some x=>x | none=>.junk
def T.stn(n:Nat)(t:TB):St:=⟨n,t.get⟩
def dK{β:Type}(d:Option Nat)(a:TE)(x:AV)(c:TE→Option β):Option β :=
 match d with
 | none=>c a
 | some d=>Zsx x fun x'=>T.P4M 64 a d (some x') c
theorem ZfK{β:Type}{d:Option Nat}{a:TE}{x:AV}{c:TE→Option β}{r:β}(h:dK d a x c=some r):∃a':TE,a'.af=a.af.put d x∧c a'=some r:=by
 cases d with
 | none=>exact⟨a,rfl,h⟩
 | some d =>
  simp only[dK,ZpZ] at h;obtain⟨t',h1,h2⟩:=T.P3M _ _ _ _ _ _ h;refine⟨t',funext fun j=>?_,h2⟩;simp only[T.af,h1,AF.put,Z5e];by_cases hj:j=d
  ·rw[if_pos hj,if_pos hj]
  ·rw[if_neg hj,if_neg hj]
def Zup(t:TB):List Nat→Option (List Blk)
 | []=>some []
 | i::is=>match t.get i with
  | none=>none
  | some b=>match Zup t is with
   | none=>none
   | some bs=>some (b::bs)
theorem ZnH(t:TB):∀(F:List Nat),Zup t F=F.mapM t.get
 | []=>by simp[Zup]
 | i::is=>by
  simp only[Zup,List.mapM_cons,ZnH t is];cases t.get i with
  | none=>rfl
  | some b=>cases is.mapM t.get<;>rfl
def Zqx{β:Type}(t:TB):List Nat→List (Option Blk)→(TB→Option β)→Option β
 | i::is,k::ks,c=>T.P4M 64 t i k fun t'=>Zqx t' is ks c
 | _,_,c=>c t
theorem ZkL{β:Type}{n:Nat}:∀{F:List Nat} {ks:List (Option Blk)} {t:TB} {c:TB→Option β} {r:β},Zqx t F ks c=some r→∃t':TB,t'.stn n=(t.stn n).P1B F ks∧c t'=some r
 | [],ks,t,c,r,h=>by cases ks<;>exact⟨t,rfl,h⟩
 | i::is,[],t,c,r,h=>⟨t,rfl,h⟩
 | i::is,k::ks,t,c,r,h=>by
  simp only[Zqx] at h;obtain⟨t',h1,h2⟩:=T.P3M _ _ _ _ _ _ h;obtain⟨t2,h3,h4⟩:=ZkL h2;refine⟨t2,?_,h4⟩;rw[h3];simp only[St.P1B];congr 1;exact St.ext' rfl (fun j=>by simp only[T.stn,h1,Z0A])
def Zv7{β:Type}(t:TB)(i:Nat)(b:Option Blk)(c:TB→Option β):Option β :=
 match b with
 | none=>c t
 | some b=>T.P4M 64 t i (some b) c
theorem Zqz{β:Type}{n i:Nat}{b:Option Blk}{t:TB}{c:TB→Option β}{r:β}(h:Zv7 t i b c=some r):∃t':TB,t'.stn n=(t.stn n).P1P i b∧c t'=some r:=by
 cases b with
 | none=>exact⟨t,rfl,h⟩
 | some b =>
  obtain⟨t',h1,h2⟩:=T.P3M _ _ _ _ _ _ h;exact⟨t',St.ext' rfl (fun j=>by simp only[T.stn,h1,St.P1P,Z0A]),h2⟩
def wOf(F:List Nat)(o:Out)(nid:Nat):List Nat:=(match o.up with | []=>[] | _=>F)++(match o.nw with | some _=>[nid] | none=>[])
def Zui{β:Type}(e:Eff)(t:TB)(nid:Nat)(c:AV→TB→List Nat→List Nat→Option β):Option β :=
 match e with
 | ⟨F,k⟩=>match Zup t F with
  | none=>none
  | some bs=>match k bs with
   | none=>none
   | some o=>Zqx t F o.up fun t1=>Zv7 t1 nid o.nw fun t2=>c (o.v nid) t2 F (wOf F o nid)
theorem ZiM{β:Type}{n:Nat}{e:Eff}{t:TB}{nid:Nat}{c:AV→TB→List Nat→List Nat→Option β}{r:β}(h:Zui e t nid c=some r) :
  ∃v t' F W,e.run (t.stn n) nid=some (v,t'.stn n)∧e.runT (t.stn n) nid=some (v,t'.stn n,F,W)∧c v t' F W=some r:=by
 obtain⟨F,k⟩:=e;simp only[Zui,ZnH] at h;split at h
 ·cases h
 ·rename_i bs hbs
  split at h
  ·cases h
  ·rename_i o ho
   obtain⟨t1,h1,h2⟩:=ZkL (n:=n) h;obtain⟨t2,h3,h4⟩:=Zqz (n:=n) h2;refine⟨_,t2,_,_,?_,?_,h4⟩
   ·simp only[Eff.run,T.stn,hbs,ho]
    simp only[Option.some.injEq,Prod.mk.injEq,true_and];rw[h1] at h3;exact h3.symm
   ·simp only[Eff.runT,T.stn,hbs,ho]
    simp only[Option.some.injEq,Prod.mk.injEq,true_and];rw[h1] at h3;exact⟨h3.symm,rfl⟩
def Zht(f:AV→Option (AV×List Nat)):List AV→Option (List AV×List Nat)
 | []=>some ([],[])
 | x::xs=>match f x with
  | none=>none
  | some (y,F)=>match Zht f xs with
   | none=>none
   | some (ys,G)=>some (y::ys,F++G)
def clB:Nat→AV→Bool
 | 0,_=>false
 | n+1,x=>match x with
  | .v _=>true
  | .sl _ xs | .agg xs | .tup xs=>xs.all (clB n)
  | .eptr x _=>clB n x
  | .clo _ a b=>a.all (clB n) && b.all (clB n)
  | _=>false
theorem Z9o:∀(n:Nat) (x:AV),clB n x=true→Z0S x
 | 0,x,h=>by simp[clB] at h
 | n+1,x,h=>by
  cases x<;>simp only[clB,List.all_eq_true,Bool.and_eq_true,Bool.false_eq_true] at h
  ·exact .v _
  ·exact .sl _ _ fun y hy=>Z9o n y (h y hy)
  ·exact .eptr _ _ (Z9o n _ h)
  ·exact .agg _ fun y hy=>Z9o n y (h y hy)
  ·exact .tup _ fun y hy=>Z9o n y (h y hy)
  ·exact .clo _ _ _ (fun y hy=>Z9o n y (h.1 y hy)) (fun y hy=>Z9o n y (h.2 y hy))
def plB:Nat→AV→Bool
 | 0,_=>false
 | n+1,x=>match x with
  | .v _=>true
  | .agg xs | .tup xs=>xs.all (plB n)
  | _=>false
theorem Zoq:∀(n:Nat) (x:AV),plB n x=true→ZaZ x
 | 0,x,h=>by simp[plB] at h
 | n+1,x,h=>by
  cases x<;>simp only[plB,List.all_eq_true,Bool.and_eq_true,Bool.false_eq_true] at h
  ·exact .v _
  ·exact .agg _ fun y hy=>Zoq n y (h y hy)
  ·exact .tup _ fun y hy=>Zoq n y (h y hy)
def fzA:Nat→(Nat→Option Blk)→AV→Option (AV×List Nat)
 | 0,_,_=>none
 | n+1,g,x=>match x with
  | .v y=>some (.v y,[])
  | .own id off len=>match g id with
   | some (.arr es xs)=>if off+len≤xs.length then (Zht (fzA n g) ((xs.drop off).take len)).map fun p=>(.sl false p.1,id::p.2) else none
   | _=>none
  | .ptr id ix c=>match g id with
   | some (.arr es xs)=>match xs[ix]? with
    | some y=>(fzA n g y).map fun p=>(.eptr p.1 c,id::p.2)
    | none=>none
   | _=>none
  | .agg cs=>(Zht (fzA n g) cs).map fun p=>(.agg p.1,p.2)
  | .tup cs=>(Zht (fzA n g) cs).map fun p=>(.tup p.1,p.2)
  | .clo f a b=>(Zht (fzA n g) a).bind fun p=>(Zht (fzA n g) b).map fun q=>(.clo f p.1 q.1,p.2++q.2)
  | .sl t xs=>if clB n (.sl t xs)=true then some (.sl t xs,[]) else none
  | .eptr x c=>if clB n (.eptr x c)=true then some (.eptr x c,[]) else none
  | _=>none
theorem ZdS{f:AV→Option (AV×List Nat)}{R:List Nat→AV→AV→Prop}(hm:∀F G x y,(∀i∈F,i∈G)→R F x y→R G x y)(hf:∀x y F,f x=some (y,F)→R F x y) :
  ∀{xs ys:List AV} {F:List Nat},Zht f xs=some (ys,F)→ys.length=xs.length∧∀i (h1:i < xs.length) (h2:i < ys.length),R F (xs[i]) (ys[i])
 | [],ys,F,h=>by simp[Zht] at h;obtain⟨rfl,rfl⟩:=h;simp
 | x::xs,ys,F,h=>by
  simp only[Zht] at h;split at h
  ·cases h
  ·rename_i y F1 hy
   split at h
   ·cases h
   ·rename_i zs G hz
    simp only[Option.some.injEq,Prod.mk.injEq] at h;obtain⟨rfl,rfl⟩:=h;obtain⟨h1,h2⟩:=ZdS hm hf hz;refine⟨by simp[h1],fun i k1 k2=>?_⟩;cases i with
    | zero=>exact hm _ _ _ _ (fun i hi=>List.mem_append_left _ hi) (hf _ _ _ hy)
    | succ i=>exact hm _ _ _ _ (fun i hi=>List.mem_append_right _ hi) (h2 i (by simpa using k1) (by simpa using k2))
theorem Fz.mono'{g g':Nat→Option Blk}{x y:AV}(h:Fz g x y)(hg:∀i k,g i=some k→g' i=some k):Fz g' x y:=by
 induction h with
 | closed x h=>exact .closed x h
 | loose t xs h=>exact .loose t xs h
 | own id off len es xs zs hi hl hz h ih=>exact .own id off len es xs zs (hg _ _ hi) hl hz ih
 | agg cs ds hl h ih=>exact .agg cs ds hl ih
 | tup cs ds hl h ih=>exact .tup cs ds hl ih
 | ptr id ix c es xs z hi hl h ih=>exact .ptr id ix c es xs z (hg _ _ hi) hl ih
 | pre id es cs ds hi hc=>exact .pre id es cs ds (hg _ _ hi) hc
 | clo f asZ bs as' bs' hl hm h k ih ik=>exact .clo f asZ bs as' bs' hl hm ih ik
theorem Zbo{F G:List Nat}{g:Nat→Option Blk}(h:∀i∈F,i∈G):∀i k,only F g i=some k→only G g i=some k:=by
 intro i k e;simp only[only] at e ⊢;split at e
 ·rename_i hi;rw[if_pos (h i hi)];exact e
 ·cases e
theorem ZeY{g:Nat→Option Blk}:∀(n:Nat) (x y:AV) (F:List Nat),fzA n g x=some (y,F)→Fz (only F g) x y
 | 0,x,y,F,h=>by simp[fzA] at h
 | n+1,x,y,F,h=>by
  have hm:∀(F G:List Nat) (x y:AV),(∀i∈F,i∈G)→Fz (only F g) x y→Fz (only G g) x y:=fun F G x y hs h=>h.mono' (Zbo hs)
  have ih:=fun {xs ys:List AV} {F:List Nat} (h:Zht (fzA n g) xs=some (ys,F))=>ZdS (R:=fun F x y=>Fz (only F g) x y) hm (fun x y F h=>ZeY n x y F h) h
  cases x<;>simp only[fzA] at h
  ·cases h
  ·simp only[Option.some.injEq,Prod.mk.injEq] at h;obtain⟨rfl,rfl⟩:=h;exact .closed _ (.v _)
  ·split at h
   ·rename_i hc
    simp only[Option.some.injEq,Prod.mk.injEq] at h;obtain⟨rfl,rfl⟩:=h;exact .closed _ (Z9o _ _ hc)
   ·cases h
  ·rename_i id off len
   split at h
   ·rename_i es xs hg
    split at h
    ·rename_i hl
     simp only[Option.map_eq_some_iff,Prod.mk.injEq] at h;obtain⟨⟨ys,G⟩,h1,rfl,rfl⟩:=h;obtain⟨h2,h3⟩:=ih h1;refine .own id off len es xs ys (by simp[only,hg]) hl (by rw[h2];simp;omega) (fun i k1 k2=>hm _ _ _ _ (fun i hi=>List.mem_cons_of_mem _ hi) (h3 i k1 k2))
    ·cases h
   ·cases h
  ·rename_i id ix c
   split at h
   ·rename_i es xs hg
    split at h
    ·rename_i z hz
     simp only[Option.map_eq_some_iff,Prod.mk.injEq] at h;obtain⟨⟨y,G⟩,h1,rfl,rfl⟩:=h;obtain⟨hix,rfl⟩:=List.getElem?_eq_some_iff.mp hz;exact .ptr id ix c es xs y (by simp[only,hg]) hix (hm _ _ _ _ (fun i hi=>List.mem_cons_of_mem _ hi) (ZeY n _ _ _ h1))
    ·cases h
   ·cases h
  ·split at h
   ·rename_i hc
    simp only[Option.some.injEq,Prod.mk.injEq] at h;obtain⟨rfl,rfl⟩:=h;exact .closed _ (Z9o _ _ hc)
   ·cases h
  ·simp only[Option.map_eq_some_iff,Prod.mk.injEq] at h
   obtain⟨⟨ys,G⟩,h1,rfl,rfl⟩:=h;obtain⟨h2,h3⟩:=ih h1;exact .agg _ _ h2 h3
  ·simp only[Option.map_eq_some_iff,Prod.mk.injEq] at h
   obtain⟨⟨ys,G⟩,h1,rfl,rfl⟩:=h;obtain⟨h2,h3⟩:=ih h1;exact .tup _ _ h2 h3
  ·simp only[Option.bind_eq_some_iff,Option.map_eq_some_iff,Prod.mk.injEq] at h
   obtain⟨⟨ys,G⟩,h1,⟨zs,H⟩,k1,rfl,rfl⟩:=h;obtain⟨h2,h3⟩:=ih h1;obtain⟨k2,k3⟩:=ih k1;exact .clo _ _ _ _ _ h2 k2 (fun i a b=>hm _ _ _ _ (fun i hi=>List.mem_append_left _ hi) (h3 i a b)) (fun i a b=>hm _ _ _ _ (fun i hi=>List.mem_append_right _ hi) (k3 i a b))
  ·cases h
def ZsK:Nat→(Nat→Option Blk)→AV→Bool
 | 0,_,_=>false
 | n+1,g,x=>match x with
  | .v _=>true
  | .sl _ []=>true
  | .own id off len=>match g id with
   | some (.arr _ xs)=>((xs.drop off).take len).all (ZsK n g)
   | _=>false
  | .agg cs | .tup cs=>cs.all (ZsK n g)
  | _=>false
theorem Zkq{f:AV→Option (AV×List Nat)}{R:AV→AV→Prop}{p:AV→Bool}(hf:∀x y F,p x=true→f x=some (y,F)→R x y) :
  ∀{xs ys:List AV} {F:List Nat},xs.all p=true→Zht f xs=some (ys,F)→ys.length=xs.length∧∀i (h1:i < xs.length) (h2:i < ys.length),R (xs[i]) (ys[i])
 | [],ys,F,_,h=>by simp[Zht] at h;obtain⟨rfl,rfl⟩:=h;simp
 | x::xs,ys,F,hp,h=>by
  simp only[List.all_cons,Bool.and_eq_true] at hp;simp only[Zht] at h;split at h
  ·cases h
  ·rename_i y F1 hy
   split at h
   ·cases h
   ·rename_i zs G hz
    simp only[Option.some.injEq,Prod.mk.injEq] at h;obtain⟨rfl,rfl⟩:=h;obtain⟨h1,h2⟩:=Zkq hf hp.2 hz;refine⟨by simp[h1],fun i k1 k2=>?_⟩;cases i with
    | zero=>exact hf _ _ _ hp.1 hy
    | succ i=>exact h2 i (by simpa using k1) (by simpa using k2)
theorem Zo8{g:Nat→Option Blk}:∀(n:Nat) (x y:AV) (F:List Nat),ZsK n g x=true→fzA n g x=some (y,F)→FzN g x y
 | 0,x,y,F,h,_=>by simp[ZsK] at h
 | n+1,x,y,F,hn,h=>by
  have ih:=fun {xs ys:List AV} {F:List Nat} (h1:xs.all (ZsK n g)=true) (h:Zht (fzA n g) xs=some (ys,F))=>Zkq (R:=fun x y=>FzN g x y) (fun x y F h1 h=>Zo8 n x y F h1 h) h1 h
  unfold ZsK at hn;split at hn
  ·simp only[fzA,Option.some.injEq,Prod.mk.injEq] at h;obtain⟨rfl,rfl⟩:=h;exact .v _
  ·rename_i t
   simp only[fzA] at h;split at h
   ·simp only[Option.some.injEq,Prod.mk.injEq] at h;obtain⟨rfl,rfl⟩:=h;exact .nil _ _ id
   ·cases h
  ·rename_i id off len
   split at hn
   ·rename_i es xs hg
    simp only[fzA,hg] at h;split at h
    ·rename_i hl
     simp only[Option.map_eq_some_iff,Prod.mk.injEq] at h;obtain⟨⟨ys,G⟩,h1,rfl,rfl⟩:=h;obtain⟨h2,h3⟩:=ih hn h1;exact .own id off len es xs ys hg hl (by rw[h2];simp;omega) h3
    ·cases h
   ·cases hn
  ·simp only[fzA,Option.map_eq_some_iff,Prod.mk.injEq] at h
   obtain⟨⟨ys,G⟩,h1,rfl,rfl⟩:=h;obtain⟨h2,h3⟩:=ih hn h1;exact .agg _ _ h2 h3
  ·simp only[fzA,Option.map_eq_some_iff,Prod.mk.injEq] at h
   obtain⟨⟨ys,G⟩,h1,rfl,rfl⟩:=h;obtain⟨h2,h3⟩:=ih hn h1;exact .tup _ _ h2 h3
  ·cases hn
def CK:=List AV→Nat→TB→(AV→Nat→TB→Option AV)→Option AV
def gdT(o:Z1x)(a:TE):Option Bool :=
 match o.guard with
 | none=>some true
 | some (d,want)=>match a.get d with
  | some (.v (.bool b))=>some (b == want)
  | some (.tup [])=>some false
  | _=>none
theorem Zf0{o:Z1x}{a:TE}{b:Bool}(h:gdT o a=some b):gd o a.af=some b:=by
 unfold gdT at h;unfold gd;split at h
 ·rename_i hg;rw[hg];exact h
 ·rename_i d w hg
  rw[hg];simp only;split at h
  ·rename_i c hc
   simp only[T.af,hc];exact h
  ·rename_i hc
   simp only[T.af,hc];exact h
  ·cases h
def rgK(call:FuncId→CK)(base:Nat):List Z1x→Nat→TE→Nat→TB→(TE→Nat→TB→Option AV)→Option AV
 | [],_,a,n,t,k=>k a n t
 | o::os,i,a,n,t,k=>match gdT o a with
  | none=>none
  | some false=>dK o.dst a (.tup []) fun a'=>rgK call base os (i+1) a' n t k
  | some true=>match o.call with
   | some (G,xs)=>match G.ev a.af with
    | .clo f first cap=>call f (first++xs.map (·.ev a.af)++cap) n t fun r n' t'=>dK o.dst a r fun a'=>rgK call base os (i+1) a' n' t' k
    | _=>none
   | none=>Zui (ex o.op a.af) t (base+i) fun v t' _ _=>dK o.dst a v fun a'=>rgK call base os (i+1) a' n t' k
def Zme(P:Program)(call:FuncId→CK):Prop:=∀f args n t c r,call f args n t c=some r→∀K:AV→St→Prop,(∀x n t,c x n t=some r→K x (t.stn n))→Z0x P f args (t.stn n) K
theorem ZhN{P:Program}{call:FuncId→CK}(hc:Zme P call){base:Nat}{K:AF→St→Prop}{r:AV}:∀(os:List Z1x) (i:Nat) (a:TE) (n:Nat) (t:TB) (k:TE→Nat→TB→Option AV),
  rgK call base os i a n t k=some r→(∀a n t,k a n t=some r→K a.af (t.stn n))→RG P base os i K a.af (t.stn n)
 | [],i,a,n,t,k,h,hk=>hk _ _ _ h
 | o::os,i,a,n,t,k,h,hk=>by
  simp only[rgK] at h;simp only[RG];split at h
  ·cases h
  ·rename_i hg
   rw[Zf0 hg];obtain⟨a',h1,h2⟩:=ZfK h;simp only;rw[←h1];exact ZhN hc os _ _ _ _ _ h2 hk
  ·rename_i hg
   rw[Zf0 hg];simp only;cases hcl:o.call with
   | some p =>
    obtain⟨G,xs⟩:=p;rw[hcl] at h;simp only at h ⊢;split at h
    ·rename_i f first cap hG
     rw[hG];refine hc _ _ _ _ _ _ h _ fun x n t hx=>?_
     obtain⟨a',h1,h2⟩:=ZfK hx;rw[←h1];exact ZhN hc os _ _ _ _ _ h2 hk
    ·cases h
   | none =>
    rw[hcl] at h;simp only at h ⊢;obtain⟨v,t',F,W,h1,_,h3⟩:=ZiM (n:=n) h;rw[h1];obtain⟨a',h4,h5⟩:=ZfK h3;simp only;rw[←h4];exact ZhN hc os _ _ _ _ _ h5 hk
def Zvs(xs ys:List Nat):Bool:=xs.all fun j=>!ys.elem j
theorem ZiJ{xs ys:List Nat}(h:Zvs xs ys=true):∀j∈xs,j∉ys:=by
 intro j hj;have:=(List.all_eq_true.mp h) j hj;simpa using this
def ZrV:List Bool→List (List Nat×List Nat)→List Nat→List Nat→Bool
 | true::bs,p::T,F,W=>Zvs p.2 F && (Zvs W p.1 && (Zvs p.2 W && ZrV bs T F W))
 | false::bs,_::T,F,W=>ZrV bs T F W
 | _,_,_,_=>true
theorem ZfA:∀{bs:List Bool} {T:List (List Nat×List Nat)} {F W:List Nat},ZrV bs T F W=true→Apt bs T F W
 | [],_,_,_,_=>by simp only[Apt]
 | true::_,[],_,_,_=>by simp only[Apt]
 | false::_,[],_,_,_=>by simp only[Apt]
 | true::bs,p::T,F,W,h=>by
  simp only[ZrV,Bool.and_eq_true] at h;simp only[Apt];exact⟨⟨ZiJ h.1,ZiJ h.2.1,ZiJ h.2.2.1⟩,ZfA h.2.2.2⟩
 | false::bs,p::T,F,W,h=>by
  simp only[ZrV] at h;simp only[Apt];exact ZfA h
def Zrj{β:Type}(b:Bool)(c:Option β):Option β:=match b with | true=>c | false=>none
theorem ZbU{β:Type}{b:Bool}{c:Option β}{r:β}(h:Zrj b c=some r):b=true∧c=some r:=by cases b<;>simp[Zrj] at h ⊢;exact h
def rdK(fn:FuncId→List AV→Option (AV×Bool))(base:Nat):List Z1x→List (List Bool)→Nat→List (List Nat×List Nat)→TE→Nat→TB→(TE→Nat→TB→Option AV)→Option AV
 | [],_,_,_,a,n,t,k=>k a n t
 | o::os,fr,i,L,a,n,t,k=>match gdT o a with
  | none=>none
  | some false=>dK o.dst a (.tup []) fun a'=>rdK fn base os fr.tail (i+1) (psh fr L [] []) a' n t k
  | some true=>match o.call with
   | some (G,xs)=>match G.ev a.af with
    | .clo f first cap=>match Zht (fzA 40 t.get) (first++xs.map (·.ev a.af)++cap) with
     | none=>none
     | some (args',F)=>match fn f args' with
      | none=>none
      | some (r,nw)=>Zrj ((plB 40 r || (clB 40 r && (F.isEmpty || nw))) && ZrV (fr.headD []) L F []) (dK o.dst a r fun a'=>rdK fn base os fr.tail (i+1) (psh fr L F []) a' n t k)
    | _=>none
   | none=>Zui (ex o.op a.af) t (base+i) fun v t' F W=>Zrj (ZrV (fr.headD []) L F W) (dK o.dst a v fun a'=>rdK fn base os fr.tail (i+1) (psh fr L F W) a' n t' k)
theorem ZkB{P:Program}{fn:FuncId→List AV→Option (AV×Bool)}(hc:∀f args r b,fn f args=some (r,b)→Z0t P f args r∧(b=true→Zd9 P f args r)){base:Nat}{K:AF→St→Prop}{r:AV} :
  ∀(os:List Z1x) (fr:List (List Bool)) (i:Nat) (L:List (List Nat×List Nat)) (a:TE) (n:Nat) (t:TB) (k:TE→Nat→TB→Option AV),
  rdK fn base os fr i L a n t k=some r→(∀a n t,k a n t=some r→K a.af (t.stn n))→RD P base os fr i L K a.af (t.stn n)
 | [],fr,i,L,a,n,t,k,h,hk=>hk _ _ _ h
 | o::os,fr,i,L,a,n,t,k,h,hk=>by
  simp only[rdK] at h;simp only[RD];split at h
  ·cases h
  ·rename_i hg
   rw[Zf0 hg];obtain⟨a',h1,h2⟩:=ZfK h;simp only;rw[←h1];exact ZkB hc os _ _ _ _ _ _ _ h2 hk
  ·rename_i hg
   rw[Zf0 hg];simp only;cases hcl:o.call with
   | some p =>
    obtain⟨G,xs⟩:=p;rw[hcl] at h;simp only at h ⊢;split at h
    ·rename_i f first cap hG
     rw[hG];split at h
     ·cases h
     ·rename_i args' F hmo
      split at h
      ·cases h
      ·rename_i x nw hx
       obtain⟨h1,h2⟩:=ZbU h;obtain⟨a',h3,h4⟩:=ZfK h2;simp only[Bool.and_eq_true,Bool.or_eq_true,List.isEmpty_iff] at h1;obtain⟨q1,q2⟩:=ZdS (R:=fun F x y=>Fz (only F t.get) x y) (fun F G x y hs h=>h.mono' (Zbo hs)) (fun x y F h=>ZeY 40 x y F h) hmo;refine⟨x,F,⟨args',(hc _ _ _ _ hx).1,q1,q2,?_⟩,ZfA h1.2,?_⟩
       ·rcases h1.1 with h5 | h5
        ·exact .inl (Zoq _ _ h5)
        ·rcases h5.2 with h6 | h6
         ·exact .inr (.inl ⟨h6,Z9o _ _ h5.1⟩)
         ·exact .inr (.inr ⟨Z9o _ _ h5.1,(hc _ _ _ _ hx).2 h6⟩)
       ·rw[←h3];exact ZkB hc os _ _ _ _ _ _ _ h4 hk
    ·cases h
   | none =>
    rw[hcl] at h;simp only at h ⊢;obtain⟨v,t',F,W,_,h1,h3⟩:=ZiM (n:=n) h;rw[h1];obtain⟨h6,h7⟩:=ZbU h3;obtain⟨a',h4,h5⟩:=ZfK h7;simp only;rw[←h4];exact⟨ZfA h6,ZkB hc os _ _ _ _ _ _ _ h5 hk⟩
mutual
def Zvw:Nat→AV→AV→Bool
 | 0,_,_=>false
 | n+1,x,y=>match x,y with
  | .v (.int k a),.v (.int k' a')=>decide (k=k') && decide (a=a')
  | .v (.bool a),.v (.bool b)=>decide (a=b)
  | .ptr a b c,.ptr a' b' c'=>Nat.beq a a' && (Nat.beq b b' && Nat.beq c c')
  | .own a b c,.own a' b' c'=>Nat.beq a a' && (Nat.beq b b' && Nat.beq c c')
  | .sl t xs,.sl t' ys=>decide (t=t') && Zsl n xs ys
  | .agg xs,.agg ys=>Zsl n xs ys
  | _,_=>false
def Zsl:Nat→List AV→List AV→Bool
 | 0,_,_=>false
 | n+1,[],[]=>true
 | n+1,x::xs,y::ys=>Zvw n x y && Zsl n xs ys
 | _+1,_,_=>false
end
theorem Zrd:∀n,(∀x y,Zvw n x y=true→x=y)∧∀xs ys,Zsl n xs ys=true→xs=ys
 | 0=>⟨fun x y h=>by simp[Zvw] at h,fun xs ys h=>by simp[Zsl] at h⟩
 | n+1=>by
  obtain⟨h1,h2⟩:=Zrd n;refine⟨fun x y h=>?_,fun xs ys h=>?_⟩
  ·unfold Zvw at h
   split at h
   ·simp only[Bool.and_eq_true,decide_eq_true_eq] at h;obtain⟨rfl,rfl⟩:=h;rfl
   ·simp only[decide_eq_true_eq] at h;subst h;rfl
   ·simp only[Bool.and_eq_true] at h
    obtain⟨a,b,c⟩:=h;rw[Nat.eq_of_beq_eq_true a,Nat.eq_of_beq_eq_true b,Nat.eq_of_beq_eq_true c]
   ·simp only[Bool.and_eq_true] at h
    obtain⟨a,b,c⟩:=h;rw[Nat.eq_of_beq_eq_true a,Nat.eq_of_beq_eq_true b,Nat.eq_of_beq_eq_true c]
   ·simp only[Bool.and_eq_true,decide_eq_true_eq] at h
    obtain⟨rfl,b⟩:=h;rw[h2 _ _ b]
   ·rw[h2 _ _ h]
   ·cases h
  ·unfold Zsl at h
   split at h
   ·cases ‹_+1=0›
   ·rfl
   ·rename_i m x xs y ys hm
    cases hm;simp only[Bool.and_eq_true] at h;rw[h1 _ _ h.1,h2 _ _ h.2]
   ·cases h
def Zti(x y:Option Blk):Bool:=match x,y with
 | none,none=>true
 | some (.arr e xs),some (.arr e' ys)=>Nat.beq e e' && Zsl 12 xs ys
 | _,_=>false
theorem Zqu{x y:Option Blk}(h:Zti x y=true):x=y:=by
 unfold Zti at h;split at h
 ·rfl
 ·simp only[Bool.and_eq_true] at h
  rw[Nat.eq_of_beq_eq_true h.1,(Zrd 12).2 _ _ h.2]
 ·cases h
def Zq1(w:List Nat)(g g':Nat→Option Blk):List (Nat×List Nat)→Bool
 | []=>true
 | (i,F)::T=>(match w.elem i with | true=>F.all fun j=>Zti (g' j) (g j) | false=>true) && Zq1 w g g' T
theorem Zkn{w:List Nat}{g g':Nat→Option Blk}:∀{T:List (Nat×List Nat)},Zq1 w g g' T=true→Zjw w g g' T
 | [],_=>trivial
 | (i,F)::T,h=>by
  simp only[Zq1,Bool.and_eq_true] at h;refine Za5.mpr fun p hp hw j hj=>?_
  rcases List.mem_cons.mp hp with rfl | hp
  ·have hw':w.elem i=true:=by simpa using hw
   rw[hw'] at h;exact Zqu (List.all_eq_true.mp h.1 j hj)
  ·exact Za5.mp (Zkn h.2) p hp hw j hj
def rsK(call:FuncId→CK)(base:Nat):List SOp→List (Nat×List Nat)→TE→Nat→TB→(TE→Nat→TB→Option AV)→Option AV
 | [],_,a,n,t,k=>k a n t
 | (i,o,w)::os,L,a,n,t,k=>match gdT o a with
  | none=>none
  | some false=>dK o.dst a (.tup []) fun a'=>rsK call base os ((i,Fq o a.af)::L) a' n t k
  | some true=>match o.call with
   | some (G,xs)=>match G.ev a.af with
    | .clo f first cap=>call f (first++xs.map (·.ev a.af)++cap) n t fun r n' t'=>Zrj (Zq1 w t.get t'.get L) (dK o.dst a r fun a'=>rsK call base os ((i,Fq o a.af)::L) a' n' t' k)
    | _=>none
   | none=>Zui (ex o.op a.af) t (base+i) fun v t' _ _=>dK o.dst a v fun a'=>rsK call base os ((i,Fq o a.af)::L) a' n t' k
theorem ZkH{P:Program}{call:FuncId→CK}(hc:Zme P call){base:Nat}{K:AF→St→Prop}{r:AV}:∀(os:List SOp) (L:List (Nat×List Nat)) (a:TE) (n:Nat) (t:TB) (k:TE→Nat→TB→Option AV),
  rsK call base os L a n t k=some r→(∀a n t,k a n t=some r→K a.af (t.stn n))→RSp P base os L K a.af (t.stn n)
 | [],L,a,n,t,k,h,hk=>hk _ _ _ h
 | (i,o,w)::os,L,a,n,t,k,h,hk=>by
  simp only[rsK] at h;simp only[RSp,Za9];split at h
  ·cases h
  ·rename_i hg
   rw[Zf0 hg];obtain⟨a',h1,h2⟩:=ZfK h;simp only;rw[←h1];exact ZkH hc os _ _ _ _ _ h2 hk
  ·rename_i hg
   rw[Zf0 hg];simp only;cases hcl:o.call with
   | some p =>
    obtain⟨G,xs⟩:=p;rw[hcl] at h;simp only at h ⊢;split at h
    ·rename_i f first cap hG
     rw[hG];refine hc _ _ _ _ _ _ h _ fun x n' t' hx=>?_
     obtain⟨h3,h4⟩:=ZbU hx;obtain⟨a',h1,h2⟩:=ZfK h4;refine⟨Zkn h3,?_⟩;rw[←h1];exact ZkH hc os _ _ _ _ _ h2 hk
    ·cases h
   | none =>
    rw[hcl] at h;simp only at h ⊢;obtain⟨v,t',F,W,h1,_,h3⟩:=ZiM (n:=n) h;rw[h1];obtain⟨a',h4,h5⟩:=ZfK h3;simp only;rw[←h4];exact ZkH hc os _ _ _ _ _ h5 hk
structure Tab where
 code:FuncId→Option (AC×List RV×Nat)
 ext:FuncId→Option (List AV→Option Value)
 P57:FuncId→Option (List AV→Option AV)
def ByC(P:Program)(f:FuncId)(ac:AC)(rs:List RV)(n:Nat):Prop:=∀{args:List AV} {S:St} {K:AV→St→Prop},args.length=n→AW P ac (Z2L rs K) (Z53 args) S→Z0x P f args S K
structure Zdb(P:Program)(tab:Tab):Prop where
 code:∀f p,tab.code f=some p→ByC P f p.1 p.2.1 p.2.2
 ext:∀f g args v,tab.ext f=some g→g args=some v→Z0t P f args (.v v)
 P57:∀f g args r,tab.P57 f=some g→g args=some r→Z0t P f args r
def Zre(a:TE)(t:TB)(rs:List RV)(c:AV→Option AV):Option AV:=match evC a.af t.get rs with | none=>none | some xs=>c (Z1b xs)
def RK:=AC→TE→Nat→TB→(Exit→TE→Nat→TB→Option AV)→Option AV
def Zu2(args:List AV)(c:TE→Option AV):Option AV:=go args 0 .nil c
where go:List AV→Nat→TE→(TE→Option AV)→Option AV
 | [],_,a,c=>c a
 | x::xs,i,a,c=>T.P4M 64 a i (some x) fun a'=>go xs (i+1) a' c
theorem ZmH{c:TE→Option AV}{r:AV}:∀(xs:List AV) (i:Nat) (a:TE),Zu2.go xs i a c=some r→∃a':TE,(∀j,a'.get j=if i≤j∧j < i+xs.length then xs[j - i]? else a.get j)∧c a'=some r
 | [],i,a,h=>⟨a,fun j=>by rw[if_neg (by simp only[List.length_nil];omega)],h⟩
 | x::xs,i,a,h=>by
  simp only[Zu2.go] at h;obtain⟨t',h1,h2⟩:=T.P3M _ _ _ _ _ _ h;obtain⟨a',h3,h4⟩:=ZmH xs _ _ h2;refine⟨a',fun j=>?_,h4⟩;rw[h3,h1];simp only[List.length_cons];by_cases hj:j=i
  ·subst hj;rw[if_neg (by omega),if_pos rfl,if_pos (by omega)];simp
  ·by_cases hlt:i+1≤j∧j < i+1+xs.length
   ·rw[if_pos hlt,if_pos (by omega)]
    have:j - i=(j - (i+1))+1:=by omega
    rw[this];simp
   ·rw[if_neg hlt,if_neg hj,if_neg (by omega)]
theorem ZmI{args:List AV}{c:TE→Option AV}{r:AV}(h:Zu2 args c=some r):∃a:TE,a.af=Z53 args∧c a=some r:=by
 obtain⟨a,h1,h2⟩:=ZmH _ _ _ h;refine⟨a,funext fun j=>?_,h2⟩;simp only[T.af,h1,Z53,List.getD_eq_getElem?_getD,T.get_nil];by_cases hj:j < args.length
 ·rw[if_pos (by omega)];simp[List.getElem?_eq_getElem hj]
 ·rw[if_neg (by omega)];simp[List.getElem?_eq_none (Nat.le_of_not_lt hj)]
def Zq6{β:Type}(t:TB):List Nat→(TB→Option β)→Option β
 | [],c=>c t
 | i::is,c=>T.P4M 64 t i none fun t'=>Zq6 t' is c
theorem Zkp{β:Type}:∀{F:List Nat} {t:TB} {c:TB→Option β} {r:β},Zq6 t F c=some r→∃t':TB,(∀j,t'.get j=if j∈F then none else t.get j)∧c t'=some r
 | [],t,c,r,h=>⟨t,fun j=>by simp,h⟩
 | i::is,t,c,r,h=>by
  simp only[Zq6] at h;obtain⟨t1,h1,h2⟩:=T.P3M _ _ _ _ _ _ h;obtain⟨t2,h3,h4⟩:=Zkp h2;refine⟨t2,fun j=>?_,h4⟩;rw[h3,h1];by_cases hj:j=i
  ·simp[hj]
  ·simp[hj]
def Zn4(tab:Tab)(run:RK)(f:FuncId):CK:=fun args n t c =>
 match tab.ext f with
 | some g=>match Zht (fzA 40 t.get) args with
  | none=>none
  | some (args',_)=>match g args' with
   | none=>none
   | some v=>c (.v v) n t
 | none=>match tab.P57 f with
 | some g=>match Zht (fzA 40 t.get) args with
  | none=>none
  | some (args',F)=>match g args' with
   | none=>none
   | some r=>Zrj (clB 40 r) (Zq6 t F fun t'=>c r n t')
 | none=>match tab.code f with
 | none=>none
 | some (ac,ts,m)=>Zrj (Nat.beq args.length m) (Zu2 args fun a=>run ac a n t fun e a n t=>match e with
  | .normal=>Zre a t ts fun x=>c x n t
  | .ret=>Zre a t ts fun x=>c x n t
  | _=>none)
def Zqk(g:Nat→Option Blk)(x:AV):Option AV:=match fzA 40 g x with
 | some (z,_)=>some (.tup [z,.v (.bool (ZsK 40 g x))])
 | none=>none
def Zjn:Option AV→Option (AV×Bool)
 | some (.tup [r,.v (.bool b)])=>some (r,b)
 | _=>none
def fnR(tab:Tab)(run:RK)(f:FuncId)(args:List AV):Option AV :=
 match tab.code f with
 | none=>none
 | some (ac,ts,m)=>Zrj (Nat.beq args.length m) (Zu2 args fun a=>run ac a 0 .nil fun e a n t=>match e with
  | .normal=>Zre a t ts fun x=>Zqk t.get x
  | .ret=>Zre a t ts fun x=>Zqk t.get x
  | _=>none)
def fnK(tab:Tab)(run:RK)(f:FuncId)(args:List AV):Option (AV×Bool) :=
 match tab.ext f with
 | some g=>match g args with
  | none=>none
  | some v=>some (.v v,false)
 | none=>match tab.P57 f with
  | some g=>match g args with
   | none=>none
   | some r=>some (r,false)
  | none=>Zjn (fnR tab run f args)
def ZaW(tab:Tab)(run:RK):RK:=fun ac a n t k =>
 match ac with
 | .skip=>k .normal a n t
 | .reg none os=>Zkt (n+os.length) fun n'=>rgK (Zn4 tab run) n os 0 a n' t fun a n t=>k .normal a n t
 | .reg (some fr) os=>Zkt (n+os.length) fun n'=>rdK (fnK tab run) n os fr 0 [] a n' t fun a n t=>k .normal a n t
 | .regS l=>Zkt (n+l.length) fun n'=>rsK (Zn4 tab run) n l [] a n' t fun a n t=>k .normal a n t
 | .regX os p=>match p with
  | none=>Zkt (n+os.length) fun n'=>rgK (Zn4 tab run) n os 0 a n' t fun a n t=>k .normal a n t
  | some _=>none
 | .seq x y=>run x a n t fun e a n t=>match e with
  | .normal=>run y a n t k
  | e=>k e a n t
 | .cond c x y=>match c.ev a.af with
  | .v (.bool b)=>match b with
   | true=>run x a n t k
   | false=>run y a n t k
  | _=>none
 | .block id x=>run x a n t fun e a n t=>match e with
  | .exit j=>bif Nat.beq j id then k .normal a n t else k (.exit j) a n t
  | e=>k e a n t
 | .loop x=>run x a n t fun e a n t=>match e with
  | .normal=>run (.loop x) a n t k
  | e=>k e a n t
 | .exit id=>k (.exit id) a n t
 | .ret=>k .ret a n t
 | .scp x=>run x a n t fun e a n t=>match e with
  | .goto _=>none
  | e=>k e a n t
 | .bad=>none
def Zox(tab:Tab):Nat→RK
 | 0=>fun _ _ _ _ _=>none
 | n+1=>ZaW tab (Zox tab n)
def Zpn(P:Program)(run:RK):Prop:=∀(ac:AC) (a:TE) (n:Nat) (t:TB) (k:Exit→TE→Nat→TB→Option AV) (r:AV),run ac a n t k=some r →
 ∀Q:Exit→AF→St→Prop,(∀e a n t,k e a n t=some r→Q e a.af (t.stn n))→AW P ac Q a.af (t.stn n)
theorem ZfI{P:Program}(hm:P.follows .mixedOrders=true){tab:Tab}(ht:Zdb P tab){run:RK}(hr:Zpn P run):Zme P (Zn4 tab run):=by
 intro f args n t c r h K hK;unfold Zn4 at h;split at h
 ·rename_i g hg
  split at h
  ·cases h
  ·rename_i args' F hmo
   split at h
   ·cases h
   ·rename_i v hv
    obtain⟨q1,q2⟩:=ZdS (R:=fun F x y=>Fz (only F t.get) x y) (fun F G x y hs h=>h.mono' (Zbo hs)) (fun x y F h=>ZeY 40 x y F h) hmo;exact Z0x.looks (ht.ext _ _ _ _ hg hv) ⟨q1,fun j h1 h2=>(q2 j h1 h2).mono' Z8X⟩ (.v _) (hK _ _ _ h)
 split at h
 ·rename_i g hg
  split at h
  ·cases h
  ·rename_i args' F hmo
   split at h
   ·cases h
   ·rename_i v hv
    obtain⟨q1,q2⟩:=ZdS (R:=fun F x y=>Fz (only F t.get) x y) (fun F G x y hs h=>h.mono' (Zbo hs)) (fun x y F h=>ZeY 40 x y F h) hmo;obtain⟨h1,h2⟩:=ZbU h;obtain⟨t',h3,h4⟩:=Zkp h2;have e:T.stn n t'=(T.stn n t).lose F:=St.ext' rfl (fun j=>by simp only[T.stn,h3,Z94]);refine Z0x.gives F (ht.P57 _ _ _ _ hg hv) ⟨q1,fun j h1 h2=>q2 j h1 h2⟩ (Z9o _ _ h1) ?_;rw[←e];exact hK _ _ _ h4
 split at h
 ·cases h
 ·rename_i ac ts m htab
  obtain⟨h1,h2⟩:=ZbU h;obtain⟨a,h3,h4⟩:=ZmI h2;refine ht.code _ _ htab (Nat.eq_of_beq_eq_true h1) ?_;rw[←h3];refine hr _ _ _ _ _ _ h4 _ fun e a n t he=>?_
  have key:Zre a t ts (fun x=>c x n t)=some r→∃xs,evC a.af (t.stn n).g ts=some xs∧K (Z1b xs) (t.stn n):=by
   intro h5;unfold Zre at h5;split at h5
   ·cases h5
   ·rename_i xs hx;exact⟨xs,hx,hK _ _ _ h5⟩
  cases e<;>simp only[Z2L] at he ⊢<;>first | exact key he | cases he
theorem Zib{o:Option AV}{r:AV}{b:Bool}(h:Zjn o=some (r,b)):o=some (.tup [r,.v (.bool b)]):=by
 unfold Zjn at h;split at h
 ·simp only[Option.some.injEq,Prod.mk.injEq] at h;obtain⟨rfl,rfl⟩:=h;rfl
 ·cases h
theorem Zuj{P:Program}(hm:P.follows .mixedOrders=true){tab:Tab}(ht:Zdb P tab){run:RK}(hr:Zpn P run){f:FuncId}{args:List AV}{r:AV}{b:Bool}(h:fnR tab run f args=some (.tup [r,.v (.bool b)])) :
  Z0x P f args S0 fun r' S'=>FzK r r' S'∧(b=true→FzN S'.g r' r):=by
 unfold fnR at h;split at h
 ·cases h
 ·rename_i ac ts m htab
  obtain⟨h1,h2⟩:=ZbU h;obtain⟨a,h3,h4⟩:=ZmI h2;refine ht.code _ _ htab (Nat.eq_of_beq_eq_true h1) ?_;rw[←h3];have e0:S0=T.stn 0 (.nil:TB):=St.ext' rfl (fun j=>by simp[S0,T.stn,T.get_nil]);rw[e0];refine hr _ _ _ _ _ _ h4 _ fun e a n t he=>?_
  have key:Zre a t ts (fun x=>Zqk t.get x)=some (.tup [r,.v (.bool b)])→∃xs,evC a.af (t.stn n).g ts=some xs∧FzK r (Z1b xs) (t.stn n)∧(b=true→FzN (t.stn n).g (Z1b xs) r):=by
   intro h5;unfold Zre at h5;split at h5
   ·cases h5
   ·rename_i xs hx
    simp only[Zqk] at h5;split at h5
    ·rename_i z F h6
     simp only[Option.some.injEq,AV.tup.injEq,List.cons.injEq,AV.v.injEq,Value.bool.injEq,and_true] at h5;obtain⟨rfl,rfl⟩:=h5;exact⟨xs,hx,(ZeY _ _ _ _ h6).mono' Z8X,fun hnw=>Zo8 _ _ _ _ hnw h6⟩
    ·cases h5
  cases e<;>simp only[Z2L] at he ⊢<;>first | exact key he | cases he
theorem ZnC{P:Program}(hm:P.follows .mixedOrders=true){tab:Tab}(ht:Zdb P tab){run:RK}(hr:Zpn P run){f:FuncId}{args:List AV}{r:AV}{b:Bool}(h:fnK tab run f args=some (r,b)) :
  Z0t P f args r∧(b=true→Zd9 P f args r):=by
 unfold fnK at h;split at h
 ·rename_i g hg
  split at h
  ·cases h
  ·rename_i v hv
   cases h;exact⟨ht.ext _ _ _ _ hg hv,fun hb=>by cases hb⟩
 split at h
 ·rename_i g hg
  split at h
  ·cases h
  ·rename_i v hv
   cases h;exact⟨ht.P57 _ _ _ _ hg hv,fun hb=>by cases hb⟩
 have:=Zuj hm ht hr (Zib h);exact⟨.P1h (this.mono fun _ _ h=>h.1),fun hb=>.P1h (this.mono fun _ _ h=>h.2 hb)⟩
theorem Zoy{P:Program}(hm:P.follows .mixedOrders=true){tab:Tab}(ht:Zdb P tab):∀m,Zpn P (Zox tab m):=by
 intro m;induction m using Nat.strongRecOn with
 | _ m ih =>
  cases m with
  | zero=>intro ac a n t k r h;cases h
  | succ m =>
   have hr:=ih m (by omega);intro ac a n t k r h Q hQ;simp only[Zox] at h;cases ac with
   | skip=>simp only[ZaW] at h;simp only[AW];exact hQ _ _ _ _ h
   | reg d os =>
    cases d with
    | none =>
     simp only[ZaW,Z9A] at h;exact ZhN (ZfI hm ht hr) (K:=fun a S=>Q .normal a S) _ _ _ _ _ _ h (fun a n t hk=>hQ _ _ _ _ hk)
    | some fr =>
     simp only[ZaW,Z9A] at h;exact ZkB (fun f args r b h=>ZnC hm ht hr h) (K:=fun a S=>Q .normal a S) _ _ _ _ _ _ _ _ h (fun a n t hk=>hQ _ _ _ _ hk)
   | regS l =>
    simp only[ZaW,Z9A] at h;exact ZkH (ZfI hm ht hr) (K:=fun a S=>Q .normal a S) _ _ _ _ _ _ h (fun a n t hk=>hQ _ _ _ _ hk)
   | regX os p =>
    cases p with
    | some x=>simp only[ZaW] at h;cases h
    | none =>
     simp only[ZaW,Z9A] at h;exact Z8u _ _ (ZhN (ZfI hm ht hr) (K:=fun a S=>Q .normal a S) _ _ _ _ _ _ h (fun a n t hk=>hQ _ _ _ _ hk))
   | seq x y =>
    simp only[ZaW] at h;simp only[AW];refine hr _ _ _ _ _ _ h _ fun e a n t he=>?_
    cases e<;>simp only[Z7a] at he ⊢<;>first | exact hr _ _ _ _ _ _ he _ hQ | exact hQ _ _ _ _ he
   | cond c x y =>
    simp only[ZaW] at h;simp only[AW];split at h
    ·rename_i b hb
     rw[hb];simp only;split at h
     ·rw[if_pos rfl];exact hr _ _ _ _ _ _ h _ hQ
     ·rw[if_neg (by simp)];exact hr _ _ _ _ _ _ h _ hQ
    ·cases h
   | block id x =>
    simp only[ZaW] at h;simp only[AW];refine hr _ _ _ _ _ _ h _ fun e a n t he=>?_
    cases e<;>simp only[Z6Q] at he ⊢
    case exit j =>
     cases hb:Nat.beq j id with
     | true=>rw[hb] at he;rw[if_pos (Nat.eq_of_beq_eq_true hb)];exact hQ _ _ _ _ he
     | false=>rw[hb] at he;rw[if_neg (Nat.ne_of_beq_eq_false hb)];exact hQ _ _ _ _ he
    all_goals exact hQ _ _ _ _ he
   | loop x =>
    refine⟨fun q a S=>q≤m+1∧∃(b:TE) (n:Nat) (t:TB),a=b.af∧S=t.stn n∧Zox tab q (.loop x) b n t k=some r,⟨m+1,Nat.le_refl _,a,n,t,rfl,rfl,by simp only[Zox];exact h⟩,?_⟩;rintro q a' S' ⟨hq,b,n',t',rfl,rfl,hrun⟩;cases q with
    | zero=>cases hrun
    | succ q =>
     simp only[Zox,ZaW] at hrun;refine ih q (by omega) _ _ _ _ _ _ hrun _ fun e a n t he=>?_
     cases e<;>simp only[Z7a] at he ⊢
     case normal=>exact⟨q,by omega,by omega,a,n,t,rfl,rfl,he⟩
     all_goals exact hQ _ _ _ _ he
   | exit id=>simp only[ZaW] at h;simp only[AW];exact hQ _ _ _ _ h
   | ret=>simp only[ZaW] at h;simp only[AW];exact hQ _ _ _ _ h
   | scp x =>
    simp only[ZaW] at h;simp only[AW];refine hr _ _ _ _ _ _ h _ fun e a n t he=>?_
    cases e<;>simp only[Z8t] at he ⊢<;>first | exact hQ _ _ _ _ he | cases he
   | bad=>simp only[ZaW] at h;cases h
end Go.Rf
namespace Go.Rf
def Zva(P:Program)(fn:Func):Option (AC×List RV×Nat) :=
 match fn.body with
 | none=>none
 | some c=>bif (fn.name == "runtime.NumGoroutine") || !(Nat.ble (fn.params.size+fn.nfree) fn.ntmps) then none else
  match comp P fn.ntmps c with
  | none=>none
  | some ac=>match fn.results.toList.mapM (ZlW P) with
   | none=>none
   | some ts=>some (ac,ts,fn.params.size+fn.nfree)
def Zws(P:Program)(f:FuncId):Option (AC×List RV×Nat) :=
 match P.funcs[f]? with
 | none=>none
 | some fn=>Zva P fn
theorem Ztq{P:Program}(f:FuncId)(p:AC×List RV×Nat)(h:Zws P f=some p):IsC P f p.1 p.2.1 p.2.2:=by
 unfold Zws at h;split at h
 ·cases h
 ·rename_i fn hf
  unfold Zva at h;split at h
  ·cases h
  ·rename_i c hb
   cases hc:((fn.name == "runtime.NumGoroutine") || !(Nat.ble (fn.params.size+fn.nfree) fn.ntmps)) with
   | true=>rw[hc] at h;cases h
   | false =>
    rw[hc] at h;simp only[cond_false] at h;simp only[Bool.or_eq_false_iff,Bool.not_eq_false'] at hc;split at h
    ·cases h
    ·rename_i ac hac
     split at h
     ·cases h
     ·rename_i ts hts
      cases h;exact⟨fn,c,hf,hc.1,hb,hac,hts,Nat.le_of_ble_eq_true hc.2⟩
def Ztt(P:Program):Tab:=⟨Zws P,fun _=>none,fun _=>none⟩
theorem ZkV{P:Program}(hm:P.follows .mixedOrders=true):Zdb P (Ztt P) :=
 ⟨fun f p h=>fun hn hb=>(Ztq f p h).P3z hm hn hb,(fun f g args v h=>by cases h),(fun f g args v h=>by cases h)⟩
theorem Z0t.run{P:Program}(hm:P.follows .mixedOrders=true)(fuel:Nat){f:FuncId}{args:List AV}{r:AV}{b:Bool}(h:fnK (Ztt P) (Zox (Ztt P) fuel) f args=some (r,b)):Z0t P f args r :=
 (ZnC hm (ZkV hm) (Zoy hm (ZkV hm) fuel) h).1
theorem Z0t.P6b{P:Program}(hm:P.follows .mixedOrders=true){tab:Tab}(ht:Zdb P tab)(fuel:Nat){f:FuncId}{args:List AV}{r:AV}{b:Bool}(h:fnK tab (Zox tab fuel) f args=some (r,b)):Z0t P f args r :=
 (ZnC hm ht (Zoy hm ht fuel) h).1
def Zrv(P:Program)(fn:Func):Option (AC×List RV×Nat) :=
 match fn.body with
 | none=>none
 | some c=>bif (fn.name == "runtime.NumGoroutine") || !(Nat.ble (fn.params.size+fn.nfree) fn.ntmps) then none else
  match Zsb P fn.ntmps c with
  | none=>none
  | some ac=>match fn.results.toList.mapM (ZlW P) with
   | none=>none
   | some ts=>some (ac,ts,fn.params.size+fn.nfree)
def ZqF(P:Program)(f:FuncId):Option (AC×List RV×Nat) :=
 match P.funcs[f]? with
 | none=>none
 | some fn=>Zrv P fn
def IsS(P:Program)(f:FuncId)(ac:AC)(rs:List RV)(n:Nat):Prop :=
 ∃fn c,P.funcs[f]? = some fn∧(fn.name == "runtime.NumGoroutine")=false∧fn.body=some c∧Zsb P fn.ntmps c=some ac∧fn.results.toList.mapM (ZlW P)=some rs∧n≤fn.ntmps
theorem IsS.byC{P:Program}(hm:P.follows .mixedOrders=true){f:FuncId}{ac:AC}{rs:List RV}{n:Nat}(h:IsS P f ac rs n):ByC P f ac rs n:=by
 intro args S K hn hb;obtain⟨fn,c,hf,hnm,hbd,hc,hr,h6⟩:=h;refine⟨Z3b hf hnm hbd,fun E w vals hG hS hv=>?_⟩;refine calls_of_wp hf hbd (wp_mono (ZmJ hm ac c hc _ _ _ hb E w _ hG hS (Z6p hv (by omega))) fun e act w' hp=>?_);obtain⟨a,S',E',q,s,r,ev⟩:=hp;cases e<;>simp only[Z2L] at q
 ·obtain⟨xs,q1,q2⟩:=q
  obtain⟨val,k1,k2⟩:=Z4K (P:=P) (fn:=fn) s r hr q1;exact⟨r.defers,_,k1,_,_,S',E',rfl,q2,s,k2,ev⟩
 ·obtain⟨xs,q1,q2⟩:=q
  obtain⟨val,k1,k2⟩:=Z4K (P:=P) (fn:=fn) s r hr q1;exact⟨r.defers,_,k1,_,_,S',E',rfl,q2,s,k2,ev⟩
theorem ZkU{P:Program}(f:FuncId)(p:AC×List RV×Nat)(h:ZqF P f=some p):IsS P f p.1 p.2.1 p.2.2:=by
 unfold ZqF at h;split at h
 ·cases h
 ·rename_i fn hf
  unfold Zrv at h;split at h
  ·cases h
  ·rename_i c hb
   cases hc:((fn.name == "runtime.NumGoroutine") || !(Nat.ble (fn.params.size+fn.nfree) fn.ntmps)) with
   | true=>rw[hc] at h;cases h
   | false =>
    rw[hc] at h;simp only[cond_false] at h;simp only[Bool.or_eq_false_iff,Bool.not_eq_false'] at hc;split at h
    ·cases h
    ·rename_i ac hac
     split at h
     ·cases h
     ·rename_i ts hts
      cases h;exact⟨fn,c,hf,hc.1,hb,hac,hts,Nat.le_of_ble_eq_true hc.2⟩
def Zwu(P:Program)(ov:FuncId→Option (AC×List RV×Nat))(ext:FuncId→Option (List AV→Option Value)):Tab:=⟨fun f=>match ov f with | some p=>some p | none=>ZqF P f,ext,fun _=>none⟩
theorem Ztu{P:Program}(hm:P.follows .mixedOrders=true){ov:FuncId→Option (AC×List RV×Nat)}{ext:FuncId→Option (List AV→Option Value)}
  (h1:∀f p,ov f=some p→ByC P f p.1 p.2.1 p.2.2) (h2:∀f g args v,ext f=some g→g args=some v→Z0t P f args (.v v)):Zdb P (Zwu P ov ext):=by
 refine⟨fun f p h=>?_,h2,fun f g args v h=>by cases h⟩;simp only[Zwu] at h;split at h
 ·rename_i q hq
  cases h;exact h1 f _ hq
 ·exact(ZkU f p h).byC hm
def ZvB(P:Program)(ov:FuncId→Option (AC×List RV×Nat))(ext:FuncId→Option (List AV→Option Value))(P57:FuncId→Option (List AV→Option AV)):Tab:=⟨fun f=>match ov f with | some p=>some p | none=>ZqF P f,ext,P57⟩
theorem Zts{P:Program}(hm:P.follows .mixedOrders=true){ov:FuncId→Option (AC×List RV×Nat)}{ext:FuncId→Option (List AV→Option Value)}{P57:FuncId→Option (List AV→Option AV)}
  (h1:∀f p,ov f=some p→ByC P f p.1 p.2.1 p.2.2) (h2:∀f g args v,ext f=some g→g args=some v→Z0t P f args (.v v)) (h3:∀f g args r,P57 f=some g→g args=some r→Z0t P f args r):Zdb P (ZvB P ov ext P57):=by
 refine⟨fun f p h=>?_,h2,h3⟩;simp only[ZvB] at h;split at h
 ·rename_i q hq
  cases h;exact h1 f _ hq
 ·exact(ZkU f p h).byC hm
end Go.Rf
namespace Go.Rf
open Go.RowKit
attribute [local simp] Z4c Z48 Z2M Z2a Z2P Z2R Z2Q Z4a Z4b Z1e Z16 Z0c Z0B Z0q Z08 Z0o Z0h Z09 Z0p Z0i Z0Y Z0j Z0z Z0K Z0k Z0J Z1W Z3U Z0X Z25 Z22 Z24 Z23 Z26 Z1j Z0D Z11 Z12 Z1T Z1U Z1V Z0H Z0I Z1i Z0r Z0W Z20 Z1X Z1Z Z1Y Z21 Z1k Z13 Z1g Z0U Z0V Z0C Z1h Z0P Z1a Z1f Z14 Z1l ex Z00 Z0R Z6K Z6P Z0f Z0g Z0A Z2k Z1d Z10 Z0y Z0F Z0G Z0E Z0s Z0Z Z5y Z0O Z37 Z1c Z1O Z1R Z3s Z0b Z1q Z19 Z0Q Z1F Z3S Z1P Z6A Z3C Z6z Z3w Z2Y Z3t Z6w Z3D Z51 AV.solid S0 Z06 Z1n
theorem Z0x.bump{P:Program}{f:FuncId}{args:List AV}{S:St}{K:AV→St→Prop}(h:Z0x P f args S fun r S'=>∃m,K r ⟨S'.n+m,S'.g⟩):Z0x P f args S K:=by
 refine⟨h.1,fun E w vals hG hS hv=>(h.2 E w vals hG hS hv).mono ?_⟩;rintro e w' ⟨v,r,S',E',rfl,⟨m,hk⟩,hS',hr,hev⟩;refine⟨v,r,⟨S'.n+m,S'.g⟩,E',rfl,hk,hS'.reserve m,hr,?_⟩;exact⟨⟨hev.evo.os,hev.evo.tape,hev.evo.output,hev.evo.size,hev.evo.keep,fun id l k hk hl=>hev.evo.grow id l k hk hl,hev.evo.le,hev.evo.hsub⟩,Nat.le_trans hev.nle (Nat.le_add_right _ _),hev.low⟩
def Z4I(es by_:Nat)(z:AV):AC :=
 (.seq (.reg none [
 ro 2 (.mv (.c (.sl true [])))])
 (.seq (.seq (.reg none [
 rm 3 0,
 ro 4 (.nilq true false (.t 3))])
 (.cond (.t 4) (.seq (.reg none [
  ro 2 (.mv (.c (.sl true [])))])
 .ret) .skip))
 (.seq (.reg none [
 ro 5 (.bslice es 0 z []),
 rm 6 0,
 ro 7 (.app es by_ (.t 5) (.t 6)),
 rm 2 7])
 .ret)))
def Z32(es by_:Nat)(z:AV):AC :=
 (.seq (.reg none [
 ro 2 (.mv (.c (.sl true [])))])
 (.seq (.reg none [
 rm 3 0,
 ro 4 (.mv (.c (.v (.bool false))))])
 (.seq (.reg none [
 ro 5 (.bslice es 0 z []),
 rm 6 0,
 ro 7 (.app es by_ (.t 5) (.t 6)),
 rm 2 7])
 .ret)))
theorem ZcW{P:Program}{base:Nat}{os:List Z1x}{i:Nat}{K:AF→St→Prop}{a:AF}{d:Option Nat}{op:AOp}{S:St}:opR P base os i K a d op S none=Zer op a fun v=>RG P base os (i+1) K (a.put d v) S:=by simp only[opR]
theorem ZiQ(neg t:Bool)(x:AV)(xs:List AV):Z6F true neg (.sl t (x::xs))=some (.v (.bool neg)):=by simp only[Z6F]
theorem Zlv(neg t:Bool):Z6F true neg (.sl t [])=none:=by simp only[Z6F]
theorem Zlw(neg:Bool)(id off n:Nat):Z6F true neg (.own id off (n+1))=some (.v (.bool neg)):=by simp only[Z6F]
theorem ZiR(neg:Bool)(id off:Nat):Z6F true neg (.own id off 0)=none:=by simp only[Z6F]
theorem Zo1{es id off:Nat}{bs:List Blk}{ys:List AV}(h:Z9f es bs (.own id off 0)=some ys):ys=[]:=by
 simp only[Z9f] at h;split at h
 ·split at h
  ·simp at h;exact h
  ·cases h
 ·cases h
theorem Z3O(es:Nat)(z:AV):Z0O es 0 z []=some (.sl true []):=by simp[Z0O,Z37]
theorem Zju{P:Program}(hm:P.follows .mixedOrders=true){f:FuncId}{es by_:Nat}{z:AV}(h:Is P f (Z4I es by_ z) [2] 1):ByC P f (Z32 es by_ z) [.t 2] 1:=by
 intro args S K hn hb
 obtain⟨x,rfl⟩:∃x,args=[x]:=by
  match args,hn with
  | [x],_=>exact⟨x,rfl⟩
 refine Z0x.bump (h.P3z hm rfl ?_)
 have hb1:AW P (Z32 es by_ z) (Z75 [2] fun r S'=>∃m,K r ⟨S'.n+m,S'.g⟩) (Z53 [x]) S:=by
  refine Z9g _ (fun e a S' h=>?_) hb;cases e<;>simp only[Z2L,Z75] at h ⊢
  all_goals
   obtain⟨xs,h1,h2⟩:=h;simp[evC,RV.ev] at h1;subst h1;simp only[Z0z];exact⟨0,h2⟩
 have key:∀y:AV,(∀n nid v S',(Z57 es by_ (.sl true []) y).run ⟨n,S.g⟩ nid=some (v,S')→v=.sl true []∧S'=⟨n,S.g⟩)→AW P (Z32 es by_ z) (Z2L [.t 2] K) (Z53 [y]) S→∃m,K (.sl true []) ⟨S.n+4+m,S.g⟩:=by
  intro y hy h;simp[Z32,Z3O] at h;generalize hq:(Z57 es by_ (.sl true []) y).run _ _=q at h;cases q with
  | none=>simp[ZcW,Zer] at h
  | some p =>
   obtain⟨v,S'⟩:=p;obtain⟨rfl,rfl⟩:=hy _ _ _ _ hq;simp at h;obtain⟨xs,h1,h2⟩:=h;simp[evC,RV.ev,Z00] at h1;subst h1;exact⟨3,by simpa[Z1b,Nat.add_assoc] using h2⟩
 clear hn;cases x with
 | sl t ys =>
  cases ys with
  | nil =>
   obtain⟨m,hk⟩:=key (.sl t []) (fun n nid v S' h=>by
    by_cases ha:Z1K by_ 0 0<;>simp[Z57,Z9f,AV.oid,Eff.run,St.P1B,St.P1P,ha] at h;exact⟨h.1.symm,h.2.symm⟩) hb
   simp[Z32,Z3O] at hb1;simp[Z4I,Z3O,Zlv,ZcW,Zer,ZcR];exact⟨hb1,m,hk⟩
  | cons y ys =>
   simp[Z32,Z3O] at hb1;simp[Z4I,Z3O,ZiQ];exact hb1
 | own id off len =>
  cases len with
  | zero =>
   obtain⟨m,hk⟩:=key (.own id off 0) (fun n nid v S' h=>by
    simp only[Z57,Eff.run] at h;split at h
    ·cases h
    ·rename_i bs hbs
     cases hl:Z9f es bs (.own id off 0) with
     | none=>rw[hl] at h;simp at h
     | some ys =>
      rw[hl] at h;have h0:ys=[]:=Zo1 hl;subst h0;by_cases ha:Z1K by_ 0 0<;>simp[AV.oid,St.P1B,St.P1P,ha] at h;exact⟨h.1.symm,h.2.symm⟩) hb
   simp[Z32,Z3O] at hb1;simp[Z4I,Z3O,ZiR,ZcW,Zer,ZcR];exact⟨hb1,m,hk⟩
  | succ m =>
   simp[Z32,Z3O] at hb1;simp[Z4I,Z3O,Zlw];exact hb1
 | _ =>
  exfalso;simp[Z32,Z3O] at hb1;simp[Z57,Z9f,AV.oid,Eff.run,ZcW,Zer] at hb1
end Go.Rf
namespace Go.Rf
attribute [local simp] Z4c Z48 Z2M Z2a Z2P Z2R Z2Q Z4a Z4b Z1e Z16 Z0c Z0B Z0q Z08 Z0o Z0h Z09 Z0p Z0i Z0Y Z0j Z0z Z0K Z0k Z0J Z1W Z3U Z0X Z25 Z22 Z24 Z23 Z26 Z1j Z0D Z11 Z12 Z1T Z1U Z1V Z0H Z0I Z1i Z0r Z0W Z20 Z1X Z1Z Z1Y Z21 Z1k Z13 Z1g Z0U Z0V Z0C Z1h Z0P Z1a Z1f Z14 Z1l ex Z00 Z0R Z6K Z6P Z0f Z0g Z0A Z2k Z1d Z10 Z0y Z0F Z0G Z0E Z0s Z0Z Z5y Z0O Z37 Z1c Z1O Z1R Z3s Z0b Z1q Z19 Z0Q Z1F Z3S Z1P Z6A Z3C Z6z Z3w Z2Y Z3t Z6w Z3D Z51 AV.solid S0 Z06 Z1n
def Z4P:AC :=
 (.seq (.reg none [
 ro 4 (.mv (.c (.v (.bool false))))])
 (.seq (.seq (.reg none [
 rm 6 0,
 ro 7 (.len (.t 6)),
 rm 8 1,
 ro 9 (.len (.t 8)),
 ro 10 (.bin .neq (.t 7) (.t 9))])
 (.cond (.t 10) (.seq (.reg none [
  ro 4 (.mv (.c (.v (.bool false))))])
 .ret) .skip))
 (.seq (.seq (.reg none [
 ro 5 (.mv (ci 0))])
 (.block 0 (.loop (.seq (.seq (.reg none [
  rm 11 5,
  rm 12 0,
  ro 13 (.len (.t 12)),
  ro 14 (.bin .lss (.t 11) (.t 13))])
  (.cond (.t 14) .skip (.exit 0)))
  (.seq (.block 1 (.seq (.reg (some []) [
   rm 17 0,
   rm 18 5,
   ro 19 (.idxA 1 (.t 17) (.t 18)),
   ro 20 (.load none (.t 19)),
   rm 21 1,
   rm 22 5,
   ro 23 (.idxA 1 (.t 21) (.t 22)),
   ro 24 (.load none (.t 23)),
   ro 25 (.bin .neq (.t 20) (.t 24))])
  (.cond (.t 25) (.seq (.reg none [
   ro 4 (.mv (.c (.v (.bool false))))])
   .ret) .skip)))
  (.reg none [
  rm 15 5,
  ro 16 (.bin .add (.t 15) (ci 1)),
  rm 5 16]))))))
 (.seq (.reg none [
 ro 4 (.mv (.c (.v (.bool true))))])
 .ret))))
def Zwb(a b:List Int)(m:Nat)(f:AF)(S:St):Prop :=
 ∃i:Nat,i≤a.length∧m=a.length - i∧f 5=Z06 i∧f 0=Z03 a∧f 1=Z03 b∧a.length=b.length∧a.take i=b.take i
theorem Z99(P:Program)(a b:List Int)(ha:Len a)(hb:Len b):AW P Z4P (Z75 [4] (FzK (Z1n (a == b)))) (Z53 [Z03 a,Z03 b]) S0:=by
 unfold Len at ha hb;by_cases hl:a.length=b.length
 ·simp[Z4P,Z03,hl]
  refine ZbI (Zwb a b) a.length ?_ ?_
  ·refine⟨0,by omega,by omega,?_,?_,?_,hl,?_⟩<;>simp[Z00,Z0f,Z0g,Z06,Z03]
  ·rintro m f S ⟨i,hi,rfl,e5,e0,e1,_,hp⟩
   by_cases hlt:i < a.length
   ·have hlb:i < b.length:=by omega
    by_cases he:a[i]=b[i]
    ·simp[e5,e0,e1,Z03,hlt,hlb,he]
     rw[Z0m _ (by omega)];refine⟨a.length - (i+1),by omega,i+1,by omega,rfl,?_,?_,?_,hl,?_⟩<;>try simp[Z00,e5,e0,e1,Z06,Z03]
     rw[List.take_add_one,List.take_add_one,hp,List.getElem?_eq_getElem hlt,List.getElem?_eq_getElem hlb,he]
    ·have hr:(a == b)=false:=beq_false_of_ne (by rintro rfl;exact he rfl)
     have hc:(a[i] != b[i])=true:=by simp[he]
     simp[e5,e0,e1,Z03,hlt,hlb,hc,hr];exact Z2p false _
   ·have hab:a=b:=by
     rw[List.take_of_length_le (by omega),List.take_of_length_le (by omega)] at hp;exact hp
    have hr:(a == b)=true:=by simp[hab]
    simp[e5,e0,e1,Z03,hlt,hr];exact Z2p true _
 ·have hr:(a == b)=false:=beq_false_of_ne (by rintro rfl;exact hl rfl)
  have hc:((a.length:Int) != b.length)=true:=by simp;omega
  simp[Z4P,Z03,hc,hr];exact Z2p false _
end Go.Rf
namespace Go.Rf
open Go.RowKit Go.Sort
theorem Sim.widen{E:Env}{S:St}{w w':World}(h:Sim E S w)(hw:∀b,b < w.heap.size→w'.heap[b]? = w.heap[b]?):Sim E S w':=by
 refine⟨fun b cs e=>?_,fun id k e=>?_,h.dis,h.fresh⟩
 ·rw[hw b (h.P5E e)];exact h.hH b cs e
 ·obtain⟨l,a1,a2,a3⟩:=h.live id k e
  exact⟨l,a1,a2,a3.mono (Env.le_refl _) (hw _ a3.lt)⟩
theorem Zou{w:World}{b o:Nat}{d:Array Int}{cs:Array Value}{el:TypeId}{fz:Nat×Nat}(h:w.heap[b]? = some (.cells cs el fz)) :
  (putRow (Value.int .i64) w b o d).heap[b]? = some (.cells (putCells (Value.int .i64) o d cs) el fz):=by
 simp only[putRow,mapBlock,Array.getElem?_modify,if_true,h,Option.map_some,onCells]
theorem ZhH{w:World}{b o:Nat}{d:Array Int}(c:Nat)(h:c≠b):(putRow (Value.int .i64) w b o d).heap[c]? = w.heap[c]?:=by
 simp only[putRow,mapBlock,Array.getElem?_modify];rw[if_neg (Ne.symm h)]
theorem Ze1{o:Nat}{d:Array Int}{cs:Array Value}(k:Nat):(putCells (Value.int .i64) o d cs)[k]? = (cs[k]?).map fun x=>if o≤k∧k < o+d.size then Value.int .i64 d[k - o]! else x:=by
 simp only[putCells,Array.getElem?_mapIdx]
theorem Zjb{w:World}{b o:Nat}{d:Array Int}:(putRow (Value.int .i64) w b o d).heap.size=w.heap.size:=by
 simp[putRow,mapBlock]
theorem ZdD:∀q:List Int,flat (q.map Z06)=q.map Z06
 | []=>rfl
 | x::q=>by
  have ih:=ZdD q;simp only[List.map_cons,flat,List.flatMap_cons] at ih ⊢;rw[ih];rfl
theorem Z0x.rewrite{P:Program}{f:FuncId}(hcal:Z4G P f){S:St}{id off:Nat}{ys:List AV}{l l':List Int}(hg:S.g id=some (.arr 1 ys))(hd:ys.drop off=l.map Z06)(hne:l≠[])(hl:l'.length=l.length)(m:Nat)(hm:m≤l'.length)
  (res:Nat→Nat→Nat→Value) (r:AV) (hres:(r=.tup []∧∀b o cap,res b o cap=.tuple #[])∨(r=.own id off m∧0 < m∧∀b o cap,res b o cap=.slice (some ⟨b,o,none⟩) m cap))
  (hc:∀b o cap w,Holds (Value.int .i64) w b o l.toArray→b < w.heap.size→l.length≤cap→Calls P f #[.slice (some ⟨b,o,none⟩) l.length cap] w fun e w'=>e=.returned (res b o cap)∧∃n os,w'=grow (putRow (Value.int .i64) (Sort.ahead w n) b o l'.toArray) os)
  {K:AV→St→Prop} (hk:K r (S.set id (some (.arr 1 (ys.take off++(l'.take m).map Z06))))):Z0x P f [.own id off l.length] S K:=by
 refine⟨hcal,fun E w vals hG hS hv=>?_⟩;have hlen:0 < l.length:=List.length_pos_iff.mpr hne;obtain⟨loc,hρ,hN,hok⟩:=hS.live id _ hg;have hlt:=hok.lt;obtain⟨hes,htot,hc1,hat,cs,el,hheap,hsize,hcells⟩:=hok;have hoff:off+l.length=ys.length:=by have:=congrArg List.length hd;simp at this;omega
 have hfl:(flat ys).length=ys.length:=by rw[Z2i hc1];omega
 have hfd:(flat ys).drop off=l.map Z06:=by
  have h1:=Z65 hc1 off;rw[hd] at h1;rw[ZdD,Nat.mul_one] at h1;exact h1.symm
 obtain⟨hvs,hvj⟩:=hv;have hv0:=hvj 0 (by simp);simp only[List.getElem_cons_zero] at hv0;clear hvj
 have hvals:vals=#[vals.getD 0 undef]:=by
  apply Array.ext
  ·simpa using hvs
  ·intro i h1 h2
   have:i=0:=by simp at h2;exact h2
   subst this;simp[Array.getD_eq_getD_getElem?,h1]
 generalize hva:vals.getD 0 undef=va at hv0 hvals;subst hvals;cases hv0 with
 | own _ _ _ A cap l0 hl0 hle hA =>
  rw[hρ] at hl0;cases hl0;obtain⟨hA1,hA2⟩:=hA (by omega);subst hA1
  have hget:∀j (hj:j < l.length),cs[loc.o+off*loc.es+j]? = some (.int .i64 (l[j])):=by
   intro j hj;obtain⟨u,a1,a2⟩:=hcells (off+j) (by omega)
   have e:(flat ys)[off+j]'(by omega)=Z06 (l[j]):=by
    have:((flat ys).drop off)[j]'(by simp;omega)=Z06 l[j]:=by simp[hfd]
    rw[List.getElem_drop] at this;exact this
   rw[e] at a2;have:=a2.P0O;rw[hes,Nat.mul_one,Nat.add_assoc,a1,this]
  have hH:Holds (Value.int .i64) w loc.b (loc.o+off*loc.es) l.toArray:=by
   intro j hj;have hj':j < l.length:=by simpa using hj
   refine⟨?_,?_⟩
   ·rw[Z8b hheap,hget j hj']
    simp[hj']
   ·simp[World.frozen?,hheap]
  refine(hc loc.b (loc.o+off*loc.es) cap w hH hlt hle).mono ?_;rintro e w' ⟨rfl,n,os,rfl⟩
  let w1:=putRow (Value.int .i64) (Sort.ahead w n) loc.b (loc.o+off*loc.es) l'.toArray
  have hw1b:w1.heap[loc.b]? = some (.cells (putCells (Value.int .i64) (loc.o+off*loc.es) l'.toArray cs) el (0,0)):=Zou (w:=Sort.ahead w n) hheap;have hw1o:∀b,b≠loc.b→w1.heap[b]? = w.heap[b]?:=fun b hb=>ZhH (w:=Sort.ahead w n) b hb
  have hw1s:w1.heap.size=w.heap.size:=Zjb (w:=Sort.ahead w n)
  have hfn:flat (ys.take off++(l'.take m).map Z06)=(flat ys).take off++(l'.take m).map Z06:=by
   rw[Z3c];have h1:=Z66 hc1 off;rw[h1,ZdD,Nat.mul_one]
  have hblk:Z6J E w1 loc (.arr 1 (ys.take off++(l'.take m).map Z06)):=by
   refine⟨hes,?_,?_,?_,_,el,hw1b,?_,?_⟩
   ·simp;omega
   ·intro x hx
    rcases List.mem_append.mp hx with hx | hx
    ·exact hc1 x (List.mem_of_mem_take hx)
    ·obtain⟨z,_,rfl⟩:=List.mem_map.mp hx;rfl
   ·intro y hy
    rw[hfn] at hy;rcases List.mem_append.mp hy with hy | hy
    ·exact hat y (List.mem_of_mem_take hy)
    ·obtain⟨z,_,rfl⟩:=List.mem_map.mp hy;rfl
   ·simp only[putCells,Array.size_mapIdx];exact hsize
   ·intro k hkk
    have hkl:k < off+m:=by rw[hfn] at hkk;simp at hkk;omega
    have hk2:k < (flat ys).length:=by omega
    obtain⟨u,a1,a2⟩:=hcells k hk2;simp only[hfn];by_cases hko:k < off
    ·refine⟨u,?_,?_⟩
     ·rw[Ze1,a1]
      simp only[Option.map_some];rw[if_neg (by rw[hes];omega)]
     ·rw[List.getElem_append_left (by simp;omega),List.getElem_take];exact a2
    ·have hkm:k - off < l'.length:=by omega
     refine⟨.int .i64 (l'[k - off]),?_,?_⟩
     ·rw[Ze1,a1]
      simp only[Option.map_some];rw[if_pos (by rw[hes];simp;omega)];have e1:loc.o+k - (loc.o+off*loc.es)=k - off:=by rw[hes];omega
      simp[e1,hkm]
     ·have hmin:min off (flat ys).length=off:=by omega
      rw[List.getElem_append_right (by simp;omega)];simp only[List.length_take,hmin,List.getElem_map,List.getElem_take];exact .v _ rfl
  have hS1:Sim E (S.set id (some (.arr 1 (ys.take off++(l'.take m).map Z06)))) w1:=hS.write hg hρ hw1o hblk
  have hgr:∀b,b < w1.heap.size→(grow w1 os).heap[b]? = w1.heap[b]?:=by
   intro b hb;simp only[grow];rw[Array.getElem?_append_left hb]
  have hS2:=hS1.widen hgr;have ev1:Evo E S w E (S.set id (some (.arr 1 (ys.take off++(l'.take m).map Z06)))) w1:=Evo.write hg hρ rfl rfl rfl hw1s hw1o
  have ev2:Evo E (S.set id (some (.arr 1 (ys.take off++(l'.take m).map Z06)))) w1 E (S.set id (some (.arr 1 (ys.take off++(l'.take m).map Z06)))) (grow w1 os) :=
   ⟨rfl,rfl,rfl,by simp[grow],fun b hb _=>hgr b hb,fun i l k hk hl=>.inr ⟨i,l,k,hk,hl,rfl⟩,Env.le_refl _,fun _ _ e=>.inl e⟩
  refine⟨_,r,_,E,rfl,hk,hS2,?_,⟨ev1.trans ev2,Nat.le_refl _,fun _ _ e=>e⟩⟩;rcases hres with⟨rfl,h1⟩ | ⟨rfl,h0,h1⟩
  ·rw[h1];exact .tup _ _ rfl (by simp)
  ·rw[h1];exact .own id off m _ cap loc hρ (by omega) (fun _=>⟨rfl,hA2⟩)
def Zml(P:Program)(f:FuncId):Prop:=∀(S:St) (id off:Nat) (ys:List AV) (l:List Int) (K:AV→St→Prop),S.g id=some (.arr 1 ys)→ys.drop off=l.map Z06→l≠[]→l.length≤17592186043904 →
 K (.tup []) (S.set id (some (.arr 1 (ys.take off++(l.mergeSort fun x y=>decide (x≤y)).map Z06))))→Z0x P f [.own id off l.length] S K
def Zmj(P:Program)(f:FuncId):Prop:=∀(S:St) (id off:Nat) (ys:List AV) (l:List Int) (K:AV→St→Prop),S.g id=some (.arr 1 ys)→ys.drop off=l.map Z06→l≠[]→l.length≤17592186043904 →
 K (.own id off (Lib.compact l).length) (S.set id (some (.arr 1 (ys.take off++(Lib.compact l).map Z06))))→Z0x P f [.own id off l.length] S K
end Go.Rf
namespace Go.Rf
open Go.RowKit
attribute [local simp] Z4c Z48 Z2M Z2a Z2P Z2R Z2Q Z4a Z4b Z1e Z16 Z0c Z0B Z0q Z08 Z0o Z0h Z09 Z0p Z0i Z0Y Z0j Z0z Z0K Z0k Z0J Z1W Z3U Z0X Z25 Z22 Z24 Z23 Z26 Z1j Z0D Z11 Z12 Z1T Z1U Z1V Z0H Z0I Z1i Z0r Z0W Z20 Z1X Z1Z Z1Y Z21 Z1k Z13 Z1g Z0U Z0V Z0C Z1h Z0P Z1a Z1f Z14 Z1l ex Z00 Z0R Z6K Z6P Z0f Z0g Z0A Z2k Z1d Z10 Z0y Z0F Z0G Z0E Z0s Z0Z Z5y Z0O Z37 Z1c Z1O Z1R Z3s Z0b Z1q Z19 Z0Q Z1F Z3S Z1P Z6A Z3C Z6z Z3w Z2Y Z3t Z6w Z3D Z51 AV.solid S0 Z06 Z1n
def ZvG(n:Nat)(I:Nat→AF→St→Prop)(k:Nat):AF→St→Prop:=fun f S=>k < n∧I (k+1) f S
theorem Z7F{P:Program}{x:AC}{Q:Exit→AF→St→Prop}{f:AF}{S:St}(n:Nat)(I:Nat→AF→St→Prop)(h0:I 0 f S)(h:∀k f S,k≤n→I k f S→AW P x (Z7a (ZvG n I k) Q) f S):AW P (.loop x) Q f S:=by
 refine ZbI (fun m f S=>∃k,k≤n∧m=n - k∧I k f S) n ⟨0,by omega,by omega,h0⟩ ?_;rintro m f S ⟨k,hk,rfl,hi⟩;refine Z9g _ (fun e a S' hq=>?_) (h k f S hk hi);cases e<;>simp only[Z7a] at hq ⊢<;>first | exact hq | skip
 obtain⟨h1,h2⟩:=hq;exact⟨n - (k+1),by omega,k+1,by omega,rfl,h2⟩
def Z4n:AC :=
 (.seq (.reg none [
 ro 4 (.mv (ci 0))])
 (.seq (.seq (.reg none [
 rm 6 0,
 ro 7 (.len (.t 6)),
 ro 8 (.mv (ci 0))])
 (.block 0 (.loop (.seq (.reg none [
  ro 9 (.bin .lss (.t 8) (.t 7))])
  (.seq (.cond (.t 9) .skip (.exit 0))
  (.seq (.block 1 (.seq (.reg none [
   rm 10 8,
   rm 5 10])
  (.seq (.reg none [
   rm 11 1,
   rm 12 0,
   rm 13 5,
   ro 14 (.idxA 1 (.t 12) (.t 13)),
   ro 15 (.load none (.t 14)),
   ro 16 (.bin .eql (.t 11) (.t 15))])
  (.cond (.t 16) (.seq (.reg none [
   rm 17 5,
   rm 4 17])
   .ret) .skip))))
  (.reg none [
  ro 18 (.bin .add (.t 8) (ci 1)),
  rm 8 18])))))))
 (.seq (.reg none [
 ro 4 (.mv (ci (-1)))])
 .ret)))
def Z3Y(P2K:FuncId):AC :=
 (.seq (.reg none [
 ro 4 (.mv (.c (.v (.bool false))))])
 (.seq (.reg none [
 rm 5 0,
 rm 6 1,
 rk 7 P2K [(.t 5),(.t 6)],
 ro 8 (.bin .geq (.t 7) (ci 0)),
 rm 4 8])
 .ret))
def Z3K:AC :=
 (.seq (.reg none [
 ro 4 (.mv (.c (.v (.bool false))))])
 (.seq (.seq (.reg none [
 rm 6 0,
 ro 7 (.len (.t 6)),
 rm 8 1,
 ro 9 (.len (.t 8)),
 ro 10 (.bin .neq (.t 7) (.t 9))])
 (.cond (.t 10) (.seq (.reg none [
  ro 4 (.mv (.c (.v (.bool false))))])
 .ret) .skip))
 (.seq (.seq (.reg none [
 rm 11 0,
 ro 12 (.len (.t 11)),
 ro 13 (.mv (ci 0))])
 (.block 0 (.loop (.seq (.reg none [
  ro 14 (.bin .lss (.t 13) (.t 12))])
  (.seq (.cond (.t 14) .skip (.exit 0))
  (.seq (.block 1 (.seq (.reg none [
   rm 15 13,
   rm 5 15])
  (.seq (.reg (some []) [
   rm 16 0,
   rm 17 5,
   ro 18 (.idxA 1 (.t 16) (.t 17)),
   ro 19 (.load none (.t 18)),
   rm 20 1,
   rm 21 5,
   ro 22 (.idxA 1 (.t 20) (.t 21)),
   ro 23 (.load none (.t 22)),
   ro 24 (.bin .neq (.t 19) (.t 23))])
  (.cond (.t 24) (.seq (.reg none [
   ro 4 (.mv (.c (.v (.bool false))))])
   .ret) .skip))))
  (.reg none [
  ro 25 (.bin .add (.t 13) (ci 1)),
  rm 13 25])))))))
 (.seq (.reg none [
 ro 4 (.mv (.c (.v (.bool true))))])
 .ret))))
def Z4m:AC :=
 (.seq (.reg none [
 ro 4 (.mv (.c (.v (.bool false))))])
 (.seq (.seq (.reg none [
 ro 5 (.mv (ci 0))])
 (.block 0 (.loop (.seq (.seq (.reg none [
  rm 6 5,
  rm 7 0,
  ro 8 (.len (.t 7)),
  ro 9 (.bin .lss (.t 6) (.t 8))])
  (.cond (.t 9) .skip (.exit 0)))
  (.seq (.block 1 (.seq (.reg none [
   rm 12 0,
   rm 13 5,
   ro 14 (.idxA 1 (.t 12) (.t 13)),
   ro 15 (.load none (.t 14)),
   rm 16 1,
   ro 17 (.bin .eql (.t 15) (.t 16))])
  (.cond (.t 17) (.seq (.reg none [
   ro 4 (.mv (.c (.v (.bool true))))])
   .ret) .skip)))
  (.reg none [
  rm 10 5,
  ro 11 (.bin .add (.t 10) (ci 1)),
  rm 5 11]))))))
 (.seq (.reg none [
 ro 4 (.mv (.c (.v (.bool false))))])
 .ret)))
def Z4C(P0f:FuncId):AC :=
 (.seq (.reg none [
 ro 4 (.mv (.c (.v (.bool false))))])
 (.seq (.seq (.reg none [
 rm 6 0,
 ro 7 (.len (.t 6)),
 rm 8 1,
 ro 9 (.len (.t 8)),
 ro 10 (.bin .neq (.t 7) (.t 9))])
 (.cond (.t 10) (.seq (.reg none [
  ro 4 (.mv (.c (.v (.bool false))))])
 .ret) .skip))
 (.seq (.seq (.reg none [
 ro 5 (.mv (ci 0))])
 (.block 0 (.loop (.seq (.seq (.reg none [
  rm 11 5,
  rm 12 0,
  ro 13 (.len (.t 12)),
  ro 14 (.bin .lss (.t 11) (.t 13))])
  (.cond (.t 14) .skip (.exit 0)))
  (.seq (.block 1 (.seq (.reg (some []) [
   rm 17 0,
   rm 18 5,
   ro 19 (.idxA 1 (.t 17) (.t 18)),
   ro 20 (.load none (.t 19)),
   rm 21 1,
   rm 22 5,
   ro 23 (.idxA 1 (.t 21) (.t 22)),
   ro 24 (.load none (.t 23)),
   rk 25 P0f [(.t 20),(.t 24)],
   ro 26 (.un .not (.t 25))])
  (.cond (.t 26) (.seq (.reg none [
   ro 4 (.mv (.c (.v (.bool false))))])
   .ret) .skip)))
  (.reg none [
  rm 15 5,
  ro 16 (.bin .add (.t 15) (ci 1)),
  rm 5 16]))))))
 (.seq (.reg none [
 ro 4 (.mv (.c (.v (.bool true))))])
 .ret))))
def Z9m(P0p P06 P04:FuncId):AC :=
 (.seq (.reg none [
 ro 2 (.mv (.c (.sl true [])))])
 (.seq (.reg none [
 rm 3 0,
 rk 4 P0p [(.t 3)],
 rm 0 4])
 (.seq (.reg none [
 rm 5 0,
 rk 6 P06 [(.t 5)]])
 (.seq (.reg none [
 rm 7 0,
 rk 8 P04 [(.t 7)],
 rm 2 8])
 .ret))))
def Z7e(P0n P2J:FuncId):AC :=
 (.seq (.reg none [
 ro 6 (.mv (.c (.v (.bool false))))])
 (.seq (.reg none [
 rm 7 0,
 ro 8 (.len (.t 7)),
 ro 9 (.bin .eql (.t 8) (ci 0)),
 rm 10 9,
 rg 11 10 false (.mv (.t 0)),
 rg 12 10 false (.idxA 1 (.t 11) (ci 0)),
 rg 13 10 false (.load none (.t 12)),
 rg 14 10 false (.mv (.t 1)),
 rg 15 10 false (.bin .geq (.t 13) (.t 14)),
 rg 16 10 false (.mv (.t 15)),
 rg 17 16 true (.mv (.t 0)),
 rg 18 16 true (.mv (.t 0)),
 rg 19 16 true (.len (.t 18)),
 rg 20 16 true (.bin .sub (.t 19) (ci 1)),
 rg 21 16 true (.idxA 1 (.t 17) (.t 20)),
 rg 22 16 true (.load none (.t 21)),
 rg 23 16 true (.mv (.t 2)),
 rg 24 16 true (.bin .lss (.t 22) (.t 23)),
 rg 25 10 false (.pick (.t 16) (.t 24) (.c (.v (.bool false)))),
 rg 26 10 false (.mv (.t 25)),
 rg 27 26 true (.mv (.t 0)),
 rg 28 26 true (.mv (.t 0)),
 rl 29 26 true P0n [(.t 28)],
 rl 30 26 true P2J [(.t 27),(.t 29)],
 rg 31 10 false (.pick (.t 26) (.t 30) (.c (.v (.bool false)))),
 ro 32 (.pick (.t 10) (.c (.v (.bool true))) (.t 31)),
 rm 6 32])
 .ret))
def Z5g:AC :=
 (.seq (.reg none [
 ro 6 (.mv (.c (.v (.bool false))))])
 (.seq (.seq (.reg none [
 ro 7 (.mv (ci 0))])
 (.block 0 (.loop (.seq (.seq (.reg none [
  rm 8 7,
  rm 9 0,
  ro 10 (.len (.t 9)),
  ro 11 (.bin .lss (.t 8) (.t 10))])
  (.cond (.t 11) .skip (.exit 0)))
  (.seq (.block 1 (.seq (.reg (some []) [
   rm 14 0,
   rm 15 7,
   ro 16 (.idxA 1 (.t 14) (.t 15)),
   ro 17 (.load none (.t 16)),
   rm 18 1,
   ro 19 (.bin .lss (.t 17) (.t 18)),
   rm 20 19,
   rg 21 20 false (.mv (.t 0)),
   rg 22 20 false (.mv (.t 7)),
   rg 23 20 false (.idxA 1 (.t 21) (.t 22)),
   rg 24 20 false (.load none (.t 23)),
   rg 25 20 false (.mv (.t 2)),
   rg 26 20 false (.bin .geq (.t 24) (.t 25)),
   ro 27 (.pick (.t 20) (.c (.v (.bool true))) (.t 26)),
   rm 28 27,
   rg 29 28 false (.mv (.t 7)),
   rg 30 28 false (.bin .gtr (.t 29) (ci 0)),
   rg 31 28 false (.mv (.t 30)),
   rg 32 31 true (.mv (.t 0)),
   rg 33 31 true (.mv (.t 7)),
   rg 34 31 true (.bin .sub (.t 33) (ci 1)),
   rg 35 31 true (.idxA 1 (.t 32) (.t 34)),
   rg 36 31 true (.load none (.t 35)),
   rg 37 31 true (.mv (.t 0)),
   rg 38 31 true (.mv (.t 7)),
   rg 39 31 true (.idxA 1 (.t 37) (.t 38)),
   rg 40 31 true (.load none (.t 39)),
   rg 41 31 true (.bin .geq (.t 36) (.t 40)),
   rg 42 28 false (.pick (.t 31) (.t 41) (.c (.v (.bool false)))),
   ro 43 (.pick (.t 28) (.c (.v (.bool true))) (.t 42))])
  (.cond (.t 43) (.seq (.reg none [
   ro 6 (.mv (.c (.v (.bool false))))])
   .ret) .skip)))
  (.reg none [
  rm 12 7,
  ro 13 (.bin .add (.t 12) (ci 1)),
  rm 7 13]))))))
 (.seq (.reg none [
 ro 6 (.mv (.c (.v (.bool true))))])
 .ret)))
theorem ZpY(l:List Int)(x:Int):l.any (fun y=>x == y)=l.contains x:=by
 rw[Bool.eq_iff_iff];simp
def ixI(l:List Int)(x:Int)(i:Nat)(f:AF)(S:St):Prop:=f 8=Z06 i∧f 7=Z06 l.length∧f 0=Z03 l∧f 1=Z06 x∧∀k (h:k < l.length),k < i→l[k]≠x
theorem Zc9{P:Program}(l:List Int)(x:Int)(hl:Len l):AW P Z4n (Z75 [4] (FzK (Z06 (Zep (fun y=>x == y) l)))) (Z53 [Z03 l,Z06 x]) S0:=by
 unfold Len at hl;simp[Z4n,Z03];refine Z7F l.length (ixI l x) ?_ ?_
 ·refine⟨?_,?_,?_,?_,by omega⟩<;>simp[Z00,Z0f,Z0g,Z06,Z03]
 ·rintro i f S hi ⟨e8,e7,e0,e1,hq⟩
  by_cases hlt:i < l.length
  ·by_cases hb:x=l[i]
   ·have hi2:Zep (fun y=>x == y) l=i:=by
     have h1:l.any (fun y=>x == y)=true:=List.any_eq_true.mpr ⟨_,List.getElem_mem hlt,by simp[hb]⟩;have h2:l.findIdx (fun y=>x == y)=i:=(List.findIdx_eq hlt).mpr ⟨by simp[hb],fun j hj=>by have:=hq j (by omega) hj;simp;exact fun e=>this e.symm⟩;simp[Zep,h1,h2]
    have hb2:(x == l[i])=true:=by simp[hb]
    simp[e8,e7,e0,e1,hlt,Z03,hb2];simp[Z00,e8,Z06,hi2];exact Zft _ _
   ·have hb2:(x == l[i])=false:=by simp[hb]
    simp[e8,e7,e0,e1,hlt,Z03,hb2];rw[Z0m _ (by omega)];refine⟨hlt,?_,?_,?_,?_,fun k h hk=>?_⟩
    ·simp[Z00,Z06]
    ·simp[Z00,e7]
    ·simp[Z00,e0]
    ·simp[Z00,e1]
    ·by_cases hki:k=i
     ·subst hki;exact fun e=>hb e.symm
     ·exact hq k h (by omega)
  ·have hi2:Zep (fun y=>x == y) l = -1:=by
    have h1:l.any (fun y=>x == y)=false:=by
     rw[List.any_eq_false];intro y hy;obtain⟨k,hk,rfl⟩:=List.mem_iff_getElem.mp hy;have:=hq k hk (by omega);simp;exact fun e=>this e.symm
    simp[Zep,h1]
   simp[e8,e7,e0,e1,hlt,Z03,hi2];exact Zft _ _
theorem Zal{P:Program}{fi:FuncId}(l:List Int)(x:Int)(h:Z0t P fi [Z03 l,Z06 x] (Z06 (Zep (fun y=>x == y) l))):AW P (Z3Y fi) (Z75 [4] (FzK (Z1n (l.contains x)))) (Z53 [Z03 l,Z06 x]) S0:=by
 simp[Z3Y];refine Z0x.pure h (Z01 (Z02 _) (Z01 (Z04 _) Z0a)) (Z04 _) ?_;simp;have e:decide (x∈l)=decide (0≤Zep (fun y=>x == y) l):=by rw[ZdK,ZpY];simp
 rw[e];exact Z2p _ _
def Zw7(l:List Int)(x:Int)(i:Nat)(f:AF)(S:St):Prop:=f 5=Z06 i∧f 0=Z03 l∧f 1=Z06 x∧∀k (h:k < l.length),k < i→l[k]≠x
theorem Zf4{P:Program}(l:List Int)(x:Int)(hl:Len l):AW P Z4m (Z75 [4] (FzK (Z1n (l.contains x)))) (Z53 [Z03 l,Z06 x]) S0:=by
 unfold Len at hl;simp[Z4m,Z03];refine Z7F l.length (Zw7 l x) ?_ ?_
 ·refine⟨?_,?_,?_,by omega⟩<;>simp[Z00,Z0f,Z0g,Z06,Z03]
 ·rintro i f S hi ⟨e5,e0,e1,hq⟩
  by_cases hlt:i < l.length
  ·by_cases hb:l[i]=x
   ·have h1:x∈l:=by rw[←hb];exact List.getElem_mem hlt
    have hb2:(l[i] == x)=true:=by simp[hb]
    simp[e5,e0,e1,hlt,Z03,hb2,h1];exact Z2p _ _
   ·have hb2:(l[i] == x)=false:=by simp[hb]
    simp[e5,e0,e1,hlt,Z03,hb2];rw[Z0m _ (by omega)];refine⟨hlt,?_,?_,?_,fun k h hk=>?_⟩
    ·simp[Z00,Z06]
    ·simp[Z00,e0,Z03]
    ·simp[Z00,e1]
    ·by_cases hki:k=i
     ·subst hki;exact hb
     ·exact hq k h (by omega)
  ·have h1:x∉l:=by
    intro hy;obtain⟨k,hk,rfl⟩:=List.mem_iff_getElem.mp hy;exact hq k hk (by omega) rfl
   simp[e5,e0,e1,hlt,Z03,h1];exact Z2p _ _
def eqI(a b:List Int)(i:Nat)(f:AF)(S:St):Prop:=f 13=Z06 i∧f 12=Z06 a.length∧f 0=Z03 a∧f 1=Z03 b∧a.take i=b.take i
theorem Zc8{P:Program}(a b:List Int)(ha:Len a)(hb:Len b):AW P Z3K (Z75 [4] (FzK (Z1n (a == b)))) (Z53 [Z03 a,Z03 b]) S0:=by
 unfold Len at ha hb;by_cases hl:a.length=b.length
 ·simp[Z3K,Z03,hl]
  refine Z7F a.length (eqI a b) ?_ ?_
  ·refine⟨?_,?_,?_,?_,?_⟩<;>simp[Z00,Z0f,Z0g,Z06,Z03,hl]
  ·rintro i f S hi ⟨e13,e12,e0,e1,hp⟩
   by_cases hlt:i < a.length
   ·have hlb:i < b.length:=by omega
    by_cases he:a[i]=b[i]
    ·simp[e13,e12,e0,e1,Z03,hlt,hlb,he]
     rw[Z0m _ (by omega)];refine⟨hlt,?_,?_,?_,?_,?_⟩<;>try simp[Z00,e12,e0,e1,Z06,Z03]
     rw[List.take_add_one,List.take_add_one,hp,List.getElem?_eq_getElem hlt,List.getElem?_eq_getElem hlb,he]
    ·have hr:(a == b)=false:=beq_false_of_ne (by rintro rfl;exact he rfl)
     have hc:(a[i] != b[i])=true:=by simp[he]
     simp[e13,e12,e0,e1,Z03,hlt,hlb,hc,hr];exact Z2p false _
   ·have hab:a=b:=by
     rw[List.take_of_length_le (by omega),List.take_of_length_le (by omega)] at hp;exact hp
    have hr:(a == b)=true:=by simp[hab]
    simp[e13,e12,e0,e1,Z03,hlt,hr];exact Z2p true _
 ·have hr:(a == b)=false:=beq_false_of_ne (by rintro rfl;exact hl rfl)
  have hc:((a.length:Int) != b.length)=true:=by simp;omega
  simp[Z3K,Z03,hc,hr];exact Z2p false _
def liI(a b:List (List Int))(i:Nat)(f:AF)(S:St):Prop:=f 5=Z06 i∧f 0=Z0l a∧f 1=Z0l b∧a.take i=b.take i
theorem ZgF{P:Program}{g:FuncId}(a b:List (List Int))(ha:Len a)(hb:Len b)(h:∀x∈a,∀y∈b,Z0t P g [Z03 x,Z03 y] (Z1n (x == y))):AW P (Z4C g) (Z75 [4] (FzK (Z1n (a == b)))) (Z53 [Z0l a,Z0l b]) S0:=by
 unfold Len at ha hb;by_cases hl:a.length=b.length
 ·simp[Z4C,Z0l,hl]
  refine Z7F a.length (liI a b) ?_ ?_
  ·refine⟨?_,?_,?_,?_⟩<;>simp[Z00,Z0f,Z0g,Z06,Z0l]
  ·rintro i f S hi ⟨e5,e0,e1,hp⟩
   by_cases hlt:i < a.length
   ·have hlb:i < b.length:=by omega
    have hh:=h a[i] (List.getElem_mem hlt) b[i] (List.getElem_mem hlb);have hcl:=Z01 (Z02 a[i]) (Z01 (Z02 b[i]) Z0a);simp only[Z03] at hh hcl;have hd:∀n g',Z5A P g [.sl false ((a[i]).map Z06),.sl false ((b[i]).map Z06)] ⟨n,g'⟩ [] (Z1n (a[i] == b[i])):=fun n g'=>Z5A.kl hh hcl (Z0L _)
    simp[e5,e0,e1,Z0l,hlt,hlb,Z03];refine⟨_,⟨_,hd _ _⟩,?_⟩;by_cases he:a[i]=b[i]
    ·simp[e5,e0,e1,Z0l,he]
     rw[Z0m _ (by omega)];refine⟨hlt,?_,?_,?_,?_⟩<;>try simp[Z00,e0,e1,Z06,Z0l]
     rw[List.take_add_one,List.take_add_one,hp,List.getElem?_eq_getElem hlt,List.getElem?_eq_getElem hlb,he]
    ·have hr:(a == b)=false:=beq_false_of_ne (by rintro rfl;exact he rfl)
     have hc:(a[i] == b[i])=false:=by simp[he]
     simp[e5,e0,e1,Z0l,hc,hr];exact Z2p false _
   ·have hab:a=b:=by
     rw[List.take_of_length_le (by omega),List.take_of_length_le (by omega)] at hp;exact hp
    have hr:(a == b)=true:=by simp[hab]
    simp[e5,e0,e1,Z0l,hlt,hr];exact Z2p true _
 ·have hr:(a == b)=false:=beq_false_of_ne (by rintro rfl;exact hl rfl)
  have hc:((a.length:Int) != b.length)=true:=by simp;omega
  simp[Z4C,Z0l,hc,hr];exact Z2p false _
structure ZwA(P:Program)(fc fs fm:FuncId):Prop where
 clone:ByC P fc (Z32 1 8 (.v (.int .i64 0))) [.t 2] 1
 sort:Zml P fs
 comp:Zmj P fm
 P4N:Z0t P fs [.sl true []] (.tup [])
 P4E:Z0t P fm [.sl true []] (.sl true [])
theorem Zhz{P:Program}{fc fs fm:FuncId}(H:ZwA P fc fs fm)(l:List Int)(hl:l.length≤17592186043904):AW P (Z9m fc fs fm) (Z75 [2] (FzK (Z03 (Z6l l)))) (Z53 [Z03 l]) S0:=by
 have hm:(l.mergeSort fun x y=>decide (x≤y)).length=l.length:=List.length_mergeSort _;by_cases h0:l=[]
 ·subst h0
  have hs0:Z6l []=[]:=List.eq_nil_of_length_eq_zero (by have:=ZcY [];simpa using this);rw[hs0];simp[Z9m,Z03];refine H.clone rfl ?_;have hb:Z0O 1 0 (.v (.int .i64 0)) []=some (.sl true []):=Z3O _ _
  have hr:∀n nid,(Z57 1 8 (.sl true []) (.sl false [])).run ⟨n,fun _=>none⟩ nid=some (.sl true [],⟨n,fun _=>none⟩):=by
   intro n nid;simp[Z57,Z9f,AV.oid,Eff.run,St.P1B,St.P1P,Z1K]
  simp[Z32,hb,hr];refine⟨[.sl true []],by simp[evC,RV.ev,Z00],?_⟩;simp[Z1b];refine Z0x.pure H.P4N (Z01 (.sl _ _ (by simp)) Z0a) (.tup _ (by simp)) ?_;simp;refine Z0x.pure H.P4E (Z01 (.sl _ _ (by simp)) Z0a) (.sl _ _ (by simp)) ?_;simp;exact .loose true [] (.sl _ _ (by simp))
 ·have hne:0 < l.length:=List.length_pos_iff.mpr h0
  have hls:=List.length_mergeSort l (le:=fun x y=>decide (x≤y))
  have hne2:(l.mergeSort fun x y=>decide (x≤y))≠[]:=by
   intro e;rw[e] at hm;simp at hm;omega
  simp[Z9m,Z03];refine H.clone rfl ?_;have hb:Z0O 1 0 (.v (.int .i64 0)) []=some (.sl true []):=Z3O _ _
  have hr:∀n nid,(Z57 1 8 (.sl true []) (.sl false (l.map Z06))).run ⟨n,fun _=>none⟩ nid=some (.own nid 0 l.length,(⟨n,fun _=>none⟩:St).set nid (some (.arr 1 (l.map Z06)))):=by
   intro n nid;have hc:=ZbQ l;have ha:Z1K 8 0 l.length:=by unfold Z1K;omega
   have hc2:∀x∈l.map Z06,x.cells.length=1:=hc;have h3:Z9f 1 [] (.sl false (l.map Z06))=some (l.map Z06):=by simp only[Z9f];rw[if_pos hc2]
   have h4:¬(l.map Z06).length=0:=by simp;exact h0
   simp only[Z57,Eff.run,AV.oid,List.mapM_nil,Option.pure_def,h3,Option.bind_some,List.length_nil,Nat.zero_add,List.length_map,ha,and_true];rw[if_pos (by simp),if_neg (by simpa using h0)];simp[St.P1B,St.P1P]
  simp[Z32,hb,hr];refine⟨[.own 9 0 l.length],by simp[evC,RV.ev,Z00],?_⟩;simp[Z1b];refine H.sort _ _ 0 (l.map Z06) l _ (by simp[Z0A]) (by simp) h0 hl ?_;simp;have e:l.length=(l.mergeSort fun x y=>decide (x≤y)).length:=hm.symm;rw[e];refine H.comp _ _ 0 ((l.mergeSort fun x y=>decide (x≤y)).map Z06) _ _ (by simp[Z0A]) (by simp) hne2 (by omega) ?_;simp;exact(Vec.mk' (es:=1) (xs:=(Z6l l).map Z06) (by simp[Z0A,Z6l]) (by simp[Z6l])).fz Z04
theorem Zg4{P:Program}{fs fe:FuncId}(l:List Int)(a b:Int)(hl:l.length≤17592186043904)(h1:Z0t P fs [Z03 l] (Z03 (Z6l l)))(h2:∀x y,Len x→Len y→Z0t P fe [Z03 x,Z03 y] (Z1n (x == y))) :
  AW P (Z7e fs fe) (Z75 [6] (FzK (Z1n (Z4J l a b)))) (Z53 [Z03 l,Z06 a,Z06 b]) S0:=by
 by_cases h0:l=[]
 ·subst h0
  simp[Z7e,Z03];exact Z2p _ _
 ·have hne:0 < l.length:=List.length_pos_iff.mpr h0
  have hn:((l.length:Int) == 0)=false:=by simp;exact h0
  have hf:l[0]? = some l[0]:=List.getElem?_eq_getElem hne;have hx:l[l.length - 1]? = some l[l.length - 1]:=List.getElem?_eq_getElem (by omega);have hw:=Z0m ((l.length:Int) - 1) (by omega);have hnn:(1:Int)≤(l.length:Int):=by omega
  by_cases hA:a≤l[0]
  ·by_cases hB:l[l.length - 1] < b
   ·have c1:=Z01 (Z02 l) Z0a
    have c2:=Z01 (Z02 l) (Z01 (Z02 (Z6l l)) Z0a);have k2:=h2 l (Z6l l) (by unfold Len;omega) (by unfold Len;have:=ZcY l;omega);have c3:=Z02 (Z6l l);simp only[Z03] at c1 c2 c3 h1 k2;simp[Z7e,Z03,hn,hf,hA,hw,hnn,hx,hB];refine Z0x.pure h1 c1 c3 ?_;simp;refine Z0x.pure k2 c2 (Z0L _) ?_;simp
    have e:(l == Z6l l)=Z4J l a b:=by
     rw[Bool.eq_iff_iff,Z5d,beq_iff_eq];constructor
     ·intro h
      have hp:=ZhY.mp h.symm;refine⟨hp,fun x hx=>?_⟩;obtain⟨k,hk,rfl⟩:=List.mem_iff_getElem.mp hx;have hpw:=List.pairwise_iff_getElem.mp hp;constructor
      ·by_cases e:k=0
       ·subst e;exact hA
       ·have:=hpw 0 k hne hk (by omega);omega
      ·by_cases e:k=l.length - 1
       ·subst e;exact hB
       ·have:=hpw k (l.length - 1) hk (by omega) (by omega);omega
     ·intro h;exact(ZhY.mpr h.1).symm
    rw[e];exact Z2p _ _
   ·have e:Z4J l a b=false:=by
     cases hr:Z4J l a b with
     | false=>rfl
     | true=>exact(hB ((Z5d.mp hr).2 _ (List.getElem_mem (by omega))).2).elim
    simp[Z7e,Z03,hn,hf,hA,hw,hnn,hx,hB,e];exact Z2p _ _
  ·have e:Z4J l a b=false:=by
    cases hr:Z4J l a b with
    | false=>rfl
    | true=>exact(hA ((Z5d.mp hr).2 _ (List.getElem_mem hne)).1).elim
   simp[Z7e,Z03,hn,hf,hA,e];exact Z2p _ _
def riI(l:List Int)(a b:Int)(i:Nat)(f:AF)(S:St):Prop:=f 7=Z06 i∧f 0=Z03 l∧f 1=Z06 a∧f 2=Z06 b∧(∀k (h:k < l.length),k < i→a≤l[k]∧l[k] < b)∧∀k (h:k+1 < l.length),k+1 < i→l[k] < l[k+1]
theorem ZlV{l:List Int}{a b:Int}(h1:∀k (h:k < l.length),a≤l[k]∧l[k] < b)(h2:∀k (h:k+1 < l.length),l[k] < l[k+1]):Zap l a b:=by
 refine⟨?_,fun x hx=>?_⟩
 ·rw[List.pairwise_iff_getElem]
  intro i j hi hj hij
  have key:∀d i (h:i+d+1 < l.length),l[i] < l[i+d+1]:=by
   intro d;induction d with
   | zero=>intro i h;exact h2 i h
   | succ d ih=>intro i h;have:=ih i (by omega);have:=h2 (i+d+1) (by omega);simp only[show i+(d+1)+1=i+d+1+1 by omega];omega
  have:=key (j - i - 1) i (by omega);simp only[show i+(j - i - 1)+1=j by omega] at this;exact this
 ·obtain⟨k,hk,rfl⟩:=List.mem_iff_getElem.mp hx
  exact h1 k hk
theorem Zgl{P:Program}(l:List Int)(a b:Int)(hl:Len l):AW P Z5g (Z75 [6] (FzK (Z1n (Z4J l a b)))) (Z53 [Z03 l,Z06 a,Z06 b]) S0:=by
 unfold Len at hl;simp[Z5g,Z03];refine Z7F l.length (riI l a b) ?_ ?_
 ·refine⟨?_,?_,?_,?_,by omega,by omega⟩<;>simp[Z00,Z0f,Z0g,Z06,Z03]
 ·rintro i f S hi ⟨e7,e0,e1,e2,q1,q2⟩
  have no:∀x:Prop,(¬x)→(Zap l a b→x)→Z4J l a b=false:=by
   intro x hx h;cases hr:Z4J l a b with
   | false=>rfl
   | true=>exact(hx (h (Z5d.mp hr))).elim
  by_cases hlt:i < l.length
  ·by_cases hA:l[i] < a
   ·have e:=no (a≤l[i]) (by omega) (fun h=>(h.2 _ (List.getElem_mem hlt)).1)
    simp[e7,e0,e1,e2,hlt,Z03,hA,e];exact Z2p _ _
   ·by_cases hB:b≤l[i]
    ·have e:=no (l[i] < b) (by omega) (fun h=>(h.2 _ (List.getElem_mem hlt)).2)
     simp[e7,e0,e1,e2,hlt,Z03,hA,hB,e];exact Z2p _ _
    ·by_cases hi0:i=0
     ·subst hi0
      simp[e7,e0,e1,e2,hlt,Z03,hA,hB];rw[Z0m _ (by omega)];refine⟨hlt,?_,?_,?_,?_,fun k h hk=>?_,fun k h hk=>by omega⟩
      ·simp[Z00,Z06]
      ·simp[Z00,e0,Z03]
      ·simp[Z00,e1]
      ·simp[Z00,e2]
      ·have:k=0:=by omega
       subst this;omega
     ·have hp:(0:Int) < i:=by omega
      have hp2:0 < i:=by omega
      have hw:=Z0m ((i:Int) - 1) (by omega);have hnn:(1:Int)≤(i:Int):=by omega
      have hx:l[i - 1]? = some l[i - 1]:=List.getElem?_eq_getElem (by omega);by_cases hC:l[i]≤l[i - 1]
      ·have e:=no (l[i - 1] < l[i]) (by omega) (fun h=>List.pairwise_iff_getElem.mp h.1 (i - 1) i (by omega) hlt (by omega))
       simp[e7,e0,e1,e2,hlt,Z03,hA,hB,hp,hp2,hw,hnn,hx,hC,e];exact Z2p _ _
      ·simp[e7,e0,e1,e2,hlt,Z03,hA,hB,hp,hp2,hw,hnn,hx,hC]
       rw[Z0m _ (by omega)];refine⟨hlt,?_,?_,?_,?_,fun k h hk=>?_,fun k h hk=>?_⟩
       ·simp[Z00,Z06]
       ·simp[Z00,e0,Z03]
       ·simp[Z00,e1]
       ·simp[Z00,e2]
       ·by_cases hki:k=i
        ·subst hki;omega
        ·exact q1 k h (by omega)
       ·by_cases hki:k+1=i
        ·subst hki;simp only[Nat.add_sub_cancel] at hC;omega
        ·exact q2 k h (by omega)
  ·have e:Z4J l a b=true:=Z5d.mpr (ZlV (fun k h=>q1 k h (by omega)) (fun k h=>q2 k h (by omega)))
   simp[e7,e0,e1,e2,hlt,Z03,e];exact Z2p _ _
end Go.Rf
namespace Go.Rf
open Go.RowKit
def E0(w:World):Env:=⟨fun _=>none,fun b=>match w.heap[b]? with | some (.cells cs _ _)=>some cs | _=>none⟩
theorem Zx7(w:World):HOk (E0 w).H w:=by
 intro b cs e;simp only[E0] at e;split at e
 ·rename_i c el fz h;cases e;exact⟨el,fz,h⟩
 ·cases e
theorem ZvF(w:World):E0 w=⟨noρ,(E0 w).H⟩:=rfl
def ZdN{H:Type}(P:Program)(t:TypeId)(d:DataW H):Prop:=∀n∈d.weights P t,n≤reachBytes
theorem Zn5{w:World}{a:Addr}{v:Value}(h:w.cell? a=some v):a.spot=none∧∃cs,(E0 w).H a.block=some cs∧cs[a.off]? = some v:=by
 unfold World.cell? at h;split at h
 ·rename_i c el fz hb
  split at h
  ·cases h
  ·rename_i hs
   refine⟨by simpa using hs,c,by simp[E0,hb],h⟩
 ·cases h
structure Z7p(P:Program)(fuel:Nat)(t:TypeId){X:Type}(enc:X→AV)(good:X→Prop):Prop where
 size:∀x,good x→(enc x).cells.length=P.cellsOf t
 atom:∀x,good x→∀y∈(enc x).cells,y.atom=true
 run:∀{H:Type} (eh:TypeId×Value→H) (w:World) (cs:List Value) (r:DataW H×List MemPlace),DataW.trod eh P w 0 (fun _=>true) true fuel t cs=some r→ZdN P t r.1 →
  ∃x,good x∧cs.length=P.cellsOf t∧∀k (h:k < (enc x).cells.length),∃v,cs[k]? = some v∧Rep (E0 w) ((enc x).cells[k]) v
theorem Z7p.map{P:Program}{fuel:Nat}{t:TypeId}{X Y:Type}{enc:X→AV}{good:X→Prop}(h:Z7p P fuel t enc good)(enc':Y→AV)(good':Y→Prop)(f:X→Y)(g:Y→X)
  (he:∀x,enc' (f x)=enc x) (hg:∀x,good x→good' (f x)) (hi:∀y,good' y→good (g y)∧enc' y=enc (g y)):Z7p P fuel t enc' good':=by
 refine⟨fun y hy=>?_,fun y hy=>?_,fun eh w cs r hr hw=>?_⟩
 ·obtain⟨h1,h2⟩:=hi y hy;rw[h2];exact h.size _ h1
 ·obtain⟨h1,h2⟩:=hi y hy;rw[h2];exact h.atom _ h1
 ·obtain⟨x,h1,h2,h3⟩:=h.run eh w cs r hr hw
  exact⟨f x,hg x h1,h2,by rw[he];exact h3⟩
theorem Z7p.zero{P:Program}{t:TypeId}{X:Type}{enc:X→AV}{good:X→Prop}(h1:∀x,good x→(enc x).cells.length=P.cellsOf t)(h2:∀x,good x→∀y∈(enc x).cells,y.atom=true):Z7p P 0 t enc good :=
 ⟨h1,h2,fun eh w cs r hr _=>by simp[DataW.trod] at hr⟩
theorem Z7p.int{P:Program}{t:TypeId}{k:IntKind}(ht:P.underlying t=some (.int k))(hc:P.cellsOf t=1)(fuel:Nat) :
  Z7p P fuel t (fun n:Int=>AV.v (.int k n)) (fun n=>k.min≤n∧n≤k.max):=by
 refine⟨fun x _=>by simp[AV.cells,hc],fun x _ y hy=>by simp[AV.cells] at hy;subst hy;rfl,fun eh w cs r hr hw=>?_⟩;cases fuel with
 | zero=>simp[DataW.trod] at hr
 | succ n =>
  unfold DataW.trod at hr;rw[ht] at hr;split at hr<;>simp_all;obtain⟨⟨rfl,h2⟩,_⟩:=hr;refine⟨_,by simpa[Lit.wf] using h2,fun j hj=>?_⟩;simp[AV.cells] at hj;subst hj;exact⟨_,rfl,.v _ rfl⟩
theorem Z7p.bool{P:Program}{t:TypeId}(ht:P.underlying t=some .bool)(hc:P.cellsOf t=1)(fuel:Nat) :
  Z7p P fuel t (fun b:Bool=>AV.v (.bool b)) (fun _=>True):=by
 refine⟨fun x _=>by simp[AV.cells,hc],fun x _ y hy=>by simp[AV.cells] at hy;subst hy;rfl,fun eh w cs r hr hw=>?_⟩;cases fuel with
 | zero=>simp[DataW.trod] at hr
 | succ n =>
  unfold DataW.trod at hr;rw[ht] at hr;split at hr
  ·rename_i b _
   refine⟨b,trivial,by simp[hc],fun j hj=>?_⟩;simp[AV.cells] at hj;subst hj;exact⟨_,rfl,.v _ rfl⟩
  all_goals simp_all
theorem Z7p.str{P:Program}{t:TypeId}(ht:P.underlying t=some .string)(hc:P.cellsOf t=1)(fuel:Nat) :
  Z7p P fuel t (fun s:ByteArray=>AV.v (.string s)) (fun s=>s.size≤maxLen):=by
 refine⟨fun x _=>by simp[AV.cells,hc],fun x _ y hy=>by simp[AV.cells] at hy;subst hy;rfl,fun eh w cs r hr hw=>?_⟩;cases fuel with
 | zero=>simp[DataW.trod] at hr
 | succ n =>
  unfold DataW.trod at hr;rw[ht] at hr;split at hr<;>simp_all;refine⟨_,hr.1,fun j hj=>?_⟩;simp[AV.cells] at hj;subst hj;exact⟨_,rfl,.v _ rfl⟩
theorem Z8U{X:Type}{Q:Nat→X→Prop}:∀(n:Nat),(∀i,i < n→∃x,Q i x)→∃l:List X,l.length=n∧∀i (h:i < l.length),Q i l[i]
 | 0,_=>⟨[],rfl,by simp⟩
 | n+1,h=>by
  obtain⟨l,h1,h2⟩:=Z8U n (fun i hi=>h i (by omega));obtain⟨x,hx⟩:=h n (by omega);refine⟨l++[x],by simp[h1],fun i hi=>?_⟩;by_cases hil:i < l.length
  ·rw[List.getElem_append_left hil];exact h2 i hil
  ·have:i=l.length:=by simp at hi;omega
   subst this;simp[h1] at *;exact hx
theorem Zn8{w:World}{a:Addr}{n:Nat}{cs:List Value}(h:w.cells? 0 a n=some cs):cs.length=n∧∀i (hi:i < n),w.cell? (a.add i)=cs[i]?:=by
 simp only[World.cells?,Nat.zero_le,if_true] at h;refine⟨by simpa using mapM_some_length h,fun i hi=>mapM_some_get h i i (by simp[hi])⟩
theorem ZrP(a:Addr)(m n:Nat)(h:m≠0∨n≠0∨a.spot=none):((a.add m).add n).block=a.block∧((a.add m).add n).off=a.off+(m+n)∧((a.spot=none→((a.add m).add n).spot=none)):=by
 unfold Addr.add;split<;>split<;>simp_all<;>omega
theorem Z7p.sliceB{P:Program}{t e:TypeId}{fuel:Nat}{X:Type}{enc:X→AV}{good:X→Prop}(ht:P.underlying t=some (.slice e))(hc:P.cellsOf t=1)(he:0 < P.cellsOf e)(hby:0 < P.bytesOf e)(h:Z7p P fuel e enc good) :
  Z7p P (fuel+1) t (fun l:List X=>.sl false (l.map enc)) (fun l=>l.length*P.bytesOf e≤140737488351232∧∀x∈l,good x):=by
 refine⟨fun x _=>by simp[AV.cells,hc],fun x _ y hy=>by simp[AV.cells] at hy;subst hy;rfl,fun eh w cs r hr hw=>?_⟩;rcases DataW.trod_slice ht hr with⟨rfl,_⟩ | ⟨a,len,cap,elems,rest,n,hfu,rfl,hrx,hb,hl,hm,hlen,hel,hsp,hns⟩
 ·refine⟨[],⟨by simp,by simp⟩,by simp[hc],fun k hk=>?_⟩
  simp[AV.cells] at hk;subst hk;exact⟨_,rfl,.sl0 false none 0 (by simp)⟩
 ·have hnf:n=fuel:=by omega
  subst hnf
  have hw1:(elems.length+rest.length)*P.bytesOf e≤reachBytes∧∀i (hi:i < elems.length),ZdN P e (elems[i]).1:=by
   rw[hrx] at hw;simp only[ZdN,DataW.weights,ht,List.length_map] at hw;refine⟨hw _ (by simp),fun i hi n hn=>hw n ?_⟩;simp only[List.mem_cons,List.mem_append];right;left
   have key:∀(l:List (DataW _×List MemPlace)),elems[i]∈l→n∈DataW.weightsAll P e (l.map (·.1)):=by
    intro l hl;induction l with
    | nil=>simp at hl
    | cons d l ih =>
     simp only[List.map_cons,DataW.weightsAll,List.mem_append];rcases List.mem_cons.mp hl with rfl | hl
     ·exact .inl hn
     ·exact .inr (ih hl)
   exact key elems (List.getElem_mem hi)
  have hlen3:len≤140737488351232:=by
   have h1:=hw1.1;have h2:(elems.length+rest.length)*1≤(elems.length+rest.length)*P.bytesOf e:=Nat.mul_le_mul_left _ hby;have h3:reachBytes=140737488351232:=rfl;omega
  obtain⟨l,hll,hq⟩:=Z8U (X:=X) (Q:=fun i x=>good x∧∃cs,w.cells? 0 (a.add (i*P.cellsOf e)) (P.cellsOf e)=some cs∧∀k (h:k < (enc x).cells.length),∃v,cs[k]? = some v∧Rep (E0 w) ((enc x).cells[k]) v) len (by
   intro i hi;have h1:=hel i hi;rw[List.getElem?_eq_getElem (by omega)] at h1;simp only[Option.bind_eq_some_iff] at h1;obtain⟨cs,h2,h3⟩:=h1;obtain⟨x,g1,g2,g3⟩:=h.run eh w cs _ h3 (hw1.2 i (by omega));exact⟨x,g1,cs,h2,g3⟩)
  have hlb:l.length*P.bytesOf e≤140737488351232:=by
   have h1:=hw1.1;have h2:l.length*P.bytesOf e≤(elems.length+rest.length)*P.bytesOf e:=Nat.mul_le_mul_right _ (by omega);have h3:reachBytes=140737488351232:=rfl;omega
  refine⟨l,⟨hlb,fun x hx=>?_⟩,by simp[hc],fun k hk=>?_⟩
  ·obtain⟨i,hi,rfl⟩:=List.mem_iff_getElem.mp hx
   exact(hq i hi).1
  ·simp[AV.cells] at hk
   subst hk;refine⟨_,rfl,?_⟩;simp only[AV.cells,List.getElem_cons_zero];by_cases hl0:l=[]
   ·subst hl0
    simp at hll;subst hll;exact .sl0 false _ _ (by simp)
   ·have hpos:0 < l.length:=List.length_pos_iff.mpr hl0
    have hsz:∀y∈l.map enc,y.cells.length=P.cellsOf e:=by
     intro y hy;obtain⟨x,hx,rfl⟩:=List.mem_map.mp hy;obtain⟨i,hi,rfl⟩:=List.mem_iff_getElem.mp hx;exact h.size _ (hq i hi).1
    have hcell:∀i (hi:i < l.length) j (hj:j < (enc l[i]).cells.length),∃v,w.cell? ((a.add (i*P.cellsOf e)).add j)=some v∧Rep (E0 w) ((enc l[i]).cells[j]) v:=by
     intro i hi j hj;obtain⟨g1,cs,g2,g3⟩:=hq i hi;obtain⟨v,g4,g5⟩:=g3 j hj;obtain⟨q1,q2⟩:=Zn8 g2;exact⟨v,by rw[q2 j (by rw[←h.size _ g1];exact hj)];exact g4,g5⟩
    have h0:=hcell 0 hpos 0 (by rw[h.size _ (hq 0 hpos).1];exact he);obtain⟨v0,c0,_⟩:=h0;have ha0:((a.add (0*P.cellsOf e)).add 0)=a:=by simp[Addr.add]
    rw[ha0] at c0;obtain⟨s0,cs0,hH,_⟩:=Zn5 c0;have haddr:a=⟨a.block,a.off,none⟩:=by cases a;simp_all
    have hflat:∀k (hk:k < (flat (l.map enc)).length),∃v,cs0[a.off+k]? = some v∧Rep (E0 w) ((flat (l.map enc))[k]) v:=by
     intro k hk;have hlen2:=Z2i hsz;rw[List.length_map] at hlen2;have hk2:k < l.length*P.cellsOf e:=by omega
     have hi:k / P.cellsOf e < l.length:=Nat.div_lt_of_lt_mul (by rw[Nat.mul_comm];exact hk2);have hj:k % P.cellsOf e < P.cellsOf e:=Nat.mod_lt _ he;have hkk:k / P.cellsOf e*P.cellsOf e+k % P.cellsOf e=k:=by rw[Nat.mul_comm];exact Nat.div_add_mod k _
     have hj2:k % P.cellsOf e < ((l.map enc)[k / P.cellsOf e]'(by simpa using hi)).cells.length:=by rw[hsz _ (List.getElem_mem _)];exact hj
     obtain⟨hk',e1⟩:=ZaF hsz (k / P.cellsOf e) (by simpa using hi) (k % P.cellsOf e) hj2;obtain⟨v,g1,g2⟩:=hcell (k / P.cellsOf e) hi (k % P.cellsOf e) (by simpa using hj2);obtain⟨q1,cs1,q2,q3⟩:=Zn5 g1;obtain⟨b1,b2,b3⟩:=ZrP a (k / P.cellsOf e*P.cellsOf e) (k % P.cellsOf e) (.inr (.inr s0));rw[b1,hH] at q2;cases q2;rw[b2,hkk] at q3;refine⟨v,q3,?_⟩;have:(flat (l.map enc))[k]=(flat (l.map enc))[k / P.cellsOf e*P.cellsOf e+k % P.cellsOf e]:=by simp only[hkk]
     rw[this,e1];simpa using g2
    rw[haddr]
    have hat:∀y∈flat (l.map enc),y.atom=true:=by
     intro y hy;obtain⟨x,hx,hyx⟩:=List.mem_flatMap.mp hy;obtain⟨z,hz,rfl⟩:=List.mem_map.mp hx;obtain⟨i,hi,rfl⟩:=List.mem_iff_getElem.mp hz;exact h.atom _ (hq i hi).1 y hyx
    have hlm:(l.map enc).length=len:=by rw[List.length_map,hll]
    rw[←hlm];refine .sl false (l.map enc) a.block a.off cap cs0 (P.cellsOf e) (fun k=>(cs0[a.off+k]?).getD undef) (by simpa using hpos) hH hsz (by omega) (by simp) hat (fun k hk=>?_) (fun k hk=>?_)
    ·obtain⟨v,g1,g2⟩:=hflat k hk
     rw[g1];rfl
    ·obtain⟨v,g1,g2⟩:=hflat k hk
     rw[g1];exact g2
theorem Z7p.slice{P:Program}{t e:TypeId}{fuel:Nat}{X:Type}{enc:X→AV}{good:X→Prop}(ht:P.underlying t=some (.slice e))(hc:P.cellsOf t=1)(he:0 < P.cellsOf e)(hby:0 < P.bytesOf e)(h:Z7p P fuel e enc good) :
  Z7p P (fuel+1) t (fun l:List X=>.sl false (l.map enc)) (fun l=>l.length≤140737488351232∧∀x∈l,good x):=by
 refine⟨fun x _=>by simp[AV.cells,hc],fun x _ y hy=>by simp[AV.cells] at hy;subst hy;rfl,fun eh w cs r hr hw=>?_⟩;obtain⟨x,hx,g⟩:=(Z7p.sliceB ht hc he hby h).run eh w cs r hr hw;refine⟨x,⟨?_,hx.2⟩,g⟩;have h1:=hx.1;have h2:x.length*1≤x.length*P.bytesOf e:=Nat.mul_le_mul_left _ hby;omega
structure Zm5(P:Program)(fuel:Nat)(o:Nat)(fs:List Field){X:Type}(enc:X→List AV)(good:X→Prop):Prop where
 size:∀x,good x→(enc x).length=(fs.map fun f=>P.cellsOf f.type).sum
 atom:∀x,good x→∀y∈enc x,y.atom=true
 run:∀{H:Type} (eh:TypeId×Value→H) (w:World) (cs:List Value) (r:List (DataW H×List MemPlace)),
  (fs.mapM fun f=>DataW.trod eh P w 0 (fun _=>true) true fuel f.type ((cs.drop f.offset).take (P.cellsOf f.type)))=some r→(∀n∈DataW.weightsEach P (fs.map (·.type)) (r.map (·.1)),n≤reachBytes) →
  ∃x,good x∧∀k (h:k < (enc x).length),∃v,cs[o+k]? = some v∧Rep (E0 w) ((enc x)[k]) v
theorem Zm5.nil{P:Program}{fuel o:Nat}:Zm5 P fuel o [] (fun _:Unit=>[]) (fun _=>True) :=
 ⟨by simp,by simp,fun eh w cs r _ _=>⟨(),trivial,by simp⟩⟩
theorem Zm5.cons{P:Program}{fuel o:Nat}{f:Field}{fs:List Field}{X Y:Type}{e1:X→AV}{g1:X→Prop}{e2:Y→List AV}{g2:Y→Prop}(ho:f.offset=o)(h:Z7p P fuel f.type e1 g1)
  (k:Zm5 P fuel (o+P.cellsOf f.type) fs e2 g2):Zm5 P fuel o (f::fs) (fun p:X×Y=>(e1 p.1).cells++e2 p.2) (fun p=>g1 p.1∧g2 p.2):=by
 refine⟨fun x hx=>?_,fun x hx y hy=>?_,fun eh w cs r hr hw=>?_⟩
 ·simp[h.size _ hx.1,k.size _ hx.2]
 ·rcases List.mem_append.mp hy with hy | hy
  ·exact h.atom _ hx.1 y hy
  ·exact k.atom _ hx.2 y hy
 ·simp only[List.mapM_cons,Option.bind_eq_bind,Option.bind_eq_some_iff,Option.pure_def,Option.some.injEq] at hr
  obtain⟨r1,h1,r2,h2,rfl⟩:=hr;simp only[List.map_cons,DataW.weightsEach,List.mem_append] at hw;obtain⟨x,a1,a2,a3⟩:=h.run eh w _ _ h1 (fun n hn=>hw n (.inl hn));obtain⟨y,b1,b2⟩:=k.run eh w cs _ h2 (fun n hn=>hw n (.inr hn));refine⟨(x,y),⟨a1,b1⟩,fun j hj=>?_⟩;have hs:=h.size _ a1;by_cases hjl:j < (e1 x).cells.length
  ·obtain⟨v,c1,c2⟩:=a3 j hjl
   refine⟨v,?_,by simp only[List.getElem_append_left hjl];exact c2⟩;rw[List.getElem?_take,if_pos (by omega),List.getElem?_drop,ho] at c1;exact c1
  ·have hj3:j < (e1 x).cells.length+(e2 y).length:=by simpa using hj
   obtain⟨v,c1,c2⟩:=b2 (j - (e1 x).cells.length) (by omega);refine⟨v,?_,by rw[List.getElem_append_right (by show(e1 x).cells.length≤j;omega)];exact c2⟩;rw[←c1];congr 1;omega
theorem Z7p.struct{P:Program}{fuel:Nat}{t:TypeId}{fs:Array Field}{X:Type}{enc:X→List AV}{good:X→Prop}(ht:P.underlying t=some (.struct fs))(hs:P.cellsOf t=(fs.toList.map fun f=>P.cellsOf f.type).sum)
  (h:Zm5 P fuel 0 fs.toList enc good):Z7p P (fuel+1) t (fun x=>.agg (enc x)) good:=by
 refine⟨fun x hx=>by simp[AV.cells,hs,h.size x hx],fun x hx y hy=>h.atom x hx y hy,fun eh w cs r hr hw=>?_⟩;unfold DataW.trod at hr;rw[ht] at hr;split at hr<;>simp_all;obtain⟨h1,a,h2,h3⟩:=hr
 obtain⟨x,g1,g2⟩:=h.run eh w _ _ h2 (by
  rw[←h3] at hw;simp only[ZdN,DataW.weights,ht] at hw;exact hw)
 refine⟨x,g1,fun k hk=>?_⟩;obtain⟨v,a1,a2⟩:=g2 k hk;exact⟨v,by simpa using a1,a2⟩
theorem ZlM{P:Program}{w:World}{r:Reach}{base:Nat}{t:TypeId}{v:Value}(h:Value.okWide P w r base t v):(∃cs,v=.agg cs)∨v.cells=#[v]:=by
 unfold Value.okWide at h;split at h
 ·obtain⟨cs,rfl,_⟩:=h;exact .inl ⟨cs,rfl⟩
 ·obtain⟨cs,rfl,_⟩:=h;exact .inl ⟨cs,rfl⟩
 ·right
  unfold Cell.okWide at h;cases v<;>simp[Value.cells]
  ·exfalso;revert h;split<;>simp_all [Cell.ok]
theorem Z7p.val{P:Program}{t:TypeId}{X:Type}{enc:X→AV}{good:X→Prop}(h:∀n,Z7p P n t enc good){w:World}{r:Reach}{base:Nat}{v:Value}(hv:Value.okWide P w r base t v)
  (hk:(∃f:X→List AV,(∀x,enc x=.agg (f x))∧∃fs,P.underlying t=some (.struct fs)∨∃n e,P.underlying t=some (.array n e))∨((∀x,(enc x).atom=true)∧(∀fs,P.underlying t≠some (.struct fs))∧∀n e,P.underlying t≠some (.array n e)))
  {H:Type} {eh:TypeId×Value→H} {d:DataW H} {p:List MemPlace} (ht:DataW.Trod eh P w 0 (fun _=>true) true t v d p) (hw:ZdN P t d):∃x,good x∧Rep (E0 w) (enc x) v:=by
 obtain⟨fuel,hf⟩:=ht;obtain⟨x,h1,h2,h3⟩:=(h fuel).run eh w _ _ hf hw;refine⟨x,h1,?_⟩;rcases hk with⟨f,hf1,fs,hu⟩ | ⟨ha,hu1,hu2⟩
 ·have:∃cs,v=.agg cs:=by
   unfold Value.okWide at hv;rcases hu with hu | ⟨n,e,hu⟩<;>(rw[hu] at hv;obtain⟨cs,rfl,_⟩:=hv;exact⟨cs,rfl⟩)
  obtain⟨cs,rfl⟩:=this;have hs:=(h fuel).size x h1;have hat:=(h fuel).atom x h1;rw[hf1 x] at hs hat h3 ⊢;simp only[AV.cells,Value.cells] at hs hat h3 h2;refine .agg _ _ (by simpa[hs] using h2) hat (fun j hj=>?_);obtain⟨v,g1,g2⟩:=h3 j hj
  have:cs.getD j undef=v:=by
   simp only[Array.getElem?_toList] at g1;simp[Array.getD_eq_getD_getElem?,g1]
  rw[this];exact g2
 ·have hc:v.cells=#[v]:=by
   rcases ZlM hv with⟨cs,rfl⟩ | h4
   ·exfalso
    unfold Value.okWide at hv;split at hv
    ·rename_i fs hfs;exact hu1 _ hfs
    ·rename_i n e hfs;exact hu2 _ _ hfs
    ·unfold Cell.okWide at hv;revert hv;split<;>simp_all [Cell.ok]
   ·exact h4
  have hx:=ha x;rw[AV.P1T hx] at h3;rw[hc] at h3;obtain⟨v',g1,g2⟩:=h3 0 (by simp);simp at g1;subst g1;exact g2
theorem Z0t.calls{P:Program}{f:FuncId}{args:List AV}{x:Value}(h:Z0t P f args (.v x))(W:World)(hG:Gam P (E0 W).H){vals:Array Value}(hv:Z98 (E0 W) args vals) :
  Calls P f vals W fun e W'=>e=.returned x∧Below W.heap.size W W' :=
 (h.2 _ W vals hG (Zx7 W) (by rw[ZvF] at hv;exact hv)).mono fun e w' ⟨v,H',he,_,_,_,hr,hb⟩=>by
  cases hr;exact⟨he,hb⟩
theorem Zp2{H:Type}{eh:TypeId×Value→H}{P:Program}{w:World}{base:Nat}{spare:Nat→Bool}{held:Bool}:DataW.TrodAll eh P w base spare held [] [] [] []:=rfl
theorem Zei{H:Type}{eh:TypeId×Value→H}{P:Program}{w:World}{base:Nat}{spare:Nat→Bool}{held:Bool}{t:TypeId}{ts:List TypeId}{v:Value}{vs:List Value}{d:DataW H}{ds:List (DataW H)}{p q:List MemPlace}
  (h:DataW.Trod eh P w base spare held t v d p) (k:DataW.TrodAll eh P w base spare held ts vs ds q):DataW.TrodAll eh P w base spare held (t::ts) (v::vs) (d::ds) (p++q):=⟨p,q,h,k,rfl⟩
theorem Zg0{H:Type}{P:Program}{t:TypeId}{ts:List TypeId}{d:DataW H}{ds:List (DataW H)}(h:(DataW.weightsEach P ts ds).all (·≤reachBytes)=true){j:Nat}(ht:ts[j]? = some t)(hd:ds[j]? = some d):ZdN P t d:=by
 intro n hn;have:=List.all_eq_true.1 h _ (DataW.weights_mem_each ht hd n hn);simpa using this
theorem Zgj{E:Env}{x:AV}{v:Value}(h:Rep E x v):Z98 E [x] #[v]:=⟨rfl,fun j hj=>by
 have:j=0:=by simpa using hj
 subst this;simpa using h⟩
theorem Zqq{E:Env}{x y:AV}{v u:Value}(h:Rep E x v)(k:Rep E y u):Z98 E [x,y] #[v,u]:=(Zgj h).append (Zgj k)
theorem ZlU{E:Env}{x y z:AV}{v u t:Value}(h:Rep E x v)(k:Rep E y u)(l:Rep E z t):Z98 E [x,y,z] #[v,u,t]:=(Zqq h k).append (Zgj l)
theorem Zuo{P:Program}{W:World}(h:Lib.TabIs P W "internal/strconv.uint64pow10" .u64 Lib.pow10Tab):Gam P (E0 W).H:=by
 intro t ht g hg;simp only[Zsw,List.mem_singleton] at ht;subst ht;simp only at hg ⊢;unfold Lib.TabIs World.var? at h;rw[hg] at h;simp only[Option.bind_some] at h;simp only[E0];split at h
 ·rename_i cs el fz hw
  rw[hw];simp only;rw[h];rfl
 ·cases h
theorem Zst{P:Program}{H:Nat→Option (Array Value)}(hG:Gam P H){w:World}(hH:HOk H w){g:Nat}(hg:P.globalNamed "internal/strconv.uint64pow10" = some g):Lib.TabIs P w "internal/strconv.uint64pow10" .u64 Lib.pow10Tab:=by
 have h:=hG ("internal/strconv.uint64pow10",((List.range 20).map fun k=>Value.int .u64 ((10:Int) ^ k)).toArray) (by simp[Zsw]) g hg;obtain⟨el,fz,hw⟩:=hH g _ h;unfold Lib.TabIs World.var?;rw[hg];simp only[Option.bind_some,hw];rfl
theorem Zcj{P:Program}{w:World}{n:String}{d:DataW Unit}:∀{laid:List (String×DataW Unit)} {ps:List MemPlace},DataW.LaidVars P w laid ps→(n,d)∈laid →
  ∃g t cs fuel p,P.globalNamed n=some g∧(P.globals[g]?).map (·.type)=some t∧w.var? P n=some cs∧DataW.trod (fun _=>()) P w 0 (fun _=>true) false fuel t cs.toList=some (d,p)
 | [],ps,_,h=>by simp at h
 | (n',d')::r,ps,hl,h=>by
  obtain⟨g,t,cs,fuel,p,q,h1,h2,h3,h4,h5,_⟩:=hl;rcases List.mem_cons.mp h with e | h
  ·cases e;exact⟨g,t,cs,fuel,p,h1,h2,h3,h4⟩
  ·exact Zcj h5 h
theorem ZpW{P:Program}{W:World}{laid:List (String×DataW Unit)}(h:laidMetH P laid W)(hn:(laid.filter fun x=>x.2.handleName?.isSome)=[])(hm:("internal/strconv.uint64pow10",Lib.tabData .u64 Lib.pow10Tab)∈laid)
  {g:Nat} {t e:TypeId} {n:Nat} (hg:P.globalNamed "internal/strconv.uint64pow10" = some g) (hty:(P.globals[g]?).map (·.type)=some t) (ht:P.underlying t=some (.array n e)) (he:P.underlying e=some (.int .u64)) (hce:P.cellsOf e=1) (hct:P.cellsOf t=n):Gam P (E0 W).H:=by
 unfold laidMetH at h;rw[hn] at h;simp only at h;obtain⟨ps,h1,_⟩:=h;obtain⟨g',t',cs,fuel,p,hg',ht',hvar,hd⟩:=Zcj h1 hm;rw[hg] at hg';cases hg';rw[hty] at ht';cases ht';refine Zuo ?_;unfold Lib.TabIs;rw[hvar,←Lib.cells_of_tab ht he hce hct hd]
end Go.Rf
namespace Go.Proofs
open Go.Shelf Go.Rf Go.Sort
def Tryz.P42:Go.Shelf.Ren:=⟨fun | 125=>101 | 128=>129 | 129=>130 | 166=>133 | 167=>135 | 169=>136 | 171=>134 | 189=>66 | 215=>143 | 216=>126 | 240=>144 | 243=>145 | 246=>148 | 257=>100 | 276=>147 | 283=>149 | 284=>150 | 285=>151 | 286=>152 | 294=>120 | 295=>121 | 296=>122 | 297=>123 | 298=>124 | 299=>125 | 300=>127 | 301=>128 | 317=>153 | 318=>154 | 319=>155 | 320=>156 | 328=>138 | 329=>139 | 330=>140 | 331=>141 | 332=>142 | 337=>157 | 338=>158 | 343=>146 | n=>n,fun | 28=>23 | 29=>128 | 30=>148 | 34=>44 | 35=>103 | 36=>115 | 37=>165 | 45=>74 | 46=>140 | 47=>139 | 51=>160 | 52=>159 | 53=>162 | 54=>161 | 70=>164 | 71=>166 | 72=>167 | 74=>168 | 75=>169 | 76=>170 | 77=>171 | 78=>173 | 80=>174 | 81=>203 | 83=>172 | 84=>187 | 111=>108 | 112=>156 | 114=>192 | 127=>181 | 131=>86 | 134=>138 | 164=>185 | 165=>186 | 171=>188 | 172=>189 | 173=>190 | 174=>191 | 181=>152 | 182=>153 | 183=>154 | 184=>155 | 185=>147 | 186=>157 | 187=>158 | 211=>193 | 212=>194 | 213=>195 | 218=>175 | 219=>176 | 220=>177 | 221=>178 | 222=>179 | 223=>180 | 228=>182 | 229=>183 | 230=>184 | 232=>196 | 233=>197 | 238=>198 | 239=>199 | 240=>200 | 241=>201 | 242=>202 | 245=>206 | 248=>209 | n=>n,fun | 17=>0 | 18=>1 | 19=>2 | n=>n⟩
theorem Tryz.P5y:Go.Proofs.Lays.n166 Tryz.prog Tryz.P42:={
 mixed:=by kernel_rfl
 f166:=Tryz.func133.trans (congrArg some (by kernel_rfl))
 f240:=Tryz.func144.trans (congrArg some (by kernel_rfl))
 f276:=Tryz.func147.trans (congrArg some (by kernel_rfl))
 t0:=Tryz.underlying0
 a0:=Tryz.isAgg0
 z0:=Tryz.sizeOf0
 v0:=Tryz.zeroValue0
 t3:=Tryz.underlying3
 a3:=Tryz.isAgg3
 z3:=Tryz.sizeOf3
 v3:=Tryz.zeroValue3
 t4:=Tryz.underlying4
 a4:=Tryz.isAgg4
 z4:=Tryz.sizeOf4
 v4:=Tryz.zeroValue4
 t9:=Tryz.underlying9
 a9:=Tryz.isAgg9
 z9:=Tryz.sizeOf9
 v9:=Tryz.zeroValue9
 t20:=Tryz.underlying20
 a20:=Tryz.isAgg20
 z20:=Tryz.sizeOf20
 v20:=Tryz.zeroValue20
 t37:=Tryz.underlying165
 a37:=Tryz.isAgg165
 z37:=Tryz.sizeOf165
 v37:=Tryz.zeroValue165
 t70:=Tryz.underlying164
 a70:=Tryz.isAgg164
 z70:=Tryz.sizeOf164
 v70:=Tryz.zeroValue164
 t72:=Tryz.underlying167
 a72:=Tryz.isAgg167
 z72:=Tryz.sizeOf167
 v72:=Tryz.zeroValue167
 t75:=Tryz.underlying169
 a75:=Tryz.isAgg169
 z75:=Tryz.sizeOf169
 v75:=Tryz.zeroValue169
 t164:=Tryz.underlying185
 a164:=Tryz.isAgg185
 z164:=Tryz.sizeOf185
 v164:=Tryz.zeroValue185 }
theorem Tryz.P5z:Go.Proofs.Lays.n167 Tryz.prog Tryz.P42:={
 mixed:=by kernel_rfl
 f167:=Tryz.func135.trans (congrArg some (by kernel_rfl))
 f240:=Tryz.func144.trans (congrArg some (by kernel_rfl))
 f276:=Tryz.func147.trans (congrArg some (by kernel_rfl))
 t0:=Tryz.underlying0
 a0:=Tryz.isAgg0
 z0:=Tryz.sizeOf0
 v0:=Tryz.zeroValue0
 t4:=Tryz.underlying4
 a4:=Tryz.isAgg4
 z4:=Tryz.sizeOf4
 v4:=Tryz.zeroValue4
 t5:=Tryz.underlying5
 a5:=Tryz.isAgg5
 z5:=Tryz.sizeOf5
 v5:=Tryz.zeroValue5
 t9:=Tryz.underlying9
 a9:=Tryz.isAgg9
 z9:=Tryz.sizeOf9
 v9:=Tryz.zeroValue9
 t20:=Tryz.underlying20
 a20:=Tryz.isAgg20
 z20:=Tryz.sizeOf20
 v20:=Tryz.zeroValue20
 t37:=Tryz.underlying165
 a37:=Tryz.isAgg165
 z37:=Tryz.sizeOf165
 v37:=Tryz.zeroValue165
 t70:=Tryz.underlying164
 a70:=Tryz.isAgg164
 z70:=Tryz.sizeOf164
 v70:=Tryz.zeroValue164
 t72:=Tryz.underlying167
 a72:=Tryz.isAgg167
 z72:=Tryz.sizeOf167
 v72:=Tryz.zeroValue167
 t75:=Tryz.underlying169
 a75:=Tryz.isAgg169
 z75:=Tryz.sizeOf169
 v75:=Tryz.zeroValue169
 t164:=Tryz.underlying185
 a164:=Tryz.isAgg185
 z164:=Tryz.sizeOf185
 v164:=Tryz.zeroValue185 }
theorem Tryz.P5A:Go.Proofs.Lays.n169 Tryz.prog Tryz.P42:={
 mixed:=by kernel_rfl
 f169:=Tryz.func136.trans (congrArg some (by kernel_rfl))
 t0:=Tryz.underlying0
 a0:=Tryz.isAgg0
 z0:=Tryz.sizeOf0
 v0:=Tryz.zeroValue0
 t3:=Tryz.underlying3
 a3:=Tryz.isAgg3
 z3:=Tryz.sizeOf3
 v3:=Tryz.zeroValue3
 t9:=Tryz.underlying9
 a9:=Tryz.isAgg9
 z9:=Tryz.sizeOf9
 v9:=Tryz.zeroValue9
 t37:=Tryz.underlying165
 a37:=Tryz.isAgg165
 z37:=Tryz.sizeOf165
 v37:=Tryz.zeroValue165
 t70:=Tryz.underlying164
 a70:=Tryz.isAgg164
 z70:=Tryz.sizeOf164
 v70:=Tryz.zeroValue164
 t72:=Tryz.underlying167
 a72:=Tryz.isAgg167
 z72:=Tryz.sizeOf167
 v72:=Tryz.zeroValue167
 t127:=Tryz.underlying181
 a127:=Tryz.isAgg181
 z127:=Tryz.sizeOf181
 v127:=Tryz.zeroValue181 }
theorem Tryz.P5B:Go.Proofs.Lays.n171 Tryz.prog Tryz.P42:={
 mixed:=by kernel_rfl
 f129:=Tryz.func130.trans (congrArg some (by kernel_rfl))
 f171:=Tryz.func134.trans (congrArg some (by kernel_rfl))
 f243:=Tryz.func145.trans (congrArg some (by kernel_rfl))
 f246:=Tryz.func148.trans (congrArg some (by kernel_rfl))
 f283:=Tryz.func149.trans (congrArg some (by kernel_rfl))
 f284:=Tryz.func150.trans (congrArg some (by kernel_rfl))
 f285:=Tryz.func151.trans (congrArg some (by kernel_rfl))
 f286:=Tryz.func152.trans (congrArg some (by kernel_rfl))
 f317:=Tryz.func153.trans (congrArg some (by kernel_rfl))
 f318:=Tryz.func154.trans (congrArg some (by kernel_rfl))
 f319:=Tryz.func155.trans (congrArg some (by kernel_rfl))
 f320:=Tryz.func156.trans (congrArg some (by kernel_rfl))
 f337:=Tryz.func157.trans (congrArg some (by kernel_rfl))
 f338:=Tryz.func158.trans (congrArg some (by kernel_rfl))
 t0:=Tryz.underlying0
 a0:=Tryz.isAgg0
 z0:=Tryz.sizeOf0
 v0:=Tryz.zeroValue0
 t2:=Tryz.underlying2
 a2:=Tryz.isAgg2
 z2:=Tryz.sizeOf2
 v2:=Tryz.zeroValue2
 t3:=Tryz.underlying3
 a3:=Tryz.isAgg3
 z3:=Tryz.sizeOf3
 v3:=Tryz.zeroValue3
 t4:=Tryz.underlying4
 a4:=Tryz.isAgg4
 z4:=Tryz.sizeOf4
 v4:=Tryz.zeroValue4
 t5:=Tryz.underlying5
 a5:=Tryz.isAgg5
 z5:=Tryz.sizeOf5
 v5:=Tryz.zeroValue5
 t9:=Tryz.underlying9
 a9:=Tryz.isAgg9
 z9:=Tryz.sizeOf9
 v9:=Tryz.zeroValue9
 t20:=Tryz.underlying20
 a20:=Tryz.isAgg20
 z20:=Tryz.sizeOf20
 v20:=Tryz.zeroValue20
 t37:=Tryz.underlying165
 a37:=Tryz.isAgg165
 z37:=Tryz.sizeOf165
 v37:=Tryz.zeroValue165
 t46:=Tryz.underlying140
 a46:=Tryz.isAgg140
 z46:=Tryz.sizeOf140
 v46:=Tryz.zeroValue140
 t51:=Tryz.underlying160
 a51:=Tryz.isAgg160
 z51:=Tryz.sizeOf160
 v51:=Tryz.zeroValue160
 t53:=Tryz.underlying162
 a53:=Tryz.isAgg162
 z53:=Tryz.sizeOf162
 v53:=Tryz.zeroValue162
 t171:=Tryz.underlying188
 a171:=Tryz.isAgg188
 z171:=Tryz.sizeOf188
 v171:=Tryz.zeroValue188
 t173:=Tryz.underlying190
 a173:=Tryz.isAgg190
 z173:=Tryz.sizeOf190
 v173:=Tryz.zeroValue190
 t212:=Tryz.underlying194
 a212:=Tryz.isAgg194
 z212:=Tryz.sizeOf194
 v212:=Tryz.zeroValue194
 t213:=Tryz.underlying195
 a213:=Tryz.isAgg195
 z213:=Tryz.sizeOf195
 t232:=Tryz.underlying196
 a232:=Tryz.isAgg196
 z232:=Tryz.sizeOf196
 v232:=Tryz.zeroValue196
 t233:=Tryz.underlying197
 a233:=Tryz.isAgg197
 z233:=Tryz.sizeOf197
 v233:=Tryz.zeroValue197
 g17:=by kernel_rfl
 g18:=by kernel_rfl
 g19:=by kernel_rfl }
theorem Tryz.P5C:Go.Proofs.Lays.n189 Tryz.prog Tryz.P42:={
 mixed:=by kernel_rfl
 f125:=Tryz.func101.trans (congrArg some (by kernel_rfl))
 f128:=Tryz.func129.trans (congrArg some (by kernel_rfl))
 f129:=Tryz.func130.trans (congrArg some (by kernel_rfl))
 f189:=Tryz.func66.trans (congrArg some (by kernel_rfl))
 f215:=Tryz.func143.trans (congrArg some (by kernel_rfl))
 f216:=Tryz.func126.trans (congrArg some (by kernel_rfl))
 f257:=Tryz.func100.trans (congrArg some (by kernel_rfl))
 f294:=Tryz.func120.trans (congrArg some (by kernel_rfl))
 f295:=Tryz.func121.trans (congrArg some (by kernel_rfl))
 f296:=Tryz.func122.trans (congrArg some (by kernel_rfl))
 f297:=Tryz.func123.trans (congrArg some (by kernel_rfl))
 f298:=Tryz.func124.trans (congrArg some (by kernel_rfl))
 f299:=Tryz.func125.trans (congrArg some (by kernel_rfl))
 f300:=Tryz.func127.trans (congrArg some (by kernel_rfl))
 f301:=Tryz.func128.trans (congrArg some (by kernel_rfl))
 f328:=Tryz.func138.trans (congrArg some (by kernel_rfl))
 f329:=Tryz.func139.trans (congrArg some (by kernel_rfl))
 f330:=Tryz.func140.trans (congrArg some (by kernel_rfl))
 f331:=Tryz.func141.trans (congrArg some (by kernel_rfl))
 f332:=Tryz.func142.trans (congrArg some (by kernel_rfl))
 f343:=Tryz.func146.trans (congrArg some (by kernel_rfl))
 t0:=Tryz.underlying0
 a0:=Tryz.isAgg0
 z0:=Tryz.sizeOf0
 v0:=Tryz.zeroValue0
 t3:=Tryz.underlying3
 a3:=Tryz.isAgg3
 z3:=Tryz.sizeOf3
 v3:=Tryz.zeroValue3
 t4:=Tryz.underlying4
 a4:=Tryz.isAgg4
 z4:=Tryz.sizeOf4
 v4:=Tryz.zeroValue4
 t5:=Tryz.underlying5
 a5:=Tryz.isAgg5
 z5:=Tryz.sizeOf5
 v5:=Tryz.zeroValue5
 t9:=Tryz.underlying9
 a9:=Tryz.isAgg9
 z9:=Tryz.sizeOf9
 v9:=Tryz.zeroValue9
 t28:=Tryz.underlying23
 a28:=Tryz.isAgg23
 z28:=Tryz.sizeOf23
 v28:=Tryz.zeroValue23
 t46:=Tryz.underlying140
 a46:=Tryz.isAgg140
 z46:=Tryz.sizeOf140
 v46:=Tryz.zeroValue140
 t51:=Tryz.underlying160
 a51:=Tryz.isAgg160
 z51:=Tryz.sizeOf160
 v51:=Tryz.zeroValue160
 t53:=Tryz.underlying162
 a53:=Tryz.isAgg162
 z53:=Tryz.sizeOf162
 v53:=Tryz.zeroValue162
 t131:=Tryz.underlying86
 a131:=Tryz.isAgg86
 z131:=Tryz.sizeOf86
 v131:=Tryz.zeroValue86
 t182:=Tryz.underlying153
 a182:=Tryz.isAgg153
 z182:=Tryz.sizeOf153
 v182:=Tryz.zeroValue153
 t183:=Tryz.underlying154
 a183:=Tryz.isAgg154
 z183:=Tryz.sizeOf154
 v183:=Tryz.zeroValue154
 t218:=Tryz.underlying175
 a218:=Tryz.isAgg175
 z218:=Tryz.sizeOf175
 v218:=Tryz.zeroValue175
 t222:=Tryz.underlying179
 a222:=Tryz.isAgg179
 z222:=Tryz.sizeOf179
 v222:=Tryz.zeroValue179
 t228:=Tryz.underlying182
 a228:=Tryz.isAgg182
 z228:=Tryz.sizeOf182
 v228:=Tryz.zeroValue182
 t229:=Tryz.underlying183
 a229:=Tryz.isAgg183
 z229:=Tryz.sizeOf183
 v229:=Tryz.zeroValue183 }
theorem Tryz.P5d:Go.Proofs.LaysM.n171 Tryz.prog Tryz.P42:={ Tryz.P5B with
 i0:=by kernel_rfl
 i2:=by kernel_rfl
 i3:=by kernel_rfl
 i4:=by kernel_rfl
 i5:=by kernel_rfl
 i9:=by kernel_rfl
 i20:=by kernel_rfl
 i37:=by kernel_rfl
 i46:=by kernel_rfl
 i51:=by kernel_rfl
 i53:=by kernel_rfl
 i171:=by kernel_rfl
 i173:=by kernel_rfl
 i212:=by kernel_rfl
 i232:=by kernel_rfl
 i233:=by kernel_rfl
 m17:=by kernel_rfl
 m18:=by kernel_rfl
 m19:=by kernel_rfl }
theorem Tryz.P5Z:Builder.Extra Tryz.prog Tryz.P42:={
 sizeBuilder:=by kernel_rfl
 liesBuilder:=by kernel_rfl
 t5:=Tryz.underlying5
 a5:=Tryz.isAgg5
 z5:=Tryz.sizeOf5
 v5:=Tryz.zeroValue5
 infoByte:=by kernel_rfl
 cellsByte:=by kernel_rfl
 sizeByte:=by kernel_rfl
 neB5:=of_decide_eq_true (by kernel_rfl) }
def Tryz.P4d:Go.Shelf.Ren:=⟨fun | 20=>67 | n=>n,fun | 22=>23 | 3=>3 | 4=>4 | 0=>0 | n=>n,fun | n=>n⟩
theorem Tryz.P4L:Go.Proofs.Lays2.n20 Tryz.prog Tryz.P4d:={
 mixed:=by kernel_rfl
 f20:=Tryz.func67.trans (congrArg some (by kernel_rfl))
 t0:=Tryz.underlying0
 a0:=Tryz.isAgg0
 z0:=Tryz.sizeOf0
 v0:=Tryz.zeroValue0
 t3:=Tryz.underlying3
 a3:=Tryz.isAgg3
 z3:=Tryz.sizeOf3
 v3:=Tryz.zeroValue3
 t4:=Tryz.underlying4
 a4:=Tryz.isAgg4
 z4:=Tryz.sizeOf4
 v4:=Tryz.zeroValue4
 t22:=Tryz.underlying23
 a22:=Tryz.isAgg23
 z22:=Tryz.sizeOf23
 v22:=Tryz.zeroValue23
 i3:=by kernel_rfl }
theorem Zlf:Z4G Tryz.prog 66:=Z3b Tryz.func66 (c:=Tryz.f66.body.getD .skip) (by kernel_rfl) (by kernel_rfl)
theorem Zlg:Z4G Tryz.prog 67:=Z3b Tryz.func67 (c:=Tryz.f67.body.getD .skip) (by kernel_rfl) (by kernel_rfl)
theorem Ziy:Z4G Tryz.prog 133:=Z3b Tryz.func133 (c:=Tryz.f133.body.getD .skip) (by kernel_rfl) (by kernel_rfl)
theorem ZiA:Z4G Tryz.prog 135:=Z3b Tryz.func135 (c:=Tryz.f135.body.getD .skip) (by kernel_rfl) (by kernel_rfl)
theorem ZiB:Z4G Tryz.prog 136:=Z3b Tryz.func136 (c:=Tryz.f136.body.getD .skip) (by kernel_rfl) (by kernel_rfl)
theorem Ziz:Z4G Tryz.prog 134:=Z3b Tryz.func134 (c:=Tryz.f134.body.getD .skip) (by kernel_rfl) (by kernel_rfl)
theorem Zw6:Zml Tryz.prog 66:=by
 intro S id off ys l K hg hd hne hl hk;have hlen:(l.mergeSort fun x y=>decide (x≤y)).length=l.length:=List.length_mergeSort _;refine Z0x.rewrite Zlf hg hd hne hlen (l.mergeSort fun x y=>decide (x≤y)).length (Nat.le_refl _) (fun _ _ _=>.tuple #[]) (.tup []) (.inl ⟨rfl,fun _ _ _=>rfl⟩) (fun b o cap w hH hb hcap=>?_) ?_
 ·exact Any.slices_Sort_int Tryz.P5C b o cap l w hH hb (by omega)
 ·rw[List.take_length];exact hk
theorem Zw4:Zmj Tryz.prog 67:=by
 intro S id off ys l K hg hd hne hl hk;have hle:(Lib.compact l).length≤l.length:=Lib.compact_length_le l
 have hpos:0 < (Lib.compact l).length:=by
  obtain⟨x,hx⟩:=List.exists_mem_of_ne_nil _ hne;exact List.length_pos_of_mem (Zo4.mpr hx)
 refine Z0x.rewrite Zlg hg hd hne (l':=Lib.compact l++List.replicate (l.length - (Lib.compact l).length) 0) (by simp;omega) (Lib.compact l).length (by simp) (fun b o cap=>.slice (some ⟨b,o,none⟩) (Lib.compact l).length cap) (.own id off (Lib.compact l).length) (.inr ⟨rfl,hpos,fun _ _ _=>rfl⟩) (fun b o cap w hH hb hcap=>?_) ?_
 ·refine(Any.slices_Compact_int Tryz.P4L b o cap l w hH (by omega) hcap).mono ?_
  rintro e w' ⟨rfl,q,rfl⟩;exact⟨rfl,q,#[],(grow_empty _).symm⟩
 ·have:List.take (Lib.compact l).length (Lib.compact l++List.replicate (l.length - (Lib.compact l).length) 0)=Lib.compact l:=by simp
  rw[this];exact hk
theorem Zx6:Zp7 Tryz.prog 133 135 136 167 5 :=
 ⟨Ziy,ZiA,ZiB,
  fun B b bs s w h hl hB=>(Any.Builder_WriteString_k Tryz.P5y Tryz.P5Z B b bs s w h hl hB).mono fun e w' ⟨h1,h2,h3,_⟩=>⟨h1,.inr h2,h3⟩,
  fun B b bs c w h hl hB=>(Any.Builder_WriteByte_k Tryz.P5z Tryz.P5Z B b bs c w h hl hB).mono fun e w' ⟨h1,h2,h3,_⟩=>⟨h1,.inr h2,h3⟩,
  fun B b l w h hB=>(Any.Builder_String_any_k Tryz.P5A Tryz.P5Z B b l w h hB).mono fun e w' ⟨h1,_,h3,_⟩=>⟨h1,h3⟩⟩
theorem Zw5:ItK Tryz.prog 134 (fun n=>0≤n∧n < 10000):=by
 refine⟨Ziz,fun H n w hG hH hn=>?_⟩;refine(Any.strconv_Itoa Tryz.P5d n (by omega) (by omega) w (Zst hG hH (g:=0) (by kernel_rfl))).mono ?_;rintro e w' ⟨h,k,os,rfl⟩;exact⟨h,Lib.below_grow _ w (Nat.le_refl _) k os⟩
end Go.Proofs
