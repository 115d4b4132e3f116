import Derived.Test.YtdmcjhnbmgmgoaaGreatDoorRfE8
import Derived.Lib.ItoaLen
set_option linter.unusedVariables false
set_option linter.unusedSimpArgs false
set_option linter.unusedSectionVars false
namespace Go.Rf
def Ot(n:Net)(at_:List Int)(sign:Int):List Int:=ZmK [] (nP n at_ sign)
def VL(kd:Kd)(n:Net)(set:List Int)(s:Int):List Int:=
 match kd with
 | .whole=>Ot n set s
 | .tails=>0::Ot n set s
 | .heads=>if qg n set=true then set else Ot n set s
def WB(kd:Kd)(n:Net)(most:Int)(i:Nat)(st:rZ):Option rZ:=
 match st.1[i]? with
 | none=>none
 | some set=>match uf most (VL kd n set) n.signs.toNat st.1 with
  | none=>none
  | some (s2,r)=>some (s2,st.2.1++[r],st.2.2++[qg n set])
def O6(kd:Kd)(n:Net)(most:Int):Nat→Nat→rZ→Option rZ
 | 0,_,_=>none
 | f+1,i,st=>if i=st.1.length then some st else match WB kd n most i st with
  | none=>none
  | some st'=>O6 kd n most f (i+1) st'
def VH(kd:Kd)(n:Net)(most:Int):aB×Int:=
 if sO n=true∧1≤most∧most≤3000 then (match O6 kd n most (most.toNat+1) 0 ([[0]],[],[]) with
  | some st=>(⟨n.signs,st.2.1,st.2.2⟩,0)
  | none=>(⟨0,[],[]⟩,13))
 else (⟨0,[],[]⟩,1)
theorem Zm3(n:Net)(a:List Int)(s:Int):Ot n a s=sH n a s:=ZhI _
theorem Zpd(kd:Kd)(n:Net)(a:List Int):VL kd n a=kN kd n a:=by
 funext s;cases kd<;>simp[VL,kN,Zm3]
theorem ZpW(kd:Kd)(n:Net)(most:Int)(i:Nat)(st:rZ):WB kd n most i st=uo kd n most i st:=by
 unfold WB uo;simp only[Zpd];rfl
theorem ZmA(kd:Kd)(n:Net)(most:Int):∀(f i:Nat) (st:rZ),O6 kd n most f i st=Cb kd n most f i st
 | 0,_,_=>rfl
 | f+1,i,st=>by
  unfold O6 Cb;rw[ZpW];split
  ·rfl
  ·cases uo kd n most i st with
   | none=>rfl
   | some st'=>exact ZmA kd n most f (i+1) st'
theorem Zow(kd:Kd)(n:Net)(most:Int):VH kd n most=BP kd n most:=by
 unfold VH BP BI;rw[ZmA];rfl
def dI:AV→Option Int
 | .v (.int .i64 n)=>some n
 | _=>none
def O0:List AV→Option (List Int)
 | []=>some []
 | x::xs=>match dI x,O0 xs with
  | some n,some l=>some (n::l)
  | _,_=>none
def O1:AV→Option (List Int)
 | .sl _ xs=>O0 xs
 | _=>none
def OD:List AV→Option (List (List Int))
 | []=>some []
 | x::xs=>match O1 x,OD xs with
  | some n,some l=>some (n::l)
  | _,_=>none
def J3:AV→Option (List (List Int))
 | .sl _ xs=>OD xs
 | _=>none
def VB:AV→Option Net
 | .agg [a,b,c,d]=>match dI a,J3 b,J3 c,O1 d with
  | some a,some b,some c,some d=>some ⟨a,b,c,d⟩
  | _,_,_,_=>none
 | _=>none
theorem JK{x:AV}{n:Int}(h:dI x=some n):x=ak n:=by
 unfold dI at h;split at h
 ·cases h;rfl
 ·cases h
theorem Zmo:∀{xs:List AV} {l:List Int},O0 xs=some l→xs=l.map ak
 | [],l,h=>by cases h;rfl
 | x::xs,l,h=>by
  unfold O0 at h;split at h
  ·rename_i n l' h1 h2
   cases h;rw[JK h1,Zmo h2];rfl
  ·cases h
theorem Zmp{x:AV}{l:List Int}(h:O1 x=some l):Wk x (au l):=by
 unfold O1 at h;split at h
 ·rw[Zmo h];exact Wk.sl' (jM.refl _)
 ·cases h
theorem ZiA:∀{xs:List AV} {l:List (List Int)},OD xs=some l→jM xs (l.map au)
 | [],l,h=>by cases h;exact jM.nil
 | x::xs,l,h=>by
  unfold OD at h;split at h
  ·rename_i n l' h1 h2
   cases h;exact jM.cons (Zmp h1) (ZiA h2)
  ·cases h
theorem Ur{x:AV}{l:List (List Int)}(h:J3 x=some l):Wk x (aN l):=by
 unfold J3 at h;split at h
 ·exact Wk.sl' (ZiA h)
 ·cases h
theorem Znw{x:AV}{n:Net}(h:VB x=some n):Wk x (iV n):=by
 unfold VB at h;split at h
 ·split at h
  ·rename_i h1 h2 h3 h4
   cases h;refine Wk.agg' (jM.cons ?_ (jM.cons (Ur h2) (jM.cons (Ur h3) (jM.cons (Zmp h4) jM.nil))));rw[JK h1];exact .refl _
  ·cases h
 ·cases h
def PX(n:Net):Bool:=n.rows.all (fun l=>Nat.ble l.length 1000) && Nat.ble n.aC.length 20 && Nat.ble n.follow.length 20
def Qa(kd:Kd):List AV→Option AV
 | [a,b]=>match VB a,dI b with
  | some n,some m=>if PX n=true then some (sQ (VH kd n m)) else none
  | _,_=>none
 | _=>none
theorem ZmR{P:Program}{f:FuncId}{kd:Kd}(H:∀n m,PX n=true→aM P f [iV n,ak m] (sQ (BP kd n m))){args:List AV}{r:AV}(h:Qa kd args=some r):aM P f args r:=by
 unfold Qa at h;split at h
 ·split at h
  ·rename_i n m h1 h2
   split at h
   ·rename_i hk
    cases h;rw[Zow];exact(H n m hk).wk (jM.cons (Znw h1) (jM.cons (by rw[JK h2];exact .refl _) jM.nil))
   ·cases h
  ·cases h
 ·cases h
end Go.Rf
namespace Go.Rf
open Go.RowKit
def dB:AV→Option Bool
 | .v (.bool b)=>some b
 | _=>none
def OZ:List AV→Option (List Bool)
 | []=>some []
 | x::xs=>match dB x,OZ xs with
  | some n,some l=>some (n::l)
  | _,_=>none
def VP:AV→Option (List Bool)
 | .sl _ xs=>OZ xs
 | _=>none
def DY:AV→Option aB
 | .agg [a,b,c]=>match dI a,J3 b,VP c with
  | some a,some b,some c=>some ⟨a,b,c⟩
  | _,_,_=>none
 | _=>none
theorem Zra{x:AV}{n:Bool}(h:dB x=some n):x=aG n:=by
 unfold dB at h;split at h
 ·cases h;rfl
 ·cases h
theorem Zmn:∀{xs:List AV} {l:List Bool},OZ xs=some l→xs=l.map aG
 | [],l,h=>by cases h;rfl
 | x::xs,l,h=>by
  unfold OZ at h;split at h
  ·rename_i n l' h1 h2
   cases h;rw[Zra h1,Zmn h2];rfl
  ·cases h
theorem Zpv{x:AV}{l:List Bool}(h:VP x=some l):Wk x (bA l):=by
 unfold VP at h;split at h
 ·rw[Zmn h];exact Wk.sl' (jM.refl _)
 ·cases h
theorem Uq{x:AV}{n:aB}(h:DY x=some n):Wk x (aH n):=by
 unfold DY at h;split at h
 ·split at h
  ·rename_i h1 h2 h3
   cases h;refine Wk.agg' (jM.cons ?_ (jM.cons (Ur h2) (jM.cons (Zpv h3) jM.nil)));rw[JK h1];exact .refl _
  ·cases h
 ·cases h
def okD(d:aB):Bool:=decide (-1000≤d.signs) && decide (d.signs≤1000) && Nat.ble d.next.length 20 && Nat.ble d.fin.length 20 && d.next.all fun l=>Nat.ble l.length 20
theorem UQ{d:aB}(h:okD d=true):lU d:=by
 simp only[okD,Bool.and_eq_true,List.all_eq_true,Nat.ble_eq,decide_eq_true_eq] at h;obtain⟨⟨⟨⟨h1,h2⟩,h3⟩,h4⟩,h5⟩:=h;exact⟨by unfold Len;omega,by unfold Len;omega,fun r hr=>by have:=h5 r hr;unfold Len;omega,by omega⟩
def x1(F:aB→AV):List AV→Option AV
 | [a]=>match DY a with
  | some d=>if okD d=true then some (F d) else none
  | none=>none
 | _=>none
def x2(F:aB→aB→AV):List AV→Option AV
 | [a,b]=>match DY a,DY b with
  | some d,some e=>if okD d=true∧okD e=true then some (F d e) else none
  | _,_=>none
 | _=>none
theorem ZrE{P:Program}{f:FuncId}{F:aB→AV}(H:∀d,lU d→aM P f [aH d] (F d)){args:List AV}{r:AV}(h:x1 F args=some r):aM P f args r:=by
 unfold x1 at h;split at h
 ·split at h
  ·rename_i d h1
   split at h
   ·rename_i hk
    cases h;exact(H d (UQ hk)).wk (jM.cons (Uq h1) jM.nil)
   ·cases h
  ·cases h
 ·cases h
def WK(F:aB→aB→Int→AV):List AV→Option AV
 | [a,b,c]=>match DY a,DY b,dI c with
  | some d,some e,some m=>if okD d=true∧okD e=true then some (F d e m) else none
  | _,_,_=>none
 | _=>none
theorem Zqy{P:Program}{f:FuncId}{F:aB→aB→Int→AV}(H:∀d e m,lU d→lU e→aM P f [aH d,aH e,ak m] (F d e m)){args:List AV}{r:AV}(h:WK F args=some r):aM P f args r:=by
 unfold WK at h;split at h
 ·split at h
  ·rename_i d e m h1 h2 h3
   split at h
   ·rename_i hk
    cases h;rw[JK h3];exact(H d e m (UQ hk.1) (UQ hk.2)).wk (jM.cons (Uq h1) (jM.cons (Uq h2) (jM.cons (.refl _) jM.nil)))
   ·cases h
  ·cases h
 ·cases h
theorem Zgk(a:AF)(g:Nat→Option aF):∀ts:List Nat,iJ a g (ts.map RV.t)=some (ts.map a)
 | []=>rfl
 | t::ts=>by simp[iJ,RV.ev,Zgk a g ts]
theorem ZjE(a:AF):∀ts:List Nat,iO (ts.map a)=sG ts a
 | []=>rfl
 | [t]=>rfl
 | t::u::ts=>rfl
theorem Is.P6m{P:Program}(hm:P.follows .mixedOrders=true){f:FuncId}{ac:AC}{ts:List Nat}{n:Nat}(h:Is P f ac ts n):wH P f ac (ts.map RV.t) n:=by
 intro args S K hn hb;refine h.uV hm hn (xQ _ (fun e a S' k=>?_) hb);cases e<;>simp only[iI,bR] at k ⊢
 all_goals
  obtain⟨xs,h1,h2⟩:=k;rw[Zgk] at h1;cases h1;rw[ZjE] at h2;exact h2
def Dv{α:Type}:List (Nat×α)→Nat→Option α
 | [],_=>none
 | (k,a)::l,f=>bif Nat.beq f k then some a else Dv l f
theorem SB{α:Type}:∀{l:List (Nat×α)} {f:Nat} {g:α},Dv l f=some g→(f,g)∈l
 | [],f,g,h=>by cases h
 | (k,a)::l,f,g,h=>by
  simp only[Dv] at h;cases hb:Nat.beq f k with
  | true=>
   rw[hb] at h;have:=Nat.eq_of_beq_eq_true hb;subst this;cases h;exact List.mem_cons_self
  | false=>rw[hb] at h;exact List.mem_cons_of_mem _ (SB h)
def KnC(P:Program)(c:Nat×AC×List RV×Nat):Prop:=wH P c.1 c.2.1 c.2.2.1 c.2.2.2
def KnR(P:Program)(c:Nat×(List AV→Option AV)):Prop:=∀args r,c.2 args=some r→aM P c.1 args r
theorem ZoH{P:Program}(hm:P.follows .mixedOrders=true){cs:List (Nat×AC×List RV×Nat)}{ks:List (Nat×(List AV→Option AV))}(h1:∀c∈cs,KnC P c)(h2:∀k∈ks,KnR P k):yc P (OP P (Dv cs) (fun _=>none) (Dv ks)):=
 ZoI hm (fun f p h=>h1 _ (SB h)) (fun f g args v h=>by cases h) (fun f g args r h hg=>h2 _ (SB h) args r hg)
theorem Zi7{α:Type}{p:α→Prop}:∀x∈([]:List α),p x:=fun x h=>by cases h
theorem all_cons{α:Type}{p:α→Prop}{a:α}{l:List α}(h:p a)(k:∀x∈l,p x):∀x∈a::l,p x:=fun x hx=>by
 rcases List.mem_cons.mp hx with rfl | hx
 ·exact h
 ·exact k x hx
end Go.Rf
namespace Go.Rf
open Go.RowKit
attribute [local simp] nH nD mP lY mM mR mO nE nG mQ mW mo lu lN nk nQ ni oG oz ow nX oD ou nW nL mU nJ nZ nY nT nO mV nM oh og nU lQ lZ mX mY mq lX bZ gL eu fq gH d9 fI gI gy eT gD eB fO gG fM dG dJ dZ eX iq iw fG iy fC fB fu dD gT gU gV fJ fK iC gJ fU gZ gW gY gX ig iD fZ iA fP fQ gM iB dh dF fD gu iE ex aj fA cO dO bJ bO aD bE dX eU dn gP gQ gN gK fV bI cZ dw eD eF fF dN bY mD mF dz bX l6 mE mZ l7 dH eO eG eH dY bW dQ cK cB aY nS nA mJ mK mH mh mI ny lS l9 nu nC S0 ak aG qV iX.cl bU.cl aX cu bD jr kR qU qQ qR pW rz rC qZ qX kZ om kX rD pQ pO qd rE rH rG rA oI oJ rJ qb ru p8 oK qw kQ rO kU lK iZ oF
def Z8R(P3E:FuncId):AC:= (sq [ro 2 (.box 4 (.t 0)),ro 4 (.mv (.c (.v (.bool false))))] (.seq (sq [ro 5 (.mv (ci 0))] (.block 0 (.loop (.seq (sq [rm 6 5,rm 7 1,ro 8 (.len (.t 7)),ro 9 (.bin .lss (.t 6) (.t 8))] (.cond (.t 9) .skip (.exit 0))) (.seq (.block 1 (.seq (.reg (some []) [rF 12 3 2,rL 13 12,rm 14 1,rm 15 5,ro 16 (.aI 1 (.t 14) (.t 15)),rL 17 16,rk 18 P3E [(.t 13),(.t 17)]]) (.cond (.t 18) (sq [ro 4 (.mv (.c (.v (.bool true))))] .ret) .skip))) (.reg none [rm 10 5,ro 11 (.bin .add (.t 10) (ci 1)),rm 5 11])))))) (sq [ro 4 (.mv (.c (.v (.bool false))))] .ret)))
def Z7P(Cy P3o P3F:FuncId):AC:= (sq [ro 4 (.box 4 (.t 0)),ro 8 (.mv (.c (.sl true [])))] (.seq (sq [rm 10 3,ro 11 (.bin .eql (.t 10) (ci 2)),rm 12 11,rg 13 12 true (.load (some 4) (.t 4)),rg 14 12 true (.mv (.t 1)),rl 15 12 true Cy [(.t 13),(.t 14)],ro 16 (.pick (.t 12) (.t 15) (.c (.v (.bool false))))] (.cond (.t 16) (sq [rm 17 1,rm 8 17] .ret) .skip)) (sq [ro 18 (.load (some 4) (.t 4)),rm 19 1,rm 20 2,rk 21 P3o [(.t 18),(.t 19),(.t 20)],rm 9 21] (.seq (sq [rm 22 3,ro 23 (.bin .eql (.t 22) (ci 1))] (.cond (.t 23) (.reg none [rm 24 9,rk 25 P3F [(.t 24),(ci 0)],rm 9 25]) .skip)) (sq [rm 26 9,rm 8 26] .ret)))))
def Zih(wJ:FuncId):AC:= (.block 4 (.loop (.seq (sq [rm 52 14,rm 53 8,ro 54 (.len (.t 53)),ro 55 (.bin .lss (.t 52) (.t 54)),rm 56 55,rg 57 56 true (.mv (.t 8)),rg 58 56 true (.mv (.t 14)),rg 59 56 true (.aI 1 (.t 57) (.t 58)),rg 60 56 true (.load none (.t 59)),rg 61 56 true (.mv (.t 13)),rl 62 56 true wJ [(.t 60),(.t 61)],rg 63 56 true (.un .not (.t 62)),ro 64 (.pick (.t 56) (.t 63) (.c (.v (.bool false))))] (.cond (.t 64) .skip (.exit 4))) (.block 5 (.reg none [rm 65 14,ro 66 (.bin .add (.t 65) (ci 1)),rm 14 66])))))
def ZkN(HV wJ:FuncId):AC:= (.block 2 (.loop (.seq (sq [rm 38 12,rF 39 0 3,rL 40 39,ro 41 (.bin .lss (.t 38) (.t 40))] (.cond (.t 41) .skip (.exit 2))) (.seq (.block 3 (.seq (.reg (some []) [ro 44 (.load (some 4) (.t 3)),rm 45 8,rm 46 10,ro 47 (.aI 1 (.t 45) (.t 46)),rL 48 47,rm 49 12,rm 50 2,rk 51 HV [(.t 44),(.t 48),(.t 49),(.t 50)],rm 13 51]) (sq [ro 14 (.mv (ci 0))] (.seq (Zih wJ) (.seq (sq [rm 67 14,rm 68 8,ro 69 (.len (.t 68)),ro 70 (.bin .eql (.t 67) (.t 69))] (.cond (.t 70) (.seq (sq [rm 71 14,rm 72 1,ro 73 (.bin .eql (.t 71) (.t 72))] (.cond (.t 73) (sq [ro 74 (.build (.agg [(.v (.int .i64 0)),(.sl true []),(.sl true [])]) [] []),rn (.store 3 (.t 6) (.t 74)),ro 7 (.mv (ci 13))] .ret) .skip)) (.reg none [rm 75 8,rm 76 13,ro 77 (.bS 1 1 (.sl true []) [(0,(.t 76))]),ro 78 (.app 1 24 (.t 75) (.t 77)),rm 8 78])) .skip)) (.reg none [rm 79 11,rm 80 14,ro 81 (.bS 1 1 (.v (.int .i64 0)) [(0,(.t 80))]),ro 82 (.app 1 8 (.t 79) (.t 81)),rm 11 82])))))) (.reg none [rm 42 12,ro 43 (.bin .add (.t 42) (ci 1)),rm 12 43])))))
def Zii(Cy:FuncId):AC:= (.reg (some [[],[],[],[],[],[true],[false,true],[false,false,true],[false,false,false,true],[false,false,false,false,true],[false,false,false,false,false,true],[false,false,false,false,false,false,true],[],[],[],[true]]) [rF 83 1 9,rL 84 83,rm 85 11,ro 86 (.bS 1 1 (.sl true []) [(0,(.t 85))]),ro 87 (.app 1 24 (.t 84) (.t 86)),rF 88 2 9,rL 89 88,ro 90 (.load (some 4) (.t 3)),rm 91 8,rm 92 10,ro 93 (.aI 1 (.t 91) (.t 92)),rL 94 93,rk 95 Cy [(.t 90),(.t 94)],ro 96 (.bS 1 1 (.v (.bool false)) [(0,(.t 95))]),ro 97 (.app 1 1 (.t 89) (.t 96)),rF 98 1 9,rn (.store 1 (.t 98) (.t 87)),rF 99 2 9,rn (.store 1 (.t 99) (.t 97))])
def ZkM(HV wJ Cy:FuncId):AC:= (.block 0 (.loop (.seq (sq [rm 32 10,rm 33 8,ro 34 (.len (.t 33)),ro 35 (.bin .lss (.t 32) (.t 34))] (.cond (.t 35) .skip (.exit 0))) (.seq (.block 1 (sq [ro 11 (.mv (.c (.sl true [])))] (.seq (sq [ro 12 (.mv (ci 0))] (ZkN HV wJ)) (Zii Cy)))) (.reg none [rm 36 10,ro 37 (.bin .add (.t 36) (ci 1)),rm 10 37])))))
def ZkL:AC:= (sq [ro 100 (.load (some 3) (.t 9)),rn (.store 3 (.t 6) (.t 100)),ro 7 (.mv (ci 0))] .ret)
def Z8S(QB HV wJ Cy:FuncId):AC:= (sq [ro 3 (.box 4 (.t 0)),ro 6 (.alloc (.agg [(.v (.int .i64 0)),(.sl true []),(.sl true [])]) 3),ro 7 (.mv (ci 0))] (.seq (sq [ro 15 (.load (some 4) (.t 3)),rk 16 QB [(.t 15)],ro 17 (.un .not (.t 16)),rm 18 17,rg 19 18 false (.mv (.t 1)),rg 20 18 false (.bin .lss (.t 19) (ci 1)),ro 21 (.pick (.t 18) (.c (.v (.bool true))) (.t 20)),rm 22 21,rg 23 22 false (.mv (.t 1)),rg 24 22 false (.bin .gtr (.t 23) (ci 3000)),ro 25 (.pick (.t 22) (.c (.v (.bool true))) (.t 24))] (.cond (.t 25) (sq [ro 26 (.build (.agg [(.v (.int .i64 0)),(.sl true []),(.sl true [])]) [] []),rn (.store 3 (.t 6) (.t 26)),ro 7 (.mv (ci 1))] .ret) .skip)) (sq [ro 27 (.bS 1 1 (.v (.int .i64 0)) [(0,(ci 0))]),ro 28 (.bS 1 1 (.sl true []) [(0,(.t 27))]),rm 8 28] (sq [rF 29 0 3,rL 30 29,ro 31 (.build (.agg [(.v (.int .i64 0)),(.sl true []),(.sl true [])]) [(0,1)] [(0,(.t 30))]),ro 9 (.alloc (.agg [(.v (.int .i64 0)),(.sl true []),(.sl true [])]) 3),rn (.store 3 (.t 9) (.t 31))] (.seq (sq [ro 10 (.mv (ci 0))] (ZkM HV wJ Cy)) ZkL)))))
theorem Fz.IK{g:Nat→Option aF}{a b:List AV}(h:iN g a b):Fz g (.agg a) (.agg b):=.agg _ _ h.1 h.2
theorem Fz.EY{g:Nat→Option aF}{a b:List AV}(h:iN g a b):Fz g (.aL a) (.aL b):=.aL _ _ h.1 h.2
theorem JE{g:Nat→Option aF}:Fz g (.sl true []) (.sl false []):=.loose true [] (.sl _ _ (by simp))
theorem Bz(g:Nat→Option aF)(e:Int):Fz g (.aL [.agg [.v (.int .i64 0),.sl true [],.sl true []],.v (.int .i64 e)]) (sQ (⟨0,[],[]⟩,e)):=
 .EY (.cons (.IK (.cons (.closed _ (.v _)) (.cons JE (.cons JE .nil)))) (.cons (.closed _ (.v _)) .nil))
end Go.Rf
namespace Go.Rf
open Go.RowKit
attribute [local simp] nH nD mP lY mM mR mO nE nG mQ mW mo lu lN nk nQ ni oG oz ow nX oD ou nW nL mU nJ nZ nY nT nO mV nM oh og nU lQ lZ mX mY mq lX bZ gL eu fq gH d9 fI gI gy eT gD eB fO gG fM dG dJ dZ eX iq iw fG iy fC fB fu dD gT gU gV fJ fK iC gJ fU gZ gW gY gX ig iD fZ iA fP fQ gM iB dh dF fD gu iE ex aj fA cO dO bJ bO aD bE dX eU dn gP gQ gN gK fV bI cZ dw eD eF fF dN bY mD mF dz bX l6 mE mZ l7 dH eO eG eH dY bW dQ cK cB aY nS nA mJ mK mH mh mI ny lS l9 nu nC S0 ak aG oZ oU pz oW oQ pq o8 oV o7 pK pG pJ pF o9 pE qV iX.cl bU.cl aX cu bD jr kR qU qQ qR pW rz rC qZ qX kZ om kX rD pQ pO qd rE rH rG rA oI oJ rJ qb ru p8 oK qw kQ rO kU lK iZ oF
def RF:AC:= (sq [ro 1 (.box 3 (.t 0)),ro 2 (.mv (.c (.sl true [])))] (sq [ro 3 (.mv (.c (.sl true [])))] (.seq (sq [rF 7 2 1,rL 8 7,ro 9 (.len (.t 8)),ro 10 (.mv (ci 0))] (.block 0 (.loop (sq [ro 11 (.bin .lss (.t 10) (.t 9))] (.seq (.cond (.t 11) .skip (.exit 0)) (.seq (.block 1 (sq [ro 12 (.aI 1 (.t 8) (.t 10)),rL 13 12,rm 5 13] (sq [ro 6 (.mv (ci 0))] (.seq (sq [rm 14 5] (.cond (.t 14) (.reg none [ro 6 (.mv (ci 1))]) .skip)) (.reg none [rm 15 3,rm 16 6,ro 17 (.bS 1 1 (.v (.int .i64 0)) [(0,(.t 16))]),ro 18 (.app 1 8 (.t 15) (.t 17)),rm 3 18]))))) (.reg none [ro 19 (.bin .add (.t 10) (ci 1)),rm 10 19]))))))) (sq [rm 20 3,rm 2 20] .ret))))
def Rv(wL wI xE:FuncId):AC:= (.loop (sq [ro 23 (.bin .lss (.t 22) (.t 21))] (.seq (.cond (.t 23) .skip (.exit 0)) (.seq (.block 1 (sq [ro 24 (.aI 1 (.t 20) (.t 22)),rL 25 24,rm 9 25] (sq [rk 26 xE [(.t 7),(.c (.v (.int .u8 44)))]] (.reg none [rm 27 1,rm 28 9,ro 29 (.aI 1 (.t 27) (.t 28)),rL 30 29,rk 31 wL [(.t 30)],rk 32 wI [(.t 7),(.t 31)]])))) (.reg none [ro 33 (.bin .add (.t 22) (ci 1)),rm 22 33])))))
def Yq(wL wI xE Cv:FuncId):AC:= (sq [rm 10 1,rm 11 2,ro 12 (.aI 1 (.t 10) (.t 11)),rL 13 12,rk 14 wL [(.t 13)],rk 15 wI [(.t 7),(.t 14)]] (.seq (sq [rF 16 1 3,rL 17 16,rm 18 2,ro 19 (.aI 1 (.t 17) (.t 18)),rL 20 19,ro 21 (.len (.t 20)),ro 22 (.mv (ci 0))] (.block 0 (Rv wL wI xE))) (sq [rk 34 Cv [(.t 7)],rm 6 34] .ret)))
def Yz(wL wI xE Cv:FuncId):AC:= (sq [ro 3 (.box 3 (.t 0)),ro 6 (.mv (.c (.v (.string ⟨#[]⟩))))] (sq [ro 7 (.alloc (.agg [(.v (.pointer none)),(.sl true [])]) 2)] (Yq wL wI xE Cv)))
def RQ(P4P:FuncId):AC:= (sq [ro 2 (.box 3 (.t 0)),ro 4 (.mv (.c (.sl true []))),ro 5 (.mv (ci 0))] (sq [ro 12 (.Cm),rm 6 12] (sq [ro 7 (.mv (.c (.sl true [])))] (.seq (sq [rF 13 1 2,rL 14 13,ro 15 (.len (.t 14)),ro 16 (.mv (ci 0))] (.block 0 (.loop (sq [ro 17 (.bin .lss (.t 16) (.t 15))] (.seq (.cond (.t 17) .skip (.exit 0)) (.seq (.block 1 (sq [rm 18 16,rm 8 18] (sq [ro 19 (.load (some 3) (.t 2)),rm 20 1,rm 21 8,rk 22 P4P [(.t 19),(.t 20),(.t 21)],rm 9 22] (sq [rm 24 6,rm 25 9,ro 26 (.look .str (.v (.int .i64 0)) true (.t 24) (.t 25)),rm 23 26,ro 27 (.ext 0 (.t 23)),ro 28 (.ext 1 (.t 23)),rm 10 27,rm 11 28] (.seq (sq [rm 29 11,ro 30 (.un .not (.t 29))] (.cond (.t 30) (sq [rm 31 6,ro 32 (.Es (.t 31)),rm 10 32] (.reg none [rm 33 6,rm 34 9,rm 35 10,rn (.zI .str (.t 33) (.t 34) (.t 35))])) .skip)) (.reg none [rm 36 7,rm 37 10,ro 38 (.bS 1 1 (.v (.int .i64 0)) [(0,(.t 37))]),ro 39 (.app 1 8 (.t 36) (.t 38)),rm 7 39])))))) (.reg none [ro 40 (.bin .add (.t 16) (ci 1)),rm 16 40]))))))) (sq [rm 41 7,rm 42 6,ro 43 (.Es (.t 42)),rm 4 41,rm 5 43] .ret)))))
def RJ(P4r P4D:FuncId):AC:= (sq [ro 1 (.box 3 (.t 0)),ro 2 (.mv (.c (.sl true [])))] (sq [ro 7 (.load (some 3) (.t 1)),rk 8 P4r [(.t 7)],rm 3 8] (sq [ro 4 (.mv (ci 0))] (.block 0 (.loop (.block 1 (sq [ro 10 (.load (some 3) (.t 1)),rm 11 3,rk 12 P4D [(.t 10),(.t 11)],rm 9 12,ro 13 (.ext 0 (.t 9)),ro 14 (.ext 1 (.t 9)),rm 5 13,rm 6 14] (.seq (sq [rm 15 6,rm 16 4,ro 17 (.bin .eql (.t 15) (.t 16))] (.cond (.t 17) (sq [rm 18 5,rm 2 18] .ret) .skip)) (.reg none [rm 19 5,rm 20 6,rm 3 19,rm 4 20])))))))))
abbrev Qg:=List Int×Bool
def coI(d:aB)(i:Nat)(s:Qg):Prop:=s.1=(tN d).take i
def Ec(d:aB)(i:Nat)(s:Qg):List (Nat×AV):=[(3,vV s.2 1 (s.1.map ak)),(8,bA d.fin),(9,ak d.fin.length),(10,ak i)]
def Ee(i:Nat)(s:Qg):List (Nat×Option aF):=[(1,vB s.2 1 (s.1.map ak))]
theorem Zfm{P:Program}(d:aB)(hl:d.fin.length≤4000):bG P 0 RF (bR [2] (dx (au (tN d)))) (bC [aH d]) S0:=by
 simp[RF];refine Bu d.fin.length (coI d) (Ec d) 10 Ee ([],false) rfl ?_ ?_
 ·refine iU.of [] [] (by omega) ⟨by simp,by simp⟩ ?_ ?_
  ·simp[Ee]
  ·simp[Ec]
 ·rintro i ⟨xs,o⟩ hi hx
  simp only[coI] at hx;have hcl:(tN d).length=d.fin.length:=by simp[tN]
  have hxl:xs.length=i:=by rw[hx];simp[hcl];omega
  by_cases hlt:i < d.fin.length
  ·have hok:eY 8 xs.length 1:=by unfold eY;omega
   have hn:(tN d).take (i+1)=xs++[(tN d)[i]'(by omega)]:=by rw[List.take_succ_eq_append_getElem (by omega),←hx]
   have hg:(tN d)[i]'(by omega)=if d.fin[i]=true then 1 else 0:=by simp[tN]
   have hgd:d.fin.getD i false=d.fin[i]:=by rw[List.getD_eq_getElem?_getD,List.getElem?_eq_getElem hlt];rfl
   rw[hg] at hn;cases hb:d.fin[i] with
   | true=>
    simp only[hb,if_true] at hn;simp[Ec,Ee,hlt,hb,hok];rw[aZ _ (by omega)];refine⟨hlt,(xs++[1],true),hn.symm,iU.of [(1,20)] [] (by omega) ⟨by simp,by simp⟩ ?_ ?_⟩
    ·simp[Ee]
    ·simp[Ec]
   | false=>
    simp only[hb,Bool.false_eq_true,if_false] at hn;simp[Ec,Ee,hlt,hb,hok];rw[aZ _ (by omega)];refine⟨hlt,(xs++[0],true),hn.symm,iU.of [(1,19)] [] (by omega) ⟨by simp,by simp⟩ ?_ ?_⟩
    ·simp[Ee]
    ·simp[Ec]
  ·have hie:i=d.fin.length:=by omega
   have ht:xs=tN d:=by rw[hx];exact List.take_of_length_le (by omega)
   subst ht;simp[Ec,Ee,hie];refine zq ?_ (kZ _);simp
def sU:List Int→List UInt8
 | []=>[]
 | k::ks=>Lib.itoa k++ks.flatMap fun n=>44::Lib.itoa n
def wY(l:List Int):AV:=qh (sU l)
def wU(l:List Int):List UInt8:=l.flatMap fun n=>Lib.itoa n++[44]
theorem Ug(ks:List Int):∀k,sU (k::ks)++[44]=wU (k::ks):=by
 induction ks with
 | nil=>intro k;simp[sU,wU]
 | cons j js ih=>
  intro k;have:=ih j;simp only[sU,wU,List.flatMap_cons,List.append_assoc,List.cons_append] at this ⊢;rw[this];simp
theorem YA(n:Nat):∀b∈Lib.decDigits n,b≠44:=by
 induction n using Nat.strongRecOn with
 | _ n ih=>
  rw[Lib.decDigits];split
  ·rename_i h
   intro b hb e;simp only[List.mem_cons,List.not_mem_nil,or_false] at hb;have:=Fw h;rw[←hb,e] at this;have h32:(44:UInt8).toNat=44:=rfl;omega
  ·rename_i h
   have h2:=ih (n / 10) (by omega);have hd:n % 10 < 10:=Nat.mod_lt _ (by omega);intro b hb e;rcases List.mem_append.mp hb with hb | hb
   ·exact h2 b hb e
   ·simp only[List.mem_cons,List.not_mem_nil,or_false] at hb
    have:=Fw hd;rw[←hb,e] at this;have h32:(44:UInt8).toNat=44:=rfl;omega
theorem I8(n:Int)(l:List Int):wU (n::l)=Lib.itoa n++44::wU l:=by simp[wU]
theorem ZA:∀{l m:List Int},sN l→sN m→wU l=wU m→l=m
 | [],[],_,_,_=>rfl
 | [],n::m,_,_,h=>by rw[I8] at h;simp[wU] at h
 | n::l,[],_,_,h=>by rw[I8] at h;simp[wU] at h
 | n::l,k::m,hl,hm,h=>by
  have hn:=hl n (by simp);have hk:=hm k (by simp);rw[I8,I8,Jq hn,Jq hk] at h;obtain⟨h1,h2⟩:=UK (YA _) (YA _) h;have:=congrArg D7 h1;rw[(Fa _).1,(Fa _).1] at this;rw[ZA (fun z hz=>hl z (by simp[hz])) (fun z hz=>hm z (by simp[hz])) h2];congr 1;omega
def Gl(l:List Int):Prop:=l≠[]∧∀n∈l,0≤n∧n < 10000
theorem Zkb{l m:List Int}(hl:Gl l)(hm:Gl m)(h:sU l=sU m):l=m:=by
 obtain⟨k,ks,rfl⟩:=List.exists_cons_of_ne_nil hl.1;obtain⟨j,js,rfl⟩:=List.exists_cons_of_ne_nil hm.1;refine ZA (fun n hn=>(hl.2 n hn).1) (fun n hn=>(hm.2 n hn).1) ?_;rw[←Ug,←Ug,h]
theorem ZrR:zl .str Gl wY:=by
 refine⟨fun x=>rfl,fun x y hx hy=>?_⟩;have:qD (wY x) (wY y)=((⟨(sU x).toArray⟩:ByteArray) == ⟨(sU y).toArray⟩):=rfl;rw[this,Zmg];by_cases h:x=y
 ·subst h;simp
 ·simp only[h,decide_false,beq_eq_false_iff_ne,ne_eq]
  intro e;refine h (Zkb hx hy ?_);simpa using e
theorem Zj6{n:Int}(h:0≤n∧n < 10000):(Lib.itoa n).length≤21:=Lib.itoa_length_le n (by omega) (by omega)
theorem ZC:∀{l:List Int},(∀n∈l,0≤n∧n < 10000)→(wU l).length≤22*l.length
 | [],_=>by simp[wU]
 | k::ks,h=>by
  have h1:=Zj6 (h k (by simp));have h2:=ZC (l:=ks) (fun n hn=>h n (by simp[hn]));rw[I8,List.length_append,List.length_cons,List.length_cons];omega
theorem Y4(k:Int)(ks:List Int)(n:Int):sU (k::(ks++[n]))=sU (k::ks)++44::Lib.itoa n:=by simp[sU]
def P9(d:aB)(c:List Int)(s:Nat):List (Nat×AV):=[(1,au c),(2,ak s),(3,.bF (aH d) 0)]
structure Ri(T e B:Nat)(w0:World)(c row:List Int)(k0:Int)(m:Nat)(a:AF)(w:World)(j:Nat):Prop where
 hj:j≤row.length
 hm:m=row.length - j
 e1:a 1=au c
 e7:a 7=.ptr 0 0 0
 e20:a 20=au row
 e21:a 21=ak row.length
 e22:a 22=ak j
 bl:uw T e B B w0 (sU (k0::(row.take j).map fun t=>c.getD t.toNat 0)) w
def Zr1(T e B:Nat)(w0:World)(H:Nat→Option (Array Value))(c row:List Int)(k0:Int)(m:Nat)(a:AF)(w:World):Prop:=jF H w∧∃j,Ri T e B w0 c row k0 m a w j
def vJ(n:Int):Prop:=0≤n∧n < 10000
theorem ZeU{P:Program}{fi fw fb fs:FuncId}{T e:TypeId}(k:zu P fw fb fs T e)(hi:Ba P fi vJ){c row:List Int}{k0:Int}(hk0:vJ k0)(hc:∀n∈c,vJ n)(hr:∀t∈row,0≤t∧t < c.length)(hlen:row.length≤4000)
  {E:Env} {B:Nat} {w0:World} (hE:BE E B B) (xu:jd P E.H) {Q:Exit→AF→World→Prop} (hQ:∀a w,Ri T e B w0 c row k0 0 a w row.length→jF E.H w→Q (.exit 0) a w) {a:AF} {w:World} (h:Ri T e B w0 c row k0 row.length a w 0) (hH:jF E.H w) :
  jU P E (Rv fi fw fb) Q a w:=by
 unfold Rv;unfold jU;refine⟨Zr1 T e B w0 E.H c row k0,⟨row.length,hH,0,h⟩,?_⟩;rintro m a w ⟨hH,j,hI⟩;by_cases hj:j < row.length
 ·have h1:(j:Int) < row.length:=by omega
  have hget:(row.map ak)[j]? = some (ak row[j]):=by simp[hj]
  have hw:IntKind.i64.wrap ((j:Int)+1)=j+1:=aZ _ (by omega);obtain⟨h2,h3⟩:=hr _ (List.getElem_mem hj);have hcl:row[j].toNat < c.length:=by omega
  have hgc:(c.map ak)[row[j].toNat]? = some (ak c[row[j].toNat]):=by simp[hcl]
  have hgo:=hc _ (List.getElem_mem hcl)
  have ht:(row.take (j+1)).map (fun t=>c.getD t.toNat 0)=(row.take j).map (fun t=>c.getD t.toNat 0)++[c[row[j].toNat]]:=by
   rw[List.take_succ_eq_append_getElem hj,List.map_append];simp[List.getElem?_eq_getElem hcl]
  have hle:(sU (k0::(row.take (j+1)).map fun t=>c.getD t.toNat 0)).length≤22*4001:=by
   have h4:=ZC (l:=k0::(row.take (j+1)).map fun t=>c.getD t.toNat 0) (fun n hn=>by
    simp only[List.mem_cons,List.mem_map] at hn;rcases hn with rfl | ⟨t,ht,rfl⟩
    ·exact hk0
    ·obtain⟨h5,h6⟩:=hr t (List.mem_of_mem_take ht)
     have:t.toNat < c.length:=by omega
     rw[List.getD_eq_getElem?_getD,List.getElem?_eq_getElem this];exact hc _ (List.getElem_mem this))
   rw[←Ug] at h4;simp only[List.length_append,List.length_cons,List.length_map,List.length_take,List.length_nil] at h4;omega
  rw[ht,Y4] at hle;simp only[List.length_append,List.length_cons] at hle;simp[ex,aj,cO,dO,dX,bM,dP,cK,cB,aY,ak,jU,WG,wV,BH,yh,Eff.oP,hI.e1,hI.e7,hI.e20,hI.e21,hI.e22,au,h1,hget,h2,hgc];refine rP.byte k hE hI.bl hH (by omega) (fun w1 b1 hH1=>?_) (c:=44) rfl
  try simp[jv,jk,jX,jO,jG,jY,jP,jI,kF,jW,jN,bZ,gL,eu,fq,gH,d9,fI,gI,gy,eT,gD,eB,fO,gG,fM,dG,dJ,dZ,eX,iq,iw,fG,iy,fC,fB,fu,dD,gT,gU,gV,fJ,fK,iC,gJ,fU,gZ,gW,gY,gX,ig,iD,fZ,iA,fP,fQ,gM,iB,dh,dF,fD,gu,iE,ex,aj,fA,cO,dO,bJ,bO,aD,bE,dX,eU,dn,gP,gQ,gN,gK,fV,bI,cZ,dw,eD,eF,fF,dN,bY,bM,dz,bX,dP,dA,dH,eO,eG,eH,dY,bW,dQ,cK,cB,aY,AV.solid,S0,ak,aG,jU,WG,wV,BH,yh,Eff.oP,hI.e1,hI.e7,hI.e20,hI.e21,hI.e22,au,h1,hget,h2,hgc]
  refine rP.itoa hi hE b1 hgo xu hH1 fun w9 b9 Km=>?_
  refine rP.str k hE b9 Km (by simp only[List.length_append,List.length_cons,List.length_nil];omega) fun w2 b2 hH2=>?_
  refine⟨row.length - (j+1),by have:=hI.hm;omega,hH2,j+1,⟨by omega,rfl,?_,?_,?_,?_,?_,?_⟩⟩
  ·simp[AF.put,bq,hI.e1]
  ·simp[AF.put,bq,hI.e7]
  ·simp[AF.put,bq,hI.e20]
  ·simp[AF.put,bq,hI.e21]
  ·simp[AF.put,bq,hw,ak]
  ·rw[ht,Y4]
   rw[List.append_assoc] at b2;exact b2
 ·have hj2:j=row.length:=by have:=hI.hj;omega
  subst hj2;have h1:¬((row.length:Int) < row.length):=by omega
  simp[ex,aj,cO,cK,cB,ak,jU,WG,wV,yh,Eff.oP,hI.e21,hI.e22,h1];refine hQ _ _ ⟨Nat.le_refl _,by omega,?_,?_,?_,?_,?_,hI.bl⟩ hH
  ·simp[AF.put,bq,hI.e1]
  ·simp[AF.put,bq,hI.e7]
  ·simp[AF.put,bq,hI.e20]
  ·simp[AF.put,bq,hI.e21]
  ·simp[AF.put,bq,hI.e22]
theorem Zkd{P:Program}(hm:P.follows .mixedOrders=true){f fi fw fb fs:FuncId}{T e:TypeId}(h:Is P f (Yz fi fw fb fs) [6] 3)(hT:ze P f T)(k:zu P fw fb fs T e)(hi:Ba P fi vJ){d:aB}(R:bg d){c:List Int}(hcl:c.length=d.next.length)
  (hc:∀n∈c,vJ n) {s:Nat} (hs:s < d.next.length):aM P f [aH d,au c,ak s] (wY (sV d c s)):=by
 obtain⟨fn,co,hf,hnm,hb,hcm,hr,hn⟩:=h
 have hT':Di co=some T:=by
  unfold ze at hT;rw[hf] at hT;simpa[hb] using hT
 refine aM.P5P (T:=T) (e:=e) (args:=[aH d,au c,ak s]) (A:=P9 d c s) hm hf hnm hb hcm hT' hr hn rfl ?_ (fun E B w w0 hE xu hH hB=>?_)
 ·simp
  refine iU.of [] [0] (by omega) ⟨by simp,by simp⟩ ?_ ?_
  ·simp
  ·simp[P9]
   exact .fz _ _ (.ptr 0 0 0 3 [aH d] (aH d) (by simp[only,aD]) (by simp) (.closed _ (dW d)))
 ·unfold Yq
  have hgs:vJ (c.getD s 0):=by
   rw[List.getD_eq_getElem?_getD,List.getElem?_eq_getElem (by omega)];exact hc _ (List.getElem_mem _)
  have hsc:(c.map ak)[s]? = some (ak (c.getD s 0)):=by
   rw[List.getD_eq_getElem?_getD,List.getElem?_map,List.getElem?_eq_getElem (show s < c.length by omega)];rfl
  have hrow:(d.next.map au)[s]? = some (au (d.next.getD s [])):=by
   rw[List.getD_eq_getElem?_getD,List.getElem?_map,List.getElem?_eq_getElem hs];rfl
  have ed:(aH d).cells=[ak d.signs,aN d.next,bA d.fin]:=rfl;have es:(aH d).solid=true:=rfl
  have hrl:(d.next.getD s []).length≤4000:=by
   have:=R.row s hs;have:=R.s2;rw[List.getD_eq_getElem?_getD,List.getElem?_eq_getElem hs,Option.getD_some];omega
  have hra:∀t∈d.next.getD s [],0≤t∧t < c.length:=by
   intro t ht;rw[List.getD_eq_getElem?_getD,List.getElem?_eq_getElem hs,Option.getD_some] at ht;obtain⟨j,hj,rfl⟩:=List.getElem_of_mem ht;rw[hcl];exact R.at_ s hs j hj
  have hz:sU [c.getD s 0]=[]++Lib.itoa (c.getD s 0):=by simp[sU]
  have hvk:sU (sV d c s)=sU (c.getD s 0::((d.next.getD s []).take (d.next.getD s []).length).map fun t=>c.getD t.toNat 0):=by rw[List.take_length];rfl
  generalize hrw:d.next.getD s []=row at *
  generalize hk0:c.getD s 0=k0 at *;simp[ex,aj,cO,dO,dX,bM,bX,dP,dA,aY,ak,jU,WG,wV,yh,Eff.oP,P9,lu,au,hsc];refine rP.itoa hi hE hB hgs xu hH fun w9 b9 Km=>?_
  try simp[jv,jk,jX,jO,jG,jY,jP,jI,kF,jW,jN,bZ,gL,eu,fq,gH,d9,fI,gI,gy,eT,gD,eB,fO,gG,fM,dG,dJ,dZ,eX,iq,iw,fG,iy,fC,fB,fu,dD,gT,gU,gV,fJ,fK,iC,gJ,fU,gZ,gW,gY,gX,ig,iD,fZ,iA,fP,fQ,gM,iB,dh,dF,fD,gu,iE,ex,aj,fA,cO,dO,bJ,bO,aD,bE,dX,eU,dn,gP,gQ,gN,gK,fV,bI,cZ,dw,eD,eF,fF,dN,bY,bM,dz,bX,dP,dA,dH,eO,eG,eH,dY,bW,dQ,cK,cB,aY,AV.solid,S0,ak,aG,jU,WG,wV,BH,yh,Eff.oP,P9,lu,lN,au,hsc]
  refine rP.str k hE b9 Km (by have:=Zj6 hgs;simp only[List.length_nil];omega) fun w2 b2 hH2=>?_
  rw[←hz] at b2
  try simp[eU,Eff.oP,au,aN,hrow]
  refine ZeU k hi hgs hc hra hrl (w0:=w0) hE xu (fun a w' hI V5=>?_) ⟨Nat.zero_le _,by omega,?_,?_,?_,?_,?_,?_⟩ hH2
  ·have e7:=hI.e7
   simp[wV,BH,e7];have hbl:=hI.bl;rw[←hvk] at hbl;refine rP.string k hE hbl V5 fun w2 h2=>?_
   simp[qh,h2]
  ·simp[AF.put,bq,lu,au]
  ·simp[AF.put,bq]
  ·simp[AF.put,bq,au]
  ·simp[AF.put,bq,ak]
  ·simp[AF.put,bq,ak]
  ·simpa using b2
theorem ZhA{K:Type}[DecidableEq K][i:BEq K][LawfulBEq K](k:K)(l:List K):@List.idxOf K instBEqOfDecidableEq k l=@List.idxOf K i k l:=by
 have e:∀a b:K,(@BEq.beq K instBEqOfDecidableEq a b)=@BEq.beq K i a b:=fun a b=>by
  by_cases h:a=b
  ·exact(decide_eq_true h).trans (beq_iff_eq.mpr h).symm
  ·exact(decide_eq_false h).trans (beq_eq_false_iff_ne.mpr h).symm
 have e2:@instBEqOfDecidableEq K _=i:=by
  cases i with
  | mk f=>exact congrArg BEq.mk (funext fun a=>funext fun b=>e a b)
 rw[e2]
theorem MN(l:List Int):aV (wY l):=.v _
theorem ZpT(l:List (List Int)):∀x∈(bQ l).2,0≤x∧x < l.length:=by
 have h:=y9 l;intro x hx;obtain⟨i,hi,rfl⟩:=List.getElem_of_mem hx;have hil:i < l.length:=by rw[←h.len];exact hi
 have h1:=h.at_ i hil
 rw[List.getElem?_eq_getElem hi,Option.some.injEq] at h1;have h2:=List.idxOf_lt_length_iff.mpr ((h.mem l[i]).mpr (List.getElem_mem hil));have h3:=ZmH l;rw[h1];omega
theorem ZE{d:aB}(R:bg d){c:List Int}(hcl:c.length=d.next.length)(hc:∀n∈c,vJ n){s:Nat}(hs:s < d.next.length):Gl (sV d c s):=by
 have hg:∀i,i < c.length→vJ (c.getD i 0):=fun i hi=>by
  rw[List.getD_eq_getElem?_getD,List.getElem?_eq_getElem hi];exact hc _ (List.getElem_mem hi)
 refine⟨by simp[sV],fun n hn=>?_⟩;simp only[sV,List.mem_cons,List.mem_map] at hn;rcases hn with rfl | ⟨t,ht,rfl⟩
 ·exact hg s (by omega)
 ·rw[List.getD_eq_getElem?_getD,List.getElem?_eq_getElem hs,Option.getD_some] at ht
  obtain⟨j,hj,rfl⟩:=List.getElem_of_mem ht;have:=R.at_ s hs j hj
  exact hg _ (by omega)
abbrev Qd:=(List (List Int)×List Int)×Bool
def Kj(d:aB)(c:List Int)(i:Nat)(s:Qd):Prop:=s.1=bQ ((lT d c).take i)
def Ei(d:aB)(c:List Int)(i:Nat)(s:Qd):List (Nat×AV):=[(1,au c),(2,.ptr 0 0 0),(6,.mp 1),(7,vV s.2 2 (s.1.2.map ak)),(15,ak d.next.length),(16,ak i)]
def Ej(d:aB)(i:Nat)(s:Qd):List (Nat×Option aF):=[(0,some (.arr 3 [aH d])),(1,some (.map (iH wY 0 s.1.1))),(2,vB s.2 1 (s.1.2.map ak))]
theorem Zhy{P:Program}{fv:FuncId}{d:aB}(R:bg d){c:List Int}(hcl:c.length=d.next.length)(hc:∀n∈c,vJ n)(hv:∀s:Nat,s < d.next.length→aM P fv [aH d,au c,ak s] (wY (sV d c s))) :
  bG P 0 (RQ fv) (bR [4,5] (dx (.aL [au (kH d c).2,ak (kH d c).1.length]))) (bC [aH d,au c]) S0:=by
 have hn:=R.n2;simp[RQ,DF];refine Bu d.next.length (Kj d c) (Ei d c) 10 (Ej d) (([],[]),false) (by simp[Kj,bQ]) ?_ ?_
 ·refine iU.of [(0,0),(1,3)] [] (by omega) ⟨by simp,by simp⟩ ?_ ?_
  ·simp[Ej,iH,dW]
   exact xU (by simp[OV])
  ·simp[Ei]
 ·rintro i ⟨⟨ks,ls⟩,o⟩ hi hx
  simp only[Kj] at hx;have ok:=y9 ((lT d c).take i);rw[←hx] at ok;have hvl:=C9 d c;have hll:=ok.len;simp only[List.length_take] at hll;by_cases hlt:i < d.next.length
  ·have hxi:=hv i hlt
   have yO:(lT d c)[i]'(by omega)=sV d c i:=by simp[lT]
   have hsn:bQ ((lT d c).take (i+1))=uX (ks,ls) (sV d c i):=by rw[List.take_succ_eq_append_getElem (by omega),CZ,←hx,yO]
   have hkg:Gl (sV d c i):=ZE R hcl hc hlt
   have hks:∀k∈ks,Gl k:=fun k hk=>by
    have:=(ok.mem k).mp hk;have:=List.mem_of_mem_take this;simp only[lT,List.mem_map,List.mem_range] at this;obtain⟨j,hj,rfl⟩:=this;exact ZE R hcl hc hj
   have hok:eY 8 ls.length 1:=by unfold eY;omega
   generalize hk:sV d c i=k at *;have yN:=fun(km aA:Nat) (S:St) (hg:S.g km=some (.map (iH wY 0 ks)))=>Vf (aA:=aA) ZrR hkg hks hg
   have hlen:=fun(km aA:Nat) (S:St) (hg:S.g km=some (.map (iH wY 0 ks)))=>ZrS (aA:=aA) hg
   by_cases hin:k∈ks
   ·have hst:uX (ks,ls) k=(ks,ls++[(ks.idxOf k:Int)]):=by simp[uX,hin]
    simp[Ei,Ej,hlt];refine aQ.pure hxi (aR (dW d) (aR (bD _) (aR (aX _) bB))) (MN _) ?_;simp[yN,hin,hok];rw[aZ _ (by omega)];refine⟨hlt,((ks,ls++[(ks.idxOf k:Int)]),true),by rw[Kj,hsn,hst],iU.of [(0,0),(1,1),(2,31)] [] (by omega) ⟨by simp,by simp⟩ ?_ ?_⟩
    ·simp[Ej,dW]
     exact⟨xU (xV MN _ _),by rw[ZhA]⟩
    ·simp[Ei]
   ·have hst:uX (ks,ls) k=(ks++[k],ls++[(ks.length:Int)]):=by simp[uX,hin]
    have Pm:=fun(km aA:Nat) (S:St) (hg:S.g km=some (.map (iH wY 0 ks)))=>Oq (aA:=aA) ZrR hkg hks hin hg
    simp[Ei,Ej,hlt];refine aQ.pure hxi (aR (dW d) (aR (bD _) (aR (aX _) bB))) (MN _) ?_;simp[yN,hin,hok,hlen,Pm];rw[aZ _ (by omega)];refine⟨hlt,((ks++[k],ls++[(ks.length:Int)]),true),by rw[Kj,hsn,hst],iU.of [(0,0),(1,1),(2,38)] [] (by omega) ⟨by simp,by simp⟩ ?_ ?_⟩
    ·simp[Ej,dW]
     exact xU (xV MN _ _)
    ·simp[Ei]
  ·have hie:i=d.next.length:=by omega
   have ht:(ks,ls)=kH d c:=by rw[hx,List.take_of_length_le (by omega)];rfl
   have hlen:=fun(km aA:Nat) (S:St) (hg:S.g km=some (.map (iH wY 0 ks)))=>ZrS (aA:=aA) hg
   rw[←ht];simp[Ei,Ej,hie,hlen];refine .EY (.cons (zq ?_ (kZ _)) (.cons (.closed _ (.v _)) .nil));simp
def clI(d:aB)(m:Nat)(s:List Int×Nat):Prop:=
 DC d m s.1 s.2=tL d∧(∃j,DI d j s.1)∧d.next.length < m+s.2∧s.2≤d.next.length∧s.2≤(kH d s.1).1.length∧∀x∈s.1,vJ x
def OX(s:List Int×Nat):List (Nat×AV):=[(1,.ptr 0 0 0),(3,au s.1),(4,ak s.2)]
def OY(d:aB)(_:List Int×Nat):List (Nat×Option aF):=[(0,some (.arr 3 [aH d]))]
theorem Ze7{P:Program}{fc ff:FuncId}{d:aB}(R:bg d)(hc:aM P fc [aH d] (au (tN d)))
  (hf:∀c:List Int,c.length=d.next.length→(∀n∈c,vJ n)→aM P ff [aH d,au c] (.aL [au (kH d c).2,ak (kH d c).1.length])) :
  bG P 0 (RJ fc ff) (bR [2] (dx (au (tL d)))) (bC [aH d]) S0:=by
 have hn:=R.n2;simp[RJ];refine aQ.pure hc (aR (dW d) bB) (bD _) ?_;simp;refine ZhX (clI d) OX 10 (OY d) (d.next.length+1) (tN d,0) ⟨rfl,⟨0,Zc R⟩,by simp,by simp,by simp,fun x hx=>?_⟩ ?_ ?_
 ·simp only[tN,List.mem_map] at hx
  obtain⟨b,_,rfl⟩:=hx;unfold vJ;split<;>omega
 ·refine iU.of [(0,0)] [] (by omega) ⟨by simp,by simp⟩ ?_ ?_
  ·simp[OY,dW]
  ·simp[OX]
 ·rintro m ⟨c,n⟩ ⟨h1,⟨j,h2⟩,h3,h4,h5,h6⟩
  simp only at h1 h2 h3 h4 h5 h6;obtain⟨a1,a2,a3,a4⟩:=MO R h2;obtain⟨m,rfl⟩:∃m',m=m'+1:=⟨m - 1,by omega⟩;rw[DC] at h1;simp[OX,OY];refine aQ.pure (hf c h2.len h6) (aR (dW d) (aR (bD _) bB)) (.aL _ (aR (bD _) (aR (aX _) bB))) ?_;by_cases he:(kH d c).1.length=n
  ·rw[if_pos he] at h1
   simp[he,h1];exact .closed _ (bD _)
  ·rw[if_neg he] at h1
   have he':(((kH d c).1.length:Int) == (n:Int))=false:=by simp;omega
   simp[he'];refine⟨m,((kH d c).2,(kH d c).1.length),by omega,⟨h1,⟨_,MI R h2⟩,by omega,a2,a1,fun x hx=>?_⟩,iU.of [(0,0)] [] (by omega) ⟨by simp,by simp⟩ ?_ ?_⟩
   ·have:=ZpT _ x hx
    rw[C9] at this;exact⟨this.1,by omega⟩
   ·simp[OY,dW]
   ·simp[OX]
def Z5:AC:= (.block 2 (.loop (sq [ro 48 (.bin .lss (.t 47) (.t 46))] (.seq (.cond (.t 48) .skip (.exit 2)) (.seq (.block 3 (sq [rm 49 47,ro 50 (.aI 1 (.t 45) (.t 47)),rL 51 50,rm 10 49,rm 11 51] (sq [rm 53 5,rm 54 4,rm 55 11,ro 56 (.aI 1 (.t 54) (.t 55)),rL 57 56,ro 58 (.look (.int .i64) (.v (.int .i64 0)) true (.t 53) (.t 57)),rm 52 58,ro 59 (.ext 0 (.t 52)),ro 60 (.ext 1 (.t 52)),rm 12 59,rm 13 60] (.seq (sq [rm 61 13,ro 62 (.un .not (.t 61))] (.cond (.t 62) (sq [rm 63 6,ro 64 (.len (.t 63)),rm 12 64] (sq [rm 65 5,rm 66 4,rm 67 11,ro 68 (.aI 1 (.t 66) (.t 67)),rL 69 68,rm 70 12,rn (.zI (.int .i64) (.t 65) (.t 69) (.t 70))] (.reg none [rm 71 6,rm 72 11,ro 73 (.bS 1 1 (.v (.int .i64 0)) [(0,(.t 72))]),ro 74 (.app 1 8 (.t 71) (.t 73)),rm 6 74]))) .skip)) (.reg none [rm 75 9,rm 76 10,rm 77 12,ro 78 (.aI 1 (.t 75) (.t 76)),rn (.store 1 (.t 78) (.t 77))]))))) (.reg none [ro 79 (.bin .add (.t 47) (ci 1)),rm 47 79]))))))
def ZY:AC:= (.reg (some [[],[],[],[],[],[true],[false,true],[false,false,true],[false,false,false,true],[false,false,false,false,true],[false,false,false,false,false,true],[false,false,false,false,false,false,true],[false,false,false,false,false,false,false,true],[false,false,false,false,false,false,false,false,true],[false,false,false,false,false,false,false,false,false,true],[false,false,false,false,false,false,false,false,false,false,true],[],[true]]) [rF 80 1 7,rL 81 80,rm 82 9,ro 83 (.bS 1 1 (.sl true []) [(0,(.t 82))]),ro 84 (.app 1 24 (.t 81) (.t 83)),rF 85 2 7,rL 86 85,rF 87 2 1,rL 88 87,rm 89 6,rm 90 8,ro 91 (.aI 1 (.t 89) (.t 90)),rL 92 91,ro 93 (.aI 1 (.t 88) (.t 92)),rL 94 93,ro 95 (.bS 1 1 (.v (.bool false)) [(0,(.t 94))]),ro 96 (.app 1 1 (.t 86) (.t 95)),rF 97 1 7,rn (.store 1 (.t 97) (.t 84)),rF 98 2 7,rn (.store 1 (.t 98) (.t 96))])
def Z4:AC:= (.block 0 (.loop (.seq (sq [rm 29 8,rm 30 6,ro 31 (.len (.t 30)),ro 32 (.bin .lss (.t 29) (.t 31))] (.cond (.t 32) .skip (.exit 0))) (.seq (.block 1 (sq [rF 35 0 1,rL 36 35,ro 37 (.um 1 8 (.v (.int .i64 0)) (.t 36) (.t 36)),rm 9 37] (.seq (.seq (.reg (some []) [rF 38 1 1,rL 39 38,rm 40 6,rm 41 8,ro 42 (.aI 1 (.t 40) (.t 41)),rL 43 42,ro 44 (.aI 1 (.t 39) (.t 43)),rL 45 44,ro 46 (.len (.t 45)),ro 47 (.mv (ci 0))]) Z5) ZY))) (.reg none [rm 33 8,ro 34 (.bin .add (.t 33) (ci 1)),rm 8 34])))))
def Z0:AC:= (sq [ro 99 (.load (some 3) (.t 7)),rn (.store 3 (.t 2) (.t 99)),ro 3 (.mv (ci 0))] .ret)
def Sj(Bh P4j:FuncId):AC:= (sq [ro 1 (.box 3 (.t 0)),ro 2 (.alloc (.agg [(.v (.int .i64 0)),(.sl true []),(.sl true [])]) 3),ro 3 (.mv (ci 0))] (.seq (sq [ro 14 (.load (some 3) (.t 1)),rk 15 Bh [(.t 14)],ro 16 (.un .not (.t 15))] (.cond (.t 16) (sq [ro 17 (.build (.agg [(.v (.int .i64 0)),(.sl true []),(.sl true [])]) [] []),rn (.store 3 (.t 2) (.t 17)),ro 3 (.mv (ci 1))] .ret) .skip)) (sq [ro 18 (.load (some 3) (.t 1)),rk 19 P4j [(.t 18)],rm 4 19] (sq [ro 20 (.Cm),rm 21 4,ro 22 (.aI 1 (.t 21) (ci 0)),rL 23 22,rn (.zI (.int .i64) (.t 20) (.t 23) (ci 0)),rm 24 20,rm 5 24] (sq [ro 25 (.bS 1 1 (.v (.int .i64 0)) [(0,(ci 0))]),rm 6 25] (sq [rF 26 0 1,rL 27 26,ro 28 (.build (.agg [(.v (.int .i64 0)),(.sl true []),(.sl true [])]) [(0,1)] [(0,(.t 27))]),ro 7 (.alloc (.agg [(.v (.int .i64 0)),(.sl true []),(.sl true [])]) 3),rn (.store 3 (.t 7) (.t 28))] (.seq (sq [ro 8 (.mv (ci 0))] Z4) Z0)))))))
def Av(l:List Nat):List Int:=l.map fun(q:Nat)=>(q:Int)
theorem ZgI(l:List Nat):(Av l).length=l.length:=by simp[Av]
theorem Zjr(l:List Nat)(q:Nat):Av (l++[q])=Av l++[(q:Int)]:=by simp[Av]
theorem ZgH{l:List Nat}{i q:Nat}(h:l[i]? = some q):(Av l)[i]? = some (q:Int):=by simp[Av,h]
theorem VE:zl (.int .i64) (fun _:Int=>True) ak:=
 ⟨fun _=>rfl,fun x y _ _=>by
  have:qD (ak x) (ak y)=(x == y):=rfl;rw[this];by_cases h:x=y
  ·subst h;simp
  ·simp[h]⟩
def DT(d:aB):aB×Int:=if fE d=true then (sD d,0) else (⟨0,[],[]⟩,1)
abbrev Qh:=(List Int×List Int×List (List Int)×List Bool)×(Bool×Bool×Bool)
def loI(d:aB)(c:List Int)(i:Nat)(s:Qh):Prop:=s.1=(Av (oO d c i).1,(oO d c i).1.map (jw c),(oO d c i).2)∧∀m,m < i→m < (oO d c m).1.length
def wZ(c:List Int)(i:Nat)(os:List Int)(o:Bool):List (Nat×AV):=[(1,.ptr 0 0 0),(2,.ptr 1 0 0),(4,au c),(5,.mp 3),(6,vV o 4 (os.map ak)),(7,.ptr 2 0 0),(8,ak i)]
def xg(d:aB)(os ks:List Int)(nx:List (List Int))(en:List Bool)(o oN oE:Bool):List (Nat×Option aF):=
 [(0,some (.arr 3 [aH d])),(1,some (.arr 3 [oM])),(2,some (.arr 3 [.agg [ak d.signs,vV oN 5 (nx.map au),vV oE 6 (en.map aG)]])),(3,some (.map (iH ak 0 ks))),(4,vB o 1 (os.map ak)),(5,vB oN 1 (nx.map au)),(6,vB oE 1 (en.map aG))]
def KI(c:List Int)(i:Nat)(s:Qh):List (Nat×AV):=wZ c i s.1.1 s.2.1
def KJ(d:aB)(_:Nat)(s:Qh):List (Nat×Option aF):=xg d s.1.1 s.1.2.1 s.1.2.2.1 s.1.2.2.2 s.2.1 s.2.2.1 s.2.2.2
abbrev Qi:=(List Int×List Int×List Int)×Bool
def lrI(d:aB)(c:List Int)(q:Nat)(one:List Nat)(k:Nat)(s:Qi):Prop:=
 s.1.1=Av (pU c (fun s=>bN d q s) k one).1∧s.1.2.1=(pU c (fun s=>bN d q s) k one).1.map (jw c)∧s.1.2.2.length=d.signs.toNat∧s.1.2.2.take k=(pU c (fun s=>bN d q s) k one).2
def Et(d:aB)(c:List Int)(i:Nat)(row:List Int)(k:Nat)(s:Qi):List (Nat×AV):=(9,.own 7 0 d.signs.toNat)::(45,au row)::(46,ak d.signs)::(47,ak k)::wZ c i s.1.1 s.2
def Eu(d:aB)(nx:List (List Int))(en:List Bool)(oN oE:Bool)(_:Nat)(s:Qi):List (Nat×Option aF):=(7,some (.arr 1 (s.1.2.2.map ak)))::xg d s.1.1 s.1.2.1 nx en s.2 oN oE
theorem Zh{gF:Nat→Option aF}{R:Nat→Nat→Prop}(rV:List Int)(k:Nat)(v:Int):iX gF R ((List.map ak rV).set k (.v (.int .i64 v))) ((List.map ak rV).set k (.v (.int .i64 v))):=by
 have:(List.map ak rV).set k (.v (.int .i64 v))=List.map ak (rV.set k v):=by rw[List.map_set];rfl
 rw[this];exact iX.cl (kZ _)
theorem Zz(l:List Int)(k:Nat)(v:Int)(h:k < l.length):(l.set k v).take (k+1)=l.take k++[v]:=by
 rw[List.take_succ_eq_append_getElem (by simpa using h),List.take_set_of_le (Nat.le_refl _)];simp
theorem Zdt{P:Program}{fr fc:FuncId}{d:aB}(hr:aM P fr [aH d] (aG (fE d)))(hc:bg d→aM P fc [aH d] (au (tL d))) :
  bG P 0 (Sj fr fc) (iI [.c 2 (some 3),.t 3] (dx (sQ (DT d)))) (bC [aH d]) S0:=by
 have ed:(aH d).cells=[ak d.signs,aN d.next,bA d.fin]:=rfl;simp[Sj];refine aQ.pure hr (aR (dW d) bB) (cu _) ?_;cases hb:fE d with
 | false=>
  have hz:DT d=(⟨0,[],[]⟩,1):=by simp[DT,hb]
  rw[hz];simp[iI,iJ,RV.ev,jD,iO,jH,jh];exact Bz _ 1
 | true=>
  have R:=(wQ d).mp hb;have hz:DT d=(sD d,0):=by simp[DT,hb]
  rw[hz];have C:=YM R;have hn1:=R.n1;have hn2:=R.n2;have hs1:=R.s1;have hs2:=R.s2;have hcl:=C.len;have hc0:(0:Nat) < (tL d).length:=by omega
  simp;refine aQ.pure (hc R) (aR (dW d) bB) (bD _) ?_;have hspec:=R6 R;have hlD:sD d=⟨d.signs,(kY d).2.1,(kY d).2.2⟩:=rfl;generalize hcc:tL d=c at *;have aai:=fun(km aA:Nat) (S:St) (hg:S.g km=some (.map []))=>Oq (ks:=[]) (x:=c[0]) (aA:=aA) VE trivial (by simp) (by simp) hg
  simp[iH,ak] at aai;simp[DF,hc0,aai,jH,jh,Z4];refine Bu (d.next.length+1) (loI d c) (KI c) 10 (KJ d) (([0],[jw c 0],[],[]),(false,false,false)) ⟨rfl,fun m hm=>by omega⟩ ?_ ?_
  ·refine iU.of [(0,0),(1,1),(2,21),(3,9)] [] (by omega) ⟨by simp,by simp⟩ ?_ ?_
   ·simp[KJ,xg,oM,dW,iH]
    have aaK:c[0]=jw c 0:=by rw[jw,List.getD_eq_getElem?_getD,List.getElem?_eq_getElem hc0];rfl
    rw[aaK];exact xU (xV (enc:=ak) aX [jw c 0] 0)
   ·simp[KI,wZ]
    exact .cl (.sl _ _ (aR (aX _) bB))
  ·rintro i ⟨⟨os,ks,nx,en⟩,oo,oN,oE⟩ hi ⟨heq,hmin⟩
   simp only[Prod.mk.injEq] at heq;obtain⟨ho,hk,hne⟩:=heq;have ok:=JF R c i hmin;have hle:=ok.le;have hlen:=ok.len;have hnd:=ok.nd;generalize hst:oO d c i=st at *;obtain⟨one,nx',en'⟩:=st;simp only[Prod.mk.injEq] at ho hk hne hle hlen hnd;obtain⟨rfl,rfl⟩:=hne;have hol:os.length=one.length:=by rw[ho,ZgI]
   by_cases hlt:i < one.length
   ·obtain⟨q,hq⟩:∃q,one[i]? = some q:=⟨_,List.getElem?_eq_getElem hlt⟩
    have Cj:q < d.next.length:=ok.lt q (by obtain⟨h1,h2⟩:=List.getElem?_eq_some_iff.mp hq;rw[←h2];exact List.getElem_mem h1)
    have hoi:i < os.length:=by omega
    have hoq:os[i]? = some (q:Int):=by rw[ho];exact ZgH hq
    obtain⟨_,ab3⟩:=List.getElem?_eq_some_iff.mp hoq;have hrl:((d.next[q]).length:Int)=d.signs:=R.row q Cj;have hsa:=fun(k:Nat) (h:(k:Int) < d.signs)=>zX R Cj (s:=(k:Int)) (by omega) h
    have hgq:d.next.getD q []=d.next[q]:=by rw[List.getD_eq_getElem?_getD,List.getElem?_eq_getElem Cj];rfl
    have hfl:q < d.fin.length:=by have:=R.fin;omega
    have Pb:d.fin[q]=jL d q:=by rw[jL,List.getD_eq_getElem?_getD,List.getElem?_eq_getElem hfl];rfl
    have Wp:(i:Int) < os.length:=by omega
    have hm0:(0:Int)≤d.signs:=by omega
    have hmk:8*d.signs≤281474976710656:=by omega
    have KC:d.signs≤9223372036854775807:=by omega
    have hnx:oO d c (i+1)=((pU c (fun s=>bN d q s) d.signs.toNat one).1,nx++[(pU c (fun s=>bN d q s) d.signs.toNat one).2],en++[jL d q]):=by
     simp only[oO,hst,PS,hq]
    generalize hrow:d.next[q]=row at *
    simp[KI,wZ,KJ,xg,Wp,yj,hm0,hmk,KC,hoi,ab3,Cj,hrl,hrow,Z5];refine Bu d.signs.toNat (lrI d c q one) (Et d c i row) 10 (Eu d nx en oN oE) ((os,ks,List.replicate d.signs.toNat 0),oo) ⟨ho,hk,by simp,by simp[pU]⟩ ?_ ?_
    ·refine iU.of [(0,0),(1,1),(2,2),(3,3),(4,4),(5,5),(6,6),(7,16)] [] (by omega) ⟨by simp,by simp⟩ ?_ ?_
     ·simp[Eu,xg,oM,dW]
      exact xU (xV aX _ _)
     ·simp[Et,wZ]
    ·rintro k ⟨⟨os1,AO,rw⟩,o1⟩ hkn ⟨h1,h2,h3,h4⟩
     simp only at h1 h2 h3 h4;have hro:=Ud (c:=c) (t:=fun s=>bN d q s) hnd k;have hlr:pU c (fun s=>bN d q s) (k+1) one=((tX c (pU c (fun s=>bN d q s) k one).1 (bN d q k)).1,(pU c (fun s=>bN d q s) k one).2++[((tX c (pU c (fun s=>bN d q s) k one).1 (bN d q k)).2:Int)]):=rfl;generalize hp:pU c (fun s=>bN d q s) k one=p at *;obtain⟨iK,r⟩:=p;simp only at h1 h2 h4 hlr hro;have Wq:os1.length=iK.length:=by rw[h1,ZgI]
     have aaV:AO.length=iK.length:=by rw[h2,List.length_map]
     have hle1:iK.length≤d.next.length:=by
      refine MW _ _ ((List.pairwise_map.mp hro.nd).imp (fun h e=>h (congrArg _ e))) (fun x hx=>?_);rcases hro.new x hx with h | ⟨s,hs,rfl⟩
      ·exact ok.lt x h
      ·exact wR R Cj (by omega) (by omega)
     by_cases hkl:(k:Int) < d.signs
     ·obtain⟨hj,hs1,hs2⟩:=hsa k hkl
      have hkn':k < d.signs.toNat:=by omega
      have hkr:k < row.length:=by omega
      have hs3:row[k]=(bN d q k:Int):=hs1;generalize ht:bN d q k=t at *;have htc:t < c.length:=by omega
      have hct:c[t]=jw c t:=by rw[jw,List.getD_eq_getElem?_getD,List.getElem?_eq_getElem htc];rfl
      have zD:k < rw.length:=by omega
      have hkm:(k:Int) < max d.signs 0:=by omega
      have hrw:d.signs≤rw.length:=by omega
      have yN:=fun(km aA:Nat) (S:St) (hg:S.g km=some (.map (iH ak 0 AO)))=>Vf (x:=jw c t) (aA:=aA) VE trivial (fun _ _=>trivial) hg
      simp only[ak] at yN;have hok:eY 8 os1.length 1:=by unfold eY;omega
      by_cases hin:jw c t∈AO
      ·have hln:tX c iK t=(iK,AO.idxOf (jw c t)):=by rw[tX,←h2,if_pos hin]
       rw[hln] at hlr;simp[Et,wZ,Eu,xg,hkl,hkr,hs3,htc,hct,yN,hin,zD,hkm,hrw];rw[aZ _ (by omega)];refine⟨hkn',((os1,AO,rw.set k (AO.idxOf (jw c t))),o1),⟨by rw[hlr];exact h1,by rw[hlr];exact h2,by simpa using h3,?_⟩,iU.of [(0,0),(1,1),(2,2),(3,3),(4,4),(5,5),(6,6),(7,7)] [] (by omega) ⟨by simp,by simp⟩ ?_ ?_⟩
       ·simp only;rw[hlr,Zz _ _ _ zD,h4]
       ·simp[Eu,xg,oM,dW]
        exact⟨Zh _ _ _,xU (xV aX _ _)⟩
       ·simp[Et,wZ]
      ·have hln:tX c iK t=(iK++[t],iK.length):=by rw[tX,←h2,if_neg hin]
       rw[hln] at hlr;have Pm:=fun(km aA:Nat) (S:St) (hg:S.g km=some (.map (iH ak 0 AO)))=>Oq (x:=jw c t) (aA:=aA) VE trivial (fun _ _=>trivial) hin hg
       simp only[ak,aaV,←Wq] at Pm;simp[Et,wZ,Eu,xg,hkl,hkr,hs3,htc,hct,yN,hin,zD,Pm,hok,hkm,hrw];rw[aZ _ (by omega)];refine⟨hkn',((os1++[(t:Int)],AO++[jw c t],rw.set k os1.length),true),⟨by rw[hlr];simp only;rw[Zjr,h1],by rw[hlr];simp only;rw[List.map_append,h2];rfl,by simpa using h3,?_⟩,iU.of [(0,0),(1,1),(2,2),(3,3),(4,42),(5,5),(6,6),(7,7)] [] (by omega) ⟨by simp,by simp⟩ ?_ ?_⟩
       ·simp only;rw[hlr,Zz _ _ _ zD,h4,Wq]
       ·simp[Eu,xg,oM,dW]
        exact⟨Zh _ _ _,xU (xV aX _ _)⟩
       ·simp[Et,wZ]
     ·have hke:k=d.signs.toNat:=by omega
      have hrr:rw=r:=by rw[←h4,hke,←h3,List.take_length]
      have Pv:eY 24 nx.length 1:=by have:=ok.nx;simp only at this;unfold eY;omega
      have Pt:eY 1 en.length 1:=by have:=ok.en;simp only at this;unfold eY;omega
      have hpre:=hro.pre i q hq;have ab1:i < os1.length:=by rw[Wq];exact(List.getElem?_eq_some_iff.mp hpre).1
      have ab2:os1[i]? = some (q:Int):=by rw[h1];exact ZgH hpre
      obtain⟨_,ab4⟩:=List.getElem?_eq_some_iff.mp ab2;simp[Et,wZ,Eu,xg,hkl,ab1,ab4,hfl,Pb,Pv,Pt,ZY];rw[aZ _ (by omega)];refine⟨by rintro j (⟨_,rfl⟩ | rfl)<;>simp,by rintro j (⟨_,rfl⟩ | rfl)<;>simp,by rintro j (⟨_,rfl⟩ | rfl)<;>simp,by omega,((os1,AO,nx++[rw],en++[jL d q]),(o1,true,true)),⟨?_,fun m hm=>?_⟩,iU.of [(0,0),(1,1),(2,2),(3,3),(4,4),(5,15),(6,27)] [7] (by omega) ⟨by simp,by simp⟩ ?_ ?_⟩
      ·simp only;rw[hnx,←hke,hp,h1,h2,hrr]
      ·by_cases lW:m=i
       ·subst lW;rw[hst];exact hlt
       ·exact hmin m (by omega)
      ·simp[KJ,xg,oM,dW,h3]
       exact xU (xV aX _ _)
      ·simp[KI,wZ]
   ·have hie:i=one.length:=by omega
    have hlast:kY d=(one,nx,en):=by
     obtain⟨k,e1,e2,e3,e4⟩:=hspec
     have hki:k=i:=by
      rcases Nat.lt_trichotomy k i with h | h | h
      ·have:=hmin k h
       rw[←e1] at this;omega
      ·exact h
      ·have:=e3 i h
       rw[hst] at this;simp only at this;omega
     rw[e1,hki,hst]
    rw[hlD,hlast];have Wp:¬(i:Int) < os.length:=by omega
    simp[KI,wZ,KJ,xg,Wp,Z0,iI,iJ,RV.ev,jD,iO,oM];refine .EY (.cons (.IK (.cons (.closed _ (.v _)) (.cons (zq ?_ (kX _)) (.cons (zq ?_ (om _)) .nil)))) (.cons (.closed _ (.v _)) .nil))
    ·simp
    ·simp
def Zik:AC:= (.block 2 (.loop (.seq (sq [rm 19 7,rm 20 6,ro 21 (.bin .lss (.t 19) (.t 20)),rm 22 21,rg 23 22 true (.mv (.t 3)),rg 24 22 true (.mv (.t 6)),rg 25 22 true (.aI 1 (.t 23) (.t 24)),rg 26 22 true (.load none (.t 25)),rg 27 22 true (.mv (.t 7)),rg 28 22 true (.aI 1 (.t 26) (.t 27)),rg 29 22 true (.load none (.t 28)),ro 30 (.pick (.t 22) (.t 29) (.c (.v (.bool false))))] (.cond (.t 30) .skip (.exit 2))) (.block 3 (.reg none [rm 31 7,ro 32 (.bin .add (.t 31) (ci 1)),rm 7 32])))))
def ZkO:AC:= (sq [rm 33 7,rm 34 6,ro 35 (.bin .lss (.t 33) (.t 34))] (.cond (.t 35) (.reg none [rm 36 4,rm 37 4,rm 38 7,ro 39 (.aI 1 (.t 37) (.t 38)),rL 40 39,ro 41 (.bS 1 1 (.v (.int .i64 0)) [(0,(.t 40))]),ro 42 (.app 1 8 (.t 36) (.t 41)),rm 4 42]) (sq [rm 43 4,rm 44 5,ro 45 (.bS 1 1 (.v (.int .i64 0)) [(0,(.t 44))]),ro 46 (.app 1 8 (.t 43) (.t 45)),rm 4 46] (.reg none [rm 47 5,ro 48 (.bin .add (.t 47) (ci 1)),rm 5 48]))))
def Z7D(yT P37:FuncId):AC:= (sq [ro 1 (.box 3 (.t 0)),ro 2 (.mv (.c (.sl true [])))] (.seq (sq [ro 8 (.load (some 3) (.t 1)),rk 9 yT [(.t 8)],ro 10 (.un .not (.t 9))] (.cond (.t 10) (sq [ro 2 (.mv (.c (.sl true [])))] .ret) .skip)) (sq [ro 11 (.load (some 3) (.t 1)),rk 12 P37 [(.t 11)],rm 3 12] (sq [ro 4 (.mv (.c (.sl true [])))] (sq [ro 5 (.mv (ci 0))] (.seq (sq [ro 6 (.mv (ci 0))] (.block 0 (.loop (.seq (sq [rm 13 6,rm 14 3,ro 15 (.len (.t 14)),ro 16 (.bin .lss (.t 13) (.t 15))] (.cond (.t 16) .skip (.exit 0))) (.seq (.block 1 (sq [ro 7 (.mv (ci 0))] (.seq Zik ZkO))) (.reg none [rm 17 6,ro 18 (.bin .add (.t 17) (ci 1)),rm 6 18])))))) (sq [rm 49 4,rm 2 49] .ret)))))))
def ZkP:AC:= (.reg (some [[],[],[],[],[],[true],[false,true],[false,false,true],[false,false,false,true],[false,false,false,false,true],[false,false,false,false,false,true],[false,false,false,false,false,false,true],[false,false,false,false,false,false,false,true],[false,false,false,false,false,false,false,false,true],[false,false,false,false,false,false,false,false,false,true],[false,false,false,false,false,false,false,false,false,false,true],[],[true]]) [rF 77 1 6,rL 78 77,rm 79 8,ro 80 (.bS 1 1 (.sl true []) [(0,(.t 79))]),ro 81 (.app 1 24 (.t 78) (.t 80)),rF 82 2 6,rL 83 82,rF 84 2 1,rL 85 84,rm 86 5,rm 87 7,ro 88 (.aI 1 (.t 86) (.t 87)),rL 89 88,ro 90 (.aI 1 (.t 85) (.t 89)),rL 91 90,ro 92 (.bS 1 1 (.v (.bool false)) [(0,(.t 91))]),ro 93 (.app 1 1 (.t 83) (.t 92)),rF 94 1 6,rn (.store 1 (.t 94) (.t 81)),rF 95 2 6,rn (.store 1 (.t 95) (.t 93))])
def Zil:AC:= (.block 4 (.loop (.seq (.seq (.reg (some []) [rm 45 11,rm 46 5,ro 47 (.len (.t 46)),ro 48 (.bin .lss (.t 45) (.t 47)),rm 49 48,rg 50 49 true (.mv (.t 4)),rg 51 49 true (.mv (.t 5)),rg 52 49 true (.mv (.t 11)),rg 53 49 true (.aI 1 (.t 51) (.t 52)),rg 54 49 true (.load none (.t 53)),rg 55 49 true (.aI 1 (.t 50) (.t 54)),rg 56 49 true (.load none (.t 55)),rg 57 49 true (.mv (.t 4)),rg 58 49 true (.mv (.t 10)),rg 59 49 true (.aI 1 (.t 57) (.t 58)),rg 60 49 true (.load none (.t 59)),rg 61 49 true (.bin .neq (.t 56) (.t 60)),ro 62 (.pick (.t 49) (.t 61) (.c (.v (.bool false))))]) (.cond (.t 62) .skip (.exit 4))) (.block 5 (.reg none [rm 63 11,ro 64 (.bin .add (.t 63) (ci 1)),rm 11 64])))))
def ZkS:AC:= (.block 2 (.loop (.seq (sq [rm 28 9,rF 29 0 1,rL 30 29,ro 31 (.bin .lss (.t 28) (.t 30))] (.cond (.t 31) .skip (.exit 2))) (.seq (.block 3 (.seq (.reg (some []) [rF 34 1 1,rL 35 34,rm 36 5,rm 37 7,ro 38 (.aI 1 (.t 36) (.t 37)),rL 39 38,ro 40 (.aI 1 (.t 35) (.t 39)),rL 41 40,rm 42 9,ro 43 (.aI 1 (.t 41) (.t 42)),rL 44 43,rm 10 44]) (sq [ro 11 (.mv (ci 0))] (.seq Zil (.seq (sq [rm 65 11,rm 66 5,ro 67 (.len (.t 66)),ro 68 (.bin .eql (.t 65) (.t 67))] (.cond (.t 68) (.reg none [rm 69 5,rm 70 10,ro 71 (.bS 1 1 (.v (.int .i64 0)) [(0,(.t 70))]),ro 72 (.app 1 8 (.t 69) (.t 71)),rm 5 72]) .skip)) (.reg none [rm 73 8,rm 74 11,ro 75 (.bS 1 1 (.v (.int .i64 0)) [(0,(.t 74))]),ro 76 (.app 1 8 (.t 73) (.t 75)),rm 8 76])))))) (.reg none [rm 32 9,ro 33 (.bin .add (.t 32) (ci 1)),rm 9 33])))))
def ZkR:AC:= (.block 0 (.loop (.seq (sq [rm 22 7,rm 23 5,ro 24 (.len (.t 23)),ro 25 (.bin .lss (.t 22) (.t 24))] (.cond (.t 25) .skip (.exit 0))) (.seq (.block 1 (sq [ro 8 (.mv (.c (.sl true [])))] (.seq (sq [ro 9 (.mv (ci 0))] ZkS) ZkP))) (.reg none [rm 26 7,ro 27 (.bin .add (.t 26) (ci 1)),rm 7 27])))))
def ZkQ:AC:= (sq [ro 96 (.load (some 3) (.t 6)),rn (.store 3 (.t 2) (.t 96)),ro 3 (.mv (ci 0))] .ret)
def Z9S(yT P2G:FuncId):AC:= (sq [ro 1 (.box 3 (.t 0)),ro 2 (.alloc (.agg [(.v (.int .i64 0)),(.sl true []),(.sl true [])]) 3),ro 3 (.mv (ci 0))] (.seq (sq [ro 12 (.load (some 3) (.t 1)),rk 13 yT [(.t 12)],ro 14 (.un .not (.t 13))] (.cond (.t 14) (sq [ro 15 (.build (.agg [(.v (.int .i64 0)),(.sl true []),(.sl true [])]) [] []),rn (.store 3 (.t 2) (.t 15)),ro 3 (.mv (ci 1))] .ret) .skip)) (sq [ro 16 (.load (some 3) (.t 1)),rk 17 P2G [(.t 16)],rm 4 17] (sq [ro 18 (.bS 1 1 (.v (.int .i64 0)) [(0,(ci 0))]),rm 5 18] (sq [rF 19 0 1,rL 20 19,ro 21 (.build (.agg [(.v (.int .i64 0)),(.sl true []),(.sl true [])]) [(0,1)] [(0,(.t 20))]),ro 6 (.alloc (.agg [(.v (.int .i64 0)),(.sl true []),(.sl true [])]) 3),rn (.store 3 (.t 6) (.t 21))] (.seq (sq [ro 7 (.mv (ci 0))] ZkR) ZkQ))))))
def Z9Y:AC:= (sq [ro 4 (.mv (ci 0))] (.seq (.reg (some [[],[],[],[],[],[],[],[],[],[false,false,false,false,false,false,false,true,true],[true],[false,true],[false,false,true],[false,false,false,true],[false,false,false,false,true],[false,false,false,false,false,true],[false,false,false,false,false,false,false,false,false,false,false,false,false,false,true,true],[],[],[],[false,false,false,false,false,false,false,false,false,false,false,false,false,false,false,false,false,false,true]]) [rm 5 0,rm 6 0,rm 7 0,ro 8 (.fH (.t 7)),rF 9 0 8,rF 10 1 9,rL 11 10,rm 12 1,ro 13 (.bS 1 1 (.sl true []) [(0,(.t 12))]),ro 14 (.app 1 24 (.t 11) (.t 13)),rm 15 0,ro 16 (.fH (.t 15)),rF 17 0 16,rF 18 2 17,rL 19 18,ro 20 (.bS 1 1 (.sl true []) [(0,(.c (.sl true [])))]),ro 21 (.app 1 24 (.t 19) (.t 20)),ro 22 (.fH (.t 5)),rF 23 0 22,rF 24 1 23,rn (.store 1 (.t 24) (.t 14)),ro 25 (.fH (.t 6)),rF 26 0 25,rF 27 2 26,rn (.store 1 (.t 27) (.t 21))]) (sq [rm 28 0,ro 29 (.fH (.t 28)),rF 30 0 29,rF 31 1 30,rL 32 31,ro 33 (.len (.t 32)),ro 34 (.bin .sub (.t 33) (ci 1)),rm 4 34] .ret)))
def Znh(sM pV:FuncId):AC:= (.loop (sq [ro 11 (.bin .lss (.t 10) (.t 9))] (.seq (.cond (.t 11) .skip (.exit 0)) (.seq (.block 1 (sq [ro 12 (.aI 1 (.t 8) (.t 10)),rL 13 12,rm 7 13] (.reg (some []) [rm 14 0,ro 15 (.fH (.t 14)),rF 16 0 15,rF 17 2 16,rL 18 17,rm 19 7,rm 20 0,ro 21 (.fH (.t 20)),rF 22 0 21,rF 23 2 22,rL 24 23,rm 25 7,ro 26 (.aI 1 (.t 24) (.t 25)),rL 27 26,rm 28 2,ro 29 (.bS 1 2 (.sl true []) [(0,(.t 27)),(1,(.t 28))]),rk 30 sM [(.t 29)],rk 31 pV [(.t 30)],ro 32 (.aI 1 (.t 18) (.t 19)),rn (.store 1 (.t 32) (.t 31))]))) (.reg none [ro 33 (.bin .add (.t 10) (ci 1)),rm 10 33])))))
def Z9n(sM pV:FuncId):AC:= (sq [rm 8 1,ro 9 (.len (.t 8)),ro 10 (.mv (ci 0))] (.block 0 (Znh sM pV)))
abbrev ZqW(P:Program)(f:FuncId):Prop:=∀l:List Int,l.length≤17592186043904→aM P f [au l] (au (jm l))
def Zpk:AC:= (.block 10 (.loop (.seq (sq [rm 59 10,rF 60 0 1,rL 61 60,ro 62 (.bin .lss (.t 59) (.t 61)),rm 63 62,rg 64 63 true (.mv (.t 4)),rg 65 63 true (.mv (.t 8)),rg 66 63 true (.aI 1 (.t 64) (.t 65)),rg 67 63 true (.load none (.t 66)),rg 68 63 true (.mv (.t 9)),rg 69 63 true (.aI 1 (.t 67) (.t 68)),rg 70 63 true (.load none (.t 69)),rg 71 63 true (.un .not (.t 70)),ro 72 (.pick (.t 63) (.t 71) (.c (.v (.bool false))))] (.cond (.t 72) .skip (.exit 10))) (.seq (.block 11 (.seq (.reg (some []) [rm 75 4,rF 76 1 1,rL 77 76,rm 78 8,ro 79 (.aI 1 (.t 77) (.t 78)),rL 80 79,rm 81 10,ro 82 (.aI 1 (.t 80) (.t 81)),rL 83 82,ro 84 (.aI 1 (.t 75) (.t 83)),rL 85 84,rF 86 1 1,rL 87 86,rm 88 9,ro 89 (.aI 1 (.t 87) (.t 88)),rL 90 89,rm 91 10,ro 92 (.aI 1 (.t 90) (.t 91)),rL 93 92,ro 94 (.aI 1 (.t 85) (.t 93)),rL 95 94]) (.cond (.t 95) (.seq (.reg (some [[],[],[],[],[],[],[],[],[],[],[],[false,true]]) [rm 96 4,rm 97 8,ro 98 (.aI 1 (.t 96) (.t 97)),rL 99 98,rm 100 9,rm 101 4,rm 102 9,ro 103 (.aI 1 (.t 101) (.t 102)),rL 104 103,rm 105 8,ro 106 (.aI 1 (.t 99) (.t 100)),rn (.store 1 (.t 106) (.c (.v (.bool true)))),ro 107 (.aI 1 (.t 104) (.t 105)),rn (.store 1 (.t 107) (.c (.v (.bool true))))]) (.reg none [ro 7 (.mv (.c (.v (.bool true))))])) .skip))) (.reg none [rm 73 10,ro 74 (.bin .add (.t 73) (ci 1)),rm 10 74])))))
def Zpi:AC:= (.block 8 (.loop (.seq (sq [rm 54 9,rm 55 8,ro 56 (.bin .lss (.t 54) (.t 55))] (.cond (.t 56) .skip (.exit 8))) (.seq (.block 9 (sq [ro 10 (.mv (ci 0))] Zpk)) (.reg none [rm 57 9,ro 58 (.bin .add (.t 57) (ci 1)),rm 9 58])))))
def Zph:AC:= (.block 6 (.loop (.seq (sq [rm 49 8,rm 50 3,ro 51 (.bin .lss (.t 49) (.t 50))] (.cond (.t 51) .skip (.exit 6))) (.seq (.block 7 (sq [ro 9 (.mv (ci 0))] Zpi)) (.reg none [rm 52 8,ro 53 (.bin .add (.t 52) (ci 1)),rm 8 53])))))
def Zpl:AC:= (.block 4 (.loop (.seq (sq [rm 48 7] (.cond (.t 48) .skip (.exit 4))) (.block 5 (sq [ro 7 (.mv (.c (.v (.bool false))))] (sq [ro 8 (.mv (ci 0))] Zph))))))
def Zpg:AC:= (.block 2 (.loop (.seq (sq [rm 26 6,rm 27 3,ro 28 (.bin .lss (.t 26) (.t 27))] (.cond (.t 28) .skip (.exit 2))) (.seq (.block 3 (.reg (some []) [rm 31 4,rm 32 5,ro 33 (.aI 1 (.t 31) (.t 32)),rL 34 33,rm 35 6,rF 36 2 1,rL 37 36,rm 38 5,ro 39 (.aI 1 (.t 37) (.t 38)),rL 40 39,rF 41 2 1,rL 42 41,rm 43 6,ro 44 (.aI 1 (.t 42) (.t 43)),rL 45 44,ro 46 (.beq true (.t 40) (.t 45)),ro 47 (.aI 1 (.t 34) (.t 35)),rn (.store 1 (.t 47) (.t 46))])) (.reg none [rm 29 6,ro 30 (.bin .add (.t 29) (ci 1)),rm 6 30])))))
def Zpj:AC:= (.block 0 (.loop (.seq (sq [rm 16 5,rm 17 3,ro 18 (.bin .lss (.t 16) (.t 17))] (.cond (.t 18) .skip (.exit 0))) (.seq (.block 1 (sq [rm 21 4,rm 22 5,rm 23 3,ro 24 (.um 1 1 (.v (.bool false)) (.t 23) (.t 23)),ro 25 (.aI 1 (.t 21) (.t 22)),rn (.store 1 (.t 25) (.t 24))] (sq [ro 6 (.mv (ci 0))] Zpg))) (.reg none [rm 19 5,ro 20 (.bin .add (.t 19) (ci 1)),rm 5 20])))))
def Zie:AC:= (.seq (sq [ro 7 (.mv (.c (.v (.bool true))))] Zpl) (sq [rm 108 4,rm 2 108] .ret))
def Z8w:AC:= (sq [ro 1 (.box 3 (.t 0)),ro 2 (.mv (.c (.sl true [])))] (sq [rF 11 1 1,rL 12 11,ro 13 (.len (.t 12)),rm 3 13] (sq [rm 14 3,ro 15 (.um 1 24 (.sl true []) (.t 14) (.t 14)),rm 4 15] (.seq (sq [ro 5 (.mv (ci 0))] Zpj) Zie))))
end Go.Rf
namespace Go.Rf
open Go.RowKit
attribute [local simp] nH nD mP lY mM mR mO nE nG mQ mW mo lu lN nk nQ ni oG oz ow nX oD ou nW nL mU nJ nZ nY nT nO mV nM oh og nU lQ lZ mX mY mq lX bZ gL eu fq gH d9 fI gI gy eT gD eB fO gG fM dG dJ dZ eX iq iw fG iy fC fB fu dD gT gU gV fJ fK iC gJ fU gZ gW gY gX ig iD fZ iA fP fQ gM iB dh dF fD gu iE ex aj fA cO dO bJ bO aD bE dX eU dn gP gQ gN gK fV bI cZ dw eD eF fF dN bY mD mF dz bX l6 mE mZ l7 dH eO eG eH dY bW dQ cK cB aY nS nA mJ mK mH mh mI ny lS l9 nu nC S0 ak aG oZ oU pz oW oQ pq o8 oV o7 pK pG pJ pF o9 pE qV iX.cl bU.cl aX cu bD jr kR qU qQ qR pW rz rC qZ qX kZ om kX rD pQ pO qd rE rH rG rA oI oJ rJ qb ru p8 oK qw kQ rO
def Zng(sM pV:FuncId):AC:= (.reg (some []) [rF 18 1 2,rL 19 18,rF 20 1 4,rL 21 20,ro 22 (.bS 1 2 (.sl true []) [(0,(.t 19)),(1,(.t 21))]),rk 23 sM [(.t 22)],rk 24 pV [(.t 23)],rF 25 2 2,rL 26 25,rF 27 2 4,rL 28 27,ro 29 (.bS 1 2 (.sl true []) [(0,(.t 26)),(1,(.t 28))]),rk 30 sM [(.t 29)],rk 31 pV [(.t 30)],rF 32 1 2,rn (.store 1 (.t 32) (.t 24)),rF 33 2 2,rn (.store 1 (.t 33) (.t 31))])
def Znf(sM pV:FuncId):AC:= (.loop (sq [ro 8 (.bin .lss (.t 7) (.t 6))] (.seq (.cond (.t 8) .skip (.exit 0)) (.seq (.block 1 (sq [ro 9 (.aI 3 (.t 5) (.t 7)),ro 10 (.load (some 3) (.t 9)),ro 4 (.alloc (.agg [(.v (.bool false)),(.sl true []),(.sl true [])]) 3),rn (.store 3 (.t 4) (.t 10))] (sq [rF 11 0 2,rL 12 11,rm 13 12,rg 14 13 false (.bV 0 (.t 4)),rg 15 13 false (.load none (.t 14)),ro 16 (.pick (.t 13) (.c (.v (.bool true))) (.t 15)),rF 17 0 2,rn (.store 1 (.t 17) (.t 16))] (Zng sM pV)))) (.reg none [ro 34 (.bin .add (.t 7) (ci 1)),rm 7 34])))))
def Ze6(sM pV:FuncId):AC:= (sq [ro 2 (.alloc (.agg [(.v (.bool false)),(.sl true []),(.sl true [])]) 3)] (.seq (sq [rm 5 0,ro 6 (.len (.t 5)),ro 7 (.mv (ci 0))] (.block 0 (Znf sM pV))) (sq [ro 35 (.load (some 3) (.t 2)),rn (.store 3 (.t 2) (.t 35))] .ret)))
def Zni(Ik:FuncId):AC:= (.loop (sq [ro 11 (.bin .lss (.t 10) (.t 9))] (.seq (.cond (.t 11) .skip (.exit 0)) (.seq (.block 1 (sq [ro 12 (.aI 4 (.t 8) (.t 10)),ro 13 (.load (some 4) (.t 12)),ro 7 (.alloc (.agg [(.v (.int .i64 0)),(.sl true []),(.sl true []),(.sl true [])]) 4),rn (.store 4 (.t 7) (.t 13))] (.reg none [rm 14 5,rm 15 0,ro 16 (.load (some 4) (.t 7)),rk 17 Ik [(.t 15),(.t 16)],ro 18 (.bS 3 1 (.agg [(.v (.bool false)),(.sl true []),(.sl true [])]) [(0,(.t 17))]),ro 19 (.app 3 56 (.t 14) (.t 18)),rm 5 19]))) (.reg none [ro 20 (.bin .add (.t 10) (ci 1)),rm 10 20])))))
def Zat(Ik:FuncId):AC:= (sq [ro 4 (.mv (.c (.sl true [])))] (sq [ro 5 (.mv (.c (.sl true [])))] (.seq (sq [rm 8 1,ro 9 (.len (.t 8)),ro 10 (.mv (ci 0))] (.block 0 (Zni Ik))) (sq [rm 21 5,rm 4 21] .ret))))
def Znj(Ia sM pV:FuncId):AC:= (.loop (sq [ro 12 (.bin .lss (.t 11) (.t 10))] (.seq (.cond (.t 12) .skip (.exit 0)) (.seq (.block 1 (sq [ro 13 (.aI 3 (.t 9) (.t 11)),ro 14 (.load (some 3) (.t 13)),ro 7 (.alloc (.agg [(.v (.bool false)),(.sl true []),(.sl true [])]) 3),rn (.store 3 (.t 7) (.t 14))] (sq [rm 15 0,rF 16 2 5,rL 17 16,rF 18 1 7,rL 19 18,rk 20 Ia [(.t 15),(.t 17),(.t 19)]] (.seq (sq [rF 21 0 5,rL 22 21] (.cond (.t 22) (.reg none [rF 23 1 5,rL 24 23,rF 25 1 7,rL 26 25,ro 27 (.bS 1 2 (.sl true []) [(0,(.t 24)),(1,(.t 26))]),rk 28 sM [(.t 27)],rk 29 pV [(.t 28)],rF 30 1 5,rn (.store 1 (.t 30) (.t 29))]) .skip)) (.seq (sq [rF 31 0 7,rL 32 31,ro 33 (.un .not (.t 32))] (.cond (.t 33) (.reg none [rF 34 2 5,rn (.store 1 (.t 34) (.c (.sl true [])))]) .skip)) (sq [rF 35 2 5,rL 36 35,rF 37 2 7,rL 38 37,ro 39 (.bS 1 2 (.sl true []) [(0,(.t 36)),(1,(.t 38))]),rk 40 sM [(.t 39)],rk 41 pV [(.t 40)],rF 42 2 5,rn (.store 1 (.t 42) (.t 41))] (.reg none [rF 43 0 5,rL 44 43,rm 45 44,rg 46 45 true (.bV 0 (.t 7)),rg 47 45 true (.load none (.t 46)),ro 48 (.pick (.t 45) (.t 47) (.c (.v (.bool false)))),rF 49 0 5,rn (.store 1 (.t 49) (.t 48))]))))))) (.reg none [ro 50 (.bin .add (.t 11) (ci 1)),rm 11 50])))))
def Zav(Ia sM pV:FuncId):AC:= (sq [ro 4 (.alloc (.agg [(.v (.bool false)),(.sl true []),(.sl true [])]) 3)] (sq [ro 8 (.build (.agg [(.v (.bool false)),(.sl true []),(.sl true [])]) [(0,1)] [(0,(.c (.v (.bool true))))]),ro 5 (.alloc (.agg [(.v (.bool false)),(.sl true []),(.sl true [])]) 3),rn (.store 3 (.t 5) (.t 8))] (.seq (sq [rm 9 1,ro 10 (.len (.t 9)),ro 11 (.mv (ci 0))] (.block 0 (Znj Ia sM pV))) (sq [ro 51 (.load (some 3) (.t 5)),rn (.store 3 (.t 4) (.t 51))] .ret))))
def Oe(e:Ed):AV:=.agg [aG e.qL,au e.fst,au e.jS]
theorem Ziv(e:Ed):aV (Oe e):=.agg _ (aR (cu _) (aR (bD _) (aR (bD _) bB)))
theorem Zgb(e:Ed):(Oe e).cells=[aG e.qL,au e.fst,au e.jS]:=rfl
theorem Zh1(e:Ed):(Oe e).solid=true:=rfl
def ZmV(P:Program)(f:FuncId)(sg:Int)(q:iT):Prop:=∀st:Gs,uD st→st.aC.length+DX q≤10000→Ai P f [zi q] sg true st (oq sg q st).2 (Oe (oq sg q st).1)
end Go.Rf
namespace Go.Rf
open Go.RowKit
attribute [local simp] nH nD mP lY mM mR mO nE nG mQ mW mo lu lN nk nQ ni oG oz ow nX oD ou nW nL mU nJ nZ nY nT nO mV nM oh og nU lQ lZ mX mY mq lX bZ gL eu fq gH d9 fI gI gy eT gD eB fO gG fM dG dJ dZ eX iq iw fG iy fC fB fu dD gT gU gV fJ fK iC gJ fU gZ gW gY gX ig iD fZ iA fP fQ gM iB dh dF fD gu iE ex aj fA cO dO bJ bO aD bE dX eU dn gP gQ gN gK fV bI cZ dw eD eF fF dN bY mD mF dz bX l6 mE mZ l7 dH eO eG eH dY bW dQ cK cB aY nS nA mJ mK mH mh mI ny lS l9 nu nC S0 ak aG oZ oU pz oW oQ pq o8 oV o7 pK pG pJ pF o9 pE qV iX.cl bU.cl aX cu bD jr kR qU qQ qR pW rz rC qZ qX kZ om kX rD pQ pO qd rE rH rG rA oI oJ rJ qb ru p8 oK qw kQ rO kU lK iZ oF
def Z9o:AC:= (sq [ro 3 (.mv (.c (.v (.bool false))))] (sq [rm 4 0,ro 5 (.bin .lss (.t 4) (ci 0)),rm 6 5,rg 7 6 false (.mv (.t 0)),rg 8 6 false (.load none (.t 1)),rg 9 6 false (.fH (.t 8)),rg 10 6 false (.bV 0 (.t 9)),rg 11 6 false (.bV 0 (.t 10)),rg 12 6 false (.load none (.t 11)),rg 13 6 false (.bin .geq (.t 7) (.t 12)),ro 14 (.pick (.t 6) (.c (.v (.bool true))) (.t 13)),rm 3 14] .ret))
def Znb:AC:= (.loop (.seq (sq [rm 16 6,rm 17 0,ro 18 (.len (.t 17)),ro 19 (.bin .lss (.t 16) (.t 18))] (.cond (.t 19) .skip (.exit 0))) (.seq (.block 1 (sq [rm 22 0,rm 23 6,ro 24 (.aI 1 (.t 22) (.t 23)),rL 25 24,rm 7 25] (sq [rm 26 1,rm 27 7,⟨(some 28),.mv (.c .junk),none,(some ((.t 26),[(.t 27)]))⟩,ro 29 (.un .not (.t 28))] (.cond (.t 29) (sq [rm 30 0,rm 31 5,rm 32 7,ro 33 (.aI 1 (.t 30) (.t 31)),rn (.store 1 (.t 33) (.t 32))] (.reg none [rm 34 5,ro 35 (.bin .add (.t 34) (ci 1)),rm 5 35])) .skip)))) (.reg none [rm 20 6,ro 21 (.bin .add (.t 20) (ci 1)),rm 6 21]))))
def Z62(P22:FuncId):AC:= (sq [ro 4 (.mv (.c (.sl true [])))] (sq [rm 8 0,rm 9 1,rk 10 P22 [(.t 8),(.t 9)],rm 5 10] (.seq (sq [rm 11 5,ro 12 (.bin .eql (.t 11) (ci (-1)))] (.cond (.t 12) (sq [rm 13 0,rm 4 13] .ret) .skip)) (.seq (sq [rm 14 5,ro 15 (.bin .add (.t 14) (ci 1)),rm 6 15] (.block 0 Znb)) (sq [rm 36 0,rm 37 5,ro 38 (.slc 1 (.t 36) (some (.t 37)) none),rn (.GQ 1 (.v (.int .i64 0)) (.t 38))] (sq [rm 39 0,rm 40 5,ro 41 (.slc 1 (.t 39) none (some (.t 40))),rm 4 41] .ret))))))
end Go.Rf
namespace Go.Rf
open Go.RowKit
attribute [local simp] nH nD mP lY mM mR mO nE nG mQ mW mo lu lN nk nQ ni oG oz ow nX oD ou nW nL mU nJ nZ nY nT nO mV nM oh og nU lQ lZ mX mY mq lX bZ gL eu fq gH d9 fI gI gy eT gD eB fO gG fM dG dJ dZ eX iq iw fG iy fC fB fu dD gT gU gV fJ fK iC gJ fU gZ gW gY gX ig iD fZ iA fP fQ gM iB dh dF fD gu iE ex aj fA cO dO bJ bO aD bE dX eU dn gP gQ gN gK fV bI cZ dw eD eF fF dN bY mD mF dz bX l6 mE mZ l7 dH eO eG eH dY bW dQ cK cB aY nS nA mJ mK mH mh mI ny lS l9 nu nC S0 ak aG oZ oU pz oW oQ pq o8 oV o7 pK pG pJ pF o9 pE
def Mq(CF Cz:FuncId):AC:= (sq [ro 3 (.box 3 (.t 0)),ro 6 (.mv (.c (.v (.bool false))))] (sq [rm 8 1,rm 9 2,rk 10 CF [(.t 8),(.t 9)],rm 7 10] (sq [rm 11 7,ro 12 (.len (.t 11)),ro 13 (.bin .gtr (.t 12) (ci 0)),rm 14 13,rg 15 14 true (.load (some 3) (.t 3)),rg 16 14 true (.mv (.t 7)),rl 17 14 true Cz [(.t 15),(.t 16)],ro 18 (.pick (.t 14) (.t 17) (.c (.v (.bool false)))),rm 6 18] .ret)))
def atF(d:aB)(l:List Int)(p:Int):Bool:=decide (0 < (bT l p).length) && lg d (bT l p)
theorem Zic{P:Program}{fw fa:FuncId}(d:aB)(l:List Int)(p:Int)(hw:aM P fw [au l,ak p] (au (bT l p)))(ha:aM P fa [aH d,au (bT l p)] (aG (lg d (bT l p)))) :
  bG P 0 (Mq fw fa) (bR [6] (dx (aG (atF d l p)))) (bC [aH d,au l,ak p]) S0:=by
 unfold atF;generalize bT l p=w at *;generalize lg d w=ac at *;have hd:=dW d;simp[Mq];refine aQ.pure hw (aR (bD _) (aR (aX _) bB)) (bD _) ?_;by_cases h0:0 < w.length
 ·simp[h0]
  refine aQ.pure ha (aR hd (aR (bD _) bB)) (cu _) ?_;simp;exact iF _ _
 ·simp[h0]
  exact iF false _
end Go.Rf
namespace Go.Rf
open Go.RowKit
attribute [local simp] nH nD mP lY mM mR mO nE nG mQ mW mo lu lN nk nQ ni oG oz ow nX oD ou nW nL mU nJ nZ nY nT nO mV nM oh og nU lQ lZ mX mY mq lX bZ gL eu fq gH d9 fI gI gy eT gD eB fO gG fM dG dJ dZ eX iq iw fG iy fC fB fu dD gT gU gV fJ fK iC gJ fU gZ gW gY gX ig iD fZ iA fP fQ gM iB dh dF fD gu iE ex aj fA cO dO bJ bO aD bE dX eU dn gP gQ gN gK fV bI cZ dw eD eF fF dN bY mD mF dz bX l6 mE mZ l7 dH eO eG eH dY bW dQ cK cB aY nS nA mJ mK mH mh mI ny lS l9 nu nC S0 ak aG
def Z8v(QE:FuncId):AC:= (sq [ro 2 (.box 4 (.t 0)),ro 4 (.alloc (.agg [(.v (.int .i64 0)),(.sl true []),(.sl true [])]) 3),ro 5 (.mv (ci 0))] (sq [ro 6 (.load (some 4) (.t 2)),rm 7 1,rk 8 QE [(.t 6),(.t 7),(ci 1)],ro 9 (.ext 0 (.t 8)),ro 10 (.ext 1 (.t 8)),rn (.store 3 (.t 4) (.t 9)),rm 5 10] .ret))
def Z8u(QE:FuncId):AC:= (sq [ro 2 (.box 4 (.t 0)),ro 4 (.alloc (.agg [(.v (.int .i64 0)),(.sl true []),(.sl true [])]) 3),ro 5 (.mv (ci 0))] (sq [ro 6 (.load (some 4) (.t 2)),rm 7 1,rk 8 QE [(.t 6),(.t 7),(ci 2)],ro 9 (.ext 0 (.t 8)),ro 10 (.ext 1 (.t 8)),rn (.store 3 (.t 4) (.t 9)),rm 5 10] .ret))
end Go.Rf
namespace Go.Rf
open Go.RowKit
def setAt(kd:Kd)(n:Net)(set l:List Int):List Int:=l.foldl (kN kd n) set
end Go.Rf
namespace Go.Rf
open Go.RowKit
attribute [local simp] nH nD mP lY mM mR mO nE nG mQ mW mo lu lN nk nQ ni oG oz ow nX oD ou nW nL mU nJ nZ nY nT nO mV nM oh og nU lQ lZ mX mY mq lX bZ gL eu fq gH d9 fI gI gy eT gD eB fO gG fM dG dJ dZ eX iq iw fG iy fC fB fu dD gT gU gV fJ fK iC gJ fU gZ gW gY gX ig iD fZ iA fP fQ gM iB dh dF fD gu iE ex aj fA cO dO bJ bO aD bE dX eU dn gP gQ gN gK fV bI cZ dw eD eF dN bY mD mF dz bX l6 mE mZ l7 dH eO eG eH dQ cK cB aY nS nA mJ mK mH mh mI ny lS l9 nu nC S0 ak aG oZ oU pz oW oQ pq o8 oV o7 pK pG pJ pF o9 pE Ng Ov P7 P8 OQ OT OU Ow JN Nv M0 wN
def Z8T:AC:= (sq [ro 4 (.box 3 (.t 0)),ro 5 (.box 3 (.t 1)),ro 6 (.box 2 (.t 2)),ro 8 (.alloc (.agg [(.v (.int .i64 0)),(.v (.int .i64 0))]) 2)] (sq [rm 11 3,ro 12 (.bin .quo (.t 11) (ci 2)),rm 13 3,ro 14 (.bin .rem (.t 13) (ci 2)),ro 15 (.bin .eql (.t 14) (ci 1)),rm 9 12,rm 10 15] (.seq (.block 0 (sq [rF 17 0 6,rL 18 17,ro 19 (.bin .leq (.t 18) (ci 1)),rm 20 19,rg 21 20 true (.mv (.t 10)),rg 22 20 true (.un .not (.t 21)),ro 23 (.pick (.t 20) (.t 22) (.c (.v (.bool false)))),rm 16 23] (.cond (.t 16) (sq [rF 24 1 4,rL 25 24,rF 26 1 6,rL 27 26,ro 28 (.aI 1 (.t 25) (.t 27)),rL 29 28,rm 30 9,ro 31 (.aI 1 (.t 29) (.t 30)),rL 32 31,ro 33 (.build (.agg [(.v (.int .i64 0)),(.v (.int .i64 0))]) [(0,1),(1,1)] [(0,(ci 1)),(1,(.t 32))]),rn (.store 2 (.t 8) (.t 33))] .ret) (sq [rF 35 0 6,rL 36 35,ro 37 (.bin .eql (.t 36) (ci 1)),rm 38 37,rg 39 38 true (.bV 2 (.t 4)),rg 40 38 true (.load none (.t 39)),rg 41 38 true (.bV 1 (.t 6)),rg 42 38 true (.load none (.t 41)),rg 43 38 true (.aI 1 (.t 40) (.t 42)),rg 44 38 true (.load none (.t 43)),ro 45 (.pick (.t 38) (.t 44) (.c (.v (.bool false)))),rm 34 45] (.cond (.t 34) (sq [rF 46 1 5,rL 47 46,ro 48 (.aI 1 (.t 47) (ci 0)),rL 49 48,rm 50 9,ro 51 (.aI 1 (.t 49) (.t 50)),rL 52 51,ro 53 (.build (.agg [(.v (.int .i64 0)),(.v (.int .i64 0))]) [(0,1),(1,1)] [(0,(ci 2)),(1,(.t 52))]),rn (.store 2 (.t 8) (.t 53))] .ret) (sq [rF 55 0 6,rL 56 55,ro 57 (.bin .eql (.t 56) (ci 2)),rm 58 57,rg 59 58 true (.mv (.t 10)),rg 60 58 true (.un .not (.t 59)),ro 61 (.pick (.t 58) (.t 60) (.c (.v (.bool false)))),rm 54 61] (.cond (.t 54) (sq [rF 62 1 5,rL 63 62,rF 64 1 6,rL 65 64,ro 66 (.aI 1 (.t 63) (.t 65)),rL 67 66,rm 68 9,ro 69 (.aI 1 (.t 67) (.t 68)),rL 70 69,ro 71 (.build (.agg [(.v (.int .i64 0)),(.v (.int .i64 0))]) [(0,1),(1,1)] [(0,(ci 2)),(1,(.t 70))]),rn (.store 2 (.t 8) (.t 71))] .ret) .skip))))))) (sq [ro 72 (.build (.agg [(.v (.int .i64 0)),(.v (.int .i64 0))]) [(0,1),(1,1)] [(0,(ci 3)),(1,(ci 0))]),rn (.store 2 (.t 8) (.t 72))] .ret))))
def xJ:AC:= (sq [ro 5 (.box 2 (.t 1)),ro 8 (.alloc (.agg [(.v (.int .i64 0)),(.v (.int .i64 0))]) 2)] (.seq (sq [rm 9 3] (.cond (.t 9) (.seq (.seq (.reg (some []) [rF 10 0 5,rL 11 10,ro 12 (.bin .eql (.t 11) (ci 1)),rm 13 12,rg 14 13 true (.mv (.t 0)),rg 15 13 true (.fH (.t 14)),rg 16 13 true (.bV 0 (.t 15)),rg 17 13 true (.bV 2 (.t 16)),rg 18 13 true (.load none (.t 17)),rg 19 13 true (.bV 1 (.t 5)),rg 20 13 true (.load none (.t 19)),rg 21 13 true (.aI 1 (.t 18) (.t 20)),rg 22 13 true (.load none (.t 21)),ro 23 (.pick (.t 13) (.t 22) (.c (.v (.bool false))))]) (.cond (.t 23) (sq [rm 24 0,ro 25 (.fH (.t 24)),rF 26 3 25,rF 27 1 26,rL 28 27,ro 29 (.aI 1 (.t 28) (ci 0)),rL 30 29,rm 31 2,ro 32 (.aI 1 (.t 30) (.t 31)),rL 33 32,ro 34 (.build (.agg [(.v (.int .i64 0)),(.v (.int .i64 0))]) [(0,1),(1,1)] [(0,(ci 2)),(1,(.t 33))]),rn (.store 2 (.t 8) (.t 34))] .ret) .skip)) (sq [ro 35 (.build (.agg [(.v (.int .i64 0)),(.v (.int .i64 0))]) [(0,1)] [(0,(ci 3))]),rn (.store 2 (.t 8) (.t 35))] .ret)) .skip)) (.seq (sq [rF 36 0 5,rL 37 36] (.block 0 (.seq (sq [ro 39 (.bin .eql (.t 37) (ci 0)),rm 38 39] (.cond (.t 38) .skip (.reg none [ro 40 (.bin .eql (.t 37) (ci 1)),rm 38 40]))) (.cond (.t 38) (.seq (.reg (some []) [rm 41 0,ro 42 (.fH (.t 41)),rF 43 0 42,rF 44 1 43,rL 45 44,rF 46 1 5,rL 47 46,ro 48 (.aI 1 (.t 45) (.t 47)),rL 49 48,rm 50 2,ro 51 (.aI 1 (.t 49) (.t 50)),rL 52 51,ro 53 (.build (.agg [(.v (.int .i64 0)),(.v (.int .i64 0))]) [(0,1),(1,1)] [(0,(ci 1)),(1,(.t 52))]),rn (.store 2 (.t 8) (.t 53))]) .ret) (sq [ro 55 (.bin .eql (.t 37) (ci 2)),rm 54 55] (.cond (.t 54) (.seq (.reg (some []) [rm 56 0,ro 57 (.fH (.t 56)),rF 58 3 57,rF 59 1 58,rL 60 59,rF 61 1 5,rL 62 61,ro 63 (.aI 1 (.t 60) (.t 62)),rL 64 63,rm 65 2,ro 66 (.aI 1 (.t 64) (.t 65)),rL 67 66,ro 68 (.build (.agg [(.v (.int .i64 0)),(.v (.int .i64 0))]) [(0,1),(1,1)] [(0,(ci 2)),(1,(.t 67))]),rn (.store 2 (.t 8) (.t 68))]) .ret) .skip)))))) (sq [ro 69 (.load (some 2) (.t 5)),rn (.store 2 (.t 8) (.t 69))] .ret))))
theorem Aa(x y:Int)(S:St):dx (.agg [.v (.int .i64 x),.v (.int .i64 y)]) (.agg [.v (.int .i64 x),.v (.int .i64 y)]) S:=.closed _ (wP (x,y))
theorem Nt{d:aB}(R:bg d){q:Int}(h0:0≤q)(h1:q < d.next.length){h:Nat}(hs:(h:Int) < d.signs) :
  ∃row,d.next[q.toNat]?.getD []=row∧(∀hh:q.toNat < d.next.length,d.next[q.toNat]=row)∧h < row.length∧row[h]?.getD 0=((bN d q.toNat h:Nat):Int)∧∀hh:h < row.length,row[h]=((bN d q.toNat h:Nat):Int):=by
 have hq:q.toNat < d.next.length:=by omega
 have hr:=R.row _ hq;have hh:h < (d.next[q.toNat]).length:=by omega
 have ha:=R.at_ _ hq h hh
 have e1:d.next[q.toNat]? = some d.next[q.toNat]:=List.getElem?_eq_getElem hq
 have e2:(d.next[q.toNat])[h]? = some (d.next[q.toNat])[h]:=List.getElem?_eq_getElem hh
 have e:(d.next[q.toNat])[h]=((bN d q.toNat h:Nat):Int):=by
  unfold bN;simp only[List.getD_eq_getElem?_getD,e1,Option.getD_some,Int.toNat_natCast,e2];omega
 exact⟨d.next[q.toNat],by rw[e1];rfl,fun _=>rfl,hh,by rw[e2];exact e,fun _=>e⟩
theorem Zmx{d:aB}(i:Nat):d.fin[i]?.getD false=jL d i∧∀h:i < d.fin.length,d.fin[i]=jL d i:=⟨by simp[jL,List.getD_eq_getElem?_getD],fun h=>by simp[jL,List.getD_eq_getElem?_getD,h]⟩
def xB(b a:aB):AV:=.bF (.agg [ak b.signs,aN b.next,bA b.fin,ak a.signs,aN a.next,bA a.fin]) 0
theorem Zf7{P:Program}{b a:aB}(Rb:bg b)(Ra:bg a)(hs:b.signs=a.signs)(x:Int×Int)(hx:vM b a x)(s:Nat)(hlt:s < (2*b.signs).toNat) :
  bG P 0 xJ (iI [.c 8 (some 2)] (dx (bP (vk b a x s)))) (bC [xB b a,bP x,ak (s / 2:Nat),aG (decide (s % 2=1))]) S0:=by
 obtain⟨v0,v1,v2,v3,v4,v5⟩:=hx;have hsb:=Rb.s2;have hbf:=Rb.fin;have hbn:=Rb.n1;have han:=Ra.n1;have aa4:0 < a.next.length:=by omega
 have abp:a.next≠[]:=List.length_pos_iff.mp aa4
 obtain⟨p,q⟩:=x;simp only at v0 v1 v2 v3 v4 v5;unfold vk;have hhs:((s / 2:Nat):Int) < b.signs:=by omega
 have aaf:((s / 2:Nat):Int) < a.signs:=by omega
 generalize s / 2=h at *;by_cases hodd:s % 2=1
 ·rw[if_pos hodd,decide_eq_true hodd]
  obtain rfl | rfl | rfl | rfl:p=0∨p=1∨p=2∨p=3:=by omega
  ·simp[xJ,xB,iI,iJ,RV.ev,jD,iO,jH,jh,bP]
   exact Aa _ _ _
  ·have Pw:q < (b.fin.length:Int):=by rw[hbf];exact v3 (by omega)
   obtain⟨row,r1,r1',r2,r3,r3'⟩:=Nt Ra (q:=0) (by omega) (by omega) aaf;simp only[Int.toNat_zero] at r1 r1' r3 r3';obtain⟨hfi,GZ⟩:=Zmx (d:=b) q.toNat;cases Pb:jL b q.toNat with
   | true=>
    rw[Pb] at hfi GZ;simp[xJ,xB,jR,v2,Pw,GZ,r1',r2,r3',aa4,iI,iJ,RV.ev,jD,iO,jH,jh,bP];exact Aa _ _ _
   | false=>
    rw[Pb] at hfi GZ;simp[xJ,xB,jR,v2,Pw,GZ,iI,iJ,RV.ev,jD,iO,jH,jh,bP];exact Aa _ _ _
  ·simp[xJ,xB,iI,iJ,RV.ev,jD,iO,jH,jh,bP]
   exact Aa _ _ _
  ·simp[xJ,xB,iI,iJ,RV.ev,jD,iO,jH,jh,bP]
   exact Aa _ _ _
 ·rw[if_neg hodd,decide_eq_false hodd]
  obtain rfl | rfl | rfl | rfl:p=0∨p=1∨p=2∨p=3:=by omega
  ·obtain⟨row,r1,r1',r2,r3,r3'⟩:=Nt Rb v2 (v3 (by omega)) hhs
   have G6:=v3 (by omega);simp[xJ,xB,jR,v2,G6,r1',r2,r3',iI,iJ,RV.ev,jD,iO,jH,jh,bP];exact Aa _ _ _
  ·obtain⟨row,r1,r1',r2,r3,r3'⟩:=Nt Rb v2 (v3 (by omega)) hhs
   have G6:=v3 (by omega);simp[xJ,xB,jR,v2,G6,r1',r2,r3',iI,iJ,RV.ev,jD,iO,jH,jh,bP];exact Aa _ _ _
  ·obtain⟨row,r1,r1',r2,r3,r3'⟩:=Nt Ra v2 (v4 (by omega)) aaf
   have G6:=v4 (by omega);simp[xJ,xB,jR,v2,G6,r1',r2,r3',iI,iJ,RV.ev,jD,iO,jH,jh,bP];exact Aa _ _ _
  ·have h0:=v5 rfl
   subst h0;simp[xJ,xB,iI,iJ,RV.ev,jD,iO,bP];exact Aa _ _ _
end Go.Rf
namespace Go.Rf
open Go.RowKit
attribute [local simp] nH nD mP lY mM mR mO nE nG mQ mW mo lu lN nk nQ ni oG oz ow nX oD ou nW nL mU nJ nZ nY nT nO mV nM oh og nU lQ lZ mX mY mq lX bZ gL eu fq gH d9 fI gI gy eT gD eB fO gG fM dG dJ dZ eX iq iw fG iy fC fB fu dD gT gU gV fJ fK iC gJ fU gZ gW gY gX ig iD fZ iA fP fQ gM iB dh dF fD gu iE ex aj fA cO dO bJ bO aD bE dX eU dn gP gQ gN gK fV bI cZ dw eD eF dN bY mD mF dz bX l6 mE mZ l7 dH eO eG eH dQ cK cB aY nS nA mJ mK mH mh mI ny lS l9 nu nC S0 ak aG oZ oU pz oW oQ pq o8 oV o7 pK pG pJ pF o9 pE Ng Ov P7 P8 OQ OT OU Ow JN Nv M0 wN qV iX.cl bU.cl aX cu bD jr kR qU qQ qR pW rz rC qZ qX kZ om kX rD pQ pO qd rE rH rG rA oI oJ rJ qb ru p8 oK qw kQ rO kU lK iZ oF
def Zio:AC:= (.block 4 (.loop (.seq (.seq (.reg (some []) [rm 70 14,rm 71 8,ro 72 (.len (.t 71)),ro 73 (.bin .lss (.t 70) (.t 72)),rm 74 73,rg 75 74 true (.mv (.t 8)),rg 76 74 true (.mv (.t 14)),rg 77 74 true (.aI 2 (.t 75) (.t 76)),rg 78 74 true (.load (some 2) (.t 77)),rg 79 74 true (.load (some 2) (.t 13)),rg 80 74 true (.seq true [0,1] (.t 78) (.t 79)),ro 81 (.pick (.t 74) (.t 80) (.c (.v (.bool false))))]) (.cond (.t 81) .skip (.exit 4))) (.block 5 (.reg none [rm 82 14,ro 83 (.bin .add (.t 82) (ci 1)),rm 14 83])))))
def ZkW(H7:FuncId):AC:= (.block 2 (.loop (.seq (sq [rm 56 12,rF 57 0 9,rL 58 57,ro 59 (.bin .lss (.t 56) (.t 58))] (.cond (.t 59) .skip (.exit 2))) (.seq (.block 3 (.seq (.reg (some [[],[],[],[],[],[],[],[],[true,true,true,true,true,true,true,true]]) [ro 62 (.load (some 3) (.t 3)),ro 63 (.load (some 3) (.t 4)),rm 64 8,rm 65 10,ro 66 (.aI 2 (.t 64) (.t 65)),ro 67 (.load (some 2) (.t 66)),rm 68 12,rk 69 H7 [(.t 62),(.t 63),(.t 67),(.t 68)],ro 13 (.alloc (.agg [(.v (.int .i64 0)),(.v (.int .i64 0))]) 2),rn (.store 2 (.t 13) (.t 69))]) (sq [ro 14 (.mv (ci 0))] (.seq Zio (.seq (sq [rm 84 14,rm 85 8,ro 86 (.len (.t 85)),ro 87 (.bin .eql (.t 84) (.t 86))] (.cond (.t 87) (.seq (sq [rm 88 14,rm 89 2,ro 90 (.bin .eql (.t 88) (.t 89))] (.cond (.t 90) (sq [ro 91 (.build (.agg [(.v (.int .i64 0)),(.sl true []),(.sl true [])]) [] []),rn (.store 3 (.t 6) (.t 91)),ro 7 (.mv (ci 13))] .ret) .skip)) (.reg none [rm 92 8,ro 93 (.load (some 2) (.t 13)),ro 94 (.bS 2 1 (.agg [(.v (.int .i64 0)),(.v (.int .i64 0))]) [(0,(.t 93))]),ro 95 (.app 2 16 (.t 92) (.t 94)),rm 8 95])) .skip)) (.reg none [rm 96 11,rm 97 14,ro 98 (.bS 1 1 (.v (.int .i64 0)) [(0,(.t 97))]),ro 99 (.app 1 8 (.t 96) (.t 98)),rm 11 99])))))) (.reg none [rm 60 12,ro 61 (.bin .add (.t 60) (ci 1)),rm 12 61])))))
def Zip:AC:= (.reg (some [[],[],[],[],[],[true],[false,true],[false,false,true],[false,false,false,true],[false,false,false,false,true],[false,false,false,false,false,true],[false,false,false,false,false,false,true],[false,false,false,false,false,false,false,true],[],[],[],[],[],[],[],[],[],[],[],[],[],[true]]) [rF 100 1 9,rL 101 100,rm 102 11,ro 103 (.bS 1 1 (.sl true []) [(0,(.t 102))]),ro 104 (.app 1 24 (.t 101) (.t 103)),rF 105 2 9,rL 106 105,rm 107 8,rm 108 10,ro 109 (.aI 2 (.t 107) (.t 108)),rF 110 0 109,rL 111 110,ro 112 (.bin .eql (.t 111) (ci 2)),rm 113 112,rg 114 113 true (.bV 2 (.t 4)),rg 115 113 true (.load none (.t 114)),rg 116 113 true (.mv (.t 8)),rg 117 113 true (.mv (.t 10)),rg 118 113 true (.aI 2 (.t 116) (.t 117)),rg 119 113 true (.bV 1 (.t 118)),rg 120 113 true (.load none (.t 119)),rg 121 113 true (.aI 1 (.t 115) (.t 120)),rg 122 113 true (.load none (.t 121)),ro 123 (.pick (.t 113) (.t 122) (.c (.v (.bool false)))),ro 124 (.bS 1 1 (.v (.bool false)) [(0,(.t 123))]),ro 125 (.app 1 1 (.t 106) (.t 124)),rF 126 1 9,rn (.store 1 (.t 126) (.t 104)),rF 127 2 9,rn (.store 1 (.t 127) (.t 125))])
def ZkV(H7:FuncId):AC:= (.block 0 (.loop (.seq (sq [rm 50 10,rm 51 8,ro 52 (.len (.t 51)),ro 53 (.bin .lss (.t 50) (.t 52))] (.cond (.t 53) .skip (.exit 0))) (.seq (.block 1 (sq [ro 11 (.mv (.c (.sl true [])))] (.seq (sq [ro 12 (.mv (ci 0))] (ZkW H7)) Zip))) (.reg none [rm 54 10,ro 55 (.bin .add (.t 54) (ci 1)),rm 10 55])))))
def ZkU:AC:= (sq [ro 128 (.load (some 3) (.t 9)),rn (.store 3 (.t 6) (.t 128)),ro 7 (.mv (ci 0))] .ret)
def Z9T(yT H7:FuncId):AC:= (sq [ro 3 (.box 3 (.t 0)),ro 4 (.box 3 (.t 1)),ro 6 (.alloc (.agg [(.v (.int .i64 0)),(.sl true []),(.sl true [])]) 3),ro 7 (.mv (ci 0))] (.seq (sq [ro 15 (.load (some 3) (.t 3)),rk 16 yT [(.t 15)],ro 17 (.un .not (.t 16)),rm 18 17,rg 19 18 false (.load (some 3) (.t 4)),rl 20 18 false yT [(.t 19)],rg 21 18 false (.un .not (.t 20)),ro 22 (.pick (.t 18) (.c (.v (.bool true))) (.t 21)),rm 23 22,rg 24 23 false (.bV 0 (.t 3)),rg 25 23 false (.load none (.t 24)),rg 26 23 false (.bV 0 (.t 4)),rg 27 23 false (.load none (.t 26)),rg 28 23 false (.bin .neq (.t 25) (.t 27)),ro 29 (.pick (.t 23) (.c (.v (.bool true))) (.t 28)),rm 30 29,rg 31 30 false (.bV 0 (.t 3)),rg 32 30 false (.load none (.t 31)),rg 33 30 false (.bin .gtr (.t 32) (ci 200)),ro 34 (.pick (.t 30) (.c (.v (.bool true))) (.t 33)),rm 35 34,rg 36 35 false (.mv (.t 2)),rg 37 35 false (.bin .lss (.t 36) (ci 1)),ro 38 (.pick (.t 35) (.c (.v (.bool true))) (.t 37)),rm 39 38,rg 40 39 false (.mv (.t 2)),rg 41 39 false (.bin .gtr (.t 40) (ci 3000)),ro 42 (.pick (.t 39) (.c (.v (.bool true))) (.t 41))] (.cond (.t 42) (sq [ro 43 (.build (.agg [(.v (.int .i64 0)),(.sl true []),(.sl true [])]) [] []),rn (.store 3 (.t 6) (.t 43)),ro 7 (.mv (ci 1))] .ret) .skip)) (sq [ro 44 (.build (.agg [(.v (.int .i64 0)),(.v (.int .i64 0))]) [(0,1),(1,1)] [(0,(ci 0)),(1,(ci 0))]),ro 45 (.bS 2 1 (.agg [(.v (.int .i64 0)),(.v (.int .i64 0))]) [(0,(.t 44))]),rm 8 45] (sq [rF 46 0 3,rL 47 46,ro 48 (.bin .mul (ci 2) (.t 47)),ro 49 (.build (.agg [(.v (.int .i64 0)),(.sl true []),(.sl true [])]) [(0,1)] [(0,(.t 48))]),ro 9 (.alloc (.agg [(.v (.int .i64 0)),(.sl true []),(.sl true [])]) 3),rn (.store 3 (.t 9) (.t 49))] (.seq (sq [ro 10 (.mv (ci 0))] (ZkV H7)) ZkU)))))
section
variable(b a:aB)(most:Int)
end
def Ma:AC:= (sq [ro 3 (.box 2 (.t 1)),ro 4 (.mv (ci 0))] (.seq (.reg (some []) [rm 8 0,ro 9 (.fH (.t 8)),rF 10 6 9,rL 11 10,ro 12 (.load (some 2) (.t 3)),ro 13 (.look (.ints 2) (.v (.int .i64 0)) true (.t 11) (.t 12)),rm 7 13,ro 14 (.ext 0 (.t 7)),ro 15 (.ext 1 (.t 7)),rm 5 14,rm 6 15]) (.seq (sq [rm 16 6,ro 17 (.un .not (.t 16))] (.cond (.t 17) (sq [rm 18 0,ro 19 (.fH (.t 18)),rF 20 7 19,rL 21 20,ro 22 (.len (.t 21)),rm 5 22] (.seq (.reg (some []) [rm 23 0,ro 24 (.fH (.t 23)),rF 25 6 24,rL 26 25,ro 27 (.load (some 2) (.t 3)),rm 28 5,rn (.zI (.ints 2) (.t 26) (.t 27) (.t 28))]) (.reg (some [[],[],[],[],[],[],[],[false,false,false,false,false,false,true]]) [rm 29 0,rm 30 0,ro 31 (.fH (.t 30)),rF 32 7 31,rL 33 32,ro 34 (.load (some 2) (.t 3)),ro 35 (.bS 2 1 (.agg [(.v (.int .i64 0)),(.v (.int .i64 0))]) [(0,(.t 34))]),ro 36 (.app 2 16 (.t 33) (.t 35)),ro 37 (.fH (.t 29)),rF 38 7 37,rn (.store 1 (.t 38) (.t 36))]))) .skip)) (sq [rm 39 5,rm 4 39] .ret))))
theorem Om:zl (.ints 2) (fun _:Int×Int=>True) bP:=⟨fun _=>rfl,fun x y _ _=>by
 obtain⟨a,b⟩:=x;obtain⟨c,d⟩:=y;by_cases h1:a=c<;>by_cases h2:b=d<;>simp[qD,bP,zy,h1,h2]⟩
section
variable{K:Type}[DecidableEq K]{d:KK}{good:K→Prop}{enc:K→AV}
theorem ZpL(h:zl d good enc){ks:List K}{x:K}(hx:good x)(hs:∀s∈ks,good s){km aA:Nat}{S:St}(hg:S.g km=some (.map (iH enc 0 ks))) :
  (zk d (.v (.int .i64 0)) true (.mp km) (enc x)).runT S aA=some (.aL [.v (.int .i64 (if x∈ks then (ks.idxOf x:Int) else 0)),.v (.bool (decide (x∈ks)))],S,[km],[]):=by
 have hk:=I5 h ks 0;simp only[zk,dF,hg,Option.bind_some,if_pos (show isK d (enc x)=true∧∀e∈iH enc 0 ks,isK d e.1=true from⟨h.k x,hk⟩),U8 h hx ks 0 hs];by_cases hin:x∈ks
 ·simp[hin,ak]
 ·simp[hin]
theorem ZpP(h:zl d good enc){ks:List K}{x:K}(hx:good x)(hs:∀s∈ks,good s)(hn:x∉ks){km aA:Nat}{S:St}(hg:S.g km=some (.map (iH enc 0 ks))) :
  (Ag d (.mp km) (enc x) (.v (.int .i64 ks.length))).runT S aA=some (.junk,S.set km (some (.map (iH enc 0 (ks++[x])))),[km],[km]):=by
 have hk:=I5 h ks 0;have h2:=VI h hx ks 0 hs hn;rw[Nat.zero_add] at h2;have h':lJ (enc x) (.v (.int .i64 ks.length)) (iH enc 0 ks)=iH enc 0 (ks++[x]):=h2;simp only[Ag,fD,hg,Option.bind_some,if_pos (show isK d (enc x)=true∧∀e∈iH enc 0 ks,isK d e.1=true from⟨h.k x,hk⟩),h',Option.map_some]
end
theorem Bp{gF:Nat→Option aF}{R:Nat→Nat→Prop}(ss:List (Int×Int)):zw gF R (some (.map (iH bP 0 ss))) (some (.map (iH bP 0 ss))):=xU (xV wP _ _)
def kT(b a:aB)(km:Nat)(lv:AV):AV:=.agg [ak b.signs,aN b.next,bA b.fin,ak a.signs,aN a.next,bA a.fin,.mp km,lv]
def kG(b a:aB)(o:Bool)(ss:List (Int×Int))(id il km:Nat):List (Nat×Option aF):=
 [(id,some (.arr 8 [kT b a km (vV o il (ss.map bP))])),(il,vB o 2 (ss.map bP)),(km,some (.map (iH bP 0 ss)))]
def Vr(b a:aB)(ss:List (Int×Int))(S:St):Prop:=S.n=10∧S.g 0=some (.arr 8 [kT b a 2 (.own 3 0 ss.length)])∧S.g 3=some (.arr 2 (ss.map bP))∧S.g 2=some (.map (iH bP 0 ss))
theorem Vr.of{b a:aB}{ss:List (Int×Int)}{G:List (Nat×Option aF)}:Vr b a ss ⟨10,jy (kG b a true ss 0 3 2++G)⟩:=⟨rfl,by simp[kG,kU],by simp[kG,jy,iZ],by simp[kG,jy]⟩
def Ay(ss:List (Int×Int))(x:Int×Int):List (Int×Int):=if x∈ss then ss else ss++[x]
def BO(ss:List (Int×Int))(x:Int×Int):Int:=if x∈ss then (@List.idxOf _ instBEqOfDecidableEq x ss:Int) else ss.length
def Gf(P:Program)(f:FuncId)(b a:aB)(o:Bool)(ss:List (Int×Int))(x:Int×Int):Prop:=
 aQ P f [.ptr 0 0 0,bP x] ⟨3,jy (kG b a o ss 0 1 2)⟩ fun r' S'=>r'=ak (BO ss x)∧Vr b a (Ay ss x) S'
def DR(b a:aB)(ss:List (Int×Int))(id il km:Nat)(S:St):St:=
 (((((St.mk (S.n+7) S.g).set id (some (.arr 8 [kT b a km (.own S.n 0 ss.length)]))).set il none).set km (some (.map (iH bP 0 ss)))).set S.n (some (.arr 2 (ss.map bP))))
theorem Gf.use{P:Program}{f:FuncId}{b a:aB}{o:Bool}{ss:List (Int×Int)}{x:Int×Int}(h:Gf P f b a o ss x){S:St}{K:AV→St→Prop}{id il km:Nat}
  (h1:S.g id=some (.arr 8 [kT b a km (vV o il (ss.map bP))])) (h2:S.g il=vB o 2 (ss.map bP)) (h3:S.g km=some (.map (iH bP 0 ss)))
  (hd:id≠il∧id≠km∧il≠km) (hl:id < S.n∧il < S.n∧km < S.n) (hk:K (ak (BO ss x)) (DR b a (Ay ss x) id il km S)):aQ P f [.ptr id 0 0,bP x] S K:=by
 refine aQ.frame 3 [(0,id),(1,il),(2,km)] (kG b a o ss 0 1 2) [.ptr 0 0 0,bP x] _ (by simp;omega) (by simp;omega) ?_ ?_ h ?_
 ·intro p hp
  simp only[kG,List.mem_cons,List.not_mem_nil,or_false] at hp;rcases hp with rfl | rfl | rfl
  ·refine .inr ⟨id,by simp,?_⟩
   rw[h1,kQ];refine⟨rfl,?_⟩;simp only[kT,oI,oJ,and_true,oK,p8];exact⟨.cl (aX _),.cl (jr _),.cl (kR _),.cl (aX _),.cl (jr _),.cl (kR _),by simp,pQ (by simp) (zf _)⟩
  ·exact .inr ⟨il,by simp,by rw[h2];exact pO (zf _)⟩
  ·exact .inr ⟨km,by simp,by rw[h3];exact xU (xV wP _ _)⟩
 ·exact .cons (.ptr _ _ _ _ (by simp)) (.cons (.cl (wP _)) .nil)
 ·rintro r1 S1 hn ⟨rfl,q1,q2,q3,q4⟩
  refine⟨_,_,hk,.cl (aX _),by simp[DR,bE,q1],fun i k hi=>?_⟩;simp only[DR,aD] at hi;by_cases e4:i=S.n
  ·rw[if_pos e4] at hi
   refine .inr ⟨3,.inr ⟨by omega,by omega⟩,?_⟩;rw[←hi,q3,kQ];exact⟨rfl,.cl (zf _)⟩
  rw[if_neg e4] at hi;by_cases ec:i=km
  ·rw[if_pos ec] at hi
   refine .inr ⟨2,.inl ⟨by omega,by simp[ec]⟩,?_⟩;rw[←hi,q4];exact xU (xV wP _ _)
  rw[if_neg ec] at hi;by_cases eb:i=il
  ·rw[if_pos eb] at hi;cases hi
  rw[if_neg eb] at hi;by_cases ea:i=id
  ·rw[if_pos ea] at hi
   refine .inr ⟨0,.inl ⟨by omega,by simp[ea]⟩,?_⟩;rw[←hi,q2,kQ];refine⟨rfl,?_⟩;simp only[kT,oI,oJ,and_true,oK,qb,p8];exact⟨.cl (aX _),.cl (jr _),.cl (kR _),.cl (aX _),.cl (jr _),.cl (kR _),.inl ⟨by omega,by simp⟩,.inr ⟨by omega,by omega⟩⟩
  ·rw[if_neg ea] at hi
   refine .inl ⟨?_,hi⟩;simp;omega
theorem Zjv{P:Program}(hm:P.follows .mixedOrders=true){f:FuncId}(h:Is P f Ma [4] 2)(b a:aB)(o:Bool)(ss:List (Int×Int))(ho:o=true∨ss=[])(hl:ss.length≤100000)(x:Int×Int):Gf P f b a o ss x:=by
 refine h.Bj hm rfl ?_;have ok1:eY 16 ss.length 1:=by unfold eY;omega
 have aah:=fun(aA:Nat) (S:St) (hg:S.g 2=some (.map (iH bP 0 ss)))=>ZpL (x:=x) (aA:=aA) Om trivial (fun _ _=>trivial) hg
 have yN:=fun(aA:Nat) (S:St) (hg:S.g 2=some (.map (iH bP 0 ss)))=>Vf (x:=x) (aA:=aA) Om trivial (fun _ _=>trivial) hg
 have hax:AV.agg [.v (.int .i64 x.1),.v (.int .i64 x.2)]=bP x:=rfl;by_cases hin:x∈ss
 ·have ho':o=true:=by
   rcases ho with h | h
   ·exact h
   ·subst h;simp at hin
  subst ho';simp only[hin,if_true,decide_true] at aah yN;rw[Ay,BO,if_pos hin,if_pos hin];simp[Ma,kG,kT,jR,hax,yN];refine⟨oC [(4,.v (.int .i64 (@List.idxOf _ instBEqOfDecidableEq x ss:Int)))],⟨10,jy (kG b a true ss 0 3 2++[])⟩,iU.of [(0,0),(2,2),(3,1)] [] (by omega) ⟨by simp,by simp⟩ ?_ ?_,by simp[oC],.of⟩
  ·simp[kG,kT,Bp,zf]
  ·simp
 ·have hmT:=fun(aA:Nat) (S:St) (hg:S.g 2=some (.map (iH bP 0 ss)))=>ZpP (x:=x) (aA:=aA) Om trivial (fun _ _=>trivial) hin hg
  simp only[hin,if_false,decide_false] at aah yN;have hm0:=fun(aA:Nat) (S:St) (hg:S.g 2=some (.map (iH bP 0 ss)))=>Oq (x:=x) (aA:=aA) Om trivial (fun _ _=>trivial) hin hg
  rw[Ay,BO,if_neg hin,if_neg hin];simp[Ma,kG,kT,ok1,jR,hax,yN,hm0];refine⟨oC [(4,ak ss.length)],⟨10,jy (kG b a true (ss++[x]) 0 3 2++[])⟩,iU.of [(0,0),(2,2),(3,38)] [] (by omega) ⟨by simp,by simp⟩ ?_ ?_,by simp[oC,ak],.of⟩
  ·simp[kG,kT,Bp,zf,wP]
  ·simp
def Z8(EO H8:FuncId):AC:= (.block 2 (.loop (sq [ro 77 (.bin .lss (.t 76) (.t 75))] (.seq (.cond (.t 77) .skip (.exit 2)) (.seq (.block 3 (sq [rm 78 76,rm 13 78] (sq [rm 79 12,rm 80 13,rm 81 8,rm 82 8,ro 83 (.load (some 2) (.t 11)),rm 84 13,ro 85 (.bin .quo (.t 84) (ci 2)),rm 86 13,ro 87 (.bin .and (.t 86) (ci 1)),ro 88 (.bin .eql (.t 87) (ci 1)),rk 89 H8 [(.t 82),(.t 83),(.t 85),(.t 88)],rk 90 EO [(.t 81),(.t 89)],ro 91 (.aI 1 (.t 79) (.t 80)),rn (.store 1 (.t 91) (.t 90))] (sq [rm 92 8,ro 93 (.fH (.t 92)),rF 94 7 93,rL 95 94,ro 96 (.len (.t 95)),rm 97 2,ro 98 (.bin .gtr (.t 96) (.t 97))] (.cond (.t 98) (sq [ro 99 (.build (.agg [(.v (.int .i64 0)),(.sl true []),(.sl true [])]) [] []),rn (.store 3 (.t 6) (.t 99)),ro 7 (.mv (ci 13))] .ret) .skip))))) (.reg none [ro 100 (.bin .add (.t 76) (ci 1)),rm 76 100]))))))
def Td:AC:= (.reg (some [[],[],[],[],[],[true],[false,true],[false,false,true],[false,false,false,true],[false,false,false,false,true],[],[],[],[],[],[],[],[],[],[],[true]]) [rF 101 1 9,rL 102 101,rm 103 12,ro 104 (.bS 1 1 (.sl true []) [(0,(.t 103))]),ro 105 (.app 1 24 (.t 102) (.t 104)),rF 106 2 9,rL 107 106,rF 108 0 11,rL 109 108,ro 110 (.bin .eql (.t 109) (ci 2)),rm 111 110,rg 112 111 true (.bV 2 (.t 4)),rg 113 111 true (.load none (.t 112)),rg 114 111 true (.bV 1 (.t 11)),rg 115 111 true (.load none (.t 114)),rg 116 111 true (.aI 1 (.t 113) (.t 115)),rg 117 111 true (.load none (.t 116)),ro 118 (.pick (.t 111) (.t 117) (.c (.v (.bool false)))),ro 119 (.bS 1 1 (.v (.bool false)) [(0,(.t 118))]),ro 120 (.app 1 1 (.t 107) (.t 119)),rF 121 1 9,rn (.store 1 (.t 121) (.t 105)),rF 122 2 9,rn (.store 1 (.t 122) (.t 120))])
def Z7(EO H8:FuncId):AC:= (.block 0 (.loop (.seq (sq [rm 55 10,rm 56 8,ro 57 (.fH (.t 56)),rF 58 7 57,rL 59 58,ro 60 (.len (.t 59)),ro 61 (.bin .lss (.t 55) (.t 60))] (.cond (.t 61) .skip (.exit 0))) (.seq (.block 1 (sq [rm 64 8,ro 65 (.fH (.t 64)),rF 66 7 65,rL 67 66,rm 68 10,ro 69 (.aI 2 (.t 67) (.t 68)),ro 70 (.load (some 2) (.t 69)),ro 11 (.alloc (.agg [(.v (.int .i64 0)),(.v (.int .i64 0))]) 2),rn (.store 2 (.t 11) (.t 70))] (sq [rF 71 0 9,rL 72 71,ro 73 (.um 1 8 (.v (.int .i64 0)) (.t 72) (.t 72)),rm 12 73] (.seq (sq [rm 74 12,ro 75 (.len (.t 74)),ro 76 (.mv (ci 0))] (Z8 EO H8)) Td)))) (.reg none [rm 62 10,ro 63 (.bin .add (.t 62) (ci 1)),rm 10 63])))))
def Z6:AC:= (sq [ro 123 (.load (some 3) (.t 9)),rn (.store 3 (.t 6) (.t 123)),ro 7 (.mv (ci 0))] .ret)
def SV(Bh EO H8:FuncId):AC:= (sq [ro 3 (.box 3 (.t 0)),ro 4 (.box 3 (.t 1)),ro 6 (.alloc (.agg [(.v (.int .i64 0)),(.sl true []),(.sl true [])]) 3),ro 7 (.mv (ci 0))] (.seq (sq [ro 14 (.load (some 3) (.t 3)),rk 15 Bh [(.t 14)],ro 16 (.un .not (.t 15)),rm 17 16,rg 18 17 false (.load (some 3) (.t 4)),rl 19 17 false Bh [(.t 18)],rg 20 17 false (.un .not (.t 19)),ro 21 (.pick (.t 17) (.c (.v (.bool true))) (.t 20)),rm 22 21,rg 23 22 false (.bV 0 (.t 3)),rg 24 22 false (.load none (.t 23)),rg 25 22 false (.bV 0 (.t 4)),rg 26 22 false (.load none (.t 25)),rg 27 22 false (.bin .neq (.t 24) (.t 26)),ro 28 (.pick (.t 22) (.c (.v (.bool true))) (.t 27)),rm 29 28,rg 30 29 false (.bV 0 (.t 3)),rg 31 29 false (.load none (.t 30)),rg 32 29 false (.bin .gtr (.t 31) (ci 200)),ro 33 (.pick (.t 29) (.c (.v (.bool true))) (.t 32)),rm 34 33,rg 35 34 false (.mv (.t 2)),rg 36 34 false (.bin .lss (.t 35) (ci 1)),ro 37 (.pick (.t 34) (.c (.v (.bool true))) (.t 36)),rm 38 37,rg 39 38 false (.mv (.t 2)),rg 40 38 false (.bin .gtr (.t 39) (ci 3000)),ro 41 (.pick (.t 38) (.c (.v (.bool true))) (.t 40))] (.cond (.t 41) (sq [ro 42 (.build (.agg [(.v (.int .i64 0)),(.sl true []),(.sl true [])]) [] []),rn (.store 3 (.t 6) (.t 42)),ro 7 (.mv (ci 1))] .ret) .skip)) (sq [ro 43 (.load (some 3) (.t 3)),ro 44 (.load (some 3) (.t 4)),ro 45 (.Cm),ro 46 (.build (.agg [(.v (.int .i64 0)),(.sl true []),(.sl true []),(.v (.int .i64 0)),(.sl true []),(.sl true []),(.v (.map none)),(.sl true [])]) [(0,3),(3,3),(6,1)] [(0,(.t 43)),(1,(.t 44)),(2,(.t 45))]),ro 47 (.box 8 (.t 46)),rm 8 47] (sq [rm 48 8,ro 49 (.build (.agg [(.v (.int .i64 0)),(.v (.int .i64 0))]) [] []),rk 50 EO [(.t 48),(.t 49)]] (sq [rF 51 0 3,rL 52 51,ro 53 (.bin .mul (ci 2) (.t 52)),ro 54 (.build (.agg [(.v (.int .i64 0)),(.sl true []),(.sl true [])]) [(0,1)] [(0,(.t 53))]),ro 9 (.alloc (.agg [(.v (.int .i64 0)),(.sl true []),(.sl true [])]) 3),rn (.store 3 (.t 9) (.t 54))] (.seq (sq [ro 10 (.mv (ci 0))] (Z7 EO H8)) Z6))))))
abbrev U0:=wM (Int×Int)×(Bool×Bool)
section
variable(b a:aB)(most:Int)(n:Nat)
def vX(i:Nat):List (Nat×AV):=[(2,ak most),(3,.ptr 0 0 0),(4,.ptr 1 0 0),(6,.ptr 2 0 0),(8,.ptr 3 0 0),(9,.ptr 6 0 0),(10,ak i)]
def vY(ss:List (Int×Int))(nx:List (List Int))(en:List Bool)(oN oE:Bool):List (Nat×Option aF):=
 [(0,some (.arr 3 [aH b])),(1,some (.arr 3 [aH a])),(2,some (.arr 3 [oM])),(3,some (.arr 8 [kT b a 5 (.own 4 0 ss.length)])),(4,some (.arr 2 (ss.map bP))),(5,some (.map (iH bP 0 ss))),
  (6,some (.arr 3 [.agg [.v (.int .i64 n),vV oN 7 (nx.map au),vV oE 8 (en.map aG)]])),(7,vB oN 1 (nx.map au)),(8,vB oE 1 (en.map aG))]
def ZrF(i:Nat)(s:U0):Prop:=qN (qK b a) most i=some s.1∧∀m,m < i→∀lG,qN (qK b a) most m=some lG→m≠lG.1.length
def F6(i:Nat)(s:U0):List (Nat×AV):=vX most i
def F7(_:Nat)(s:U0):List (Nat×Option aF):=vY b a n s.1.1 s.1.2.1 s.1.2.2 s.2.1 s.2.2
def ZrG(x:Int×Int)(qp:List (Int×Int))(k:Nat)(s:List (Int×Int)×List Int):Prop:=
 wm most (vk b a x) k qp=some (s.1,s.2.take k)∧s.2.length=n∧∀j (h:j < qp.length),s.1[j]? = some qp[j]
def Dy(i:Nat)(k:Nat)(s:List (Int×Int)×List Int):List (Nat×AV):=(11,.ptr 9 0 0)::(12,.own 10 0 n)::(75,ak n)::(76,ak k)::vX most i
def Dz(x:Int×Int)(nx:List (List Int))(en:List Bool)(oN oE:Bool)(_:Nat)(s:List (Int×Int)×List Int):List (Nat×Option aF):=
 (9,some (.arr 2 [bP x]))::(10,some (.arr 1 (s.2.map ak)))::vY b a n s.1 nx en oN oE
theorem Y5{gF:Nat→Option aF}{R:Nat→Nat→Prop}(rV:List Int)(k:Nat)(v:Int):iX gF R ((List.map ak rV).set k (.v (.int .i64 v))) ((List.map ak rV).set k (.v (.int .i64 v))):=by
 have:(List.map ak rV).set k (.v (.int .i64 v))=List.map ak (rV.set k v):=by rw[List.map_set];rfl
 rw[this];exact iX.cl (kZ _)
theorem Y2(l:List Int)(k:Nat)(v:Int)(h:k < l.length):(l.set k v).take (k+1)=l.take k++[v]:=by
 rw[List.take_succ_eq_append_getElem (by simpa using h),List.take_set_of_le (Nat.le_refl _)];simp
theorem ZpC{g:Nat→Option aF}{b a:aB}{km:Nat}{lv:AV}(h:g 3=some (.arr 8 [kT b a km lv])):Fz g (.ptr 3 0 0) (xB b a):=
 .pre 3 8 [ak b.signs,aN b.next,bA b.fin,ak a.signs,aN a.next,bA a.fin] [.mp km,lv] h (aR (aX _) (aR (jr _) (aR (kR _) (aR (aX _) (aR (jr _) (aR (kR _) bB))))))
end
theorem ZlO(p:Int×Int):uH (bP p):=.agg _ fun y hy=>by simp at hy;rcases hy with rfl | rfl<;>exact .v _
theorem Zn4{k:Nat}(h:k≤1000):(IntKind.i64.wrap ((k % 2 ^ IntKind.i64.bits &&& 1 % 2 ^ IntKind.i64.bits:Nat):Int) == 1)=decide (k % 2=1):=by
 have e1:k % 2 ^ IntKind.i64.bits=k:=Nat.mod_eq_of_lt (by show k < 2 ^ 64;omega);have e2:1 % 2 ^ IntKind.i64.bits=1:=rfl;rw[e1,e2,Nat.and_one_is_mod,aZ _ (by omega)];by_cases h:k % 2=1
 ·simp[h]
 ·have h0:k % 2=0:=by omega
  simp[h0]
theorem ZfF{P:Program}{fr rT fb:FuncId}(b a:aB)(most:Int)(hrb:aM P fr [aH b] (aG (fE b)))(hra:aM P fr [aH a] (aG (fE a)))
  (hn:∀o ss x,(o=true∨ss=[])→ss.length≤100000→Gf P rT b a o ss x)
  (hb:bg b→bg a→b.signs=a.signs→∀x (s:Nat),vM b a x→s < (2*b.signs).toNat→aM P fb [xB b a,bP x,ak (s / 2:Nat),aG (decide (s % 2=1))] (bP (vk b a x s))) :
  bG P 0 (SV fr rT fb) (iI [.c 6 (some 3),.t 7] (dx (sQ (sS b a most)))) (bC [aH b,aH a,ak most]) S0:=by
 simp[SV];refine aQ.pure hrb (aR (dW b) bB) (cu _) ?_;cases hRb:fE b with
 | false=>
  have hres:sS b a most=(⟨0,[],[]⟩,1):=by simp[sS,hRb]
  rw[hres];simp[iI,iJ,RV.ev,jD,iO,jH,jh];exact Bz _ 1
 | true=>
 simp;refine aQ.pure hra (aR (dW a) bB) (cu _) ?_;cases V7:fE a with
 | false=>
  have hres:sS b a most=(⟨0,[],[]⟩,1):=by simp[sS,V7]
  rw[hres];simp[iI,iJ,RV.ev,jD,iO,jH,jh];exact Bz _ 1
 | true=>
 have Rb:=(wQ b).mp hRb;have Ra:=(wQ a).mp V7;by_cases hsg:b.signs=a.signs;rotate_left
 ·have hres:sS b a most=(⟨0,[],[]⟩,1):=by rw[sS,if_neg (by simp[hsg])]
  have hne:(b.signs != a.signs)=true:=by simp[hsg]
  rw[hres];simp[hne,iI,iJ,RV.ev,jD,iO,jH,jh];exact Bz _ 1
 have hne:(b.signs != a.signs)=false:=by simp[hsg]
 by_cases h2:200 < b.signs
 ·have hres:sS b a most=(⟨0,[],[]⟩,1):=by rw[sS,if_neg (by omega)]
  rw[hres];simp[hne,h2,iI,iJ,RV.ev,jD,iO,jH,jh];exact Bz _ 1
 by_cases h1:most < 1
 ·have hres:sS b a most=(⟨0,[],[]⟩,1):=by rw[sS,if_neg (by omega)]
  rw[hres];simp[hne,h2,h1,iI,iJ,RV.ev,jD,iO,jH,jh];exact Bz _ 1
 by_cases h3:3000 < most
 ·have hres:sS b a most=(⟨0,[],[]⟩,1):=by rw[sS,if_neg (by omega)]
  rw[hres];simp[hne,h2,h1,h3,iI,iJ,RV.ev,jD,iO,jH,jh];exact Bz _ 1
 have hres:sS b a most=(match JM (qK b a) most with | some st=>(⟨2*b.signs,st.2.1,st.2.2⟩,0) | none=>(⟨0,[],[]⟩,13)):=by rw[sS,if_pos ⟨hRb,V7,hsg,by omega,by omega,by omega⟩];cases JM (qK b a) most<;>rfl
 have hs1:=Rb.s1;obtain⟨n,hn2⟩:∃n:Nat,2*b.signs=(n:Int):=⟨(2*b.signs).toNat,by omega⟩;have hww:IntKind.i64.wrap (2*b.signs)=(n:Int):=by rw[hn2];exact aZ _ (by omega)
 have I:=Zs9 Rb Ra hsg;have hb':=hb Rb Ra hsg;have aa3:(qK b a).sg=n:=by show(2*b.signs).toNat=n;omega
 have V6:(qK b a).b=vk b a:=rfl;simp[hne,h2,h1,h3,jH,jh,DF];refine Gf.use (hn false [] (0,0) (.inr rfl) (by simp)) (id:=36) (il:=3) (km:=34) (by simp[kT,lK]) (by simp[oF]) (by simp[iH]) (by simp) (by simp) ?_;have hn0:Ay [] (0,0)=[(0,0)]:=rfl;simp[DR,hn0,hww,jH,jh,Z6,Z7];refine Bu most.toNat (ZrF b a most) (F6 most) 10 (F7 b a n) (([(0,0)],[],[]),false,false) ⟨rfl,fun m hm=>by omega⟩ ?_ ?_
 ·refine iU.of [(0,0),(1,1),(2,2),(3,36),(4,41),(5,34),(6,52)] [] (by omega) ⟨by simp,by simp⟩ ?_ ?_
  ·simp[F7,vY,oM,dW,kT,Bp,wP]
  ·simp[F6,vX,bP]
 ·rintro i ⟨⟨ss,nx,fin⟩,oN,oE⟩ hi' ⟨heq,hmin⟩
  simp only at heq hmin;have ok:=UW I (by omega) i heq;have hle:=ok.le;have hsl:=ok.ss.l;simp only at hle hsl;by_cases hlt:i < ss.length
  ·obtain⟨x,hx⟩:∃x,ss[i]? = some x:=⟨_,List.getElem?_eq_getElem hlt⟩
   have hxe:ss[i]=x:=by rw[List.getElem?_eq_getElem hlt] at hx;exact Option.some.inj hx
   have Pz:vM b a x:=ok.ss.v x (by rw[←hxe];exact List.getElem_mem hlt);have G5:qN (qK b a) most (i+1)=xA (qK b a) most i (ss,nx,fin):=by simp only[qN,heq]
   have hax:AV.agg [.v (.int .i64 x.1),.v (.int .i64 x.2)]=bP x:=rfl;have zF:(i:Int) < (ss.length:Int):=by omega
   have hmk:8*(n:Int)≤281474976710656:=by omega
   have KC:(n:Int)≤9223372036854775807:=by omega
   have abw:8*n≤281474976710656:=by omega
   have abx:n≤9223372036854775807:=by omega
   simp[F6,vX,F7,vY,kT,hlt,zF,hxe,Z8,jR,yj,hmk,KC];refine Bu n (ZrG b a most n x ss) (Dy most n i) 11 (Dz b a n x nx fin oN oE) (ss,List.replicate n 0) ⟨rfl,by simp,fun j hj=>List.getElem?_eq_getElem hj⟩ ?_ ?_
   ·refine iU.of [(0,0),(1,1),(2,2),(3,3),(4,4),(5,5),(6,6),(7,7),(8,8),(9,24),(10,28)] [] (by omega) ⟨by simp,by simp⟩ ?_ ?_
    ·simp[Dz,vY,oM,dW,kT,Bp,zf,wP,hax]
    ·simp[Dy,vX]
   ·rintro k ⟨ss1,rV⟩ hk ⟨hrow,G7,hpre⟩
    simp only at hrow G7 hpre;have hsx:∀s,s < n→s < (qK b a).sg:=fun s hs=>by omega
    obtain⟨hok,hlen1,hrl⟩:=Uf (V:=vM b a) (n:=n) (fun s hs=>I.next x s Pz (hsx s hs)) ok.ss k hk hrow;simp only at hok hlen1 hrl;have hl1:=hok.l;have hi1:i < ss1.length:=by omega
    by_cases hkl:k < n
    ·have Cg:(k:Int) < (n:Int):=by omega
     have hxn:=hb' x k Pz (by omega);have hvb:=I.next x k Pz (hsx k hkl)
     have hcn:=hn true ss1 (vk b a x k) (.inl rfl) (by omega);rw[V6] at hvb;generalize hto:vk b a x k=to at *;have hqq:((k / 2:Nat):Int)=(k:Int) / 2:=by omega
     have hq:IntKind.i64.wrap ((k:Int) / 2)=(k:Int) / 2:=by rw[←hqq];exact aZ _ (by omega)
     have hand:=Zn4 (k:=k) (by omega);rw[hqq] at hxn;simp[Dy,vX,Dz,vY,kT,Cg,hax,hq,hand];refine aQ.looks hxn (iN.cons (ZpC (km:=5) (lv:=.own 4 0 ss1.length) (by simp[kT])) (iN.cons (.closed _ (wP x)) (iN.cons (.closed _ (aX _)) (iN.cons (.closed _ (cu _)) iN.nil)))) (ZlO _) ?_;simp;refine Gf.use hcn (id:=3) (il:=4) (km:=5) (by simp[kT,kU]) (by simp[iZ]) (by simp) (by simp) (by simp) ?_;have zD:k < rV.length:=by omega
     have hrwn:n≤rV.length:=by omega
     by_cases hin:to∈ss1
     ·have hnl:Ay ss1 to=ss1:=by rw[Ay,if_pos hin]
      have Po:BO ss1 to=(@List.idxOf _ instBEqOfDecidableEq to ss1:Int):=by rw[BO,if_pos hin]
      have hnf:Aw most ss1 (vk b a x k)=some (ss1,(@List.idxOf _ instBEqOfDecidableEq to ss1:Int)):=by unfold Aw;rw[hto,if_pos hin]
      have hle2:¬most < (ss1.length:Int):=by omega
      simp[DR,hnl,Po,kT,jR,Cg,zD,hrwn,hle2];rw[aZ ((k:Int)+1) (by omega)];refine⟨hkl,(ss1,rV.set k (@List.idxOf _ instBEqOfDecidableEq to ss1:Int)),⟨by rw[Y2 _ _ _ zD];simp only[wm,hrow,hnf],by simpa using G7,hpre⟩,iU.of [(0,0),(1,1),(2,2),(3,3),(4,28),(5,5),(6,6),(7,7),(8,8),(9,9),(10,10)] [] (by omega) ⟨by simp,by simp⟩ ?_ ?_⟩
      ·simp[Dz,vY,oM,dW,kT,Bp,zf,wP,Y5]
      ·simp[Dy,vX]
     ·have hnl:Ay ss1 to=ss1++[to]:=by rw[Ay,if_neg hin]
      have Po:BO ss1 to=(ss1.length:Int):=by rw[BO,if_neg hin]
      by_cases hfull:(ss1.length:Int)=most
      ·have hnf:Aw most ss1 (vk b a x k)=none:=by unfold Aw;rw[hto,if_neg hin,if_pos hfull]
       have hgt:most < (ss1.length:Int)+1:=by omega
       have hrn:wm most (vk b a x) n ss=none:=Zv (k:=k+1) (by simp only[wm,hrow,hnf]) _ (by omega)
       have hnone:JM (qK b a) most=none:=by
        refine Zgu (most.toNat+1) 0 rfl i (Nat.zero_le _) (by rw[G5];simp only[xA,hx,aa3,V6,hrn]) (fun m _ h2 lG rU=>?_);by_cases lW:m=i
        ·subst lW
         rw[heq] at rU;cases rU;simp only;omega
        ·exact hmin m (by omega) lG rU
       rw[hnone] at hres;simp only at hres;rw[hres];simp[DR,hnl,Po,kT,jR,Cg,zD,hrwn,hgt,iI,iJ,RV.ev,jD,iO,jH,jh,oM];exact Bz _ 13
      ·have hnf:Aw most ss1 (vk b a x k)=some (ss1++[to],(ss1.length:Int)):=by unfold Aw;rw[hto,if_neg hin,if_neg hfull]
       have hgt:¬most < (ss1.length:Int)+1:=by omega
       simp[DR,hnl,Po,kT,jR,Cg,zD,hrwn,hgt];rw[aZ ((k:Int)+1) (by omega)];refine⟨hkl,(ss1++[to],rV.set k ss1.length),⟨by rw[Y2 _ _ _ zD];simp only[wm,hrow,hnf],by simpa using G7,fun a ha=>?_⟩,iU.of [(0,0),(1,1),(2,2),(3,3),(4,28),(5,5),(6,6),(7,7),(8,8),(9,9),(10,10)] [] (by omega) ⟨by simp,by simp⟩ ?_ ?_⟩
       ·have:=hpre a ha
        have hal:=(List.getElem?_eq_some_iff.mp this).1;simp only;rw[List.getElem?_append_left hal];exact this
       ·simp[Dz,vY,oM,dW,kT,Bp,zf,wP,Y5]
       ·simp[Dy,vX]
    ·have hke:k=n:=by omega
     subst hke;have hrt:rV.take k=rV:=by rw[←G7,List.take_length]
     rw[hrt] at hrow;have hnx:=ok.nx;have hfn:=ok.en;simp only at hnx hfn;have Pv:eY 24 nx.length 1:=by unfold eY;omega
     have Pt:eY 1 fin.length 1:=by unfold eY;omega
     have hsr:xA (qK b a) most i (ss,nx,fin)=some (ss1,nx++[rV],fin++[BN a x]):=by simp only[xA,hx,aa3,V6,hrow];rfl
     obtain⟨v0,v1,v2,v3,v4,v5⟩:=Pz;by_cases h2x:x.1=2
     ·have hme:BN a x=jL a x.2.toNat:=by simp[BN,h2x]
      have haf:=Ra.fin;have Pw:x.2 < (a.fin.length:Int):=by have:=v4 h2x;omega
      obtain⟨hfi,GZ⟩:=Zmx (d:=a) x.2.toNat;simp[Dy,vX,Dz,vY,kT,Td,Pv,Pt,h2x,v2,Pw,GZ];refine⟨by rintro j (⟨_,rfl⟩ | rfl)<;>simp,by rintro j (⟨_,rfl⟩ | rfl)<;>simp,?_⟩;rw[aZ ((i:Int)+1) (by omega)];refine⟨by omega,((ss1,nx++[rV],fin++[BN a x]),true,true),⟨by rw[G5,hsr],fun m hm lG rU=>?_⟩,iU.of [(0,0),(1,1),(2,2),(3,3),(4,4),(5,5),(6,6),(7,16),(8,31)] [10] (by omega) ⟨by simp,by simp⟩ ?_ ?_⟩
      ·by_cases lW:m=i
       ·subst lW
        rw[heq] at rU;cases rU;simp only;omega
       ·exact hmin m (by omega) lG rU
      ·simp[F7,vY,oM,dW,kT,Bp,zf,hme,G7]
      ·simp[F6,vX]
     ·have hme:BN a x=false:=by simp[BN,h2x]
      have aax:(x.1 == 2)=false:=by simp[h2x]
      simp[Dy,vX,Dz,vY,kT,Td,Pv,Pt,aax];refine⟨by rintro j (⟨_,rfl⟩ | rfl)<;>simp,by rintro j (⟨_,rfl⟩ | rfl)<;>simp,?_⟩;rw[aZ ((i:Int)+1) (by omega)];refine⟨by omega,((ss1,nx++[rV],fin++[BN a x]),true,true),⟨by rw[G5,hsr],fun m hm lG rU=>?_⟩,iU.of [(0,0),(1,1),(2,2),(3,3),(4,4),(5,5),(6,6),(7,16),(8,31)] [10] (by omega) ⟨by simp,by simp⟩ ?_ ?_⟩
      ·by_cases lW:m=i
       ·subst lW
        rw[heq] at rU;cases rU;simp only;omega
       ·exact hmin m (by omega) lG rU
      ·simp[F7,vY,oM,dW,kT,Bp,zf,hme,G7]
      ·simp[F6,vX]
  ·have hie:i=ss.length:=by omega
   subst hie;have AJ:JM (qK b a) most=some (ss,nx,fin):=Zj1 I (by omega) (most.toNat+1) 0 rfl (by omega) ss.length (ss,nx,fin) (Nat.zero_le _) heq rfl (fun m _ h2=>hmin m h2);rw[AJ] at hres;simp only at hres;rw[hres,hn2];simp[F6,vX,F7,vY,kT,jR,iI,iJ,RV.ev,jD,iO,oM];refine .EY (.cons (.IK (.cons (.closed _ (.v _)) (.cons (zq ?_ (kX _)) (.cons (zq ?_ (om _)) .nil)))) (.cons (.closed _ (.v _)) .nil))
   ·simp
   ·simp
end Go.Rf
namespace Go.Rf
open Go.RowKit
attribute [local simp] jv jk jX jO jG jY jP jI kF jW jN bZ gL eu fq gH d9 fI gI gy eT gD eB fO gG fM dG dJ dZ eX iq iw fG iy fC fB fu dD gT gU gV fJ fK iC gJ fU gZ gW gY gX ig iD fZ iA fP fQ gM iB dh dF fD gu iE ex aj fA cO dO bJ bO aD bE dX eU dn gP gQ gN gK fV bI cZ dw eD eF fF dN bY bM dz bX dP dA dH eO eG eH dY bW dQ cK cB aY AV.solid S0 ak aG
def PW(l:List Int):Bool:=!l.isEmpty
theorem Ziu{P:Program}{fc:FuncId}(H:wH P fc (qx 1 8 (.v (.int .i64 0))) [.t 2] 1)(l:List Int)(hl:l.length≤17592186043904){S:St}{K:AV→St→Prop}(hg:S.g (S.n+5)=none)
  (hk:K (vV (PW l) (S.n+5) (l.map ak)) ((St.mk (S.n+7) S.g).set (S.n+5) (vB (PW l) 1 (l.map ak)))):aQ P fc [au l] S K:=by
 refine H rfl ?_;have hb:cZ 1 0 (.v (.int .i64 0)) []=some (.sl true []):=RN _ _;by_cases h0:l=[]
 ·subst h0
  have hr:∀n aA,(jC 1 8 (.sl true []) (.sl false [])).run ⟨n,S.g⟩ aA=some (.sl true [],⟨n,S.g⟩):=by
   intro n aA;simp[jC,kK,AV.jA,Eff.run,St.dV,St.iG,eY]
  have hs:∀n,(St.mk n S.g).set (S.n+5) none=St.mk n S.g:=fun n=>by
   simp only[St.set,St.mk.injEq,true_and];funext j;simp only[bq];split
   ·rename_i h;subst h;exact hg.symm
   ·rfl
  simp only[PW,List.isEmpty_nil,Bool.not_true,List.map_nil,lK,oF,hs] at hk;simp[qx,au,hr];refine⟨[.sl true []],by simp[iJ,RV.ev,aj],?_⟩;simp[iO];exact hk
 ·have hn:PW l=true:=by cases l with
   | nil=>exact(h0 rfl).elim
   | cons x l=>rfl
  have hr:∀n aA,(jC 1 8 (.sl true []) (.sl false (l.map ak))).run ⟨n,S.g⟩ aA=some (.own aA 0 l.length,(⟨n,S.g⟩:St).set aA (some (.arr 1 (l.map ak)))):=by
   intro n aA;have hc:=xS l;have ha:eY 8 0 l.length:=by unfold eY;omega
   have hc2:∀x∈l.map ak,x.cells.length=1:=hc;have h3:kK 1 [] (.sl false (l.map ak))=some (l.map ak):=by simp only[kK];rw[if_pos hc2]
   have h4:¬(l.map ak).length=0:=by simp;exact h0
   simp only[jC,Eff.run,AV.jA,List.mapM_nil,Option.pure_def,h3,Option.bind_some,List.length_nil,Nat.zero_add,List.length_map,ha,and_true];rw[if_pos (by simp),if_neg (by simpa using h0)];simp[St.dV,St.iG]
  rw[hn,kU,iZ,List.length_map] at hk;simp[qx,au,hr];refine⟨[.own (S.n+5) 0 l.length],by simp[iJ,RV.ev,aj],?_⟩;simp[iO];exact hk
end Go.Rf
namespace Go.Rf
open Go.RowKit
attribute [local simp] nH nD mP lY mM mR mO nE nG mQ mW mo lu lN nk nQ ni oG oz ow nX oD ou nW nL mU nJ nZ nY nT nO mV nM oh og nU lQ lZ mX mY mq lX bZ gL eu fq gH d9 fI gI gy eT gD eB fO gG fM dG dJ dZ eX iq iw fG iy fC fB fu dD gT gU gV fJ fK iC gJ fU gZ gW gY gX ig iD fZ iA fP fQ gM iB dh dF fD gu iE ex aj fA cO dO bJ bO aD bE dX eU dn gP gQ gN gK fV bI cZ dw eD eF fF dN bY mD mF dz bX l6 mE mZ l7 dH eO eG eH dY bW dQ cK cB aY nS nA mJ mK mH mh mI ny lS l9 nu nC S0 ak aG oZ oU pz oW oQ pq o8 oV o7 pK pG pJ pF o9 pE qV iX.cl bU.cl aX cu bD jr kR qU qQ qR pW rz rC qZ qX kZ om kX rD pQ pO qd rE rH rG rA oI oJ rJ qb ru p8 oK qw kQ rO kU lK iZ oF
def Zau(Ie P3H P1X pV Qr Qx P4b P4Q Ia:FuncId):AC:= (sq [ro 2 (.box 1 (.t 0)),ro 3 (.box 4 (.t 1)),ro 4 (.alloc (.agg [(.v (.bool false)),(.sl true []),(.sl true [])]) 3)] (.seq (sq [rF 8 0 3,rL 9 8] (.block 0 (sq [ro 11 (.bin .eql (.t 9) (ci 1)),rm 10 11] (.cond (.t 10) (sq [ro 12 (.build (.agg [(.v (.bool false)),(.sl true []),(.sl true [])]) [(0,1)] [(0,(.c (.v (.bool true))))]),rn (.store 3 (.t 4) (.t 12))] .ret) (sq [ro 14 (.bin .eql (.t 9) (ci 2)),rm 13 14] (.cond (.t 13) (.seq (.xC [(0,⟨(some 15),.load none (.t 2),none,none⟩,[]),(1,⟨(some 16),.bV 2 (.t 3),none,none⟩,[]),(2,⟨(some 17),.load none (.t 16),none,none⟩,[]),(3,⟨(some 18),.mv (.c .junk),none,(some ((.c (.aO Ie [] [])),[(.t 17)]))⟩,[0]),(4,⟨(some 19),.yP P3H [] [(.t 2)],none,none⟩,[]),(5,⟨(some 20),.mv (.c .junk),none,(some ((.c (.aO P1X [] [])),[(.t 18),(.t 19)]))⟩,[0]),(6,⟨(some 21),.mv (.c .junk),none,(some ((.c (.aO pV [] [])),[(.t 20)]))⟩,[0]),(7,⟨(some 22),.mv (.c .junk),none,(some ((.c (.aO Qr [] [])),[(.t 15),(.t 21)]))⟩,[]),(8,⟨(some 23),.bS 1 1 (.v (.int .i64 0)) [(0,(.t 22))],none,none⟩,[]),(9,⟨(some 5),.mv (.t 23),none,none⟩,[])]) (sq [rm 24 5,rm 25 5,ro 26 (.build (.agg [(.v (.bool false)),(.sl true []),(.sl true [])]) [(0,1),(1,1),(2,1)] [(0,(.c (.v (.bool false)))),(1,(.t 24)),(2,(.t 25))]),rn (.store 3 (.t 4) (.t 26))] .ret)) (sq [ro 28 (.bin .eql (.t 9) (ci 3)),rm 27 28] (.cond (.t 27) (.seq (.xC [(0,⟨(some 29),.load none (.t 2),none,none⟩,[]),(1,⟨(some 30),.load none (.t 2),none,none⟩,[]),(2,⟨(some 31),.bV 3 (.t 3),none,none⟩,[]),(3,⟨(some 32),.load none (.t 31),none,none⟩,[]),(4,⟨(some 33),.mv (.c .junk),none,(some ((.c (.aO Qx [] [])),[(.t 30),(.t 32)]))⟩,[0]),(5,⟨(some 34),.mv (.c .junk),none,(some ((.c (.aO P4b [] [])),[(.t 29),(.t 33)]))⟩,[]),(6,⟨none,.store 3 (.t 4) (.t 34),none,none⟩,[])]) .ret) (sq [ro 36 (.bin .eql (.t 9) (ci 4)),rm 35 36] (.cond (.t 35) (sq [rL 37 2,rF 38 3 3,rL 39 38,rk 40 Qx [(.t 37),(.t 39)],rk 41 P4Q [(.t 40)],rn (.store 3 (.t 4) (.t 41))] .ret) .skip)))))))))) (sq [rL 42 2,rF 43 3 3,rL 44 43,rk 45 Qx [(.t 42),(.t 44)],rm 6 45] (.seq (sq [rm 46 6,ro 47 (.len (.t 46)),ro 48 (.bin .neq (.t 47) (ci 1)),rm 49 48,rg 50 49 false (.bV 0 (.t 3)),rg 51 49 false (.load none (.t 50)),rg 52 49 false (.bin .lss (.t 51) (ci 5)),ro 53 (.pick (.t 49) (.c (.v (.bool true))) (.t 52)),rm 54 53,rg 55 54 false (.bV 0 (.t 3)),rg 56 54 false (.load none (.t 55)),rg 57 54 false (.bin .gtr (.t 56) (ci 7)),ro 58 (.pick (.t 54) (.c (.v (.bool true))) (.t 57))] (.cond (.t 58) (sq [ro 59 (.build (.agg [(.v (.bool false)),(.sl true []),(.sl true [])]) [] []),rn (.store 3 (.t 4) (.t 59))] .ret) .skip)) (sq [rm 60 6,ro 61 (.aI 3 (.t 60) (ci 0)),ro 62 (.load (some 3) (.t 61)),ro 7 (.alloc (.agg [(.v (.bool false)),(.sl true []),(.sl true [])]) 3),rn (.store 3 (.t 7) (.t 62))] (.seq (sq [rF 63 0 3,rL 64 63,ro 65 (.bin .neq (.t 64) (ci 7))] (.cond (.t 65) (.reg none [rL 66 2,rF 67 2 7,rL 68 67,rF 69 1 7,rL 70 69,rk 71 Ia [(.t 66),(.t 68),(.t 70)]]) .skip)) (sq [rF 72 0 7,rL 73 72,rm 74 73,rg 75 74 false (.bV 0 (.t 3)),rg 76 74 false (.load none (.t 75)),rg 77 74 false (.bin .neq (.t 76) (ci 6)),ro 78 (.pick (.t 74) (.c (.v (.bool true))) (.t 77)),rF 79 0 7,rn (.store 1 (.t 79) (.t 78))] (sq [ro 80 (.load (some 3) (.t 7)),rn (.store 3 (.t 4) (.t 80))] .ret))))))))
def Znm(Iy:FuncId):AC:= (.loop (sq [ro 10 (.bin .lss (.t 9) (.t 8))] (.seq (.cond (.t 10) .skip (.exit 0)) (.seq (.block 1 (sq [ro 11 (.aI 4 (.t 7) (.t 9)),ro 12 (.load (some 4) (.t 11)),ro 5 (.alloc (.agg [(.v (.int .i64 0)),(.sl true []),(.sl true []),(.sl true [])]) 4),rn (.store 4 (.t 5) (.t 12))] (.reg none [rm 13 3,ro 14 (.load (some 4) (.t 5)),rk 15 Iy [(.t 14)],ro 16 (.bin .add (.t 13) (.t 15)),ro 17 (.mm false (ci 100000) (.t 16)),rm 3 17]))) (.reg none [ro 18 (.bin .add (.t 9) (ci 1)),rm 9 18])))))
def Zfe(Iy:FuncId):AC:= (sq [ro 1 (.box 4 (.t 0)),ro 2 (.mv (ci 0))] (sq [ro 3 (.mv (ci 1))] (.seq (sq [rF 6 3 1,rL 7 6,ro 8 (.len (.t 7)),ro 9 (.mv (ci 0))] (.block 0 (Znm Iy))) (sq [rm 19 3,rm 2 19] .ret))))
mutual
def PV:iT→Nat
 | .mk _ _ _ ks=>1+KM ks
def KM:List iT→Nat
 | []=>0
 | q::qs=>PV q+KM qs
end
def KP(p:iT):Int:=min 100000 (PV p)
mutual
theorem Zml:∀(p:iT),DX p≤PV p
 | .mk k _ _ ks=>by
  have:=Zix ks;simp only[DX,PV];split
  ·omega
  ·split<;>omega
theorem Zix:∀(ks:List iT),BX ks≤KM ks
 | []=>by simp[BX,KM]
 | q::qs=>by have:=Zml q;have:=Zix qs;simp only[BX,KM];omega
end
def FL(Iy Qr Ik Ie pV:FuncId):AC:= (sq [ro 2 (.box 4 (.t 0)),ro 4 (.alloc (.agg [(.v (.int .i64 0)),(.sl true []),(.sl true []),(.sl true [])]) 4),ro 5 (.mv (ci 0))] (.seq (.block 0 (sq [rm 9 1,ro 10 (.bin .lss (.t 9) (ci 1)),rm 11 10,rg 12 11 false (.mv (.t 1)),rg 13 11 false (.bin .gtr (.t 12) (ci 400)),ro 14 (.pick (.t 11) (.c (.v (.bool true))) (.t 13)),rm 8 14] (.cond (.t 8) (sq [ro 15 (.build (.agg [(.v (.int .i64 0)),(.sl true []),(.sl true []),(.sl true [])]) [] []),rn (.store 4 (.t 4) (.t 15)),ro 5 (.mv (ci 1))] .ret) (sq [ro 17 (.load (some 4) (.t 2)),rk 18 Iy [(.t 17)],ro 19 (.bin .gtr (.t 18) (ci 300)),rm 16 19] (.cond (.t 16) (sq [ro 20 (.build (.agg [(.v (.int .i64 0)),(.sl true []),(.sl true []),(.sl true [])]) [] []),rn (.store 4 (.t 4) (.t 20)),ro 5 (.mv (ci 9))] .ret) .skip))))) (sq [rm 21 1,ro 22 (.build (.agg [(.v (.int .i64 0)),(.sl true []),(.sl true []),(.sl true [])]) [(0,1)] [(0,(.t 21))]),ro 23 (.build (.agg [(.v (.int .i64 0)),(.sl true []),(.sl true []),(.sl true [])]) [(0,4)] [(0,(.t 22))]),ro 24 (.box 4 (.t 23)),rm 6 24] (sq [rm 25 6,rk 26 Qr [(.t 25),(.c (.sl true []))]] (sq [rm 27 6,ro 28 (.load (some 4) (.t 2)),rk 29 Ik [(.t 27),(.t 28)],ro 7 (.alloc (.agg [(.v (.bool false)),(.sl true []),(.sl true [])]) 3),rn (.store 3 (.t 7) (.t 29))] (.seq (.reg (some [[],[],[],[],[],[],[],[],[],[],[],[false,true,true,false,false,true]]) [rm 30 6,ro 31 (.fH (.t 30)),rF 32 0 31,rF 33 2 32,rL 34 33,rm 35 6,rF 36 1 7,rL 37 36,rF 38 2 7,rL 39 38,ro 40 (.aI 1 (.t 34) (ci 0)),rn (.store 1 (.t 40) (.t 37)),ro 41 (.fH (.t 35)),rF 42 0 41,rF 43 3 42,rn (.store 1 (.t 43) (.t 39))]) (.seq (sq [rF 44 0 7,rL 45 44] (.cond (.t 45) (.reg none [rm 46 6,rF 47 2 7,rL 48 47,rk 49 Ie [(.t 48)],ro 50 (.bS 1 1 (.v (.int .i64 0)) [(0,(ci 0))]),ro 51 (.app 1 8 (.t 49) (.t 50)),rk 52 pV [(.t 51)],ro 53 (.fH (.t 46)),rF 54 0 53,rF 55 3 54,rn (.store 1 (.t 55) (.t 52))]) .skip)) (sq [rm 56 6,ro 57 (.fH (.t 56)),rF 58 0 57,ro 59 (.load (some 4) (.t 58)),rn (.store 4 (.t 4) (.t 59)),ro 5 (.mv (ci 0))] .ret))))))))
def GH:Net:=⟨0,[],[],[]⟩
def zY(p:iT)(sg:Int):Net×Int:=if sg < 1∨400 < sg then (GH,1) else if 300 < KP p then (GH,9) else (Vk p sg,0)
def U3(r:Net×Int):AV:=.aL [iV r.1,ak r.2]
theorem Uu(g:Nat→Option aF)(e:Int):Fz g (.aL [.agg [.v (.int .i64 0),.sl true [],.sl true [],.sl true []],.v (.int .i64 e)]) (U3 (GH,e)):=
 .EY (.cons (.IK (.cons (.closed _ (.v _)) (.cons JE (.cons JE (.cons JE .nil))))) (.cons (.closed _ (.v _)) .nil))
theorem ZrA{p:iT}(h:¬300 < KP p):DX p≤300:=by
 have:=Zml p;unfold KP at h;omega
theorem Zgr{g:Nat→Option aF}{id n:Nat}{l:List (List Int)}(hg:g id=some (.arr 1 (l.map au)))(hn:n=l.length):Fz g (.own id 0 n) (aN l):=by
 have:=zq (g:=g) (o:=true) (id:=id) (xs:=l.map au) (by rw[iZ];exact hg) (kX l);rw[kU,List.length_map,←hn] at this;exact this
theorem ZnI{g:Nat→Option aF}{id n:Nat}{l:List Int}(hg:g id=some (.arr 1 (l.map ak)))(hn:n=l.length):Fz g (.own id 0 n) (au l):=by
 have:=zq (g:=g) (o:=true) (id:=id) (xs:=l.map ak) (by rw[iZ];exact hg) (kZ l);rw[kU,List.length_map,←hn] at this;exact this
theorem ZiT{g:Nat→Option aF}{sg:Int}{b c:Nat}{aC fo:List (List Int)}{x l:List Int}(h1:g b=some (.arr 1 (aC.map au)))(h2:g c=some (.arr 1 ((fo.set 0 x).map au))) :
  Fz g (.aL [.agg [.v (.int .i64 sg),.own b 0 aC.length,.own c 0 fo.length,au l],.v (.int .i64 0)]) (U3 (⟨sg,aC,fo.set 0 x,l⟩,0)):=
 .EY (.cons (.IK (.cons (.closed _ (.v _)) (.cons (Zgr h1 rfl) (.cons (Zgr h2 (by simp)) (.cons (.closed _ (bD _)) .nil))))) (.cons (.closed _ (.v _)) .nil))
theorem LB{P:Program}{fz fst ff fc aa1:FuncId}{p:iT}{sg:Int}(hz:aM P fz [zi p] (ak (KP p)))(hs:Ai P fst [au []] sg false ⟨[],[]⟩ st0 (ak 0))(hf:ZmV P ff sg p)
  (hc:wH P fc (qx 1 8 (.v (.int .i64 0))) [.t 2] 1) (hset:ZqW P aa1) :
  bG P 0 (FL fz fst ff fc aa1) (iI [.c 4 (some 4),.t 5] (dx (U3 (zY p sg)))) (bC [zi p,ak sg]) S0:=by
 obtain⟨k,ps,pg,ks⟩:=p;have hcp:=Zb (.mk k ps pg ks);by_cases h1:sg < 1
 ·have hr:zY (.mk k ps pg ks) sg=(GH,1):=by rw[zY,if_pos (.inl h1)]
  rw[hr];simp[FL,Fx,bY,jH,jh,h1,iI,iJ,RV.ev,jD,iO];exact Uu _ 1
 by_cases h2:400 < sg
 ·have hr:zY (.mk k ps pg ks) sg=(GH,1):=by rw[zY,if_pos (.inr h2)]
  rw[hr];simp[FL,Fx,bY,jH,jh,h1,h2,iI,iJ,RV.ev,jD,iO];exact Uu _ 1
 have hsz:=hz;simp only[Fx,ak] at hsz hcp;by_cases h3:300 < KP (.mk k ps pg ks)
 ·have hr:zY (.mk k ps pg ks) sg=(GH,9):=by rw[zY,if_neg (by omega),if_pos h3]
  rw[hr];simp[FL,Fx,bY,h1,h2];refine aQ.pure hsz (aR hcp bB) (aX _) ?_;simp[jH,jh,h3,iI,iJ,RV.ev,jD,iO];exact Uu _ 9
 have hr:zY (.mk k ps pg ks) sg=(Vk (.mk k ps pg ks) sg,0):=by rw[zY,if_neg (by omega),if_neg h3]
 rw[hr];have hcnt:=ZrA h3;have hN0:uD st0:=⟨rfl,fun r hr=>by simp[st0] at hr;subst hr;exact jq.nil⟩;have Wi:=hf st0 hN0 (by show 1+_≤_;omega);obtain⟨n1,n2,n3⟩:=ZiY sg (.mk k ps pg ks) st0 hN0;simp only[Fx,ak] at Wi;have hno:Vk (.mk k ps pg ks) sg=⟨sg,(oq sg (.mk k ps pg ks) st0).2.aC,(oq sg (.mk k ps pg ks) st0).2.fo.set 0 (oq sg (.mk k ps pg ks) st0).1.fst,if (oq sg (.mk k ps pg ks) st0).1.qL=true then jm ((oq sg (.mk k ps pg ks) st0).1.jS++[0]) else (oq sg (.mk k ps pg ks) st0).1.jS⟩:=rfl;rw[hno];have hb1:st0.aC.length=1:=rfl;generalize oq sg (.mk k ps pg ks) st0=ge at *;obtain⟨e,st1⟩:=ge;simp only at n1 n2 n3 Wi ⊢;have hl:=n1.len;have hfl:0 < st1.fo.length:=by omega
 have hll:=n2.l.len;simp[FL,Fx,bY,h1,h2];refine aQ.pure hsz (aR hcp bB) (aX _) ?_;simp[jH,jh,h3];refine Ai.use hs (fun _=>.cons (.loose (by simp)) .nil) (aX _) (id:=17) (b:=2) (c:=3) (by simp[yg,lK]) (by simp[oF]) (by simp[oF]) (by simp) (by simp) ?_;simp[DU];refine Ai.use Wi (fun _=>.cl (aR hcp bB)) (Ziv _) (id:=17) (b:=21) (c:=22) (by simp[yg,kU]) (by simp[iZ]) (by simp[iZ]) (by simp) (by simp) ?_;cases hn:e.qL
 ·rw[if_neg (by simp)]
  simp[DU,yg,bY,Zgb,Zh1,hfl,jR,hn,iI,iJ,RV.ev,jD,iO];exact ZiT (by simp) (by simp[List.map_set])
 ·rw[if_pos rfl]
  simp[DU,yg,bY,Zgb,Zh1,hfl,jR,hn];have hap:eY 8 e.jS.length 1:=by unfold eY;omega
  have hst:=hset (e.jS++[0]) (by rw[List.length_append];simp;omega);refine Ziu hc e.jS (by omega) (by simp) ?_;simp[hap];refine aQ.gives [63] hst (iN.cons ?_ iN.nil) (bD _) ?_
  ·exact ZnI (l:=e.jS++[0]) (by simp[BJ,aD,ak]) (by simp)
  simp[jR,Nk,lQ,lS,iI,iJ,RV.ev,jD,iO];exact ZiT (by simp[Nk]) (by simp[List.map_set,Nk])
def Zna(uy:FuncId):AC:= (.loop (.seq (sq [rm 6 5,rm 7 1,ro 8 (.len (.t 7)),ro 9 (.bin .lss (.t 6) (.t 8))] (.cond (.t 9) .skip (.exit 0))) (.seq (.block 1 (.reg none [rm 12 0,rm 13 1,rm 14 5,ro 15 (.aI 1 (.t 13) (.t 14)),rL 16 15,rk 17 uy [(.t 12),(.t 16)],rm 0 17])) (.reg none [rm 10 5,ro 11 (.bin .add (.t 10) (ci 1)),rm 5 11]))))
def Z9m(uy:FuncId):AC:= (sq [ro 4 (.mv (.c (.sl true [])))] (.seq (sq [ro 5 (.mv (ci 0))] (.block 0 (Zna uy))) (sq [rm 18 0,rm 4 18] .ret)))
def Znc(wK:FuncId):AC:= (.loop (.seq (sq [rm 7 6,rm 8 1,ro 9 (.len (.t 8)),ro 10 (.bin .lss (.t 7) (.t 9))] (.cond (.t 10) .skip (.exit 0))) (.seq (.block 1 (.reg (some []) [rm 13 0,ro 14 (.fH (.t 13)),rF 15 0 14,rF 16 2 15,rL 17 16,rm 18 1,rm 19 6,ro 20 (.aI 1 (.t 18) (.t 19)),rL 21 20,rm 22 0,ro 23 (.fH (.t 22)),rF 24 0 23,rF 25 2 24,rL 26 25,rm 27 1,rm 28 6,ro 29 (.aI 1 (.t 27) (.t 28)),rL 30 29,ro 31 (.aI 1 (.t 26) (.t 30)),rL 32 31,rm 33 2,rk 34 wK [(.t 32),(.t 33)],ro 35 (.aI 1 (.t 17) (.t 21)),rn (.store 1 (.t 35) (.t 34))])) (.reg none [rm 11 6,ro 12 (.bin .add (.t 11) (ci 1)),rm 6 12]))))
def Z6w(wK:FuncId):AC:= (sq [ro 6 (.mv (ci 0))] (.block 0 (Znc wK)))
def Znd(vK:FuncId):AC:= (.loop (.seq (sq [rm 6 5,rF 7 3 3,rL 8 7,ro 9 (.len (.t 8)),ro 10 (.bin .lss (.t 6) (.t 9))] (.cond (.t 10) .skip (.exit 0))) (.seq (.block 1 (.reg none [rm 13 0,rF 14 3 3,rL 15 14,rm 16 5,ro 17 (.aI 4 (.t 15) (.t 16)),ro 18 (.load (some 4) (.t 17)),rk 19 vK [(.t 13),(.t 18)]])) (.reg none [rm 11 5,ro 12 (.bin .add (.t 11) (ci 1)),rm 5 12]))))
def Z6R(vK:FuncId):AC:= (sq [ro 3 (.box 4 (.t 1)),ro 4 (.alloc (.agg [(.v (.bool false)),(.sl true []),(.sl true [])]) 3)] (.seq (sq [ro 5 (.mv (ci 0))] (.block 0 (Znd vK))) (sq [ro 20 (.build (.agg [(.v (.bool false)),(.sl true []),(.sl true [])]) [] []),rn (.store 3 (.t 4) (.t 20))] .ret)))
def Znl(H6:FuncId):AC:= (.loop (.seq (sq [rm 5 4,rF 6 3 1,rL 7 6,ro 8 (.len (.t 7)),ro 9 (.bin .lss (.t 5) (.t 8))] (.cond (.t 9) .skip (.exit 0))) (.seq (.block 1 (.reg none [rm 12 3,rF 13 3 1,rL 14 13,rm 15 4,ro 16 (.aI 4 (.t 14) (.t 15)),ro 17 (.load (some 4) (.t 16)),rk 18 H6 [(.t 17)],ro 19 (.bin .add (.t 12) (.t 18)),ro 20 (.mm false (ci 100000) (.t 19)),rm 3 20])) (.reg none [rm 10 4,ro 11 (.bin .add (.t 10) (ci 1)),rm 4 11]))))
def Z8O(H6:FuncId):AC:= (sq [ro 1 (.box 4 (.t 0)),ro 2 (.mv (ci 0))] (sq [ro 3 (.mv (ci 1))] (.seq (sq [ro 4 (.mv (ci 0))] (.block 0 (Znl H6))) (sq [rm 21 3,rm 2 21] .ret))))
end Go.Rf
namespace Go.Rf
open Go.RowKit
attribute [local simp] nH nD mP lY mM mR mO nE nG mQ mW mo lu lN nk nQ ni oG oz ow nX oD ou nW nL mU nJ nZ nY nT nO mV nM oh og nU lQ lZ mX mY mq lX bZ gL eu fq gH d9 fI gI gy eT gD eB fO gG fM dG dJ dZ eX iq iw fG iy fC fB fu dD gT gU gV fJ fK iC gJ fU gZ gW gY gX ig iD fZ iA fP fQ gM iB dh dF fD gu iE ex aj fA cO dO bJ bO aD bE dX eU dn gP gQ gN gK fV bI cZ dw eD eF fF dN bY mD mF dz bX l6 mE mZ l7 dH eO eG eH dY bW dQ cK cB aY nS nA mJ mK mH mh mI ny lS l9 nu nC S0 ak aG oZ oU pz oW oQ pq o8 oV o7 pK pG pJ pF o9 pE qV iX.cl bU.cl aX cu bD jr kR qU qQ qR pW rz rC qZ qX kZ om kX rD pQ pO qd rE rH rG rA oI oJ rJ qb ru p8 oK qw kQ rO
def Zpo(uy:FuncId):AC:= (.loop (.seq (sq [rm 30 7,rF 31 2 3,rL 32 31,ro 33 (.len (.t 32)),ro 34 (.bin .lss (.t 30) (.t 33))] (.cond (.t 34) .skip (.exit 1))) (.seq (.block 2 (.seq (.reg (some []) [rF 37 2 3,rL 38 37,rm 39 7,ro 40 (.aI 1 (.t 38) (.t 39)),rL 41 40,ro 42 (.bin .geq (.t 41) (ci 0)),rm 43 42,rg 44 43 true (.bV 2 (.t 3)),rg 45 43 true (.load none (.t 44)),rg 46 43 true (.mv (.t 7)),rg 47 43 true (.aI 1 (.t 45) (.t 46)),rg 48 43 true (.load none (.t 47)),rg 49 43 true (.mv (.t 0)),rg 50 43 true (.fH (.t 49)),rg 51 43 true (.bV 0 (.t 50)),rg 52 43 true (.bV 0 (.t 51)),rg 53 43 true (.load none (.t 52)),rg 54 43 true (.bin .lss (.t 48) (.t 53)),ro 55 (.pick (.t 43) (.t 54) (.c (.v (.bool false))))]) (.cond (.t 55) (.reg none [rm 56 6,rF 57 2 3,rL 58 57,rm 59 7,ro 60 (.aI 1 (.t 58) (.t 59)),rL 61 60,rk 62 uy [(.t 56),(.t 61)],rm 6 62]) .skip))) (.reg none [rm 35 7,ro 36 (.bin .add (.t 35) (ci 1)),rm 7 36]))))
def Zpm(vK K3 wK:FuncId):AC:= (.loop (.seq (sq [rm 96 9,rF 97 3 3,rL 98 97,ro 99 (.len (.t 98)),ro 100 (.bin .lss (.t 96) (.t 99))] (.cond (.t 100) .skip (.exit 3))) (.seq (.block 4 (sq [rm 103 0,rF 104 3 3,rL 105 104,rm 106 9,ro 107 (.aI 4 (.t 105) (.t 106)),ro 108 (.load (some 4) (.t 107)),rk 109 vK [(.t 103),(.t 108)],ro 10 (.alloc (.agg [(.v (.bool false)),(.sl true []),(.sl true [])]) 3),rn (.store 3 (.t 10) (.t 109))] (sq [rm 110 0,rF 111 2 8,rL 112 111,rF 113 1 10,rL 114 113,rk 115 K3 [(.t 110),(.t 112),(.t 114)]] (.seq (sq [rF 116 0 8,rL 117 116] (.cond (.t 117) (.reg none [rF 118 1 8,rL 119 118,rF 120 1 10,rL 121 120,rk 122 wK [(.t 119),(.t 121)],rF 123 1 8,rn (.store 1 (.t 123) (.t 122))]) .skip)) (.seq (sq [rF 124 0 10,rL 125 124] (.cond (.t 125) (.reg none [rF 126 2 8,rL 127 126,rF 128 2 10,rL 129 128,rk 130 wK [(.t 127),(.t 129)],rF 131 2 8,rn (.store 1 (.t 131) (.t 130))]) (.reg none [rF 132 2 10,rL 133 132,rF 134 2 8,rn (.store 1 (.t 134) (.t 133))]))) (.reg none [rF 135 0 8,rL 136 135,rm 137 136,rg 138 137 true (.bV 0 (.t 10)),rg 139 137 true (.load none (.t 138)),ro 140 (.pick (.t 137) (.t 139) (.c (.v (.bool false)))),rF 141 0 8,rn (.store 1 (.t 141) (.t 140))])))))) (.reg none [rm 101 9,ro 102 (.bin .add (.t 101) (ci 1)),rm 9 102]))))
def Zpn(vK wK:FuncId):AC:= (.loop (.seq (sq [rm 147 12,rF 148 3 3,rL 149 148,ro 150 (.len (.t 149)),ro 151 (.bin .lss (.t 147) (.t 150))] (.cond (.t 151) .skip (.exit 5))) (.seq (.block 6 (sq [rm 154 0,rF 155 3 3,rL 156 155,rm 157 12,ro 158 (.aI 4 (.t 156) (.t 157)),ro 159 (.load (some 4) (.t 158)),rk 160 vK [(.t 154),(.t 159)],ro 13 (.alloc (.agg [(.v (.bool false)),(.sl true []),(.sl true [])]) 3),rn (.store 3 (.t 13) (.t 160))] (.reg (some []) [rF 161 0 11,rL 162 161,rm 163 162,rg 164 163 false (.bV 0 (.t 13)),rg 165 163 false (.load none (.t 164)),ro 166 (.pick (.t 163) (.c (.v (.bool true))) (.t 165)),rF 167 1 11,rL 168 167,rF 169 1 13,rL 170 169,rk 171 wK [(.t 168),(.t 170)],rF 172 2 11,rL 173 172,rF 174 2 13,rL 175 174,rk 176 wK [(.t 173),(.t 175)],ro 177 (.build (.agg [(.v (.bool false)),(.sl true []),(.sl true [])]) [(0,1),(1,1),(2,1)] [(0,(.t 166)),(1,(.t 171)),(2,(.t 176))]),rn (.store 3 (.t 11) (.t 177))]))) (.reg none [rm 152 12,ro 153 (.bin .add (.t 152) (ci 1)),rm 12 153]))))
def Z6Q(uy vK K3 wK P2p:FuncId):AC:= (sq [ro 3 (.box 4 (.t 1)),ro 4 (.alloc (.agg [(.v (.bool false)),(.sl true []),(.sl true [])]) 3)] (.seq (.block 0 (sq [rF 16 0 3,rL 17 16,ro 18 (.bin .eql (.t 17) (ci 1)),rm 15 18] (.cond (.t 15) (sq [ro 19 (.build (.agg [(.v (.bool false)),(.sl true []),(.sl true [])]) [(0,1)] [(0,(.c (.v (.bool true))))]),rn (.store 3 (.t 4) (.t 19))] .ret) (sq [rF 21 0 3,rL 22 21,ro 23 (.bin .eql (.t 22) (ci 2)),rm 20 23] (.cond (.t 20) (sq [rm 24 0,ro 25 (.fH (.t 24)),rF 26 0 25,rF 27 1 26,rL 28 27,ro 29 (.len (.t 28)),rm 5 29] (sq [ro 6 (.mv (.c (.sl true [])))] (.seq (sq [ro 7 (.mv (ci 0))] (.block 1 (Zpo uy))) (.seq (.reg (some [[],[],[],[],[],[],[],[],[],[false,false,false,false,false,false,false,true,true],[true],[false,true],[false,false,true],[false,false,false,true],[false,false,false,false,true],[false,false,false,false,false,true],[false,false,false,false,false,false,false,false,false,false,false,false,false,false,true,true],[],[],[],[false,false,false,false,false,false,false,false,false,false,false,false,false,false,false,false,false,false,true]]) [rm 63 0,rm 64 0,rm 65 0,ro 66 (.fH (.t 65)),rF 67 0 66,rF 68 1 67,rL 69 68,rm 70 6,ro 71 (.bS 1 1 (.sl true []) [(0,(.t 70))]),ro 72 (.app 1 24 (.t 69) (.t 71)),rm 73 0,ro 74 (.fH (.t 73)),rF 75 0 74,rF 76 2 75,rL 77 76,ro 78 (.bS 1 1 (.sl true []) [(0,(.c (.sl true [])))]),ro 79 (.app 1 24 (.t 77) (.t 78)),ro 80 (.fH (.t 63)),rF 81 0 80,rF 82 1 81,rn (.store 1 (.t 82) (.t 72)),ro 83 (.fH (.t 64)),rF 84 0 83,rF 85 2 84,rn (.store 1 (.t 85) (.t 79))]) (sq [rm 86 5,ro 87 (.bS 1 1 (.v (.int .i64 0)) [(0,(.t 86))]),rm 88 5,ro 89 (.bS 1 1 (.v (.int .i64 0)) [(0,(.t 88))]),ro 90 (.build (.agg [(.v (.bool false)),(.sl true []),(.sl true [])]) [(1,1),(2,1)] [(1,(.t 87)),(2,(.t 89))]),rn (.store 3 (.t 4) (.t 90))] .ret))))) (sq [rF 92 0 3,rL 93 92,ro 94 (.bin .eql (.t 93) (ci 3)),rm 91 94] (.cond (.t 91) (sq [ro 95 (.build (.agg [(.v (.bool false)),(.sl true []),(.sl true [])]) [(0,1)] [(0,(.c (.v (.bool true))))]),ro 8 (.alloc (.agg [(.v (.bool false)),(.sl true []),(.sl true [])]) 3),rn (.store 3 (.t 8) (.t 95))] (.seq (sq [ro 9 (.mv (ci 0))] (.block 3 (Zpm vK K3 wK))) (sq [ro 142 (.load (some 3) (.t 8)),rn (.store 3 (.t 4) (.t 142))] .ret))) (sq [rF 144 0 3,rL 145 144,ro 146 (.bin .eql (.t 145) (ci 4)),rm 143 146] (.cond (.t 143) (sq [ro 11 (.alloc (.agg [(.v (.bool false)),(.sl true []),(.sl true [])]) 3)] (.seq (sq [ro 12 (.mv (ci 0))] (.block 5 (Zpn vK wK))) (sq [ro 178 (.load (some 3) (.t 11)),rn (.store 3 (.t 4) (.t 178))] .ret))) (sq [rF 180 0 3,rL 181 180,ro 182 (.bin .eql (.t 181) (ci 5)),rm 183 182,rg 184 183 false (.bV 0 (.t 3)),rg 185 183 false (.load none (.t 184)),rg 186 183 false (.bin .eql (.t 185) (ci 6)),ro 187 (.pick (.t 183) (.c (.v (.bool true))) (.t 186)),rm 188 187,rg 189 188 false (.bV 0 (.t 3)),rg 190 188 false (.load none (.t 189)),rg 191 188 false (.bin .eql (.t 190) (ci 7)),ro 192 (.pick (.t 188) (.c (.v (.bool true))) (.t 191)),rm 193 192,rg 194 193 true (.bV 3 (.t 3)),rg 195 193 true (.load none (.t 194)),rg 196 193 true (.len (.t 195)),rg 197 193 true (.bin .eql (.t 196) (ci 1)),ro 198 (.pick (.t 193) (.t 197) (.c (.v (.bool false)))),rm 179 198] (.cond (.t 179) (sq [rm 199 0,rF 200 3 3,rL 201 200,ro 202 (.aI 4 (.t 201) (ci 0)),ro 203 (.load (some 4) (.t 202)),rk 204 vK [(.t 199),(.t 203)],ro 14 (.alloc (.agg [(.v (.bool false)),(.sl true []),(.sl true [])]) 3),rn (.store 3 (.t 14) (.t 204))] (.seq (sq [rF 205 0 3,rL 206 205,ro 207 (.bin .neq (.t 206) (ci 7))] (.cond (.t 207) (.reg none [rm 208 0,rF 209 2 14,rL 210 209,rF 211 1 14,rL 212 211,rk 213 K3 [(.t 208),(.t 210),(.t 212)]]) .skip)) (sq [rF 214 0 14,rL 215 214,rm 216 215,rg 217 216 false (.bV 0 (.t 3)),rg 218 216 false (.load none (.t 217)),rg 219 216 false (.bin .neq (.t 218) (ci 6)),ro 220 (.pick (.t 216) (.c (.v (.bool true))) (.t 219)),rF 221 1 14,rL 222 221,rF 223 2 14,rL 224 223,ro 225 (.build (.agg [(.v (.bool false)),(.sl true []),(.sl true [])]) [(0,1),(1,1),(2,1)] [(0,(.t 220)),(1,(.t 222)),(2,(.t 224))]),rn (.store 3 (.t 4) (.t 225))] .ret))) .skip))))))))))) (sq [rm 226 0,ro 227 (.load (some 4) (.t 3)),rk 228 P2p [(.t 226),(.t 227)],rn (.store 3 (.t 4) (.t 228))] .ret)))
end Go.Rf
namespace Go.Rf
open Go.RowKit
attribute [local simp] nH nD mP lY mM mR mO nE nG mQ mW mo lu lN nk nQ ni oG oz ow nX oD ou nW nL mU nJ nZ nY nT nO mV nM oh og nU lQ lZ mX mY mq lX bZ gL eu fq gH d9 fI gI gy eT gD eB fO gG fM dG dJ dZ eX iq iw fG iy fC fB fu dD gT gU gV fJ fK iC gJ fU gZ gW gY gX ig iD fZ iA fP fQ gM iB dh dF fD gu iE ex aj fA cO dO bJ bO aD bE dX eU dn gP gQ gN gK fV bI cZ dw eD eF fF dN bY mD mF dz bX l6 mE mZ l7 dH eO eG eH dY bW dQ cK cB aY nS nA mJ mK mH mh mI ny lS l9 nu nC S0 ak aG oZ oU pz oW oQ pq o8 oV o7 pK pG pJ pF o9 pE
def Ze5(P5q:FuncId):AC:= (sq [ro 4 (.box 4 (.t 0)),ro 8 (.alloc (.agg [(.v (.int .i64 0)),(.sl true []),(.sl true [])]) 3),ro 9 (.mv (ci 0))] (sq [ro 13 (.load (some 4) (.t 4)),rm 14 1,rk 15 P5q [(.t 13),(.t 14)],rm 12 15,ro 16 (.ext 0 (.t 12)),ro 17 (.ext 1 (.t 12)),ro 10 (.alloc (.agg [(.v (.int .i64 0)),(.sl true []),(.sl true []),(.sl true [])]) 4),rn (.store 4 (.t 10) (.t 16)),rm 11 17] (.seq (sq [rm 18 11,ro 19 (.bin .neq (.t 18) (ci 0))] (.cond (.t 19) (sq [ro 20 (.build (.agg [(.v (.int .i64 0)),(.sl true []),(.sl true [])]) [] []),rm 21 11,rn (.store 3 (.t 8) (.t 20)),rm 9 21] .ret) .skip)) (sq [rm 22 3,ro 23 (.load (some 4) (.t 10)),rm 24 2,⟨(some 25),.mv (.c .junk),none,(some ((.t 22),[(.t 23),(.t 24)]))⟩,ro 26 (.ext 0 (.t 25)),ro 27 (.ext 1 (.t 25)),rn (.store 3 (.t 8) (.t 26)),rm 9 27] .ret))))
def Zhh(Xz P4X P4W P5k P5e:FuncId):AC:= (sq [ro 3 (.box 11 (.t 0)),ro 6 (.alloc (.agg [(.v (.int .i64 0)),(.sl true []),(.sl true [])]) 3),ro 7 (.mv (ci 0))] (.seq (sq [rm 12 1,ro 13 (.bin .lss (.t 12) (ci 1)),rm 14 13,rg 15 14 false (.mv (.t 1)),rg 16 14 false (.bin .gtr (.t 15) (ci 200)),ro 17 (.pick (.t 14) (.c (.v (.bool true))) (.t 16)),rm 18 17,rg 19 18 false (.mv (.t 2)),rg 20 18 false (.bin .lss (.t 19) (ci 1)),ro 21 (.pick (.t 18) (.c (.v (.bool true))) (.t 20)),rm 22 21,rg 23 22 false (.mv (.t 2)),rg 24 22 false (.bin .gtr (.t 23) (ci 3000)),ro 25 (.pick (.t 22) (.c (.v (.bool true))) (.t 24))] (.cond (.t 25) (sq [ro 26 (.build (.agg [(.v (.int .i64 0)),(.sl true []),(.sl true [])]) [] []),rn (.store 3 (.t 6) (.t 26)),ro 7 (.mv (ci 1))] .ret) .skip)) (sq [rF 28 2 3,ro 29 (.load (some 4) (.t 28)),rm 30 1,rm 31 2,rk 32 Xz [(.t 29),(.t 30),(.t 31),(.c (.aO P4X [] []))],rm 27 32,ro 33 (.ext 0 (.t 27)),ro 34 (.ext 1 (.t 27)),ro 8 (.alloc (.agg [(.v (.int .i64 0)),(.sl true []),(.sl true [])]) 3),rn (.store 3 (.t 8) (.t 33)),rm 9 34] (.seq (sq [rm 35 9,ro 36 (.bin .neq (.t 35) (ci 0))] (.cond (.t 36) (sq [ro 37 (.build (.agg [(.v (.int .i64 0)),(.sl true []),(.sl true [])]) [] []),rm 38 9,rn (.store 3 (.t 6) (.t 37)),rm 7 38] .ret) .skip)) (sq [rF 40 6 3,ro 41 (.load (some 4) (.t 40)),rm 42 1,rm 43 2,rk 44 Xz [(.t 41),(.t 42),(.t 43),(.c (.aO P4W [] []))],rm 39 44,ro 45 (.ext 0 (.t 39)),ro 46 (.ext 1 (.t 39)),ro 10 (.alloc (.agg [(.v (.int .i64 0)),(.sl true []),(.sl true [])]) 3),rn (.store 3 (.t 10) (.t 45)),rm 9 46] (.seq (sq [rm 47 9,ro 48 (.bin .neq (.t 47) (ci 0))] (.cond (.t 48) (sq [ro 49 (.build (.agg [(.v (.int .i64 0)),(.sl true []),(.sl true [])]) [] []),rm 50 9,rn (.store 3 (.t 6) (.t 49)),rm 7 50] .ret) .skip)) (sq [ro 52 (.load (some 3) (.t 8)),ro 53 (.load (some 3) (.t 10)),rm 54 2,rk 55 P5k [(.t 52),(.t 53),(.t 54)],rm 51 55,ro 56 (.ext 0 (.t 51)),ro 57 (.ext 1 (.t 51)),ro 11 (.alloc (.agg [(.v (.int .i64 0)),(.sl true []),(.sl true [])]) 3),rn (.store 3 (.t 11) (.t 56)),rm 9 57] (.seq (sq [rm 58 9,ro 59 (.bin .neq (.t 58) (ci 0))] (.cond (.t 59) (sq [ro 60 (.build (.agg [(.v (.int .i64 0)),(.sl true []),(.sl true [])]) [] []),rm 61 9,rn (.store 3 (.t 6) (.t 60)),rm 7 61] .ret) .skip)) (sq [ro 62 (.load (some 3) (.t 11)),rk 63 P5e [(.t 62)],ro 64 (.ext 0 (.t 63)),ro 65 (.ext 1 (.t 63)),rn (.store 3 (.t 6) (.t 64)),rm 7 65] .ret)))))))))
def Z9U(Xn P36 P35 P3Y P3X:FuncId):AC:= (sq [ro 3 (.box 11 (.t 0)),ro 6 (.alloc (.agg [(.v (.int .i64 0)),(.sl true []),(.sl true [])]) 3),ro 7 (.mv (ci 0))] (.seq (sq [rm 14 1,ro 15 (.bin .lss (.t 14) (ci 1)),rm 16 15,rg 17 16 false (.mv (.t 1)),rg 18 16 false (.bin .gtr (.t 17) (ci 200)),ro 19 (.pick (.t 16) (.c (.v (.bool true))) (.t 18)),rm 20 19,rg 21 20 false (.mv (.t 2)),rg 22 20 false (.bin .lss (.t 21) (ci 1)),ro 23 (.pick (.t 20) (.c (.v (.bool true))) (.t 22)),rm 24 23,rg 25 24 false (.mv (.t 2)),rg 26 24 false (.bin .gtr (.t 25) (ci 3000)),ro 27 (.pick (.t 24) (.c (.v (.bool true))) (.t 26))] (.cond (.t 27) (sq [ro 28 (.build (.agg [(.v (.int .i64 0)),(.sl true []),(.sl true [])]) [] []),rn (.store 3 (.t 6) (.t 28)),ro 7 (.mv (ci 1))] .ret) .skip)) (sq [rF 30 2 3,ro 31 (.load (some 4) (.t 30)),rm 32 1,rk 33 Xn [(.t 31),(.t 32)],rm 29 33,ro 34 (.ext 0 (.t 29)),ro 35 (.ext 1 (.t 29)),ro 8 (.alloc (.agg [(.v (.int .i64 0)),(.sl true []),(.sl true []),(.sl true [])]) 4),rn (.store 4 (.t 8) (.t 34)),rm 9 35] (.seq (sq [rm 36 9,ro 37 (.bin .neq (.t 36) (ci 0))] (.cond (.t 37) (sq [ro 38 (.build (.agg [(.v (.int .i64 0)),(.sl true []),(.sl true [])]) [] []),rm 39 9,rn (.store 3 (.t 6) (.t 38)),rm 7 39] .ret) .skip)) (sq [ro 41 (.load (some 4) (.t 8)),rm 42 2,rk 43 P36 [(.t 41),(.t 42)],rm 40 43,ro 44 (.ext 0 (.t 40)),ro 45 (.ext 1 (.t 40)),ro 10 (.alloc (.agg [(.v (.int .i64 0)),(.sl true []),(.sl true [])]) 3),rn (.store 3 (.t 10) (.t 44)),rm 9 45] (.seq (sq [rm 46 9,ro 47 (.bin .neq (.t 46) (ci 0))] (.cond (.t 47) (sq [ro 48 (.build (.agg [(.v (.int .i64 0)),(.sl true []),(.sl true [])]) [] []),rm 49 9,rn (.store 3 (.t 6) (.t 48)),rm 7 49] .ret) .skip)) (sq [rF 51 6 3,ro 52 (.load (some 4) (.t 51)),rm 53 1,rk 54 Xn [(.t 52),(.t 53)],rm 50 54,ro 55 (.ext 0 (.t 50)),ro 56 (.ext 1 (.t 50)),ro 11 (.alloc (.agg [(.v (.int .i64 0)),(.sl true []),(.sl true []),(.sl true [])]) 4),rn (.store 4 (.t 11) (.t 55)),rm 9 56] (.seq (sq [rm 57 9,ro 58 (.bin .neq (.t 57) (ci 0))] (.cond (.t 58) (sq [ro 59 (.build (.agg [(.v (.int .i64 0)),(.sl true []),(.sl true [])]) [] []),rm 60 9,rn (.store 3 (.t 6) (.t 59)),rm 7 60] .ret) .skip)) (sq [ro 62 (.load (some 4) (.t 11)),rm 63 2,rk 64 P35 [(.t 62),(.t 63)],rm 61 64,ro 65 (.ext 0 (.t 61)),ro 66 (.ext 1 (.t 61)),ro 12 (.alloc (.agg [(.v (.int .i64 0)),(.sl true []),(.sl true [])]) 3),rn (.store 3 (.t 12) (.t 65)),rm 9 66] (.seq (sq [rm 67 9,ro 68 (.bin .neq (.t 67) (ci 0))] (.cond (.t 68) (sq [ro 69 (.build (.agg [(.v (.int .i64 0)),(.sl true []),(.sl true [])]) [] []),rm 70 9,rn (.store 3 (.t 6) (.t 69)),rm 7 70] .ret) .skip)) (sq [ro 72 (.load (some 3) (.t 10)),ro 73 (.load (some 3) (.t 12)),rm 74 2,rk 75 P3Y [(.t 72),(.t 73),(.t 74)],rm 71 75,ro 76 (.ext 0 (.t 71)),ro 77 (.ext 1 (.t 71)),ro 13 (.alloc (.agg [(.v (.int .i64 0)),(.sl true []),(.sl true [])]) 3),rn (.store 3 (.t 13) (.t 76)),rm 9 77] (.seq (sq [rm 78 9,ro 79 (.bin .neq (.t 78) (ci 0))] (.cond (.t 79) (sq [ro 80 (.build (.agg [(.v (.int .i64 0)),(.sl true []),(.sl true [])]) [] []),rm 81 9,rn (.store 3 (.t 6) (.t 80)),rm 7 81] .ret) .skip)) (sq [ro 82 (.load (some 3) (.t 13)),rk 83 P3X [(.t 82)],ro 84 (.ext 0 (.t 83)),ro 85 (.ext 1 (.t 83)),rn (.store 3 (.t 6) (.t 84)),rm 7 85] .ret)))))))))))))
def Z9R(H6 vK uy:FuncId):AC:= (sq [ro 2 (.box 4 (.t 0)),ro 4 (.alloc (.agg [(.v (.int .i64 0)),(.sl true []),(.sl true []),(.sl true [])]) 4),ro 5 (.mv (ci 0))] (.seq (.block 0 (sq [rm 9 1,ro 10 (.bin .lss (.t 9) (ci 1)),rm 11 10,rg 12 11 false (.mv (.t 1)),rg 13 11 false (.bin .gtr (.t 12) (ci 400)),ro 14 (.pick (.t 11) (.c (.v (.bool true))) (.t 13)),rm 8 14] (.cond (.t 8) (sq [ro 15 (.build (.agg [(.v (.int .i64 0)),(.sl true []),(.sl true []),(.sl true [])]) [] []),rn (.store 4 (.t 4) (.t 15)),ro 5 (.mv (ci 1))] .ret) (sq [ro 17 (.load (some 4) (.t 2)),rk 18 H6 [(.t 17)],ro 19 (.bin .gtr (.t 18) (ci 300)),rm 16 19] (.cond (.t 16) (sq [ro 20 (.build (.agg [(.v (.int .i64 0)),(.sl true []),(.sl true []),(.sl true [])]) [] []),rn (.store 4 (.t 4) (.t 20)),ro 5 (.mv (ci 9))] .ret) .skip))))) (sq [rm 21 1,ro 22 (.app 1 24 (.c (.sl true [])) (.c (.sl true [(.sl true [])]))),ro 23 (.app 1 24 (.c (.sl true [])) (.c (.sl true [(.sl true [])]))),ro 24 (.build (.agg [(.v (.int .i64 0)),(.sl true []),(.sl true []),(.sl true [])]) [(0,1),(1,1),(2,1)] [(0,(.t 21)),(1,(.t 22)),(2,(.t 23))]),ro 25 (.build (.agg [(.v (.int .i64 0)),(.sl true []),(.sl true []),(.sl true [])]) [(0,4)] [(0,(.t 24))]),ro 26 (.box 4 (.t 25)),rm 6 26] (sq [rm 27 6,ro 28 (.load (some 4) (.t 2)),rk 29 vK [(.t 27),(.t 28)],ro 7 (.alloc (.agg [(.v (.bool false)),(.sl true []),(.sl true [])]) 3),rn (.store 3 (.t 7) (.t 29))] (.seq (.reg (some []) [rm 30 6,ro 31 (.fH (.t 30)),rF 32 0 31,rF 33 2 32,rL 34 33,rF 35 1 7,rL 36 35,ro 37 (.aI 1 (.t 34) (ci 0)),rn (.store 1 (.t 37) (.t 36))]) (sq [rm 38 6,rF 39 2 7,rL 40 39,ro 41 (.fH (.t 38)),rF 42 0 41,rF 43 3 42,rn (.store 1 (.t 43) (.t 40))] (.seq (sq [rF 44 0 7,rL 45 44] (.cond (.t 45) (.reg none [rm 46 6,rm 47 6,ro 48 (.fH (.t 47)),rF 49 0 48,rF 50 3 49,rL 51 50,rk 52 uy [(.t 51),(ci 0)],ro 53 (.fH (.t 46)),rF 54 0 53,rF 55 3 54,rn (.store 1 (.t 55) (.t 52))]) .skip)) (sq [rm 56 6,ro 57 (.fH (.t 56)),rF 58 0 57,ro 59 (.load (some 4) (.t 58)),rn (.store 4 (.t 4) (.t 59)),ro 5 (.mv (ci 0))] .ret))))))))
end Go.Rf
namespace Go.Rf
open Go.RowKit
def ZrU(a b:List Bool):List Bool:=List.zipWith (fun x y=>x || y) a b
def mk(a:List Bool)(j:Int):Prop:=0≤j∧a.getD j.toNat false=true
def OB(r:Int→Int→Prop):Nat→Int→Int→Prop
 | 0,i,j=>i=j
 | n+1,i,j=>∃m,OB r n i m∧r m j
theorem OB.aO{r:Int→Int→Prop}:∀(n:Nat) {i j:Int},OB r (n+1) i j→rX r i j
 | 0,i,j,⟨m,h1,h2⟩=>by cases h1;exact .one h2
 | n+1,i,j,⟨m,h1,h2⟩=>.more (OB.aO n h1) h2
end Go.Rf
