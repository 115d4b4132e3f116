import Derived.Test.YtdmcjhnbmgmgoaaGreatDoorRfE8
import Derived.Lib.ItoaLen
set_option linter.unusedVariables false
set_option linter.unusedSimpArgs false
set_option linter.unusedSectionVars false
namespace Go.Rf
def R7(n:Net)(at_:List Int)(sign:Int):List Int:=ZpU [] (oJ n at_ sign)
def YI(kd:Kd)(n:Net)(set:List Int)(s:Int):List Int:=
 match kd with
 | .whole=>R7 n set s
 | .tails=>0::R7 n set s
 | .heads=>if kW n set=true then set else R7 n set s
def Zm(kd:Kd)(n:Net)(most:Int)(i:Nat)(st:qV):Option qV:=
 match st.1[i]? with
 | none=>none
 | some set=>match uH most (YI kd n set) n.signs.toNat st.1 with
  | none=>none
  | some (s2,r)=>some (s2,st.2.1++[r],st.2.2++[kW n set])
def S9(kd:Kd)(n:Net)(most:Int):Nat→Nat→qV→Option qV
 | 0,_,_=>none
 | f+1,i,st=>if i=st.1.length then some st else match Zm kd n most i st with
  | none=>none
  | some st'=>S9 kd n most f (i+1) st'
def YC(kd:Kd)(n:Net)(most:Int):aC×Int:=
 if qC n=true∧1≤most∧most≤3000 then (match S9 kd n most (most.toNat+1) 0 ([[0]],[],[]) with
  | some st=>(⟨n.signs,st.2.1,st.2.2⟩,0)
  | none=>(⟨0,[],[]⟩,13))
 else (⟨0,[],[]⟩,1)
theorem Zp5(n:Net)(a:List Int)(s:Int):R7 n a s=qJ n a s:=ZjR _
theorem ZsH(kd:Kd)(n:Net)(a:List Int):YI kd n a=kL kd n a:=by
 funext s;cases kd<;>simp[YI,kL,Zp5]
theorem Ztz(kd:Kd)(n:Net)(most:Int)(i:Nat)(st:qV):Zm kd n most i st=uY kd n most i st:=by
 unfold Zm uY;simp only[ZsH];rfl
theorem ZpJ(kd:Kd)(n:Net)(most:Int):∀(f i:Nat) (st:qV),S9 kd n most f i st=BQ kd n most f i st
 | 0,_,_=>rfl
 | f+1,i,st=>by
  unfold S9 BQ;rw[Ztz];split
  ·rfl
  ·cases uY kd n most i st with
   | none=>rfl
   | some st'=>exact ZpJ kd n most f (i+1) st'
theorem ZrP(kd:Kd)(n:Net)(most:Int):YC kd n most=lK kd n most:=by
 unfold YC lK y8;rw[ZpJ];rfl
def dI:AV→Option Int
 | .v (.int .i64 n)=>some n
 | _=>none
def SQ:List AV→Option (List Int)
 | []=>some []
 | x::xs=>match dI x,SQ xs with
  | some n,some l=>some (n::l)
  | _,_=>none
def SS:AV→Option (List Int)
 | .sl _ xs=>SQ xs
 | _=>none
def Sn:List AV→Option (List (List Int))
 | []=>some []
 | x::xs=>match SS x,Sn xs with
  | some n,some l=>some (n::l)
  | _,_=>none
def Ng:AV→Option (List (List Int))
 | .sl _ xs=>Sn xs
 | _=>none
def Yt:AV→Option Net
 | .agg [a,b,c,d]=>match dI a,Ng b,Ng c,SS d with
  | some a,some b,some c,some d=>some ⟨a,b,c,d⟩
  | _,_,_,_=>none
 | _=>none
theorem M4{x:AV}{n:Int}(h:dI x=some n):x=ah n:=by
 unfold dI at h;split at h
 ·cases h;rfl
 ·cases h
theorem Zpv:∀{xs:List AV} {l:List Int},SQ xs=some l→xs=l.map ah
 | [],l,h=>by cases h;rfl
 | x::xs,l,h=>by
  unfold SQ at h;split at h
  ·rename_i n l' h1 h2
   cases h;rw[M4 h1,Zpv h2];rfl
  ·cases h
theorem Zpw{x:AV}{l:List Int}(h:SS x=some l):Wk x (aj l):=by
 unfold SS at h;split at h
 ·rw[Zpv h];exact Wk.sl' (kY.refl _)
 ·cases h
theorem Zlj:∀{xs:List AV} {l:List (List Int)},Sn xs=some l→kY xs (l.map aj)
 | [],l,h=>by cases h;exact kY.nil
 | x::xs,l,h=>by
  unfold Sn at h;split at h
  ·rename_i n l' h1 h2
   cases h;exact kY.cons (Zpw h1) (Zlj h2)
  ·cases h
theorem Xf{x:AV}{l:List (List Int)}(h:Ng x=some l):Wk x (aU l):=by
 unfold Ng at h;split at h
 ·exact Wk.sl' (Zlj h)
 ·cases h
theorem ZqL{x:AV}{n:Net}(h:Yt x=some n):Wk x (jA n):=by
 unfold Yt at h;split at h
 ·split at h
  ·rename_i h1 h2 h3 h4
   cases h;refine Wk.agg' (kY.cons ?_ (kY.cons (Xf h2) (kY.cons (Xf h3) (kY.cons (Zpw h4) kY.nil))));rw[M4 h1];exact .refl _
  ·cases h
 ·cases h
def TI(n:Net):Bool:=n.rows.all (fun l=>Nat.ble l.length 1000) && Nat.ble n.au.length 20 && Nat.ble n.follow.length 20
def TS(kd:Kd):List AV→Option AV
 | [a,b]=>match Yt a,dI b with
  | some n,some m=>if TI n=true then some (jQ (YC kd n m)) else none
  | _,_=>none
 | _=>none
theorem ZpZ{P:Program}{f:FuncId}{kd:Kd}(H:∀n m,TI n=true→aJ P f [jA n,ah m] (jQ (lK kd n m))){args:List AV}{r:AV}(h:TS kd args=some r):aJ P f args r:=by
 unfold TS at h;split at h
 ·split at h
  ·rename_i n m h1 h2
   split at h
   ·rename_i hk
    cases h;rw[ZrP];exact(H n m hk).wk (kY.cons (ZqL h1) (kY.cons (by rw[M4 h2];exact .refl _) kY.nil))
   ·cases h
  ·cases h
 ·cases h
end Go.Rf
namespace Go.Rf
open Go.RowKit
def dB:AV→Option Bool
 | .v (.bool b)=>some b
 | _=>none
def SN:List AV→Option (List Bool)
 | []=>some []
 | x::xs=>match dB x,SN xs with
  | some n,some l=>some (n::l)
  | _,_=>none
def YK:AV→Option (List Bool)
 | .sl _ xs=>SN xs
 | _=>none
def Gy:AV→Option aC
 | .agg [a,b,c]=>match dI a,Ng b,YK c with
  | some a,some b,some c=>some ⟨a,b,c⟩
  | _,_,_=>none
 | _=>none
theorem ZuL{x:AV}{n:Bool}(h:dB x=some n):x=aD n:=by
 unfold dB at h;split at h
 ·cases h;rfl
 ·cases h
theorem Zpu:∀{xs:List AV} {l:List Bool},SN xs=some l→xs=l.map aD
 | [],l,h=>by cases h;rfl
 | x::xs,l,h=>by
  unfold SN at h;split at h
  ·rename_i n l' h1 h2
   cases h;rw[ZuL h1,Zpu h2];rfl
  ·cases h
theorem ZsS{x:AV}{l:List Bool}(h:YK x=some l):Wk x (bA l):=by
 unfold YK at h;split at h
 ·rw[Zpu h];exact Wk.sl' (kY.refl _)
 ·cases h
theorem Xe{x:AV}{n:aC}(h:Gy x=some n):Wk x (aR n):=by
 unfold Gy at h;split at h
 ·split at h
  ·rename_i h1 h2 h3
   cases h;refine Wk.agg' (kY.cons ?_ (kY.cons (Xf h2) (kY.cons (ZsS h3) kY.nil)));rw[M4 h1];exact .refl _
  ·cases h
 ·cases h
def okD(d:aC):Bool:=decide (-1000≤d.signs) && decide (d.signs≤1000) && Nat.ble d.next.length 20 && Nat.ble d.fin.length 20 && d.next.all fun l=>Nat.ble l.length 20
theorem XZ{d:aC}(h:okD d=true):nU d:=by
 simp only[okD,Bool.and_eq_true,List.all_eq_true,Nat.ble_eq,decide_eq_true_eq] at h;obtain⟨⟨⟨⟨h1,h2⟩,h3⟩,h4⟩,h5⟩:=h;exact⟨by unfold Len;omega,by unfold Len;omega,fun r hr=>by have:=h5 r hr;unfold Len;omega,by omega⟩
def x1(F:aC→AV):List AV→Option AV
 | [a]=>match Gy a with
  | some d=>if okD d=true then some (F d) else none
  | none=>none
 | _=>none
def x2(F:aC→aC→AV):List AV→Option AV
 | [a,b]=>match Gy a,Gy b with
  | some d,some e=>if okD d=true∧okD e=true then some (F d e) else none
  | _,_=>none
 | _=>none
theorem Zvo{P:Program}{f:FuncId}{F:aC→AV}(H:∀d,nU d→aJ P f [aR d] (F d)){args:List AV}{r:AV}(h:x1 F args=some r):aJ P f args r:=by
 unfold x1 at h;split at h
 ·split at h
  ·rename_i d h1
   split at h
   ·rename_i hk
    cases h;exact(H d (XZ hk)).wk (kY.cons (Xe h1) kY.nil)
   ·cases h
  ·cases h
 ·cases h
def Zq(F:aC→aC→Int→AV):List AV→Option AV
 | [a,b,c]=>match Gy a,Gy b,dI c with
  | some d,some e,some m=>if okD d=true∧okD e=true then some (F d e m) else none
  | _,_,_=>none
 | _=>none
theorem Zu9{P:Program}{f:FuncId}{F:aC→aC→Int→AV}(H:∀d e m,nU d→nU e→aJ P f [aR d,aR e,ah m] (F d e m)){args:List AV}{r:AV}(h:Zq F args=some r):aJ P f args r:=by
 unfold Zq at h;split at h
 ·split at h
  ·rename_i d e m h1 h2 h3
   split at h
   ·rename_i hk
    cases h;rw[M4 h3];exact(H d e m (XZ hk.1) (XZ hk.2)).wk (kY.cons (Xe h1) (kY.cons (Xe h2) (kY.cons (.refl _) kY.nil)))
   ·cases h
  ·cases h
 ·cases h
theorem Zi4(a:AF)(g:Nat→Option aB):∀ts:List Nat,bP a g (ts.map RV.t)=some (ts.map a)
 | []=>rfl
 | t::ts=>by simp[bP,RV.ev,Zi4 a g ts]
theorem ZmD(a:AF):∀ts:List Nat,bV (ts.map a)=uU ts a
 | []=>rfl
 | [t]=>rfl
 | t::u::ts=>rfl
theorem Is.P6r{P:Program}(hm:P.follows .mixedOrders=true){f:FuncId}{ac:AC}{ts:List Nat}{n:Nat}(h:Is P f ac ts n):xw P f ac (ts.map RV.t) n:=by
 intro args S K hn hb;refine h.xD hm hn (Cu _ (fun e a S' k=>?_) hb);cases e<;>simp only[bL,dw] at k ⊢
 all_goals
  obtain⟨xs,h1,h2⟩:=k;rw[Zi4] at h1;cases h1;rw[ZmD] at h2;exact h2
def Gh{α:Type}:List (Nat×α)→Nat→Option α
 | [],_=>none
 | (k,a)::l,f=>bif Nat.beq f k then some a else Gh l f
theorem Wt{α:Type}:∀{l:List (Nat×α)} {f:Nat} {g:α},Gh l f=some g→(f,g)∈l
 | [],f,g,h=>by cases h
 | (k,a)::l,f,g,h=>by
  simp only[Gh] at h;cases hb:Nat.beq f k with
  | true=>
   rw[hb] at h;have:=Nat.eq_of_beq_eq_true hb;subst this;cases h;exact List.mem_cons_self
  | false=>rw[hb] at h;exact List.mem_cons_of_mem _ (Wt h)
def KnC(P:Program)(c:Nat×AC×List RV×Nat):Prop:=xw P c.1 c.2.1 c.2.2.1 c.2.2.2
def KnR(P:Program)(c:Nat×(List AV→Option AV)):Prop:=∀args r,c.2 args=some r→aJ P c.1 args r
theorem Zs3{P:Program}(hm:P.follows .mixedOrders=true){cs:List (Nat×AC×List RV×Nat)}{ks:List (Nat×(List AV→Option AV))}(h1:∀c∈cs,KnC P c)(h2:∀k∈ks,KnR P k):Al P (SC P (Gh cs) (fun _=>none) (Gh ks)):=
 Zs4 hm (fun f p h=>h1 _ (Wt h)) (fun f g args v h=>by cases h) (fun f g args r h hg=>h2 _ (Wt h) args r hg)
theorem Zks{α:Type}{p:α→Prop}:∀x∈([]:List α),p x:=fun x h=>by cases h
theorem all_cons{α:Type}{p:α→Prop}{a:α}{l:List α}(h:p a)(k:∀x∈l,p x):∀x∈a::l,p x:=fun x hx=>by
 rcases List.mem_cons.mp hx with rfl | hx
 ·exact h
 ·exact k x hx
end Go.Rf
namespace Go.Rf
open Go.RowKit
attribute [local simp] mW mV oF pG pJ pQ pK nA qy pO ow pq mK oz kD qw pY qO qL qK qE qN oO oL ql pR qz qG qF qA qo pU qm qI qH oK kT pI pV pW pz o7 eG iB iU iy iR iN iM iT iO gG iP fH iF iQ iE eT eU gD ig je jf gZ jk fU fQ fE eO gV gW gX gP gQ jg iV iH jc iX iZ iY jd jh iK iq gT gU gM iw dO eP gI iL ji ex aH fF dF eY cK dn aL bT fJ gH eZ gN iD iC iW iJ bS dN dV fZ fV gY fu bD pE ny dL eH qc o8 pX oh fC gB gq gy fM dA eX eB d9 bB qx oD oq qj o9 qg qh p9 kZ qd p8 qb S0 ah aD tO gL.cl bW.cl aW dY aT jR jG tN tK tL mM sO sP sN tX jM jS kU tY qW qD r9 uh um uj tV nZ oH uq rW tT rX ou sM jy uy dW mF bN oV
def Z9n(P3P:FuncId):AC:= (sq [ro 2 (.box 4 (.t 0)),ro 4 (.mv (.c (.v (.bool false))))] (.seq (sq [ro 5 (.mv (ci 0))] (.block 0 (.loop (.seq (sq [rm 6 5,rm 7 1,ro 8 (.len (.t 7)),ro 9 (.bin .lss (.t 6) (.t 8))] (.cond (.t 9) .skip (.exit 0))) (.seq (.block 1 (.seq (.reg (some []) [rF 12 3 2,rL 13 12,rm 14 1,rm 15 5,ro 16 (.aM 1 (.t 14) (.t 15)),rL 17 16,rk 18 P3P [(.t 13),(.t 17)]]) (.cond (.t 18) (sq [ro 4 (.mv (.c (.v (.bool true))))] .ret) .skip))) (.reg none [rm 10 5,ro 11 (.bin .add (.t 10) (ci 1)),rm 5 11])))))) (sq [ro 4 (.mv (.c (.v (.bool false))))] .ret)))
def Z8m(EZ P3C P3Q:FuncId):AC:= (sq [ro 4 (.box 4 (.t 0)),ro 8 (.mv (.c (.sl true [])))] (.seq (sq [rm 10 3,ro 11 (.bin .eql (.t 10) (ci 2)),rm 12 11,rg 13 12 true (.load (some 4) (.t 4)),rg 14 12 true (.mv (.t 1)),rl 15 12 true EZ [(.t 13),(.t 14)],ro 16 (.pick (.t 12) (.t 15) (.c (.v (.bool false))))] (.cond (.t 16) (sq [rm 17 1,rm 8 17] .ret) .skip)) (sq [ro 18 (.load (some 4) (.t 4)),rm 19 1,rm 20 2,rk 21 P3C [(.t 18),(.t 19),(.t 20)],rm 9 21] (.seq (sq [rm 22 3,ro 23 (.bin .eql (.t 22) (ci 1))] (.cond (.t 23) (.reg none [rm 24 9,rk 25 P3Q [(.t 24),(ci 0)],rm 9 25]) .skip)) (sq [rm 26 9,rm 8 26] .ret)))))
def ZkL(Ce:FuncId):AC:= (.block 4 (.loop (.seq (sq [rm 52 14,rm 53 8,ro 54 (.len (.t 53)),ro 55 (.bin .lss (.t 52) (.t 54)),rm 56 55,rg 57 56 true (.mv (.t 8)),rg 58 56 true (.mv (.t 14)),rg 59 56 true (.aM 1 (.t 57) (.t 58)),rg 60 56 true (.load none (.t 59)),rg 61 56 true (.mv (.t 13)),rl 62 56 true Ce [(.t 60),(.t 61)],rg 63 56 true (.un .not (.t 62)),ro 64 (.pick (.t 56) (.t 63) (.c (.v (.bool false))))] (.cond (.t 64) .skip (.exit 4))) (.block 5 (.reg none [rm 65 14,ro 66 (.bin .add (.t 65) (ci 1)),rm 14 66])))))
def ZnQ(KJ Ce:FuncId):AC:= (.block 2 (.loop (.seq (sq [rm 38 12,rF 39 0 3,rL 40 39,ro 41 (.bin .lss (.t 38) (.t 40))] (.cond (.t 41) .skip (.exit 2))) (.seq (.block 3 (.seq (.reg (some []) [ro 44 (.load (some 4) (.t 3)),rm 45 8,rm 46 10,ro 47 (.aM 1 (.t 45) (.t 46)),rL 48 47,rm 49 12,rm 50 2,rk 51 KJ [(.t 44),(.t 48),(.t 49),(.t 50)],rm 13 51]) (sq [ro 14 (.mv (ci 0))] (.seq (ZkL Ce) (.seq (sq [rm 67 14,rm 68 8,ro 69 (.len (.t 68)),ro 70 (.bin .eql (.t 67) (.t 69))] (.cond (.t 70) (.seq (sq [rm 71 14,rm 72 1,ro 73 (.bin .eql (.t 71) (.t 72))] (.cond (.t 73) (sq [ro 74 (.build (.agg [(.v (.int .i64 0)),(.sl true []),(.sl true [])]) [] []),rn (.store 3 (.t 6) (.t 74)),ro 7 (.mv (ci 13))] .ret) .skip)) (.reg none [rm 75 8,rm 76 13,ro 77 (.dH 1 1 (.sl true []) [(0,(.t 76))]),ro 78 (.app 1 24 (.t 75) (.t 77)),rm 8 78])) .skip)) (.reg none [rm 79 11,rm 80 14,ro 81 (.dH 1 1 (.v (.int .i64 0)) [(0,(.t 80))]),ro 82 (.app 1 8 (.t 79) (.t 81)),rm 11 82])))))) (.reg none [rm 42 12,ro 43 (.bin .add (.t 42) (ci 1)),rm 12 43])))))
def ZkM(EZ:FuncId):AC:= (.reg (some [[],[],[],[],[],[true],[false,true],[false,false,true],[false,false,false,true],[false,false,false,false,true],[false,false,false,false,false,true],[false,false,false,false,false,false,true],[],[],[],[true]]) [rF 83 1 9,rL 84 83,rm 85 11,ro 86 (.dH 1 1 (.sl true []) [(0,(.t 85))]),ro 87 (.app 1 24 (.t 84) (.t 86)),rF 88 2 9,rL 89 88,ro 90 (.load (some 4) (.t 3)),rm 91 8,rm 92 10,ro 93 (.aM 1 (.t 91) (.t 92)),rL 94 93,rk 95 EZ [(.t 90),(.t 94)],ro 96 (.dH 1 1 (.v (.bool false)) [(0,(.t 95))]),ro 97 (.app 1 1 (.t 89) (.t 96)),rF 98 1 9,rn (.store 1 (.t 98) (.t 87)),rF 99 2 9,rn (.store 1 (.t 99) (.t 97))])
def ZnP(KJ Ce EZ:FuncId):AC:= (.block 0 (.loop (.seq (sq [rm 32 10,rm 33 8,ro 34 (.len (.t 33)),ro 35 (.bin .lss (.t 32) (.t 34))] (.cond (.t 35) .skip (.exit 0))) (.seq (.block 1 (sq [ro 11 (.mv (.c (.sl true [])))] (.seq (sq [ro 12 (.mv (ci 0))] (ZnQ KJ Ce)) (ZkM EZ)))) (.reg none [rm 36 10,ro 37 (.bin .add (.t 36) (ci 1)),rm 10 37])))))
def ZnO:AC:= (sq [ro 100 (.load (some 3) (.t 9)),rn (.store 3 (.t 6) (.t 100)),ro 7 (.mv (ci 0))] .ret)
def Z9o(UF KJ Ce EZ:FuncId):AC:= (sq [ro 3 (.box 4 (.t 0)),ro 6 (.alloc (.agg [(.v (.int .i64 0)),(.sl true []),(.sl true [])]) 3),ro 7 (.mv (ci 0))] (.seq (sq [ro 15 (.load (some 4) (.t 3)),rk 16 UF [(.t 15)],ro 17 (.un .not (.t 16)),rm 18 17,rg 19 18 false (.mv (.t 1)),rg 20 18 false (.bin .lss (.t 19) (ci 1)),ro 21 (.pick (.t 18) (.c (.v (.bool true))) (.t 20)),rm 22 21,rg 23 22 false (.mv (.t 1)),rg 24 22 false (.bin .gtr (.t 23) (ci 3000)),ro 25 (.pick (.t 22) (.c (.v (.bool true))) (.t 24))] (.cond (.t 25) (sq [ro 26 (.build (.agg [(.v (.int .i64 0)),(.sl true []),(.sl true [])]) [] []),rn (.store 3 (.t 6) (.t 26)),ro 7 (.mv (ci 1))] .ret) .skip)) (sq [ro 27 (.dH 1 1 (.v (.int .i64 0)) [(0,(ci 0))]),ro 28 (.dH 1 1 (.sl true []) [(0,(.t 27))]),rm 8 28] (sq [rF 29 0 3,rL 30 29,ro 31 (.build (.agg [(.v (.int .i64 0)),(.sl true []),(.sl true [])]) [(0,1)] [(0,(.t 30))]),ro 9 (.alloc (.agg [(.v (.int .i64 0)),(.sl true []),(.sl true [])]) 3),rn (.store 3 (.t 9) (.t 31))] (.seq (sq [ro 10 (.mv (ci 0))] (ZnP KJ Ce EZ)) ZnO)))))
theorem Fz.Iy{g:Nat→Option aB}{a b:List AV}(h:dJ g a b):Fz g (.agg a) (.agg b):=.agg _ _ h.1 h.2
theorem Fz.Fp{g:Nat→Option aB}{a b:List AV}(h:dJ g a b):Fz g (.aO a) (.aO b):=.aO _ _ h.1 h.2
theorem Jt{g:Nat→Option aB}:Fz g (.sl true []) (.sl false []):=.loose true [] (.sl _ _ (by simp))
theorem u7(g:Nat→Option aB)(e:Int):Fz g (.aO [.agg [.v (.int .i64 0),.sl true [],.sl true []],.v (.int .i64 e)]) (jQ (⟨0,[],[]⟩,e)):=
 .Fp (.cons (.Iy (.cons (.closed _ (.v _)) (.cons Jt (.cons Jt .nil)))) (.cons (.closed _ (.v _)) .nil))
theorem Zoo{X:Type}[BEq X][LawfulBEq X]{l:List X}{x:X}{j:Nat}(hj:j < l.length)(he:l[j]=x)(hn:x∉l.take j):l.idxOf x=j:=by
 have e:l=l.take j++(x::l.drop (j+1)):=by rw[←he,←List.drop_eq_getElem_cons hj,List.take_append_drop]
 rw[e,List.idxOf_append,if_neg hn];simp;omega
end Go.Rf
namespace Go.Rf
open Go.RowKit
attribute [local simp] mW mV oF pG pJ pQ pK nA qy pO ow pq mK oz kD qw pY qO qL qK qE qN oO oL ql pR qz qG qF qA qo pU qm qI qH oK kT pI pV pW pz o7 eG iB iU iy iR iN iM iT iO gG iP fH iF iQ iE eT eU gD ig je jf gZ jk fU fQ fE eO gV gW gX gP gQ jg iV iH jc iX iZ iY jd jh iK iq gT gU gM iw dO eP gI iL ji ex aH fF dF eY cK dn aL bT fJ gH eZ gN iD iC iW iJ bS dN dV fZ fV gY fu bD pE ny dL eH qc o8 pX oh fC gB gq gy fM dA eX eB d9 bB qx oD oq qj o9 qg qh p9 kZ qd p8 qb S0 ah aD rA q9 rC om og qp rJ rz rH rP rG rO rE rM rD tO gL.cl bW.cl aW dY aT jR jG tN tK tL mM sO sP sN tX jM jS kU tY qW qD r9 uh um uj tV nZ oH uq rW tT rX ou sM jy uy dW mF bN oV
def Vz:AC:= (sq [ro 1 (.box 3 (.t 0)),ro 2 (.mv (.c (.sl true [])))] (sq [ro 3 (.mv (.c (.sl true [])))] (.seq (sq [rF 7 2 1,rL 8 7,ro 9 (.len (.t 8)),ro 10 (.mv (ci 0))] (.block 0 (.loop (sq [ro 11 (.bin .lss (.t 10) (.t 9))] (.seq (.cond (.t 11) .skip (.exit 0)) (.seq (.block 1 (sq [ro 12 (.aM 1 (.t 8) (.t 10)),rL 13 12,rm 5 13] (sq [ro 6 (.mv (ci 0))] (.seq (sq [rm 14 5] (.cond (.t 14) (.reg none [ro 6 (.mv (ci 1))]) .skip)) (.reg none [rm 15 3,rm 16 6,ro 17 (.dH 1 1 (.v (.int .i64 0)) [(0,(.t 16))]),ro 18 (.app 1 8 (.t 15) (.t 17)),rm 3 18]))))) (.reg none [ro 19 (.bin .add (.t 10) (ci 1)),rm 10 19]))))))) (sq [rm 20 3,rm 2 20] .ret))))
def Vq(yS yP zS:FuncId):AC:= (.loop (sq [ro 23 (.bin .lss (.t 22) (.t 21))] (.seq (.cond (.t 23) .skip (.exit 0)) (.seq (.block 1 (sq [ro 24 (.aM 1 (.t 20) (.t 22)),rL 25 24,rm 9 25] (sq [rk 26 zS [(.t 7),(.c (.v (.int .u8 44)))]] (.reg none [rm 27 1,rm 28 9,ro 29 (.aM 1 (.t 27) (.t 28)),rL 30 29,rk 31 yS [(.t 30)],rk 32 yP [(.t 7),(.t 31)]])))) (.reg none [ro 33 (.bin .add (.t 22) (ci 1)),rm 22 33])))))
def Z8o(yS yP zS EW:FuncId):AC:= (sq [rm 10 1,rm 11 2,ro 12 (.aM 1 (.t 10) (.t 11)),rL 13 12,rk 14 yS [(.t 13)],rk 15 yP [(.t 7),(.t 14)]] (.seq (sq [rF 16 1 3,rL 17 16,rm 18 2,ro 19 (.aM 1 (.t 17) (.t 18)),rL 20 19,ro 21 (.len (.t 20)),ro 22 (.mv (ci 0))] (.block 0 (Vq yS yP zS))) (sq [rk 34 EW [(.t 7)],rm 6 34] .ret)))
def ZaQ(yS yP zS EW:FuncId):AC:= (sq [ro 3 (.box 3 (.t 0)),ro 6 (.mv (.c (.v (.string ⟨#[]⟩))))] (sq [ro 7 (.alloc (.agg [(.v (.pointer none)),(.sl true [])]) 2)] (Z8o yS yP zS EW)))
def Vx(P4R:FuncId):AC:= (sq [ro 2 (.box 3 (.t 0)),ro 4 (.mv (.c (.sl true []))),ro 5 (.mv (ci 0))] (sq [ro 12 (.EK),rm 6 12] (sq [ro 7 (.mv (.c (.sl true [])))] (.seq (sq [rF 13 1 2,rL 14 13,ro 15 (.len (.t 14)),ro 16 (.mv (ci 0))] (.block 0 (.loop (sq [ro 17 (.bin .lss (.t 16) (.t 15))] (.seq (.cond (.t 17) .skip (.exit 0)) (.seq (.block 1 (sq [rm 18 16,rm 8 18] (sq [ro 19 (.load (some 3) (.t 2)),rm 20 1,rm 21 8,rk 22 P4R [(.t 19),(.t 20),(.t 21)],rm 9 22] (sq [rm 24 6,rm 25 9,ro 26 (.look .str (.v (.int .i64 0)) true (.t 24) (.t 25)),rm 23 26,ro 27 (.ext 0 (.t 23)),ro 28 (.ext 1 (.t 23)),rm 10 27,rm 11 28] (.seq (sq [rm 29 11,ro 30 (.un .not (.t 29))] (.cond (.t 30) (sq [rm 31 6,ro 32 (.Hw (.t 31)),rm 10 32] (.reg none [rm 33 6,rm 34 9,rm 35 10,rn (.BX .str (.t 33) (.t 34) (.t 35))])) .skip)) (.reg none [rm 36 7,rm 37 10,ro 38 (.dH 1 1 (.v (.int .i64 0)) [(0,(.t 37))]),ro 39 (.app 1 8 (.t 36) (.t 38)),rm 7 39])))))) (.reg none [ro 40 (.bin .add (.t 16) (ci 1)),rm 16 40]))))))) (sq [rm 41 7,rm 42 6,ro 43 (.Hw (.t 42)),rm 4 41,rm 5 43] .ret)))))
def Vu(P4y P4J:FuncId):AC:= (sq [ro 1 (.box 3 (.t 0)),ro 2 (.mv (.c (.sl true [])))] (sq [ro 7 (.load (some 3) (.t 1)),rk 8 P4y [(.t 7)],rm 3 8] (sq [ro 4 (.mv (ci 0))] (.block 0 (.loop (.block 1 (sq [ro 10 (.load (some 3) (.t 1)),rm 11 3,rk 12 P4J [(.t 10),(.t 11)],rm 9 12,ro 13 (.ext 0 (.t 9)),ro 14 (.ext 1 (.t 9)),rm 5 13,rm 6 14] (.seq (sq [rm 15 6,rm 16 4,ro 17 (.bin .eql (.t 15) (.t 16))] (.cond (.t 17) (sq [rm 18 5,rm 2 18] .ret) .skip)) (.reg none [rm 19 5,rm 20 6,rm 3 19,rm 4 20])))))))))
abbrev Ua:=List Int×Bool
def coI(d:aC)(i:Nat)(s:Ua):Prop:=s.1=(vY d).take i
def GU(d:aC)(i:Nat)(s:Ua):List (Nat×AV):=[(3,vV s.2 1 (s.1.map ah)),(8,bA d.fin),(9,ah d.fin.length),(10,ah i)]
def GV(i:Nat)(s:Ua):List (Nat×Option aB):=[(1,vB s.2 1 (s.1.map ah))]
theorem ZgK{P:Program}(d:aC)(hl:d.fin.length≤4000):bq P 0 Vz (dw [2] (dM (aj (vY d)))) (bF [aR d]) S0:=by
 simp[Vz];refine lg d.fin.length (coI d) (GU d) 10 GV ([],false) rfl ?_ ?_
 ·refine aX.of [] [] (by omega) ⟨by simp,by simp⟩ ?_ ?_
  ·simp[GV]
  ·simp[GU]
 ·rintro i ⟨xs,o⟩ hi hx
  simp only[coI] at hx;have hcl:(vY d).length=d.fin.length:=by simp[vY]
  have hxl:xs.length=i:=by rw[hx];simp[hcl];omega
  by_cases hlt:i < d.fin.length
  ·have hok:bY 8 xs.length 1:=by unfold bY;omega
   have hn:(vY d).take (i+1)=xs++[(vY d)[i]'(by omega)]:=by rw[List.take_succ_eq_append_getElem (by omega),←hx]
   have hg:(vY d)[i]'(by omega)=if d.fin[i]=true then 1 else 0:=by simp[vY]
   have hgd:d.fin.getD i false=d.fin[i]:=by rw[List.getD_eq_getElem?_getD,List.getElem?_eq_getElem hlt];rfl
   rw[hg] at hn;cases hb:d.fin[i] with
   | true=>
    simp only[hb,if_true] at hn;simp[GU,GV,hlt,hb,hok];rw[bE _ (by omega)];refine⟨hlt,(xs++[1],true),hn.symm,aX.of [(1,20)] [] (by omega) ⟨by simp,by simp⟩ ?_ ?_⟩
    ·simp[GV]
    ·simp[GU]
   | false=>
    simp only[hb,Bool.false_eq_true,if_false] at hn;simp[GU,GV,hlt,hb,hok];rw[bE _ (by omega)];refine⟨hlt,(xs++[0],true),hn.symm,aX.of [(1,19)] [] (by omega) ⟨by simp,by simp⟩ ?_ ?_⟩
    ·simp[GV]
    ·simp[GU]
  ·have hie:i=d.fin.length:=by omega
   have ht:xs=vY d:=by rw[hx];exact List.take_of_length_le (by omega)
   subst ht;simp[GU,GV,hie];refine wo ?_ (jM _);simp
def vo:List Int→List UInt8
 | []=>[]
 | k::ks=>Lib.itoa k++ks.flatMap fun n=>44::Lib.itoa n
def zu(l:List Int):AV:=sj (vo l)
def zm(l:List Int):List UInt8:=l.flatMap fun n=>Lib.itoa n++[44]
theorem Xr(ks:List Int):∀k,vo (k::ks)++[44]=zm (k::ks):=by
 induction ks with
 | nil=>intro k;simp[vo,zm]
 | cons j js ih=>
  intro k;have:=ih j;simp only[vo,zm,List.flatMap_cons,List.append_assoc,List.cons_append] at this ⊢;rw[this];simp
theorem ZaR(n:Nat):∀b∈Lib.decDigits n,b≠44:=by
 induction n using Nat.strongRecOn with
 | _ n ih=>
  rw[Lib.decDigits];split
  ·rename_i h
   intro b hb e;simp only[List.mem_cons,List.not_mem_nil,or_false] at hb;have:=Ja h;rw[←hb,e] at this;have h32:(44:UInt8).toNat=44:=rfl;omega
  ·rename_i h
   have h2:=ih (n / 10) (by omega);have hd:n % 10 < 10:=Nat.mod_lt _ (by omega);intro b hb e;rcases List.mem_append.mp hb with hb | hb
   ·exact h2 b hb e
   ·simp only[List.mem_cons,List.not_mem_nil,or_false] at hb
    have:=Ja hd;rw[←hb,e] at this;have h32:(44:UInt8).toNat=44:=rfl;omega
theorem LU(n:Int)(l:List Int):zm (n::l)=Lib.itoa n++44::zm l:=by simp[zm]
theorem Zg9:∀{l m:List Int},vg l→vg m→zm l=zm m→l=m
 | [],[],_,_,_=>rfl
 | [],n::m,_,_,h=>by rw[LU] at h;simp[zm] at h
 | n::l,[],_,_,h=>by rw[LU] at h;simp[zm] at h
 | n::l,k::m,hl,hm,h=>by
  have hn:=hl n (by simp);have hk:=hm k (by simp);rw[LU,LU,Mv hn,Mv hk] at h;obtain⟨h1,h2⟩:=XO (ZaR _) (ZaR _) h;have:=congrArg GN h1;rw[(IG _).1,(IG _).1] at this;rw[Zg9 (fun z hz=>hl z (by simp[hz])) (fun z hz=>hm z (by simp[hz])) h2];congr 1;omega
def JM(l:List Int):Prop:=l≠[]∧∀n∈l,0≤n∧n < 10000
theorem Znh{l m:List Int}(hl:JM l)(hm:JM m)(h:vo l=vo m):l=m:=by
 obtain⟨k,ks,rfl⟩:=List.exists_cons_of_ne_nil hl.1;obtain⟨j,js,rfl⟩:=List.exists_cons_of_ne_nil hm.1;refine Zg9 (fun n hn=>(hl.2 n hn).1) (fun n hn=>(hm.2 n hn).1) ?_;rw[←Xr,←Xr,h]
theorem Zvy:Bv .str JM zu:=by
 refine⟨fun x=>rfl,fun x y hx hy=>?_⟩;have:sW (zu x) (zu y)=((⟨(vo x).toArray⟩:ByteArray) == ⟨(vo y).toArray⟩):=rfl;rw[this,Zpk];by_cases h:x=y
 ·subst h;simp
 ·simp only[h,decide_false,beq_eq_false_iff_ne,ne_eq]
  intro e;refine h (Znh hx hy ?_);simpa using e
theorem Zm3{n:Int}(h:0≤n∧n < 10000):(Lib.itoa n).length≤21:=Lib.itoa_length_le n (by omega) (by omega)
theorem Zgb:∀{l:List Int},(∀n∈l,0≤n∧n < 10000)→(zm l).length≤22*l.length
 | [],_=>by simp[zm]
 | k::ks,h=>by
  have h1:=Zm3 (h k (by simp));have h2:=Zgb (l:=ks) (fun n hn=>h n (by simp[hn]));rw[LU,List.length_append,List.length_cons,List.length_cons];omega
theorem ZdB(k:Int)(ks:List Int)(n:Int):vo (k::(ks++[n]))=vo (k::ks)++44::Lib.itoa n:=by simp[vo]
def TQ(d:aC)(c:List Int)(s:Nat):List (Nat×AV):=[(1,aj c),(2,ah s),(3,.bJ (aR d) 0)]
structure Va(T e B:Nat)(w0:World)(c row:List Int)(k0:Int)(m:Nat)(a:AF)(w:World)(j:Nat):Prop where
 hj:j≤row.length
 hm:m=row.length - j
 e1:a 1=aj c
 e7:a 7=.ptr 0 0 0
 e20:a 20=aj row
 e21:a 21=ah row.length
 e22:a 22=ah j
 bl:wK T e B B w0 (vo (k0::(row.take j).map fun t=>c.getD t.toNat 0)) w
def ZuD(T e B:Nat)(w0:World)(H:Nat→Option (Array Value))(c row:List Int)(k0:Int)(m:Nat)(a:AF)(w:World):Prop:=kR H w∧∃j,Va T e B w0 c row k0 m a w j
def yc(n:Int):Prop:=0≤n∧n < 10000
theorem Zgf{P:Program}{fi fw fb fs:FuncId}{T e:TypeId}(k:BG P fw fb fs T e)(hi:Dr P fi yc){c row:List Int}{k0:Int}(hk0:yc k0)(hc:∀n∈c,yc n)(hr:∀t∈row,0≤t∧t < c.length)(hlen:row.length≤4000)
  {E:Env} {B:Nat} {w0:World} (hE:BE E B B) (zJ:jO P E.H) {Q:Exit→AF→World→Prop} (hQ:∀a w,Va T e B w0 c row k0 0 a w row.length→kR E.H w→Q (.exit 0) a w) {a:AF} {w:World} (h:Va T e B w0 c row k0 row.length a w 0) (hH:kR E.H w) :
  lH P E (Vq fi fw fb) Q a w:=by
 unfold Vq;unfold lH;refine⟨ZuD T e B w0 E.H c row k0,⟨row.length,hH,0,h⟩,?_⟩;rintro m a w ⟨hH,j,hI⟩;by_cases hj:j < row.length
 ·have h1:(j:Int) < row.length:=by omega
  have hget:(row.map ah)[j]? = some (ah row[j]):=by simp[hj]
  have hw:IntKind.i64.wrap ((j:Int)+1)=j+1:=bE _ (by omega);obtain⟨h2,h3⟩:=hr _ (List.getElem_mem hj);have hcl:row[j].toNat < c.length:=by omega
  have hgc:(c.map ah)[row[j].toNat]? = some (ah c[row[j].toNat]):=by simp[hcl]
  have hgo:=hc _ (List.getElem_mem hcl)
  have ht:(row.take (j+1)).map (fun t=>c.getD t.toNat 0)=(row.take j).map (fun t=>c.getD t.toNat 0)++[c[row[j].toNat]]:=by
   rw[List.take_succ_eq_append_getElem hj,List.map_append];simp[List.getElem?_eq_getElem hcl]
  have hle:(vo (k0::(row.take (j+1)).map fun t=>c.getD t.toNat 0)).length≤22*4001:=by
   have h4:=Zgb (l:=k0::(row.take (j+1)).map fun t=>c.getD t.toNat 0) (fun n hn=>by
    simp only[List.mem_cons,List.mem_map] at hn;rcases hn with rfl | ⟨t,ht,rfl⟩
    ·exact hk0
    ·obtain⟨h5,h6⟩:=hr t (List.mem_of_mem_take ht)
     have:t.toNat < c.length:=by omega
     rw[List.getD_eq_getElem?_getD,List.getElem?_eq_getElem this];exact hc _ (List.getElem_mem this))
   rw[←Xr] at h4;simp only[List.length_append,List.length_cons,List.length_map,List.length_take,List.length_nil] at h4;omega
  rw[ht,ZdB] at hle;simp only[List.length_append,List.length_cons] at hle;simp[ex,aH,dF,eY,fJ,bX,dz,eB,d9,bB,ah,lH,WG,zi,Eb,Ar,Eff.qY,hI.e1,hI.e7,hI.e20,hI.e21,hI.e22,aj,h1,hget,h2,hgc];refine uz.byte k hE hI.bl hH (by omega) (fun w1 b1 hH1=>?_) (c:=44) rfl
  try simp[mh,lW,l7,mP,mQ,mU,mR,l9,mX,mO,mJ,eG,iB,iU,iy,iR,iN,iM,iT,iO,gG,iP,fH,iF,iQ,iE,eT,eU,gD,ig,je,jf,gZ,jk,fU,fQ,fE,eO,gV,gW,gX,gP,gQ,jg,iV,iH,jc,iX,iZ,iY,jd,jh,iK,iq,gT,gU,gM,iw,dO,eP,gI,iL,ji,ex,aH,fF,dF,eY,cK,dn,aL,bT,fJ,gH,eZ,gN,iD,iC,iW,iJ,bS,dN,dV,fZ,fV,gY,fu,bD,bX,dL,eH,dz,gu,fC,gB,gq,gy,fM,dA,eX,eB,d9,bB,AV.solid,S0,ah,aD,lH,WG,zi,Eb,Ar,Eff.qY,hI.e1,hI.e7,hI.e20,hI.e21,hI.e22,aj,h1,hget,h2,hgc]
  refine uz.itoa hi hE b1 hgo zJ hH1 fun w9 b9 NP=>?_
  refine uz.str k hE b9 NP (by simp only[List.length_append,List.length_cons,List.length_nil];omega) fun w2 b2 hH2=>?_
  refine⟨row.length - (j+1),by have:=hI.hm;omega,hH2,j+1,⟨by omega,rfl,?_,?_,?_,?_,?_,?_⟩⟩
  ·simp[AF.put,bG,hI.e1]
  ·simp[AF.put,bG,hI.e7]
  ·simp[AF.put,bG,hI.e20]
  ·simp[AF.put,bG,hI.e21]
  ·simp[AF.put,bG,hw,ah]
  ·rw[ht,ZdB]
   rw[List.append_assoc] at b2;exact b2
 ·have hj2:j=row.length:=by have:=hI.hj;omega
  subst hj2;have h1:¬((row.length:Int) < row.length):=by omega
  simp[ex,aH,dF,eB,d9,ah,lH,WG,zi,Ar,Eff.qY,hI.e21,hI.e22,h1];refine hQ _ _ ⟨Nat.le_refl _,by omega,?_,?_,?_,?_,?_,hI.bl⟩ hH
  ·simp[AF.put,bG,hI.e1]
  ·simp[AF.put,bG,hI.e7]
  ·simp[AF.put,bG,hI.e20]
  ·simp[AF.put,bG,hI.e21]
  ·simp[AF.put,bG,hI.e22]
theorem Znk{P:Program}(hm:P.follows .mixedOrders=true){f fi fw fb fs:FuncId}{T e:TypeId}(h:Is P f (ZaQ fi fw fb fs) [6] 3)(hT:Br P f T)(k:BG P fw fb fs T e)(hi:Dr P fi yc){d:aC}(R:dP d){c:List Int}(hcl:c.length=d.next.length)
  (hc:∀n∈c,yc n) {s:Nat} (hs:s < d.next.length):aJ P f [aR d,aj c,ah s] (zu (vv d c s)):=by
 obtain⟨fn,co,hf,hnm,hb,hcm,hr,hn⟩:=h
 have hT':FY co=some T:=by
  unfold Br at hT;rw[hf] at hT;simpa[hb] using hT
 refine aJ.P5P (T:=T) (e:=e) (args:=[aR d,aj c,ah s]) (A:=TQ d c s) hm hf hnm hb hcm hT' hr hn rfl ?_ (fun E B w w0 hE zJ hH hB=>?_)
 ·simp
  refine aX.of [] [0] (by omega) ⟨by simp,by simp⟩ ?_ ?_
  ·simp
  ·simp[TQ]
   exact .fz _ _ (.ptr 0 0 0 3 [aR d] (aR d) (by simp[only,aL]) (by simp) (.closed _ (dZ d)))
 ·unfold Z8o
  have hgs:yc (c.getD s 0):=by
   rw[List.getD_eq_getElem?_getD,List.getElem?_eq_getElem (by omega)];exact hc _ (List.getElem_mem _)
  have hsc:(c.map ah)[s]? = some (ah (c.getD s 0)):=by
   rw[List.getD_eq_getElem?_getD,List.getElem?_map,List.getElem?_eq_getElem (show s < c.length by omega)];rfl
  have hrow:(d.next.map aj)[s]? = some (aj (d.next.getD s [])):=by
   rw[List.getD_eq_getElem?_getD,List.getElem?_map,List.getElem?_eq_getElem hs];rfl
  have ed:(aR d).cells=[ah d.signs,aU d.next,bA d.fin]:=rfl;have es:(aR d).solid=true:=rfl
  have hrl:(d.next.getD s []).length≤4000:=by
   have:=R.row s hs;have:=R.s2;rw[List.getD_eq_getElem?_getD,List.getElem?_eq_getElem hs,Option.getD_some];omega
  have hra:∀t∈d.next.getD s [],0≤t∧t < c.length:=by
   intro t ht;rw[List.getD_eq_getElem?_getD,List.getElem?_eq_getElem hs,Option.getD_some] at ht;obtain⟨j,hj,rfl⟩:=List.getElem_of_mem ht;rw[hcl];exact R.at_ s hs j hj
  have hz:vo [c.getD s 0]=[]++Lib.itoa (c.getD s 0):=by simp[vo]
  have hvk:vo (vv d c s)=vo (c.getD s 0::((d.next.getD s []).take (d.next.getD s []).length).map fun t=>c.getD t.toNat 0):=by rw[List.take_length];rfl
  generalize hrw:d.next.getD s []=row at *
  generalize hk0:c.getD s 0=k0 at *;simp[ex,aH,dF,eY,fJ,bX,eH,dz,gu,bB,ah,lH,WG,zi,Ar,Eff.qY,TQ,mK,aj,hsc];refine uz.itoa hi hE hB hgs zJ hH fun w9 b9 NP=>?_
  try simp[mh,lW,l7,mP,mQ,mU,mR,l9,mX,mO,mJ,eG,iB,iU,iy,iR,iN,iM,iT,iO,gG,iP,fH,iF,iQ,iE,eT,eU,gD,ig,je,jf,gZ,jk,fU,fQ,fE,eO,gV,gW,gX,gP,gQ,jg,iV,iH,jc,iX,iZ,iY,jd,jh,iK,iq,gT,gU,gM,iw,dO,eP,gI,iL,ji,ex,aH,fF,dF,eY,cK,dn,aL,bT,fJ,gH,eZ,gN,iD,iC,iW,iJ,bS,dN,dV,fZ,fV,gY,fu,bD,bX,dL,eH,dz,gu,fC,gB,gq,gy,fM,dA,eX,eB,d9,bB,AV.solid,S0,ah,aD,lH,WG,zi,Eb,Ar,Eff.qY,TQ,mK,oz,aj,hsc]
  refine uz.str k hE b9 NP (by have:=Zm3 hgs;simp only[List.length_nil];omega) fun w2 b2 hH2=>?_
  rw[←hz] at b2
  try simp[gH,Eff.qY,aj,aU,hrow]
  refine Zgf k hi hgs hc hra hrl (w0:=w0) hE zJ (fun a w' hI YW=>?_) ⟨Nat.zero_le _,by omega,?_,?_,?_,?_,?_,?_⟩ hH2
  ·have e7:=hI.e7
   simp[zi,Eb,e7];have hbl:=hI.bl;rw[←hvk] at hbl;refine uz.string k hE hbl YW fun w2 h2=>?_
   simp[sj,h2]
  ·simp[AF.put,bG,mK,aj]
  ·simp[AF.put,bG]
  ·simp[AF.put,bG,aj]
  ·simp[AF.put,bG,ah]
  ·simp[AF.put,bG,ah]
  ·simpa using b2
theorem ZjC{K:Type}[DecidableEq K][i:BEq K][LawfulBEq K](k:K)(l:List K):@List.idxOf K instBEqOfDecidableEq k l=@List.idxOf K i k l:=by
 have e:∀a b:K,(@BEq.beq K instBEqOfDecidableEq a b)=@BEq.beq K i a b:=fun a b=>by
  by_cases h:a=b
  ·exact(decide_eq_true h).trans (beq_iff_eq.mpr h).symm
  ·exact(decide_eq_false h).trans (beq_eq_false_iff_ne.mpr h).symm
 have e2:@instBEqOfDecidableEq K _=i:=by
  cases i with
  | mk f=>exact congrArg BEq.mk (funext fun a=>funext fun b=>e a b)
 rw[e2]
theorem Ql(l:List Int):aY (zu l):=.v _
theorem Ztw(l:List (List Int)):∀x∈(bI l).2,0≤x∧x < l.length:=by
 have h:=Ab l;intro x hx;obtain⟨i,hi,rfl⟩:=List.getElem_of_mem hx;have hil:i < l.length:=by rw[←h.len];exact hi
 have h1:=h.at_ i hil
 rw[List.getElem?_eq_getElem hi,Option.some.injEq] at h1;have h2:=List.idxOf_lt_length_iff.mpr ((h.mem l[i]).mpr (List.getElem_mem hil));have h3:=XY l;rw[h1];omega
theorem Zge{d:aC}(R:dP d){c:List Int}(hcl:c.length=d.next.length)(hc:∀n∈c,yc n){s:Nat}(hs:s < d.next.length):JM (vv d c s):=by
 have hg:∀i,i < c.length→yc (c.getD i 0):=fun i hi=>by
  rw[List.getD_eq_getElem?_getD,List.getElem?_eq_getElem hi];exact hc _ (List.getElem_mem hi)
 refine⟨by simp[vv],fun n hn=>?_⟩;simp only[vv,List.mem_cons,List.mem_map] at hn;rcases hn with rfl | ⟨t,ht,rfl⟩
 ·exact hg s (by omega)
 ·rw[List.getD_eq_getElem?_getD,List.getElem?_eq_getElem hs,Option.getD_some] at ht
  obtain⟨j,hj,rfl⟩:=List.getElem_of_mem ht;have:=R.at_ s hs j hj
  exact hg _ (by omega)
abbrev TW:=(List (List Int)×List Int)×Bool
def NH(d:aC)(c:List Int)(i:Nat)(s:TW):Prop:=s.1=bI ((oM d c).take i)
def G8(d:aC)(c:List Int)(i:Nat)(s:TW):List (Nat×AV):=[(1,aj c),(2,.ptr 0 0 0),(6,.mp 1),(7,vV s.2 2 (s.1.2.map ah)),(15,ah d.next.length),(16,ah i)]
def G9(d:aC)(i:Nat)(s:TW):List (Nat×Option aB):=[(0,some (.arr 3 [aR d])),(1,some (.map (gK zu 0 s.1.1))),(2,vB s.2 1 (s.1.2.map ah))]
theorem Zjy{P:Program}{fv:FuncId}{d:aC}(R:dP d){c:List Int}(hcl:c.length=d.next.length)(hc:∀n∈c,yc n)(hv:∀s:Nat,s < d.next.length→aJ P fv [aR d,aj c,ah s] (zu (vv d c s))) :
  bq P 0 (Vx fv) (dw [4,5] (dM (.aO [aj (lQ d c).2,ah (lQ d c).1.length]))) (bF [aR d,aj c]) S0:=by
 have hn:=R.n2;simp[Vx,Gd];refine lg d.next.length (NH d c) (G8 d c) 10 (G9 d) (([],[]),false) (by simp[NH,bI]) ?_ ?_
 ·refine aX.of [(0,0),(1,3)] [] (by omega) ⟨by simp,by simp⟩ ?_ ?_
  ·simp[G9,gK,dZ]
   exact Ae (by simp[Sc])
  ·simp[G8]
 ·rintro i ⟨⟨ks,ls⟩,o⟩ hi hx
  simp only[NH] at hx;have ok:=Ab ((oM d c).take i);rw[←hx] at ok;have hvl:=FH d c;have hll:=ok.len;simp only[List.length_take] at hll;by_cases hlt:i < d.next.length
  ·have hxi:=hv i hlt
   have Dk:(oM d c)[i]'(by omega)=vv d c i:=by simp[oM]
   have hsn:bI ((oM d c).take (i+1))=ug (ks,ls) (vv d c i):=by rw[List.take_succ_eq_append_getElem (by omega),DI,←hx,Dk]
   have hkg:JM (vv d c i):=Zge R hcl hc hlt
   have hks:∀k∈ks,JM k:=fun k hk=>by
    have:=(ok.mem k).mp hk;have:=List.mem_of_mem_take this;simp only[oM,List.mem_map,List.mem_range] at this;obtain⟨j,hj,rfl⟩:=this;exact Zge R hcl hc hj
   have hok:bY 8 ls.length 1:=by unfold bY;omega
   generalize hk:vv d c i=k at *;have AZ:=fun(km aA:Nat) (S:St) (hg:S.g km=some (.map (gK zu 0 ks)))=>Yi (aA:=aA) Zvy hkg hks hg
   have hlen:=fun(km aA:Nat) (S:St) (hg:S.g km=some (.map (gK zu 0 ks)))=>Zvz (aA:=aA) hg
   by_cases hin:k∈ks
   ·have hst:ug (ks,ls) k=(ks,ls++[(ks.idxOf k:Int)]):=by simp[ug,hin]
    simp[G8,G9,hlt];refine aN.pure hxi (aG (dZ d) (aG (aT _) (aG (aW _) aQ))) (Ql _) ?_;simp[AZ,hin,hok];rw[bE _ (by omega)];refine⟨hlt,((ks,ls++[(ks.idxOf k:Int)]),true),by rw[NH,hsn,hst],aX.of [(0,0),(1,1),(2,31)] [] (by omega) ⟨by simp,by simp⟩ ?_ ?_⟩
    ·simp[G9,dZ]
     exact⟨Ae (Ag Ql _ _),by rw[ZjC]⟩
    ·simp[G8]
   ·have hst:ug (ks,ls) k=(ks++[k],ls++[(ks.length:Int)]):=by simp[ug,hin]
    have Tj:=fun(km aA:Nat) (S:St) (hg:S.g km=some (.map (gK zu 0 ks)))=>RO (aA:=aA) Zvy hkg hks hin hg
    simp[G8,G9,hlt];refine aN.pure hxi (aG (dZ d) (aG (aT _) (aG (aW _) aQ))) (Ql _) ?_;simp[AZ,hin,hok,hlen,Tj];rw[bE _ (by omega)];refine⟨hlt,((ks++[k],ls++[(ks.length:Int)]),true),by rw[NH,hsn,hst],aX.of [(0,0),(1,1),(2,38)] [] (by omega) ⟨by simp,by simp⟩ ?_ ?_⟩
    ·simp[G9,dZ]
     exact Ae (Ag Ql _ _)
    ·simp[G8]
  ·have hie:i=d.next.length:=by omega
   have ht:(ks,ls)=lQ d c:=by rw[hx,List.take_of_length_le (by omega)];rfl
   have hlen:=fun(km aA:Nat) (S:St) (hg:S.g km=some (.map (gK zu 0 ks)))=>Zvz (aA:=aA) hg
   rw[←ht];simp[G8,G9,hie,hlen];refine .Fp (.cons (wo ?_ (jM _)) (.cons (.closed _ (.v _)) .nil));simp
def clI(d:aC)(m:Nat)(s:List Int×Nat):Prop:=
 Gb d m s.1 s.2=oC d∧(∃j,Gt d j s.1)∧d.next.length < m+s.2∧s.2≤d.next.length∧s.2≤(lQ d s.1).1.length∧∀x∈s.1,yc x
def SK(s:List Int×Nat):List (Nat×AV):=[(1,.ptr 0 0 0),(3,aj s.1),(4,ah s.2)]
def SL(d:aC)(_:List Int×Nat):List (Nat×Option aB):=[(0,some (.arr 3 [aR d]))]
theorem Zf3{P:Program}{fc ff:FuncId}{d:aC}(R:dP d)(hc:aJ P fc [aR d] (aj (vY d)))
  (hf:∀c:List Int,c.length=d.next.length→(∀n∈c,yc n)→aJ P ff [aR d,aj c] (.aO [aj (lQ d c).2,ah (lQ d c).1.length])) :
  bq P 0 (Vu fc ff) (dw [2] (dM (aj (oC d)))) (bF [aR d]) S0:=by
 have hn:=R.n2;simp[Vu];refine aN.pure hc (aG (dZ d) aQ) (aT _) ?_;simp;refine ZeF (clI d) SK 10 (SL d) (d.next.length+1) (vY d,0) ⟨rfl,⟨0,ZcZ R⟩,by simp,by simp,by simp,fun x hx=>?_⟩ ?_ ?_
 ·simp only[vY,List.mem_map] at hx
  obtain⟨b,_,rfl⟩:=hx;unfold yc;split<;>omega
 ·refine aX.of [(0,0)] [] (by omega) ⟨by simp,by simp⟩ ?_ ?_
  ·simp[SL,dZ]
  ·simp[SK]
 ·rintro m ⟨c,n⟩ ⟨h1,⟨j,h2⟩,h3,h4,h5,h6⟩
  simp only at h1 h2 h3 h4 h5 h6;obtain⟨a1,a2,a3,a4⟩:=Qm R h2;obtain⟨m,rfl⟩:∃m',m=m'+1:=⟨m - 1,by omega⟩;rw[Gb] at h1;simp[SK,SL];refine aN.pure (hf c h2.len h6) (aG (dZ d) (aG (aT _) aQ)) (.aO _ (aG (aT _) (aG (aW _) aQ))) ?_;by_cases he:(lQ d c).1.length=n
  ·rw[if_pos he] at h1
   simp[he,h1];exact .closed _ (aT _)
  ·rw[if_neg he] at h1
   have he':(((lQ d c).1.length:Int) == (n:Int))=false:=by simp;omega
   simp[he'];refine⟨m,((lQ d c).2,(lQ d c).1.length),by omega,⟨h1,⟨_,Qb R h2⟩,by omega,a2,a1,fun x hx=>?_⟩,aX.of [(0,0)] [] (by omega) ⟨by simp,by simp⟩ ?_ ?_⟩
   ·have:=Ztw _ x hx
    rw[FH] at this;exact⟨this.1,by omega⟩
   ·simp[SL,dZ]
   ·simp[SK]
def ZhI:AC:= (.block 2 (.loop (sq [ro 48 (.bin .lss (.t 47) (.t 46))] (.seq (.cond (.t 48) .skip (.exit 2)) (.seq (.block 3 (sq [rm 49 47,ro 50 (.aM 1 (.t 45) (.t 47)),rL 51 50,rm 10 49,rm 11 51] (sq [rm 53 5,rm 54 4,rm 55 11,ro 56 (.aM 1 (.t 54) (.t 55)),rL 57 56,ro 58 (.look (.int .i64) (.v (.int .i64 0)) true (.t 53) (.t 57)),rm 52 58,ro 59 (.ext 0 (.t 52)),ro 60 (.ext 1 (.t 52)),rm 12 59,rm 13 60] (.seq (sq [rm 61 13,ro 62 (.un .not (.t 61))] (.cond (.t 62) (sq [rm 63 6,ro 64 (.len (.t 63)),rm 12 64] (sq [rm 65 5,rm 66 4,rm 67 11,ro 68 (.aM 1 (.t 66) (.t 67)),rL 69 68,rm 70 12,rn (.BX (.int .i64) (.t 65) (.t 69) (.t 70))] (.reg none [rm 71 6,rm 72 11,ro 73 (.dH 1 1 (.v (.int .i64 0)) [(0,(.t 72))]),ro 74 (.app 1 8 (.t 71) (.t 73)),rm 6 74]))) .skip)) (.reg none [rm 75 9,rm 76 10,rm 77 12,ro 78 (.aM 1 (.t 75) (.t 76)),rn (.store 1 (.t 78) (.t 77))]))))) (.reg none [ro 79 (.bin .add (.t 47) (ci 1)),rm 47 79]))))))
def ZhF:AC:= (.reg (some [[],[],[],[],[],[true],[false,true],[false,false,true],[false,false,false,true],[false,false,false,false,true],[false,false,false,false,false,true],[false,false,false,false,false,false,true],[false,false,false,false,false,false,false,true],[false,false,false,false,false,false,false,false,true],[false,false,false,false,false,false,false,false,false,true],[false,false,false,false,false,false,false,false,false,false,true],[],[true]]) [rF 80 1 7,rL 81 80,rm 82 9,ro 83 (.dH 1 1 (.sl true []) [(0,(.t 82))]),ro 84 (.app 1 24 (.t 81) (.t 83)),rF 85 2 7,rL 86 85,rF 87 2 1,rL 88 87,rm 89 6,rm 90 8,ro 91 (.aM 1 (.t 89) (.t 90)),rL 92 91,ro 93 (.aM 1 (.t 88) (.t 92)),rL 94 93,ro 95 (.dH 1 1 (.v (.bool false)) [(0,(.t 94))]),ro 96 (.app 1 1 (.t 86) (.t 95)),rF 97 1 7,rn (.store 1 (.t 97) (.t 84)),rF 98 2 7,rn (.store 1 (.t 98) (.t 96))])
def ZhH:AC:= (.block 0 (.loop (.seq (sq [rm 29 8,rm 30 6,ro 31 (.len (.t 30)),ro 32 (.bin .lss (.t 29) (.t 31))] (.cond (.t 32) .skip (.exit 0))) (.seq (.block 1 (sq [rF 35 0 1,rL 36 35,ro 37 (.zL 1 8 (.v (.int .i64 0)) (.t 36) (.t 36)),rm 9 37] (.seq (.seq (.reg (some []) [rF 38 1 1,rL 39 38,rm 40 6,rm 41 8,ro 42 (.aM 1 (.t 40) (.t 41)),rL 43 42,ro 44 (.aM 1 (.t 39) (.t 43)),rL 45 44,ro 46 (.len (.t 45)),ro 47 (.mv (ci 0))]) ZhI) ZhF))) (.reg none [rm 33 8,ro 34 (.bin .add (.t 33) (ci 1)),rm 8 34])))))
def ZhG:AC:= (sq [ro 99 (.load (some 3) (.t 7)),rn (.store 3 (.t 2) (.t 99)),ro 3 (.mv (ci 0))] .ret)
def VX(Dx P4o:FuncId):AC:= (sq [ro 1 (.box 3 (.t 0)),ro 2 (.alloc (.agg [(.v (.int .i64 0)),(.sl true []),(.sl true [])]) 3),ro 3 (.mv (ci 0))] (.seq (sq [ro 14 (.load (some 3) (.t 1)),rk 15 Dx [(.t 14)],ro 16 (.un .not (.t 15))] (.cond (.t 16) (sq [ro 17 (.build (.agg [(.v (.int .i64 0)),(.sl true []),(.sl true [])]) [] []),rn (.store 3 (.t 2) (.t 17)),ro 3 (.mv (ci 1))] .ret) .skip)) (sq [ro 18 (.load (some 3) (.t 1)),rk 19 P4o [(.t 18)],rm 4 19] (sq [ro 20 (.EK),rm 21 4,ro 22 (.aM 1 (.t 21) (ci 0)),rL 23 22,rn (.BX (.int .i64) (.t 20) (.t 23) (ci 0)),rm 24 20,rm 5 24] (sq [ro 25 (.dH 1 1 (.v (.int .i64 0)) [(0,(ci 0))]),rm 6 25] (sq [rF 26 0 1,rL 27 26,ro 28 (.build (.agg [(.v (.int .i64 0)),(.sl true []),(.sl true [])]) [(0,1)] [(0,(.t 27))]),ro 7 (.alloc (.agg [(.v (.int .i64 0)),(.sl true []),(.sl true [])]) 3),rn (.store 3 (.t 7) (.t 28))] (.seq (sq [ro 8 (.mv (ci 0))] ZhH) ZhG)))))))
def AB(l:List Nat):List Int:=l.map fun(q:Nat)=>(q:Int)
theorem Qs(l:List Nat):(AB l).length=l.length:=by simp[AB]
theorem ZfE(l:List Nat)(q:Nat):AB (l++[q])=AB l++[(q:Int)]:=by simp[AB]
theorem Qr{l:List Nat}{i q:Nat}(h:l[i]? = some q):(AB l)[i]? = some (q:Int):=by simp[AB,h]
theorem Yz:Bv (.int .i64) (fun _:Int=>True) ah:=
 ⟨fun _=>rfl,fun x y _ _=>by
  have:sW (ah x) (ah y)=(x == y):=rfl;rw[this];by_cases h:x=y
  ·subst h;simp
  ·simp[h]⟩
def oQ(d:aC):aC×Int:=if fK d=true then (kV d,0) else (⟨0,[],[]⟩,1)
abbrev Ub:=(List Int×List Int×List (List Int)×List Bool)×(Bool×Bool×Bool)
def loI(d:aC)(c:List Int)(i:Nat)(s:Ub):Prop:=s.1=(AB (jB d c i).1,(jB d c i).1.map (bR c),(jB d c i).2)∧∀m,m < i→m < (jB d c m).1.length
def zw(c:List Int)(i:Nat)(os:List Int)(o:Bool):List (Nat×AV):=[(1,.ptr 0 0 0),(2,.ptr 1 0 0),(4,aj c),(5,.mp 3),(6,vV o 4 (os.map ah)),(7,.ptr 2 0 0),(8,ah i)]
def zx(d:aC)(os ks:List Int)(nx:List (List Int))(en:List Bool)(o oN oE:Bool):List (Nat×Option aB):=
 [(0,some (.arr 3 [aR d])),(1,some (.arr 3 [lM])),(2,some (.arr 3 [.agg [ah d.signs,vV oN 5 (nx.map aj),vV oE 6 (en.map aD)]])),(3,some (.map (gK ah 0 ks))),(4,vB o 1 (os.map ah)),(5,vB oN 1 (nx.map aj)),(6,vB oE 1 (en.map aD))]
def N8(c:List Int)(i:Nat)(s:Ub):List (Nat×AV):=zw c i s.1.1 s.2.1
def N9(d:aC)(_:Nat)(s:Ub):List (Nat×Option aB):=zx d s.1.1 s.1.2.1 s.1.2.2.1 s.1.2.2.2 s.2.1 s.2.2.1 s.2.2.2
abbrev Uc:=(List Int×List Int×List Int)×Bool
def lrI(d:aC)(c:List Int)(q:Nat)(one:List Nat)(k:Nat)(s:Uc):Prop:=
 s.1.1=AB (kK c (fun s=>bK d q s) k one).1∧s.1.2.1=(kK c (fun s=>bK d q s) k one).1.map (bR c)∧s.1.2.2.length=d.signs.toNat∧s.1.2.2.take k=(kK c (fun s=>bK d q s) k one).2
def Hy(d:aC)(c:List Int)(i:Nat)(row:List Int)(k:Nat)(s:Uc):List (Nat×AV):=(9,.own 7 0 d.signs.toNat)::(45,aj row)::(46,ah d.signs)::(47,ah k)::zw c i s.1.1 s.2
def Hz(d:aC)(nx:List (List Int))(en:List Bool)(oN oE:Bool)(_:Nat)(s:Uc):List (Nat×Option aB):=(7,some (.arr 1 (s.1.2.2.map ah)))::zx d s.1.1 s.1.2.1 nx en s.2 oN oE
theorem ZeL{gF:Nat→Option aB}{R:Nat→Nat→Prop}(fB:List Int)(k:Nat)(v:Int):gL gF R ((List.map ah fB).set k (.v (.int .i64 v))) ((List.map ah fB).set k (.v (.int .i64 v))):=by
 have:(List.map ah fB).set k (.v (.int .i64 v))=List.map ah (fB.set k v):=by rw[List.map_set];rfl
 rw[this];exact gL.cl (jM _)
theorem Zg7(l:List Int)(k:Nat)(v:Int)(h:k < l.length):(l.set k v).take (k+1)=l.take k++[v]:=by
 rw[List.take_succ_eq_append_getElem (by simpa using h),List.take_set_of_le (Nat.le_refl _)];simp
theorem Ze6{P:Program}{fr fc:FuncId}{d:aC}(hr:aJ P fr [aR d] (aD (fK d)))(hc:dP d→aJ P fc [aR d] (aj (oC d))) :
  bq P 0 (VX fr fc) (bL [.c 2 (some 3),.t 3] (dM (jQ (oQ d)))) (bF [aR d]) S0:=by
 have ed:(aR d).cells=[ah d.signs,aU d.next,bA d.fin]:=rfl;simp[VX];refine aN.pure hr (aG (dZ d) aQ) (dY _) ?_;cases hb:fK d with
 | false=>
  have hz:oQ d=(⟨0,[],[]⟩,1):=by simp[oQ,hb]
  rw[hz];simp[bL,bP,RV.ev,eF,bV,jr,gJ];exact u7 _ 1
 | true=>
  have R:=(uQ d).mp hb;have hz:oQ d=(kV d,0):=by simp[oQ,hb]
  rw[hz];have C:=FB R;have hn1:=R.n1;have hn2:=R.n2;have hs1:=R.s1;have hs2:=R.s2;have hcl:=C.len;have hc0:(0:Nat) < (oC d).length:=by omega
  simp;refine aN.pure (hc R) (aG (dZ d) aQ) (aT _) ?_;have hspec:=Fy R;have Y8:kV d=⟨d.signs,(lu d).2.1,(lu d).2.2⟩:=rfl;generalize hcc:oC d=c at *;have aad:=fun(km aA:Nat) (S:St) (hg:S.g km=some (.map []))=>RO (ks:=[]) (x:=c[0]) (aA:=aA) Yz trivial (by simp) (by simp) hg
  simp[gK,ah] at aad;simp[Gd,hc0,aad,jr,gJ,ZhH];refine lg (d.next.length+1) (loI d c) (N8 c) 10 (N9 d) (([0],[bR c 0],[],[]),(false,false,false)) ⟨rfl,fun m hm=>by omega⟩ ?_ ?_
  ·refine aX.of [(0,0),(1,1),(2,21),(3,9)] [] (by omega) ⟨by simp,by simp⟩ ?_ ?_
   ·simp[N9,zx,lM,dZ,gK]
    have aaB:c[0]=bR c 0:=by rw[bR,List.getD_eq_getElem?_getD,List.getElem?_eq_getElem hc0];rfl
    rw[aaB];exact Ae (Ag (enc:=ah) aW [bR c 0] 0)
   ·simp[N8,zw]
    exact .cl (.sl _ _ (aG (aW _) aQ))
  ·rintro i ⟨⟨os,ks,nx,en⟩,oo,oN,oE⟩ hi ⟨heq,hmin⟩
   simp only[Prod.mk.injEq] at heq;obtain⟨ho,hk,hne⟩:=heq;have ok:=Jz R c i hmin;have hle:=ok.le;have hlen:=ok.len;have hnd:=ok.nd;generalize hst:jB d c i=st at *;obtain⟨one,nx',en'⟩:=st;simp only[Prod.mk.injEq] at ho hk hne hle hlen hnd;obtain⟨rfl,rfl⟩:=hne;have hol:os.length=one.length:=by rw[ho,Qs]
   by_cases hlt:i < one.length
   ·obtain⟨q,hq⟩:∃q,one[i]? = some q:=⟨_,List.getElem?_eq_getElem hlt⟩
    have xX:q < d.next.length:=ok.lt q (by obtain⟨h1,h2⟩:=List.getElem?_eq_some_iff.mp hq;rw[←h2];exact List.getElem_mem h1)
    have hoi:i < os.length:=by omega
    have hoq:os[i]? = some (q:Int):=by rw[ho];exact Qr hq
    obtain⟨_,aaX⟩:=List.getElem?_eq_some_iff.mp hoq;have hrl:((d.next[q]).length:Int)=d.signs:=R.row q xX;have hsa:=fun(k:Nat) (h:(k:Int) < d.signs)=>FN R xX (s:=(k:Int)) (by omega) h
    have hgq:d.next.getD q []=d.next[q]:=by rw[List.getD_eq_getElem?_getD,List.getElem?_eq_getElem xX];rfl
    have hfl:q < d.fin.length:=by have:=R.fin;omega
    have Kg:d.fin[q]=dG d q:=by rw[dG,List.getD_eq_getElem?_getD,List.getElem?_eq_getElem hfl];rfl
    have Hr:(i:Int) < os.length:=by omega
    have hm0:(0:Int)≤d.signs:=by omega
    have hmk:8*d.signs≤281474976710656:=by omega
    have qQ:d.signs≤9223372036854775807:=by omega
    have hnx:jB d c (i+1)=((kK c (fun s=>bK d q s) d.signs.toNat one).1,nx++[(kK c (fun s=>bK d q s) d.signs.toNat one).2],en++[dG d q]):=by
     simp only[jB,hst,Kt,hq]
    generalize hrow:d.next[q]=row at *
    simp[N8,zw,N9,zx,Hr,sU,hm0,hmk,qQ,hoi,aaX,xX,hrl,hrow,ZhI];refine lg d.signs.toNat (lrI d c q one) (Hy d c i row) 10 (Hz d nx en oN oE) ((os,ks,List.replicate d.signs.toNat 0),oo) ⟨ho,hk,by simp,by simp[kK]⟩ ?_ ?_
    ·refine aX.of [(0,0),(1,1),(2,2),(3,3),(4,4),(5,5),(6,6),(7,16)] [] (by omega) ⟨by simp,by simp⟩ ?_ ?_
     ·simp[Hz,zx,lM,dZ]
      exact Ae (Ag aW _ _)
     ·simp[Hy,zw]
    ·rintro k ⟨⟨os1,Dl,rw⟩,o1⟩ hkn ⟨h1,h2,h3,h4⟩
     simp only at h1 h2 h3 h4;have hro:=QJ (c:=c) (t:=fun s=>bK d q s) hnd k;have hlr:kK c (fun s=>bK d q s) (k+1) one=((nE c (kK c (fun s=>bK d q s) k one).1 (bK d q k)).1,(kK c (fun s=>bK d q s) k one).2++[((nE c (kK c (fun s=>bK d q s) k one).1 (bK d q k)).2:Int)]):=rfl;generalize hp:kK c (fun s=>bK d q s) k one=p at *;obtain⟨dD,r⟩:=p;simp only at h1 h2 h4 hlr hro;have Kl:os1.length=dD.length:=by rw[h1,Qs]
     have aaO:Dl.length=dD.length:=by rw[h2,List.length_map]
     have hle1:dD.length≤d.next.length:=by
      refine Mg _ _ ((List.pairwise_map.mp hro.nd).imp (fun h e=>h (congrArg _ e))) (fun x hx=>?_);rcases hro.new x hx with h | ⟨s,hs,rfl⟩
      ·exact ok.lt x h
      ·exact uR R xX (by omega) (by omega)
     by_cases hkl:(k:Int) < d.signs
     ·obtain⟨hj,hs1,hs2⟩:=hsa k hkl
      have hkn':k < d.signs.toNat:=by omega
      have hkr:k < row.length:=by omega
      have hs3:row[k]=(bK d q k:Int):=hs1;generalize ht:bK d q k=t at *;have htc:t < c.length:=by omega
      have hct:c[t]=bR c t:=by rw[bR,List.getD_eq_getElem?_getD,List.getElem?_eq_getElem htc];rfl
      have BU:k < rw.length:=by omega
      have hkm:(k:Int) < max d.signs 0:=by omega
      have hrw:d.signs≤rw.length:=by omega
      have AZ:=fun(km aA:Nat) (S:St) (hg:S.g km=some (.map (gK ah 0 Dl)))=>Yi (x:=bR c t) (aA:=aA) Yz trivial (fun _ _=>trivial) hg
      simp only[ah] at AZ;have hok:bY 8 os1.length 1:=by unfold bY;omega
      by_cases hin:bR c t∈Dl
      ·have hln:nE c dD t=(dD,Dl.idxOf (bR c t)):=by rw[nE,←h2,if_pos hin]
       rw[hln] at hlr;simp[Hy,zw,Hz,zx,hkl,hkr,hs3,htc,hct,AZ,hin,BU,hkm,hrw];rw[bE _ (by omega)];refine⟨hkn',((os1,Dl,rw.set k (Dl.idxOf (bR c t))),o1),⟨by rw[hlr];exact h1,by rw[hlr];exact h2,by simpa using h3,?_⟩,aX.of [(0,0),(1,1),(2,2),(3,3),(4,4),(5,5),(6,6),(7,7)] [] (by omega) ⟨by simp,by simp⟩ ?_ ?_⟩
       ·simp only;rw[hlr,Zg7 _ _ _ BU,h4]
       ·simp[Hz,zx,lM,dZ]
        exact⟨ZeL _ _ _,Ae (Ag aW _ _)⟩
       ·simp[Hy,zw]
      ·have hln:nE c dD t=(dD++[t],dD.length):=by rw[nE,←h2,if_neg hin]
       rw[hln] at hlr;have Tj:=fun(km aA:Nat) (S:St) (hg:S.g km=some (.map (gK ah 0 Dl)))=>RO (x:=bR c t) (aA:=aA) Yz trivial (fun _ _=>trivial) hin hg
       simp only[ah,aaO,←Kl] at Tj;simp[Hy,zw,Hz,zx,hkl,hkr,hs3,htc,hct,AZ,hin,BU,Tj,hok,hkm,hrw];rw[bE _ (by omega)];refine⟨hkn',((os1++[(t:Int)],Dl++[bR c t],rw.set k os1.length),true),⟨by rw[hlr];simp only;rw[ZfE,h1],by rw[hlr];simp only;rw[List.map_append,h2];rfl,by simpa using h3,?_⟩,aX.of [(0,0),(1,1),(2,2),(3,3),(4,42),(5,5),(6,6),(7,7)] [] (by omega) ⟨by simp,by simp⟩ ?_ ?_⟩
       ·simp only;rw[hlr,Zg7 _ _ _ BU,h4,Kl]
       ·simp[Hz,zx,lM,dZ]
        exact⟨ZeL _ _ _,Ae (Ag aW _ _)⟩
       ·simp[Hy,zw]
     ·have hke:k=d.signs.toNat:=by omega
      have hrr:rw=r:=by rw[←h4,hke,←h3,List.take_length]
      have Kk:bY 24 nx.length 1:=by have:=ok.nx;simp only at this;unfold bY;omega
      have Kj:bY 1 en.length 1:=by have:=ok.en;simp only at this;unfold bY;omega
      have hpre:=hro.pre i q hq;have Tp:i < os1.length:=by rw[Kl];exact(List.getElem?_eq_some_iff.mp hpre).1
      have Zd:os1[i]? = some (q:Int):=by rw[h1];exact Qr hpre
      obtain⟨_,Tq⟩:=List.getElem?_eq_some_iff.mp Zd;simp[Hy,zw,Hz,zx,hkl,Tp,Tq,hfl,Kg,Kk,Kj,ZhF];rw[bE _ (by omega)];refine⟨by rintro j (⟨_,rfl⟩ | rfl)<;>simp,by rintro j (⟨_,rfl⟩ | rfl)<;>simp,by rintro j (⟨_,rfl⟩ | rfl)<;>simp,by omega,((os1,Dl,nx++[rw],en++[dG d q]),(o1,true,true)),⟨?_,fun m hm=>?_⟩,aX.of [(0,0),(1,1),(2,2),(3,3),(4,4),(5,15),(6,27)] [7] (by omega) ⟨by simp,by simp⟩ ?_ ?_⟩
      ·simp only;rw[hnx,←hke,hp,h1,h2,hrr]
      ·by_cases nL:m=i
       ·subst nL;rw[hst];exact hlt
       ·exact hmin m (by omega)
      ·simp[N9,zx,lM,dZ,h3]
       exact Ae (Ag aW _ _)
      ·simp[N8,zw]
   ·have hie:i=one.length:=by omega
    have hlast:lu d=(one,nx,en):=by
     obtain⟨k,e1,e2,e3,e4⟩:=hspec
     have hki:k=i:=by
      rcases Nat.lt_trichotomy k i with h | h | h
      ·have:=hmin k h
       rw[←e1] at this;omega
      ·exact h
      ·have:=e3 i h
       rw[hst] at this;simp only at this;omega
     rw[e1,hki,hst]
    rw[Y8,hlast];have Hr:¬(i:Int) < os.length:=by omega
    simp[N8,zw,N9,zx,Hr,ZhG,bL,bP,RV.ev,eF,bV,lM];refine .Fp (.cons (.Iy (.cons (.closed _ (.v _)) (.cons (wo ?_ (kU _)) (.cons (wo ?_ (jS _)) .nil)))) (.cons (.closed _ (.v _)) .nil))
    ·simp
    ·simp
def PG:AC:= (sq [ro 4 (.mv (ci 0))] (.seq (.reg (some [[],[],[],[],[],[],[],[],[],[false,false,false,false,false,false,false,true,true],[true],[false,true],[false,false,true],[false,false,false,true],[false,false,false,false,true],[false,false,false,false,false,true],[false,false,false,false,false,false,false,false,false,false,false,false,false,false,true,true],[],[],[],[false,false,false,false,false,false,false,false,false,false,false,false,false,false,false,false,false,false,true]]) [rm 5 0,rm 6 0,rm 7 0,ro 8 (.fO (.t 7)),rF 9 0 8,rF 10 1 9,rL 11 10,rm 12 1,ro 13 (.dH 1 1 (.sl true []) [(0,(.t 12))]),ro 14 (.app 1 24 (.t 11) (.t 13)),rm 15 0,ro 16 (.fO (.t 15)),rF 17 0 16,rF 18 2 17,rL 19 18,ro 20 (.dH 1 1 (.sl true []) [(0,(.c (.sl true [])))]),ro 21 (.app 1 24 (.t 19) (.t 20)),ro 22 (.fO (.t 5)),rF 23 0 22,rF 24 1 23,rn (.store 1 (.t 24) (.t 14)),ro 25 (.fO (.t 6)),rF 26 0 25,rF 27 2 26,rn (.store 1 (.t 27) (.t 21))]) (sq [rm 28 0,ro 29 (.fO (.t 28)),rF 30 0 29,rF 31 1 30,rL 32 31,ro 33 (.len (.t 32)),ro 34 (.bin .sub (.t 33) (ci 1)),rm 4 34] .ret)))
def ZkW(uZ rT:FuncId):AC:= (.loop (sq [ro 11 (.bin .lss (.t 10) (.t 9))] (.seq (.cond (.t 11) .skip (.exit 0)) (.seq (.block 1 (sq [ro 12 (.aM 1 (.t 8) (.t 10)),rL 13 12,rm 7 13] (.reg (some []) [rm 14 0,ro 15 (.fO (.t 14)),rF 16 0 15,rF 17 2 16,rL 18 17,rm 19 7,rm 20 0,ro 21 (.fO (.t 20)),rF 22 0 21,rF 23 2 22,rL 24 23,rm 25 7,ro 26 (.aM 1 (.t 24) (.t 25)),rL 27 26,rm 28 2,ro 29 (.dH 1 2 (.sl true []) [(0,(.t 27)),(1,(.t 28))]),rk 30 uZ [(.t 29)],rk 31 rT [(.t 30)],ro 32 (.aM 1 (.t 18) (.t 19)),rn (.store 1 (.t 32) (.t 31))]))) (.reg none [ro 33 (.bin .add (.t 10) (ci 1)),rm 10 33])))))
def Px(uZ rT:FuncId):AC:= (sq [rm 8 1,ro 9 (.len (.t 8)),ro 10 (.mv (ci 0))] (.block 0 (ZkW uZ rT)))
theorem ZiT{P:Program}(hm:P.follows .mixedOrders=true){f:FuncId}(h:Is P f PG [4] 2)(sg:Int)(o:Bool)(b:List Int)(st:Gs)(hs:st.fo.length=st.au.length)(hl:st.au.length≤100000) :
  nS P f [aj b] sg o st ⟨st.au++[b],st.fo++[[]]⟩ (ah st.au.length):=by
 refine h.wM hm rfl ?_;have ok1:bY 24 st.au.length 1:=by unfold bY;omega
 have ok2:bY 24 st.fo.length 1:=by unfold bY;omega
 have hw:=bE (st.au.length:Int) (by omega);simp[mW,mV,oF,nA,ow,kD,oO,oL,oK,kT,eG,fH,eT,eU,eO,gV,gW,gX,gP,gQ,iq,gT,gU,gM,iw,dO,eP,gI,ex,aH,fF,dF,eY,cK,dn,aL,bT,gH,eZ,gN,bS,dN,dV,ny,dL,eH,oh,eB,d9,bB,oD,oq,kZ,ah,PG,mG,bM,ok1,ok2,kg,hw];refine⟨by rintro j (⟨_,rfl⟩ | rfl)<;>simp,jm [(4,ah st.au.length)],⟨10,bn (mG sg true ⟨st.au++[b],st.fo++[[]]⟩ 0 3 4++[])⟩,aX.of [(0,0),(3,13),(4,20)] [] (by omega) ⟨by simp,by simp⟩ ?_ ?_,by simp[jm,ah],.of⟩
 ·simp[aj,mG,bM]
  exact .loose (by simp)
 ·simp
abbrev Sg(P:Program)(f:FuncId):Prop:=∀a b:List Int,a.length+b.length≤1000000→aJ P f [.sl true [aj a,aj b]] (aj (a++b))
abbrev JF(P:Program)(f:FuncId):Prop:=∀l:List Int,l.length≤17592186043904→aJ P f [aj l] (aj (jo l))
def nfI(ss:List Int)(k:Nat)(_:Unit):Prop:=True
def Og(ss be:List Int)(k:Nat)(_:Unit):List (Nat×AV):=[(0,.ptr 0 0 0),(2,aj be),(8,aj ss),(9,ah ss.length),(10,ah k)]
def Oh(sg:Int)(st:Gs)(ss be:List Int)(k:Nat)(_:Unit):List (Nat×Option aB):=mG sg true ⟨st.au,jN st.fo (ss.take k) be⟩ 0 1 2
theorem Zfn{P:Program}(hm:P.follows .mixedOrders=true){f fc fs:FuncId}(h:Is P f (Px fc fs) [] 3)(hc:Sg P fc)(hset:JF P fs)(sg:Int)(ss be:List Int)(st:Gs)(hst:qZ st)
  (hss:jD st.au.length ss) (hbe:jD st.au.length be) (hl:st.au.length≤100000):nS P f [aj ss,aj be] sg true st ⟨st.au,jN st.fo ss be⟩ (.aO []):=by
 refine h.wM hm rfl ?_;have hsl:=hss.len;have hbl:=hbe.len;simp[Px,mG,bM,ZkW];refine lg ss.length (nfI ss) (Og ss be) 3 (Oh sg st ss be) () trivial ?_ ?_
 ·refine aX.of [(0,0),(1,1),(2,2)] [] (by omega) ⟨by simp,by simp⟩ ?_ ?_
  ·simp[Oh,mG,bM,jN]
  ·simp[Og]
 ·rintro k _ hk _
  by_cases hlt:k < ss.length
  ·have hsk:ss[k]? = some ss[k]:=List.getElem?_eq_getElem hlt
   have hsd:ss.getD k 0=ss[k]:=by rw[List.getD_eq_getElem?_getD,hsk];rfl
   have hs0:=hss.1.2 _ (List.getElem_mem hlt);have hs1:=hss.2 _ (List.getElem_mem hlt);have hfl:=DR (ss.take k) st.fo be;have hlen:=hst.len;have hrow:=Zib (XH (ss.take k) st.fo be hst.rows hbe) (ss[k]).toNat;have hrl:=hrow.len;have hcc:=hc ((jN st.fo (ss.take k) be).getD (ss[k]).toNat []) be (by omega);have ab7:=hset ((jN st.fo (ss.take k) be).getD (ss[k]).toNat []++be) (by rw[List.length_append];omega);have htk:ss.take (k+1)=ss.take k++[ss[k]]:=by rw[List.take_add_one,hsk];rfl
   have hfs:=Zfm (ss.take k) st.fo ss[k] be;rw[←htk] at hfs;have hxl:(ss[k]).toNat < (jN st.fo (ss.take k) be).length:=by omega
   have abd:ss[k] < ((jN st.fo (ss.take k) be).length:Int):=by omega
   have hge:((jN st.fo (ss.take k) be))[(ss[k]).toNat]? = some ((jN st.fo (ss.take k) be).getD (ss[k]).toNat []):=by
    rw[List.getD_eq_getElem?_getD,List.getElem?_eq_getElem hxl];rfl
   have hgl:(jN st.fo (ss.take k) be)[(ss[k]).toNat]=(jN st.fo (ss.take k) be).getD (ss[k]).toNat []:=by
    rw[List.getD_eq_getElem?_getD,List.getElem?_eq_getElem hxl];rfl
   have D1:=fun n' g'=>mZ.cd (S:=⟨n',g'⟩) hcc (aG (.sl _ _ (aG (aT _) (aG (aT _) aQ))) aQ) (aT _)
   have D2:=fun n' g'=>mZ.cd (S:=⟨n',g'⟩) ab7 (aG (aT _) aQ) (aT _)
   generalize hro:(jN st.fo (ss.take k) be).getD (ss[k]).toNat []=row at *;generalize hgx:ss[k]=x at *;generalize NU:jN st.fo (ss.take k) be=fo at *;simp[Og,Oh,mG,bM,hlt,hgx,NU,kg,hxl,abd,hs0,hgl,dW,bN];refine⟨_,⟨_,D1 _ _⟩,_,⟨_,D2 _ _⟩,?_⟩;simp[kT];rw[bE _ (by omega)];refine⟨hlt,(),trivial,aX.of [(0,0),(1,1),(2,2)] [] (by omega) ⟨by simp,by simp⟩ ?_ ?_⟩
   ·simp[Oh,mG,bM,hfs]
    rw[←List.map_set];exact .cl (kU _)
   ·simp[Og]
  ·have hke:k=ss.length:=by omega
   subst hke;simp[Og,Oh,mG,bM];refine⟨jm [],⟨10,bn (mG sg true ⟨st.au,jN st.fo ss be⟩ 0 3 4++[])⟩,aX.of [(0,0),(3,1),(4,2)] [] (by omega) ⟨by simp,by simp⟩ ?_ ?_,.of⟩
   ·simp[mG,bM]
   ·simp
end Go.Rf
namespace Go.Rf
open Go.RowKit
def Z9Q(U1 P5f:FuncId):AC:= (sq [ro 1 (.box 3 (.t 0)),ro 2 (.mv (.c (.v (.bool false))))] (sq [ro 6 (.load (some 3) (.t 1)),rk 7 U1 [(.t 6)],rm 5 7,ro 8 (.ext 0 (.t 5)),ro 9 (.ext 1 (.t 5)),ro 3 (.alloc (.agg [(.v (.int .i64 0)),(.sl true []),(.sl true [])]) 3),rn (.store 3 (.t 3) (.t 8)),rm 4 9] (sq [rm 10 4,ro 11 (.bin .eql (.t 10) (ci 0)),rm 12 11,rg 13 12 true (.load (some 3) (.t 3)),rg 14 12 true (.load (some 3) (.t 1)),rl 15 12 true P5f [(.t 13),(.t 14)],ro 16 (.pick (.t 12) (.t 15) (.c (.v (.bool false)))),rm 2 16] .ret)))
def Z6D(Uy P3D:FuncId):AC:= (sq [ro 1 (.box 3 (.t 0)),ro 2 (.mv (.c (.v (.bool false))))] (sq [ro 6 (.load (some 3) (.t 1)),rk 7 Uy [(.t 6)],rm 5 7,ro 8 (.ext 0 (.t 5)),ro 9 (.ext 1 (.t 5)),ro 3 (.alloc (.agg [(.v (.int .i64 0)),(.sl true []),(.sl true [])]) 3),rn (.store 3 (.t 3) (.t 8)),rm 4 9] (sq [rm 10 4,ro 11 (.bin .eql (.t 10) (ci 0)),rm 12 11,rg 13 12 true (.load (some 3) (.t 3)),rg 14 12 true (.load (some 3) (.t 1)),rl 15 12 true P3D [(.t 13),(.t 14)],ro 16 (.pick (.t 12) (.t 15) (.c (.v (.bool false)))),rm 2 16] .ret)))
def JC(d:aC):Bool:=fK d && yw (kV d) d
theorem Zb8{P:Program}{fo fs:FuncId}{d:aC}(ho:aJ P fo [aR d] (jQ (oQ d)))(hs:fK d=true→aJ P fs [aR (kV d),aR d] (aD (yw (kV d) d))) :
  bq P 0 (Z9Q fo fs) (dw [2] (dM (aD (JC d)))) (bF [aR d]) S0:=by
 unfold JC;simp[mW,mV,eG,eT,eU,fU,fQ,eO,ex,aH,dF,eY,cK,aL,bT,fu,ny,bB,S0,aD,om,og,qp,Z9Q];refine aN.pure ho (aG (dZ d) aQ) (Bn _) ?_;cases hb:fK d with
 | false=>
  simp[mW,mV,nA,eG,gG,fH,eT,eU,gD,gZ,fE,eO,ex,aH,fF,dF,eY,aL,bT,eZ,bS,bD,dL,fC,eX,eB,d9,ah,om,og,jQ,oQ,hb];exact bO false _
 | true=>
  simp[mW,mV,eG,eT,eU,gD,ig,fU,fQ,fE,eO,ex,aH,fF,dF,eY,aL,bT,eZ,bS,bD,ny,dL,eX,eB,d9,bB,ah,om,og,qp,jQ,oQ,hb];refine aN.pure (hs hb) (aG (dZ _) (aG (dZ _) aQ)) (dY _) ?_;simp[nA,eG,gG,fH,eT,eU,fE,eO,ex,aH,dF,fC,aD];exact bO _ _
theorem Zbb{P:Program}{fo fs:FuncId}{d:aC}(ho:aJ P fo [aR d] (jQ (oQ d)))(hs:fK d=true→aJ P fs [aR (kV d),aR d] (aD (yw (kV d) d))) :
  bq P 0 (Z6D fo fs) (dw [2] (dM (aD (JC d)))) (bF [aR d]) S0:=Zb8 ho hs
end Go.Rf
namespace Go.Rf
open Go.RowKit
attribute [local simp] mW mV oF pG pJ pQ pK nA qy pO ow pq mK oz kD qw pY qO qL qK qE qN oO oL ql pR qz qG qF qA qo pU qm qI qH oK kT pI pV pW pz o7 eG iB iU iy iR iN iM iT iO gG iP fH iF iQ iE eT eU gD ig je jf gZ jk fU fQ fE eO gV gW gX gP gQ jg iV iH jc iX iZ iY jd jh iK iq gT gU gM iw dO eP gI iL ji ex aH fF dF eY cK dn aL bT fJ gH eZ gN iD iC iW iJ bS dN dV fZ fV gY fu bD pE ny dL eH qc o8 pX oh fC gB gq gy fM dA eX eB d9 bB qx oD oq qj o9 qg qh p9 kZ qd p8 qb S0 ah aD rA q9 rC om og qp rJ rz rH rP rG rO rE rM rD tO gL.cl bW.cl aW dY aT jR jG tN tK tL mM sO sP sN tX jM jS kU tY qW qD r9 uh um uj tV nZ oH uq rW tT rX ou sM jy uy dW mF bN oV
def Zf0:AC:= (.block 2 (.loop (.seq (sq [rm 19 7,rm 20 6,ro 21 (.bin .lss (.t 19) (.t 20)),rm 22 21,rg 23 22 true (.mv (.t 3)),rg 24 22 true (.mv (.t 6)),rg 25 22 true (.aM 1 (.t 23) (.t 24)),rg 26 22 true (.load none (.t 25)),rg 27 22 true (.mv (.t 7)),rg 28 22 true (.aM 1 (.t 26) (.t 27)),rg 29 22 true (.load none (.t 28)),ro 30 (.pick (.t 22) (.t 29) (.c (.v (.bool false))))] (.cond (.t 30) .skip (.exit 2))) (.block 3 (.reg none [rm 31 7,ro 32 (.bin .add (.t 31) (ci 1)),rm 7 32])))))
def WI:AC:= (sq [rm 33 7,rm 34 6,ro 35 (.bin .lss (.t 33) (.t 34))] (.cond (.t 35) (.reg none [rm 36 4,rm 37 4,rm 38 7,ro 39 (.aM 1 (.t 37) (.t 38)),rL 40 39,ro 41 (.dH 1 1 (.v (.int .i64 0)) [(0,(.t 40))]),ro 42 (.app 1 8 (.t 36) (.t 41)),rm 4 42]) (sq [rm 43 4,rm 44 5,ro 45 (.dH 1 1 (.v (.int .i64 0)) [(0,(.t 44))]),ro 46 (.app 1 8 (.t 43) (.t 45)),rm 4 46] (.reg none [rm 47 5,ro 48 (.bin .add (.t 47) (ci 1)),rm 5 48]))))
def Vf(Dw P3j:FuncId):AC:= (sq [ro 1 (.box 3 (.t 0)),ro 2 (.mv (.c (.sl true [])))] (.seq (sq [ro 8 (.load (some 3) (.t 1)),rk 9 Dw [(.t 8)],ro 10 (.un .not (.t 9))] (.cond (.t 10) (sq [ro 2 (.mv (.c (.sl true [])))] .ret) .skip)) (sq [ro 11 (.load (some 3) (.t 1)),rk 12 P3j [(.t 11)],rm 3 12] (sq [ro 4 (.mv (.c (.sl true [])))] (sq [ro 5 (.mv (ci 0))] (.seq (sq [ro 6 (.mv (ci 0))] (.block 0 (.loop (.seq (sq [rm 13 6,rm 14 3,ro 15 (.len (.t 14)),ro 16 (.bin .lss (.t 13) (.t 15))] (.cond (.t 16) .skip (.exit 0))) (.seq (.block 1 (sq [ro 7 (.mv (ci 0))] (.seq Zf0 WI))) (.reg none [rm 17 6,ro 18 (.bin .add (.t 17) (ci 1)),rm 6 18])))))) (sq [rm 49 4,rm 2 49] .ret)))))))
def ZhJ:AC:= (.reg (some [[],[],[],[],[],[true],[false,true],[false,false,true],[false,false,false,true],[false,false,false,false,true],[false,false,false,false,false,true],[false,false,false,false,false,false,true],[false,false,false,false,false,false,false,true],[false,false,false,false,false,false,false,false,true],[false,false,false,false,false,false,false,false,false,true],[false,false,false,false,false,false,false,false,false,false,true],[],[true]]) [rF 77 1 6,rL 78 77,rm 79 8,ro 80 (.dH 1 1 (.sl true []) [(0,(.t 79))]),ro 81 (.app 1 24 (.t 78) (.t 80)),rF 82 2 6,rL 83 82,rF 84 2 1,rL 85 84,rm 86 5,rm 87 7,ro 88 (.aM 1 (.t 86) (.t 87)),rL 89 88,ro 90 (.aM 1 (.t 85) (.t 89)),rL 91 90,ro 92 (.dH 1 1 (.v (.bool false)) [(0,(.t 91))]),ro 93 (.app 1 1 (.t 83) (.t 92)),rF 94 1 6,rn (.store 1 (.t 94) (.t 81)),rF 95 2 6,rn (.store 1 (.t 95) (.t 93))])
def Zf1:AC:= (.block 4 (.loop (.seq (.seq (.reg (some []) [rm 45 11,rm 46 5,ro 47 (.len (.t 46)),ro 48 (.bin .lss (.t 45) (.t 47)),rm 49 48,rg 50 49 true (.mv (.t 4)),rg 51 49 true (.mv (.t 5)),rg 52 49 true (.mv (.t 11)),rg 53 49 true (.aM 1 (.t 51) (.t 52)),rg 54 49 true (.load none (.t 53)),rg 55 49 true (.aM 1 (.t 50) (.t 54)),rg 56 49 true (.load none (.t 55)),rg 57 49 true (.mv (.t 4)),rg 58 49 true (.mv (.t 10)),rg 59 49 true (.aM 1 (.t 57) (.t 58)),rg 60 49 true (.load none (.t 59)),rg 61 49 true (.bin .neq (.t 56) (.t 60)),ro 62 (.pick (.t 49) (.t 61) (.c (.v (.bool false))))]) (.cond (.t 62) .skip (.exit 4))) (.block 5 (.reg none [rm 63 11,ro 64 (.bin .add (.t 63) (ci 1)),rm 11 64])))))
def ZhM:AC:= (.block 2 (.loop (.seq (sq [rm 28 9,rF 29 0 1,rL 30 29,ro 31 (.bin .lss (.t 28) (.t 30))] (.cond (.t 31) .skip (.exit 2))) (.seq (.block 3 (.seq (.reg (some []) [rF 34 1 1,rL 35 34,rm 36 5,rm 37 7,ro 38 (.aM 1 (.t 36) (.t 37)),rL 39 38,ro 40 (.aM 1 (.t 35) (.t 39)),rL 41 40,rm 42 9,ro 43 (.aM 1 (.t 41) (.t 42)),rL 44 43,rm 10 44]) (sq [ro 11 (.mv (ci 0))] (.seq Zf1 (.seq (sq [rm 65 11,rm 66 5,ro 67 (.len (.t 66)),ro 68 (.bin .eql (.t 65) (.t 67))] (.cond (.t 68) (.reg none [rm 69 5,rm 70 10,ro 71 (.dH 1 1 (.v (.int .i64 0)) [(0,(.t 70))]),ro 72 (.app 1 8 (.t 69) (.t 71)),rm 5 72]) .skip)) (.reg none [rm 73 8,rm 74 11,ro 75 (.dH 1 1 (.v (.int .i64 0)) [(0,(.t 74))]),ro 76 (.app 1 8 (.t 73) (.t 75)),rm 8 76])))))) (.reg none [rm 32 9,ro 33 (.bin .add (.t 32) (ci 1)),rm 9 33])))))
def ZhL:AC:= (.block 0 (.loop (.seq (sq [rm 22 7,rm 23 5,ro 24 (.len (.t 23)),ro 25 (.bin .lss (.t 22) (.t 24))] (.cond (.t 25) .skip (.exit 0))) (.seq (.block 1 (sq [ro 8 (.mv (.c (.sl true [])))] (.seq (sq [ro 9 (.mv (ci 0))] ZhM) ZhJ))) (.reg none [rm 26 7,ro 27 (.bin .add (.t 26) (ci 1)),rm 7 27])))))
def ZhK:AC:= (sq [ro 96 (.load (some 3) (.t 6)),rn (.store 3 (.t 2) (.t 96)),ro 3 (.mv (ci 0))] .ret)
def Vp(Dw P2S:FuncId):AC:= (sq [ro 1 (.box 3 (.t 0)),ro 2 (.alloc (.agg [(.v (.int .i64 0)),(.sl true []),(.sl true [])]) 3),ro 3 (.mv (ci 0))] (.seq (sq [ro 12 (.load (some 3) (.t 1)),rk 13 Dw [(.t 12)],ro 14 (.un .not (.t 13))] (.cond (.t 14) (sq [ro 15 (.build (.agg [(.v (.int .i64 0)),(.sl true []),(.sl true [])]) [] []),rn (.store 3 (.t 2) (.t 15)),ro 3 (.mv (ci 1))] .ret) .skip)) (sq [ro 16 (.load (some 3) (.t 1)),rk 17 P2S [(.t 16)],rm 4 17] (sq [ro 18 (.dH 1 1 (.v (.int .i64 0)) [(0,(ci 0))]),rm 5 18] (sq [rF 19 0 1,rL 20 19,ro 21 (.build (.agg [(.v (.int .i64 0)),(.sl true []),(.sl true [])]) [(0,1)] [(0,(.t 20))]),ro 6 (.alloc (.agg [(.v (.int .i64 0)),(.sl true []),(.sl true [])]) 3),rn (.store 3 (.t 6) (.t 21))] (.seq (sq [ro 7 (.mv (ci 0))] ZhL) ZhK))))))
def CJ(l:List (List Bool)):AV:=.sl false (l.map bA)
theorem IQ(l:List (List Bool)):aY (CJ l):=.sl _ _ (FQ jG l)
theorem Zfj(l:List (List Bool)):gu (CJ l)=some (.v (.int .i64 l.length)):=by simp[CJ,gu]
theorem Zm2{S:St}{aA:Nat}{l:List (List Bool)}{k:IntKind}{n:Int}(hn:0≤n)(hlt:n < l.length):(dz 1 (CJ l) (.v (.int k n))).run S aA=some (.bJ (bA (l.getD n.toNat [])) 0,S):=by
 have hl:n.toNat < l.length:=by omega
 simp[CJ,dz,hn,List.getElem?_eq_getElem hl,List.getD_eq_getElem?_getD,AV.cells,bA]
def Eh(c:List Int)(n i:Nat):List Bool:=(List.range n).map fun k=>decide (bR c i≠bR c k)
def yK(c:List Int)(n:Nat):List (List Bool):=(List.range n).map fun i=>Eh c n i
theorem Zkt(c:List Int)(n:Nat):(yK c n).length=n:=by simp[yK]
theorem ZeR(c:List Int)(n i:Nat):(Eh c n i).length=n:=by simp[Eh]
theorem Zqn(c:List Int){n i:Nat}(h:i < n):(yK c n).getD i []=Eh c n i:=by simp[yK,List.getD_eq_getElem?_getD,h]
theorem Zku(c:List Int){n i k:Nat}(h:k < n):(Eh c n i).getD k false=decide (bR c i≠bR c k):=by simp[Eh,List.getD_eq_getElem?_getD,h]
abbrev Lv:=List Int×Bool
def Nq(c:List Int)(i:Nat)(s:Lv):Prop:=s.1=(bI (c.take i)).2
def zA(c:List Int)(i:Nat)(s:Lv):List (Nat×AV):=[(1,.ptr 0 0 0),(3,CJ (yK c c.length)),(4,vV s.2 1 (s.1.map ah)),(5,ah (bI (c.take i)).1.length),(6,ah i)]
def zB(d:aC)(_:Nat)(s:Lv):List (Nat×Option aB):=[(0,some (.arr 3 [aR d])),(1,vB s.2 1 (s.1.map ah))]
def rfI(c:List Int)(i:Nat)(k:Nat)(_:Unit):Prop:=∀j,j < k→bR c i≠bR c j
def KA(c:List Int)(i:Nat)(s:Lv)(k:Nat)(_:Unit):List (Nat×AV):=(7,ah k)::zA c i s
def KC(d:aC)(s:Lv)(_:Nat)(_:Unit):List (Nat×Option aB):=zB d 0 s
theorem Zad{P:Program}{fr fa:FuncId}{d:aC}(hr:aJ P fr [aR d] (aD (fK d)))(ha:dP d→aJ P fa [aR d] (CJ (yK (oC d) d.next.length))) :
  bq P 0 (Vf fr fa) (dw [2] (dM (aj (if fK d=true then oC d else [])))) (bF [aR d]) S0:=by
 simp[Vf];refine aN.pure hr (aG (dZ d) aQ) (dY _) ?_;cases hb:fK d with
 | false=>
  simp;exact Jt
 | true=>
  have R:=(uQ d).mp hb;have C:=FB R;have hn2:=R.n2;have hcl:=C.len;have zK:=C.num;simp;refine aN.pure (ha R) (aG (dZ d) aQ) (IQ _) ?_;generalize oC d=c at *;rw[←hcl];simp;refine lg c.length (Nq c) (zA c) 10 (zB d) ([],false) (by simp[Nq,bI]) ?_ ?_
  ·refine aX.of [(0,0)] [] (by omega) ⟨by simp,by simp⟩ ?_ ?_
   ·simp[zB,dZ]
   ·simp[zA,bI]
    exact .cl (IQ _)
  ·rintro i ⟨out,o⟩ hi hx
   simp only[Nq] at hx;have ok:=Ab (c.take i);have hol:=ok.len;rw[←hx] at hol;simp only[List.length_take] at hol;have abp:out.length=i:=by omega
   have hkle:=XY (c.take i);simp only[List.length_take] at hkle;have hml:=Zkt c c.length;by_cases hlt:i < c.length
   ·have hok:bY 8 out.length 1:=by unfold bY;omega
    have Y3:(i:Int) < c.length:=by omega
    have hci:bR c i=c[i]:=by rw[bR,List.getD_eq_getElem?_getD,List.getElem?_eq_getElem hlt];rfl
    have hst:bI (c.take (i+1))=ug (bI (c.take i)) c[i]:=by rw[List.take_succ_eq_append_getElem hlt,DI]
    have him:i < (yK c c.length).length:=by omega
    have hgi:=Zqn c hlt;rw[List.getD_eq_getElem?_getD,List.getElem?_eq_getElem him,Option.getD_some] at hgi;have hrl:=ZeR c c.length i;simp[zA,zB,Zfj,hml,Y3,Zf0];refine lg i (rfI c i) (KA c i (out,o)) 10 (KC d (out,o)) () (by simp[rfI]) ?_ ?_
    ·refine aX.of [(0,0),(1,1)] [] (by omega) ⟨by simp,by simp⟩ ?_ ?_
     ·simp[KC,zB,dZ]
     ·simp[KA,zA]
      exact .cl (IQ _)
    ·rintro k _ hk hq
     by_cases hki:k < i
     ·have Hq:(k:Int) < i:=by omega
      have hkr:k < (Eh c c.length i).length:=by omega
      have hkc:k < c.length:=by omega
      have BR:=Zku c (n:=c.length) (i:=i) (k:=k) (by omega);rw[List.getD_eq_getElem?_getD,List.getElem?_eq_getElem hkr,Option.getD_some] at BR;have hko:k < out.length:=by omega
      by_cases he:bR c i=bR c k
      ·have hck:bR c k=c[k]:=by rw[bR,List.getD_eq_getElem?_getD,List.getElem?_eq_getElem (by omega)];rfl
       have hkt:k < (c.take i).length:=by simp;omega
       have hat:=ok.at_ k hkt
       rw[←hx,List.getElem_take] at hat;rw[List.getElem?_eq_getElem hko,Option.some.injEq] at hat
       have hin:c[i]∈(bI (c.take i)).1:=by
        rw[ok.mem,←hci,he,hck];exact List.mem_iff_getElem.mpr ⟨k,hkt,by simp⟩
       have hns:ug (bI (c.take i)) c[i]=((bI (c.take i)).1,(bI (c.take i)).2++[out[k]]):=by
        rw[ug,if_pos (by simpa using hin),hat];congr 5;rw[←hck,←he,hci]
       have hdk:decide (bR c i≠bR c k)=false:=by simp[he]
       rw[hdk] at BR;rw[hns] at hst;simp[KA,zA,KC,zB,Zm2,hml,Hq,hgi,BR,hlt,hrl,hkc,hko,WI,hok];rw[bE _ (by omega)];refine⟨hlt,(out++[out[k]],true),by rw[Nq,hst,←hx],aX.of [(0,0),(1,31)] [] (by omega) ⟨by simp,by simp⟩ ?_ ?_⟩
       ·simp[zB,dZ]
       ·simp[zA,hst]
        exact .cl (IQ _)
      ·have hdk:decide (bR c i≠bR c k)=true:=by simp[he]
       rw[hdk] at BR;simp[KA,zA,KC,zB,Zm2,hml,Hq,hgi,BR,hlt,hrl,hkc];rw[bE _ (by omega)];refine⟨hki,(),fun j hj=>?_,aX.of [(0,0),(1,1)] [] (by omega) ⟨by simp,by simp⟩ ?_ ?_⟩
       ·by_cases hjk:j=k
        ·subst hjk;exact he
        ·exact hq j (by omega)
       ·simp[KC,zB,dZ]
       ·simp[KA,zA]
        exact .cl (IQ _)
     ·have hke:k=i:=by omega
      subst hke
      have Zc:c[k]∉(bI (c.take k)).1:=by
       rw[ok.mem,←hci];intro hm;obtain⟨j,hj,hj2⟩:=List.mem_iff_getElem.mp hm;simp only[List.length_take] at hj;rw[List.getElem_take] at hj2;refine hq j (by omega) ?_;rw[←hj2,bR,List.getD_eq_getElem?_getD,List.getElem?_eq_getElem (by omega)];rfl
      have hns:ug (bI (c.take k)) c[k]=((bI (c.take k)).1++[c[k]],(bI (c.take k)).2++[((bI (c.take k)).1.length:Int)]):=by
       rw[ug,if_neg (by simpa using Zc)]
      rw[hns] at hst;simp[KA,zA,KC,zB,WI,hok];rw[bE (k+1:Int) (by omega),bE _ (by omega)];refine⟨hlt,(out++[((bI (c.take k)).1.length:Int)],true),by rw[Nq,hst,←hx],aX.of [(0,0),(1,28)] [] (by omega) ⟨by simp,by simp⟩ ?_ ?_⟩
      ·simp[zB,dZ]
      ·simp[zA,hst]
       exact .cl (IQ _)
   ·have hie:i=c.length:=by omega
    have hout:out=c:=by rw[hx,hie,List.take_length];exact zK
    have Y3:¬(i:Int) < c.length:=by omega
    simp[zA,zB,Zfj,hml,Y3];rw[←hout];refine wo ?_ (jM _);simp
theorem ZlZ{l:List Int}{x:Int}{j:Nat}(hj:j < l.length)(he:l[j]=x)(hn:∀m (h:m < j),l[m]'(by omega)≠x):l.idxOf x=j:=by
 refine Zoo hj he fun hm=>?_
 obtain⟨m,hm1,hm2⟩:=List.mem_iff_getElem.mp hm;simp only[List.length_take] at hm1;rw[List.getElem_take] at hm2;exact hn m (by omega) hm2
def wC(c:List Int)(i:Nat)(os:List Int)(o:Bool):List (Nat×AV):=[(1,.ptr 0 0 0),(2,.ptr 1 0 0),(4,aj c),(5,vV o 4 (os.map ah)),(6,.ptr 2 0 0),(7,ah i)]
def wD(d:aC)(os:List Int)(nx:List (List Int))(en:List Bool)(o oN oE:Bool):List (Nat×Option aB):=
 [(0,some (.arr 3 [aR d])),(1,some (.arr 3 [lM])),(2,some (.arr 3 [.agg [ah d.signs,vV oN 5 (nx.map aj),vV oE 6 (en.map aD)]])),(4,vB o 1 (os.map ah)),(5,vB oN 1 (nx.map aj)),(6,vB oE 1 (en.map aD))]
abbrev U8:=(List Int×List (List Int)×List Bool)×(Bool×Bool×Bool)
def roI(d:aC)(c:List Int)(i:Nat)(s:U8):Prop:=s.1=(AB (jB d c i).1,(jB d c i).2)∧∀m,m < i→m < (jB d c m).1.length
def Om(c:List Int)(i:Nat)(s:U8):List (Nat×AV):=wC c i s.1.1 s.2.1
def Oo(d:aC)(_:Nat)(s:U8):List (Nat×Option aB):=wD d s.1.1 s.1.2.1 s.1.2.2 s.2.1 s.2.2.1 s.2.2.2
abbrev Lx:=(List Int×List Int)×(Bool×Bool)
def rrI(d:aC)(c:List Int)(q:Nat)(one:List Nat)(k:Nat)(s:Lx):Prop:=
 s.1.1=AB (kK c (fun s=>bK d q s) k one).1∧s.1.2=(kK c (fun s=>bK d q s) k one).2
def zN(c:List Int)(i:Nat)(k:Nat)(s:Lx):List (Nat×AV):=(8,vV s.2.2 7 (s.1.2.map ah))::(9,ah k)::wC c i s.1.1 s.2.1
def zO(d:aC)(nx:List (List Int))(en:List Bool)(oN oE:Bool)(_:Nat)(s:Lx):List (Nat×Option aB):=(7,vB s.2.2 1 (s.1.2.map ah))::wD d s.1.1 nx en s.2.1 oN oE
def rnI(c:List Int)(one:List Nat)(t:Nat)(j:Nat)(_:Unit):Prop:=∀m (h:m < one.length),m < j→bR c one[m]≠bR c t
def KD(c:List Int)(i k:Nat)(t:Int)(s:Lx)(j:Nat)(_:Unit):List (Nat×AV):=(10,ah t)::(11,ah j)::zN c i k s
def KE(d:aC)(nx:List (List Int))(en:List Bool)(oN oE:Bool)(s:Lx)(_:Nat)(_:Unit):List (Nat×Option aB):=zO d nx en oN oE 0 s
theorem Zeo{P:Program}{fr fc:FuncId}{d:aC}(hr:aJ P fr [aR d] (aD (fK d)))(hc:dP d→aJ P fc [aR d] (aj (oC d))) :
  bq P 0 (Vp fr fc) (bL [.c 2 (some 3),.t 3] (dM (jQ (oQ d)))) (bF [aR d]) S0:=by
 have ed:(aR d).cells=[ah d.signs,aU d.next,bA d.fin]:=rfl;simp[Vp];refine aN.pure hr (aG (dZ d) aQ) (dY _) ?_;cases hb:fK d with
 | false=>
  have hz:oQ d=(⟨0,[],[]⟩,1):=by simp[oQ,hb]
  rw[hz];simp[bL,bP,RV.ev,eF,bV,jr,gJ];exact u7 _ 1
 | true=>
  have R:=(uQ d).mp hb;have hz:oQ d=(kV d,0):=by simp[oQ,hb]
  rw[hz];have C:=FB R;have hn1:=R.n1;have hn2:=R.n2;have hs1:=R.s1;have hs2:=R.s2;have hcl:=C.len;simp;refine aN.pure (hc R) (aG (dZ d) aQ) (aT _) ?_;have hspec:=Fy R;have Y8:kV d=⟨d.signs,(lu d).2.1,(lu d).2.2⟩:=rfl;generalize hcc:oC d=c at *;simp[jr,gJ,ZhK,ZhL];refine lg (d.next.length+1) (roI d c) (Om c) 10 (Oo d) (([0],[],[]),(false,false,false)) ⟨rfl,fun m hm=>by omega⟩ ?_ ?_
  ·refine aX.of [(0,0),(1,1),(2,14)] [] (by omega) ⟨by simp,by simp⟩ ?_ ?_
   ·simp[Oo,wD,lM,dZ]
   ·simp[Om,wC]
    exact .cl (.sl _ _ (aG (aW _) aQ))
  ·rintro i ⟨⟨os,nx,en⟩,oo,oN,oE⟩ hi ⟨heq,hmin⟩
   simp only[Prod.mk.injEq] at heq;obtain⟨ho,hne⟩:=heq;have ok:=Jz R c i hmin;have hle:=ok.le;have hlen:=ok.len;have hnd:=ok.nd;generalize hst:jB d c i=st at *;obtain⟨one,nx',en'⟩:=st;simp only[Prod.mk.injEq] at ho hne hle hlen hnd;obtain⟨rfl,rfl⟩:=hne;have hol:os.length=one.length:=by rw[ho,Qs]
   by_cases hlt:i < one.length
   ·obtain⟨q,hq⟩:∃q,one[i]? = some q:=⟨_,List.getElem?_eq_getElem hlt⟩
    have xX:q < d.next.length:=ok.lt q (by obtain⟨h1,h2⟩:=List.getElem?_eq_some_iff.mp hq;rw[←h2];exact List.getElem_mem h1)
    have hsa:=fun(k:Nat) (h:(k:Int) < d.signs)=>FN R xX (s:=(k:Int)) (by omega) h
    have hfl:q < d.fin.length:=by have:=R.fin;omega
    have Kg:d.fin[q]=dG d q:=by rw[dG,List.getD_eq_getElem?_getD,List.getElem?_eq_getElem hfl];rfl
    have hrl:((d.next[q]).length:Int)=d.signs:=R.row q xX;have Hr:(i:Int) < os.length:=by omega
    have hnx:jB d c (i+1)=((kK c (fun s=>bK d q s) d.signs.toNat one).1,nx++[(kK c (fun s=>bK d q s) d.signs.toNat one).2],en++[dG d q]):=by
     simp only[jB,hst,Kt,hq]
    generalize hrow:d.next[q]=row at *
    simp[Om,wC,Oo,wD,Hr,ZhM];refine lg d.signs.toNat (rrI d c q one) (zN c i) 10 (zO d nx en oN oE) ((os,[]),(oo,false)) ⟨ho,rfl⟩ ?_ ?_
    ·refine aX.of [(0,0),(1,1),(2,2),(4,4),(5,5),(6,6)] [] (by omega) ⟨by simp,by simp⟩ ?_ ?_
     ·simp[zO,wD,lM,dZ]
     ·simp[zN,wC]
    ·rintro k ⟨⟨os1,fB⟩,o1,oR⟩ hkn ⟨h1,h2⟩
     simp only at h1 h2;have hro:=QJ (c:=c) (t:=fun s=>bK d q s) hnd k;have hlr:kK c (fun s=>bK d q s) (k+1) one=((nE c (kK c (fun s=>bK d q s) k one).1 (bK d q k)).1,(kK c (fun s=>bK d q s) k one).2++[((nE c (kK c (fun s=>bK d q s) k one).1 (bK d q k)).2:Int)]):=rfl;generalize hp:kK c (fun s=>bK d q s) k one=p at *;obtain⟨dD,r⟩:=p;simp only at h1 h2 hlr hro;have Kl:os1.length=dD.length:=by rw[h1,Qs]
     have hle1:dD.length≤d.next.length:=by
      refine Mg _ _ ((List.pairwise_map.mp hro.nd).imp (fun h e=>h (congrArg _ e))) (fun x hx=>?_);rcases hro.new x hx with h | ⟨s,hs,rfl⟩
      ·exact ok.lt x h
      ·exact uR R xX (by omega) (by omega)
     have hlt1:∀x∈dD,x < d.next.length:=fun x hx=>by
      rcases hro.new x hx with h | ⟨s,hs,rfl⟩
      ·exact ok.lt x h
      ·exact uR R xX (by omega) (by omega)
     have hrlen:=hro.len;have hpre:=hro.pre i q hq;have Tp:i < os1.length:=by rw[Kl];exact(List.getElem?_eq_some_iff.mp hpre).1
     have Zd:os1[i]? = some (q:Int):=by rw[h1];exact Qr hpre
     obtain⟨_,Tq⟩:=List.getElem?_eq_some_iff.mp Zd;by_cases hkl:(k:Int) < d.signs
     ·obtain⟨hj,hs1,hs2⟩:=hsa k hkl
      have hkn':k < d.signs.toNat:=by omega
      have hkr:k < row.length:=by omega
      have hs3:row[k]=(bK d q k:Int):=hs1;generalize ht:bK d q k=t at *;have htc:t < c.length:=by omega
      have hct:c[t]=bR c t:=by rw[bR,List.getD_eq_getElem?_getD,List.getElem?_eq_getElem htc];rfl
      have hok:bY 8 os1.length 1:=by unfold bY;omega
      have hokr:bY 8 fB.length 1:=by rw[h2];unfold bY;omega
      simp[zN,wC,zO,wD,hkl,Tp,Tq,xX,hrow,hkr,hs3,Zf1];refine lg dD.length (rnI c dD t) (KD c i k t ((os1,fB),(o1,oR))) 10 (KE d nx en oN oE ((os1,fB),(o1,oR))) () (fun m h hm=>by omega) ?_ ?_
      ·refine aX.of [(0,0),(1,1),(2,2),(4,4),(5,5),(6,6),(7,7)] [] (by omega) ⟨by simp,by simp⟩ ?_ ?_
       ·simp[KE,zO,wD,lM,dZ]
       ·simp[KD,zN,wC]
      ·rintro j _ hj1 hnot
       by_cases hjl:j < dD.length
       ·have Tf:(j:Int) < os1.length:=by omega
        have hjo:os1[j]? = some (dD[j]:Int):=by rw[h1];exact Qr (List.getElem?_eq_getElem hjl)
        obtain⟨aa7,aa8⟩:=List.getElem?_eq_some_iff.mp hjo;have hoc:dD[j] < c.length:=by have:=hlt1 _ (List.getElem_mem hjl);omega
        have hcj:c[dD[j]]=bR c dD[j]:=by rw[bR,List.getD_eq_getElem?_getD,List.getElem?_eq_getElem hoc];rfl
        by_cases he:bR c dD[j]=bR c t
        ·have hne2:(bR c dD[j] != bR c t)=false:=by simp[he]
         have hji:(dD.map (bR c)).idxOf (bR c t)=j:=ZlZ (by simpa using hjl) (by simpa using he) (fun m hm=>by simpa using hnot m (by omega) hm);have hin:bR c t∈dD.map (bR c):=List.mem_map.mpr ⟨_,List.getElem_mem hjl,he⟩;have hln:nE c dD t=(dD,j):=by rw[nE,if_pos hin,hji]
         rw[hln] at hlr;have aaN:((j:Int) == (os1.length:Int))=false:=by simp;omega
         simp[KD,zN,wC,KE,zO,wD,Tf,aa7,aa8,hoc,hcj,htc,hct,hne2,aaN,hokr];rw[bE _ (by omega)];refine⟨hkn',((os1,fB++[(j:Int)]),(o1,true)),⟨by rw[hlr];exact h1,by rw[hlr];simp only;rw[h2]⟩,aX.of [(0,0),(1,1),(2,2),(4,4),(5,5),(6,6),(7,35)] [] (by omega) ⟨by simp,by simp⟩ ?_ ?_⟩
         ·simp[zO,wD,lM,dZ]
         ·simp[zN,wC]
        ·have hne2:(bR c dD[j] != bR c t)=true:=by simp[he]
         simp[KD,zN,wC,KE,zO,wD,Tf,aa7,aa8,hoc,hcj,htc,hct,hne2];rw[bE _ (by omega)];refine⟨hjl,(),fun m h hm=>?_,aX.of [(0,0),(1,1),(2,2),(4,4),(5,5),(6,6),(7,7)] [] (by omega) ⟨by simp,by simp⟩ ?_ ?_⟩
         ·by_cases wZ:m=j
          ·subst wZ;exact he
          ·exact hnot m h (by omega)
         ·simp[KE,zO,wD,lM,dZ]
         ·simp[KD,zN,wC]
       ·have hje:j=dD.length:=by omega
        have Zc:bR c t∉dD.map (bR c):=by
         intro hm;obtain⟨x,hx,hx2⟩:=List.mem_map.mp hm;obtain⟨m,hm1,hm2⟩:=List.mem_iff_getElem.mp hx;exact hnot m hm1 (by omega) (by rw[hm2];exact hx2)
        have hln:nE c dD t=(dD++[t],dD.length):=by rw[nE,if_neg Zc]
        rw[hln] at hlr;have Tf:(j:Int)=os1.length:=by omega
        simp[KD,zN,wC,KE,zO,wD,Tf,hok,hokr];rw[bE _ (by omega)];refine⟨hkn',((os1++[(t:Int)],fB++[(os1.length:Int)]),(true,true)),⟨by rw[hlr];simp only;rw[ZfE,h1],by rw[hlr];simp only;rw[h2,Kl]⟩,aX.of [(0,0),(1,1),(2,2),(4,35),(5,5),(6,6),(7,40)] [] (by omega) ⟨by simp,by simp⟩ ?_ ?_⟩
        ·simp[zO,wD,lM,dZ]
        ·simp[zN,wC]
     ·have hke:k=d.signs.toNat:=by omega
      have Kk:bY 24 nx.length 1:=by have:=ok.nx;simp only at this;unfold bY;omega
      have Kj:bY 1 en.length 1:=by have:=ok.en;simp only at this;unfold bY;omega
      simp[zN,wC,zO,wD,hkl,Tp,Tq,hfl,Kg,Kk,Kj,ZhJ];rw[bE _ (by omega)];refine⟨by rintro j (⟨_,rfl⟩ | rfl)<;>simp,by rintro j (⟨_,rfl⟩ | rfl)<;>simp,by rintro j (⟨_,rfl⟩ | rfl)<;>simp,by omega,((os1,nx++[fB],en++[dG d q]),(o1,true,true)),⟨?_,fun m hm=>?_⟩,aX.of [(0,0),(1,1),(2,2),(4,4),(5,18),(6,30)] [7] (by omega) ⟨by simp,by simp⟩ ?_ ?_⟩
      ·simp only;rw[hnx,←hke,hp,h1,h2]
      ·by_cases nL:m=i
       ·subst nL;rw[hst];exact hlt
       ·exact hmin m (by omega)
      ·simp[Oo,wD,lM,dZ]
      ·simp[Om,wC]
   ·have hie:i=one.length:=by omega
    have hlast:lu d=(one,nx,en):=by
     obtain⟨k,e1,e2,e3,e4⟩:=hspec
     have hki:k=i:=by
      rcases Nat.lt_trichotomy k i with h | h | h
      ·have:=hmin k h
       rw[←e1] at this;omega
      ·exact h
      ·have:=e3 i h
       rw[hst] at this;simp only at this;omega
     rw[e1,hki,hst]
    rw[Y8,hlast];have Hr:¬(i:Int) < os.length:=by omega
    simp[Om,wC,Oo,wD,Hr,bL,bP,RV.ev,eF,bV,lM];refine .Fp (.cons (.Iy (.cons (.closed _ (.v _)) (.cons (wo ?_ (kU _)) (.cons (wo ?_ (jS _)) .nil)))) (.cons (.closed _ (.v _)) .nil))
    ·simp
    ·simp
def Zpq:AC:= (.block 10 (.loop (.seq (sq [rm 59 10,rF 60 0 1,rL 61 60,ro 62 (.bin .lss (.t 59) (.t 61)),rm 63 62,rg 64 63 true (.mv (.t 4)),rg 65 63 true (.mv (.t 8)),rg 66 63 true (.aM 1 (.t 64) (.t 65)),rg 67 63 true (.load none (.t 66)),rg 68 63 true (.mv (.t 9)),rg 69 63 true (.aM 1 (.t 67) (.t 68)),rg 70 63 true (.load none (.t 69)),rg 71 63 true (.un .not (.t 70)),ro 72 (.pick (.t 63) (.t 71) (.c (.v (.bool false))))] (.cond (.t 72) .skip (.exit 10))) (.seq (.block 11 (.seq (.reg (some []) [rm 75 4,rF 76 1 1,rL 77 76,rm 78 8,ro 79 (.aM 1 (.t 77) (.t 78)),rL 80 79,rm 81 10,ro 82 (.aM 1 (.t 80) (.t 81)),rL 83 82,ro 84 (.aM 1 (.t 75) (.t 83)),rL 85 84,rF 86 1 1,rL 87 86,rm 88 9,ro 89 (.aM 1 (.t 87) (.t 88)),rL 90 89,rm 91 10,ro 92 (.aM 1 (.t 90) (.t 91)),rL 93 92,ro 94 (.aM 1 (.t 85) (.t 93)),rL 95 94]) (.cond (.t 95) (.seq (.reg (some [[],[],[],[],[],[],[],[],[],[],[],[false,true]]) [rm 96 4,rm 97 8,ro 98 (.aM 1 (.t 96) (.t 97)),rL 99 98,rm 100 9,rm 101 4,rm 102 9,ro 103 (.aM 1 (.t 101) (.t 102)),rL 104 103,rm 105 8,ro 106 (.aM 1 (.t 99) (.t 100)),rn (.store 1 (.t 106) (.c (.v (.bool true)))),ro 107 (.aM 1 (.t 104) (.t 105)),rn (.store 1 (.t 107) (.c (.v (.bool true))))]) (.reg none [ro 7 (.mv (.c (.v (.bool true))))])) .skip))) (.reg none [rm 73 10,ro 74 (.bin .add (.t 73) (ci 1)),rm 10 74])))))
def Zpo:AC:= (.block 8 (.loop (.seq (sq [rm 54 9,rm 55 8,ro 56 (.bin .lss (.t 54) (.t 55))] (.cond (.t 56) .skip (.exit 8))) (.seq (.block 9 (sq [ro 10 (.mv (ci 0))] Zpq)) (.reg none [rm 57 9,ro 58 (.bin .add (.t 57) (ci 1)),rm 9 58])))))
def Zpn:AC:= (.block 6 (.loop (.seq (sq [rm 49 8,rm 50 3,ro 51 (.bin .lss (.t 49) (.t 50))] (.cond (.t 51) .skip (.exit 6))) (.seq (.block 7 (sq [ro 9 (.mv (ci 0))] Zpo)) (.reg none [rm 52 8,ro 53 (.bin .add (.t 52) (ci 1)),rm 8 53])))))
def Xx:AC:= (.block 4 (.loop (.seq (sq [rm 48 7] (.cond (.t 48) .skip (.exit 4))) (.block 5 (sq [ro 7 (.mv (.c (.v (.bool false))))] (sq [ro 8 (.mv (ci 0))] Zpn))))))
def Zpm:AC:= (.block 2 (.loop (.seq (sq [rm 26 6,rm 27 3,ro 28 (.bin .lss (.t 26) (.t 27))] (.cond (.t 28) .skip (.exit 2))) (.seq (.block 3 (.reg (some []) [rm 31 4,rm 32 5,ro 33 (.aM 1 (.t 31) (.t 32)),rL 34 33,rm 35 6,rF 36 2 1,rL 37 36,rm 38 5,ro 39 (.aM 1 (.t 37) (.t 38)),rL 40 39,rF 41 2 1,rL 42 41,rm 43 6,ro 44 (.aM 1 (.t 42) (.t 43)),rL 45 44,ro 46 (.beq true (.t 40) (.t 45)),ro 47 (.aM 1 (.t 34) (.t 35)),rn (.store 1 (.t 47) (.t 46))])) (.reg none [rm 29 6,ro 30 (.bin .add (.t 29) (ci 1)),rm 6 30])))))
def Zpp:AC:= (.block 0 (.loop (.seq (sq [rm 16 5,rm 17 3,ro 18 (.bin .lss (.t 16) (.t 17))] (.cond (.t 18) .skip (.exit 0))) (.seq (.block 1 (sq [rm 21 4,rm 22 5,rm 23 3,ro 24 (.zL 1 1 (.v (.bool false)) (.t 23) (.t 23)),ro 25 (.aM 1 (.t 21) (.t 22)),rn (.store 1 (.t 25) (.t 24))] (sq [ro 6 (.mv (ci 0))] Zpm))) (.reg none [rm 19 5,ro 20 (.bin .add (.t 19) (ci 1)),rm 5 20])))))
def ZeZ:AC:= (.seq (sq [ro 7 (.mv (.c (.v (.bool true))))] Xx) (sq [rm 108 4,rm 2 108] .ret))
def Vm:AC:= (sq [ro 1 (.box 3 (.t 0)),ro 2 (.mv (.c (.sl true [])))] (sq [rF 11 1 1,rL 12 11,ro 13 (.len (.t 12)),rm 3 13] (sq [rm 14 3,ro 15 (.zL 1 24 (.sl true []) (.t 14) (.t 14)),rm 4 15] (.seq (sq [ro 5 (.mv (ci 0))] Zpp) ZeZ))))
def oU(M:Mx)(n i:Nat):List Bool:=(List.range n).map (M i)
theorem Ct(M:Mx)(n i:Nat):(oU M n i).length=n:=by simp[oU]
theorem Cy(M:Mx)(n i k:Nat)(h:k < (oU M n i).length):(oU M n i)[k]=M i k:=by simp[oU]
def lY(n m:Nat):List AV:=(List.range n).map fun j=>if j < m then .own (11+j) 0 n else .sl true []
theorem Qi(n m:Nat):(lY n m).length=n:=by simp[lY]
theorem QN{n j:Nat}(h:j < (lY n n).length):(lY n n)[j]=.own (11+j) 0 n:=by
 have hn:j < n:=by rw[Qi] at h;exact h
 simp[lY,hn]
theorem ZoR{n i:Nat}(h:i < (lY n i).length):(lY n i)[i]=.sl true []:=by simp[lY]
def Gn(M:Mx)(n m:Nat):List (Nat×Option aB):=(List.range m).map fun i=>(11+i,some (.arr 1 ((oU M n i).map aD)))
def xS(d:aC)(n m:Nat)(M:Mx):List (Nat×Option aB):=(0,some (.arr 3 [aR d]))::(10,some (.arr 1 (lY n m)))::Gn M n m
theorem Zoh(F:Nat→Option aB)(a:Nat):∀(m j:Nat),j < m→bn ((List.range' a m).map fun i=>(11+i,F i)) (11+(a+j))=F (a+j):=by
 intro m;induction m generalizing a with
 | zero=>intro j hj;omega
 | succ m ih=>
  intro j hj;rw[List.range'_succ,List.map_cons,kD];by_cases h:j=0
  ·subst h;rw[if_pos (by omega)];rfl
  ·rw[if_neg (by omega)]
   have:=ih (a+1) (j - 1) (by omega);have e:a+1+(j - 1)=a+j:=by omega
   rw[e] at this;exact this
theorem Zfp{M:Mx}{n m j:Nat}(h:j < m):bn (Gn M n m) (11+j)=some (.arr 1 ((oU M n j).map aD)):=by
 have:=Zoh (fun i=>some (.arr 1 ((oU M n i).map aD))) 0 m j h;rw[Nat.zero_add,←List.range_eq_range'] at this;exact this
theorem Ef(d:aC)(n m:Nat)(M:Mx):bn (xS d n m M) 0=some (.arr 3 [aR d]):=by simp[xS,kD]
theorem CF(d:aC)(n m:Nat)(M:Mx):bn (xS d n m M) 10=some (.arr 1 (lY n m)):=by simp[xS,kD]
theorem CU(d:aC){n m j:Nat}(M:Mx)(h:j < m):bn (xS d n m M) (11+j)=some (.arr 1 ((oU M n j).map aD)):=by
 unfold xS;rw[kD,if_neg (by omega),kD,if_neg (by omega)];exact Zfp h
def jw(m:Nat):List (Nat×Nat):=(0,0)::(10,10)::(List.range m).map fun j=>(11+j,11+j)
theorem XM{m:Nat}(h:m≤3000):Ud (jw m) [] 0 4000:=by
 constructor
 ·intro p hp
  simp only[jw,List.mem_cons,List.mem_map,List.mem_range] at hp;rcases hp with rfl | rfl | ⟨j,hj,rfl⟩
  ·simp
  ·simp
  ·simp;omega
 ·rw[jw,List.pairwise_cons,List.pairwise_cons]
  refine⟨fun p hp=>?_,fun p hp=>?_,?_⟩
  ·simp only[List.mem_cons,List.mem_map,List.mem_range] at hp
   rcases hp with rfl | ⟨j,hj,rfl⟩<;>simp<;>omega
  ·simp only[List.mem_map,List.mem_range] at hp
   obtain⟨j,hj,rfl⟩:=hp;simp;omega
  ·rw[List.pairwise_map]
   exact List.pairwise_lt_range.imp fun h=>by simp;omega
theorem Ztf{m j:Nat}(h:j < m):BN (jw m) 0 (11+j) (11+j):=.inl (by simp[jw,h])
theorem ZiD{gF:Nat→Option aB}{R:Nat→Nat→Prop}{n m:Nat}(h:∀j,j < m→R (11+j) (11+j)):gL gF R (lY n m) (lY n m):=by
 refine⟨rfl,fun i h1 _=>?_⟩;simp only[lY,List.getElem_map,List.getElem_range];split
 ·rename_i hj;exact .own _ _ _ _ (h _ hj)
 ·exact .cl (mM _)
theorem Ad{a:AF}{S:St}{d:aC}{n m:Nat}{M:Mx}{A:List (Nat×AV)}(hm:m≤3000)(h0:S.g 0=some (.arr 3 [aR d]))(h10:S.g 10=some (.arr 1 (lY n m)))
  (hr:∀j,j < m→S.g (11+j)=some (.arr 1 ((oU M n j).map aD))) (hA:∀p∈A,bW (only [] S.g) (BN (jw m) 0) (a p.1) p.2):aX 0 a S (jm A) ⟨4000,bn (xS d n m M)⟩:=by
 refine aX.of (jw m) [] (by omega) (XM hm) (fun p hp=>.inr ?_) hA;simp only[xS,Gn,List.mem_cons,List.mem_map,List.mem_range] at hp;rcases hp with rfl | rfl | ⟨j,hj,rfl⟩
 ·refine⟨0,by simp[jw],?_⟩
  rw[h0,jy];exact⟨rfl,gL.cl (by intro y hy;simp at hy;subst hy;exact dZ d)⟩
 ·refine⟨10,by simp[jw],?_⟩
  rw[h10,jy];exact⟨rfl,ZiD fun j hj=>Ztf hj⟩
 ·refine⟨11+j,by simp[jw,hj],?_⟩
  rw[hr j hj,jy];exact⟨rfl,gL.cl (jS _)⟩
def mH(n:Nat):List (Nat×AV):=[(1,.ptr 0 0 0),(3,ah n),(4,.own 10 0 n)]
theorem ZrR{M:Mx}{n i k j:Nat}(hik:i≠k)(hi:i < n)(hk:k < n):oU (wF M i k) n j=if j=k then (oU M n k).set i true else if j=i then (oU M n i).set k true else oU M n j:=by
 apply List.ext_getElem
 ·split
  ·simp[oU]
  ·split<;>simp[oU]
 ·intro x h1 h2
  rw[Ct] at h1;rw[Cy _ _ _ _ (by rw[Ct];exact h1)];by_cases hjk:j=k
  ·subst hjk
   simp only[if_true];rw[List.getElem_set];split
   ·rename_i e;subst e;simp[wF]
   ·rename_i e
    rw[Cy];have:¬((j=i∧x=j)∨(j=j∧x=i)):=by omega
    simp[wF];intro h;omega
  ·simp only[hjk,if_false]
   by_cases hji:j=i
   ·subst hji
    simp only[if_true];rw[List.getElem_set];split
    ·rename_i e;subst e;simp[wF]
    ·rename_i e
     rw[Cy];simp only[wF];rw[if_neg (by omega)]
   ·simp only[hji,if_false]
    rw[Cy];simp only[wF];rw[if_neg (by omega)]
abbrev MS:=Mx×Bool
structure Rnd(d:aC)(M0:Mx)(s:MS):Prop where
 ok:zQ d s.1
 no:s.2=false→s.1=M0
 lt:s.2=true→GA d.next.length s.1 < GA d.next.length M0
def wI(d:aC)(m:Nat)(s:MS):Prop:=zQ d s.1∧m=2*GA d.next.length s.1+(if s.2=true then 1 else 0)∧(s.2=false→∀i k,i < d.next.length→k < i→Ia d s.1 i k)
def wA(n:Nat)(s:MS):List (Nat×AV):=(7,aD s.2)::mH n
def wG(d:aC)(s:MS):List (Nat×Option aB):=xS d d.next.length d.next.length s.1
def iI(d:aC)(M0:Mx)(i:Nat)(s:MS):Prop:=Rnd d M0 s∧(s.2=false→∀i' k',i' < i→k' < i'→Ia d M0 i' k')
def iA(n:Nat)(i:Nat)(s:MS):List (Nat×AV):=(8,ah i)::wA n s
def iG(d:aC)(_:Nat)(s:MS):List (Nat×Option aB):=wG d s
def kI(d:aC)(M0:Mx)(i:Nat)(k:Nat)(s:MS):Prop:=iI d M0 i s∧(s.2=false→∀k',k' < k→Ia d M0 i k')
def kA(n i:Nat)(k:Nat)(s:MS):List (Nat×AV):=(9,ah k)::iA n i s
def sI(d:aC)(M0:Mx)(i k:Nat)(j:Nat)(s:MS):Prop:=kI d M0 i k s∧(s.2=false→∀t:Nat,t < j→M0 (bK d i t) (bK d k t)=false)
def sA(n i k:Nat)(j:Nat)(s:MS):List (Nat×AV):=(10,ah j)::kA n i k s
theorem ZrS{P:Program}{d:aC}(R:dP d){M0:Mx}(h0:zQ d M0){a:AF}{S:St}{Q:Exit→AF→St→Prop}(hS:aX 0 a S (jm (wA d.next.length (M0,true))) ⟨4000,bn (wG d (M0,true))⟩)
  (hQ:∀M a S,zQ d M→(∀i k,i < d.next.length→k < i→Ia d M i k)→a 4=.own 10 0 d.next.length→S.g=bn (xS d d.next.length d.next.length M)→Q .normal a S):bq P 0 Xx Q a S:=by
 have hn2:=R.n2;have hs1:=R.s1;have hs2:=R.s2;have ed:(aR d).cells=[ah d.signs,aU d.next,bA d.fin]:=rfl;have hpl:=Qi d.next.length d.next.length
 simp[Xx];refine ZeF (wI d) (wA d.next.length) 4000 (wG d) _ (M0,true) ⟨h0,rfl,by simp⟩ hS ?_;rintro m ⟨M,more⟩ ⟨hM,hm,hcl⟩;simp only at hM hm hcl;cases more with
 | false=>
  simp[wA,wG,mH];exact hQ M _ _ hM (hcl rfl) (by simp[aH,mK]) rfl
 | true=>
  simp[wA,wG,mH,Zpn];refine lg d.next.length (iI d M) (iA d.next.length) 4000 (iG d) (M,false) ⟨⟨hM,fun _=>rfl,by simp⟩,fun _ i' k' h=>by omega⟩ ?_ ?_
  ·refine Ad (n:=d.next.length) (m:=d.next.length) (M:=M) (by omega) (Ef d d.next.length d.next.length M) (CF d d.next.length d.next.length M) (fun j hj=>CU d M hj) ?_
   simp only[iA,wA,mH];simp;exact⟨by simp[jw],by simp[jw]⟩
  ·rintro i ⟨M1,mo⟩ hi ⟨hR,YS⟩
   simp only at YS;by_cases hin:i < d.next.length
   ·simp[iA,iG,wA,wG,mH,hin,Zpo]
    refine lg i (kI d M i) (kA d.next.length i) 4000 (iG d) (M1,mo) ⟨⟨hR,YS⟩,fun _ k' h=>by omega⟩ ?_ ?_
    ·refine Ad (n:=d.next.length) (m:=d.next.length) (M:=M1) (by omega) (Ef d d.next.length d.next.length M1) (CF d d.next.length d.next.length M1) (fun j hj=>CU d M1 hj) ?_
     simp only[kA,iA,wA,mH];simp;exact⟨by simp[jw],by simp[jw]⟩
    ·rintro k ⟨M2,mo2⟩ hk ⟨⟨hR2,YT⟩,hK2⟩
     simp only at YT hK2;by_cases hkn:k < i
     ·simp[kA,iA,iG,wA,wG,mH,hkn,Zpq]
      refine lg d.signs.toNat (sI d M i k) (sA d.next.length i k) 4000 (iG d) (M2,mo2) ⟨⟨⟨hR2,YT⟩,hK2⟩,fun _ k' h=>by omega⟩ ?_ ?_
      ·refine Ad (n:=d.next.length) (m:=d.next.length) (M:=M2) (by omega) (Ef d d.next.length d.next.length M2) (CF d d.next.length d.next.length M2) (fun j hj=>CU d M2 hj) ?_
       simp only[sA,kA,iA,wA,mH];simp;exact⟨by simp[jw],by simp[jw]⟩
      ·rintro j ⟨M3,TH⟩ hj ⟨⟨⟨wJ,YU⟩,hK3⟩,hJ3⟩
       have hM3:zQ d M3:=wJ.ok;have g0:=Ef d d.next.length d.next.length M3
       have g10:=CF d d.next.length d.next.length M3
       have gr:=fun j (hj:j < d.next.length)=>CU d (n:=d.next.length) (m:=d.next.length) M3 hj
       generalize hG:bn (xS d d.next.length d.next.length M3)=g at g0 g10 gr;have hkd:k < d.next.length:=by omega
       by_cases hjs:(j:Int) < d.signs
       ·obtain⟨hja,ab4,aah⟩:=FN R hin (s:=(j:Int)) (by omega) hjs
        obtain⟨hjb,ab5,aai⟩:=FN R hkd (s:=(j:Int)) (by omega) hjs;have aaL:j < (d.next[i]).length:=hja;have hjb':j < (d.next[k]).length:=hjb;have ea:(d.next[i])[j]=(bK d i j:Int):=ab4;have eb:(d.next[k])[j]=(bK d k j:Int):=ab5;generalize hxa:bK d i j=xa at *;generalize hxb:bK d k j=xb at *;cases hik:M3 i k with
        | true=>
         simp[sA,kA,iA,iG,wA,wG,mH,hG,g0,g10,gr,ed,QN,hpl,Ct,Cy,hjs,hin,hkd,hik];rw[bE _ (by omega)];refine⟨hkn,(M3,TH),⟨⟨wJ,YU⟩,fun hf k' hk'=>?_⟩,Ad (by omega) g0 g10 gr ?_⟩
         ·by_cases hkk:k'=k
          ·subst hkk
           have:M3=M:=wJ.no hf;intro hfl;rw[←this,hik] at hfl;cases hfl
          ·exact hK3 hf k' (by omega)
         ·simp only[kA,iA,wA,mH]
          simp;exact⟨by simp[jw],by simp[jw]⟩
        | false=>
         simp[sA,kA,iA,iG,wA,wG,mH,hG,g0,g10,gr,ed,QN,hpl,Ct,Cy,hjs,hin,hkd,hik,aaL,hjb',ea,eb,aah,aai];have hjn:j < d.signs.toNat:=by omega
         cases hab:M3 xa xb with
         | false=>
          simp;rw[bE _ (by omega)];refine⟨hjn,(M3,TH),⟨⟨⟨wJ,YU⟩,hK3⟩,fun hf t ht=>?_⟩,Ad (by omega) g0 g10 gr ?_⟩
          ·by_cases htj:t=j
           ·subst htj
            have:M3=M:=wJ.no hf;rw[hxa,hxb,←this];exact hab
           ·exact hJ3 hf t (by omega)
          ·simp only[sA,kA,iA,wA,mH]
           simp;exact⟨by simp[jw],by simp[jw]⟩
         | true=>
          have hki:¬(k=i):=by omega
          have z1:¬(0=11+k):=by omega
          have z2:¬(0=11+i):=by omega
          have z3:¬(10=11+k):=by omega
          have z4:¬(10=11+i):=by omega
          have hik':¬(i=k):=by omega
          simp[g10,gr,QN,hpl,Ct,Cy,hin,hkd,hki];rw[bE _ (by omega)]
          have hlt3:GA d.next.length (wF M3 i k) < GA d.next.length M:=by
           have h1:=ZqU hin hkd hik;cases TH with
           | true=>have:=wJ.lt rfl;simp only at this;omega
           | false=>have:M3=M:=wJ.no rfl;rw[←this];exact h1
          refine⟨hjn,(wF M3 i k,true),⟨⟨⟨⟨hM3.upd hik' hjs (fun _ _=>by rw[hxa,hxb];exact⟨hab,aah,aai⟩),by simp,fun _=>hlt3⟩,by simp⟩,by simp⟩,by simp⟩,Ad (by omega) (by simp[aL,g0,z1,z2]) (by simp[aL,g10,z3,z4]) (fun j' hj'=>?_) ?_⟩
          ·rw[ZrR hik' hin hkd]
           by_cases hjk:j'=k
           ·subst hjk
            simp[aL,List.map_set,aD]
           ·by_cases hji:j'=i
            ·subst hji
             simp[aL,List.map_set,aD,hjk]
            ·simp[aL,hjk,hji,gr j' hj']
          ·simp only[sA,kA,iA,wA,mH]
           simp;exact⟨by simp[jw],by simp[jw]⟩
       ·simp[sA,kA,iA,iG,wA,wG,mH,hG,g0,ed,hjs]
        rw[bE _ (by omega)];refine⟨hkn,(M3,TH),⟨⟨wJ,YU⟩,fun hf k' hk'=>?_⟩,Ad (by omega) g0 g10 gr ?_⟩
        ·by_cases hkk:k'=k
         ·subst hkk
          intro _ t ht;exact hJ3 hf t (by omega)
         ·exact hK3 hf k' (by omega)
        ·simp only[kA,iA,wA,mH]
         simp;exact⟨by simp[jw],by simp[jw]⟩
     ·simp[kA,iA,iG,wA,wG,mH,hkn]
      rw[bE _ (by omega)];refine⟨hin,(M2,mo2),⟨hR2,fun hf i' k' hi' hk'=>?_⟩,Ad (n:=d.next.length) (m:=d.next.length) (M:=M2) (by omega) (Ef d d.next.length d.next.length M2) (CF d d.next.length d.next.length M2) (fun j hj=>CU d M2 hj) ?_⟩
      ·by_cases hii:i'=i
       ·subst hii;exact hK2 hf k' (by omega)
       ·exact YT hf i' k' (by omega) hk'
      ·simp only[iA,wA,mH]
       simp;exact⟨by simp[jw],by simp[jw]⟩
   ·simp[iA,iG,wA,wG,mH,hin]
    have hR1:=hR.ok;refine⟨_,(M1,mo),?_,⟨hR1,rfl,fun hf i' k' hi' hk'=>?_⟩,Ad (n:=d.next.length) (m:=d.next.length) (M:=M1) (by omega) (Ef d d.next.length d.next.length M1) (CF d d.next.length d.next.length M1) (fun j hj=>CU d M1 hj) ?_⟩
    ·rw[hm]
     cases mo with
     | true=>have:=hR.lt rfl;simp only at this ⊢;simp;omega
     | false=>have:=hR.no rfl;simp only at this ⊢;rw[this];simp
    ·have:M1=M:=hR.no hf
     simp only;rw[this];exact YS hf i' k' (by omega) hk'
    ·simp only[wA,mH]
     simp;exact⟨by simp[jw],by simp[jw]⟩
def oI(d:aC)(i:Nat)(_:Unit):Prop:=True
def oA(n:Nat)(i:Nat)(_:Unit):List (Nat×AV):=(5,ah i)::mH n
def oG(d:aC)(i:Nat)(_:Unit):List (Nat×Option aB):=xS d d.next.length i (oW d)
def fI(d:aC)(i:Nat)(k:Nat)(fB:List Bool):Prop:=fB.length=d.next.length∧fB.take k=(oU (oW d) d.next.length i).take k
def fA(n i:Nat)(k:Nat)(_:List Bool):List (Nat×AV):=(6,ah k)::oA n i ()
def fG(d:aC)(i:Nat)(_:Nat)(fB:List Bool):List (Nat×Option aB):=(11+i,some (.arr 1 (fB.map aD)))::(0,some (.arr 3 [aR d]))::(10,some (.arr 1 (lY d.next.length (i+1))))::Gn (oW d) d.next.length i
theorem Zng(l:List Bool)(k:Nat)(v:Bool)(h:k < l.length):(l.set k v).take (k+1)=l.take k++[v]:=by
 rw[List.take_succ_eq_append_getElem (by simpa using h),List.take_set_of_le (Nat.le_refl _)];simp
theorem Zr7{i new:Nat}(h:i < 3000)(hw:4000≤new):Ud ((11+i,new)::jw i) [] 0 4000:=by
 have h1:=XM (m:=i) (by omega);refine⟨fun p hp=>?_,?_⟩
 ·rcases List.mem_cons.mp hp with rfl | hp
  ·simp;omega
  ·exact h1.a p hp
 ·rw[List.pairwise_cons]
  refine⟨fun p hp=>?_,h1.u⟩
  have h2:p.1 < 11+i∧p.2 < 4000:=by
   simp only[jw,List.mem_cons,List.mem_map,List.mem_range] at hp;rcases hp with rfl | rfl | ⟨j,hj,rfl⟩<;>simp<;>omega
  simp only;omega
theorem ZjQ(n:Nat):lY n 0=List.replicate n (.sl true []):=by
 apply List.ext_getElem
 ·simp[lY]
 ·intro i h1 h2
  simp[lY]
theorem ZmL{gF:Nat→Option aB}{R:Nat→Nat→Prop}{n i new:Nat}(h:∀j,j < i→R (11+j) (11+j))(h2:R (11+i) new):gL gF R ((lY n i).set i (.own new 0 n)) (lY n (i+1)):=by
 refine⟨by simp[lY],fun j h1 h3=>?_⟩;rw[List.getElem_set];simp only[lY,List.getElem_map,List.getElem_range];by_cases hji:j=i
 ·subst hji
  rw[if_pos rfl,if_pos (by omega)];exact .own _ _ _ _ h2
 ·rw[if_neg (by omega)]
  by_cases hlt:j < i
  ·rw[if_pos hlt,if_pos (by omega)]
   exact .own _ _ _ _ (h j hlt)
  ·rw[if_neg hlt,if_neg (by omega)]
   exact .cl (mM _)
theorem ZsB{a:AF}{S:St}{d:aC}{n i new:Nat}{fB:List Bool}{A:List (Nat×AV)}(hi:i < 3000)(hw:4000≤new)(hn:n=d.next.length)(h0:S.g 0=some (.arr 3 [aR d]))(h10:S.g 10=some (.arr 1 ((lY n i).set i (.own new 0 n))))
  (hnew:S.g new=some (.arr 1 (fB.map aD))) (hr:∀j,j < i→S.g (11+j)=some (.arr 1 ((oU (oW d) n j).map aD))) (hA:∀p∈A,bW (only [] S.g) (BN ((11+i,new)::jw i) 0) (a p.1) p.2):aX 0 a S (jm A) ⟨4000,bn (fG d i 0 fB)⟩:=by
 subst hn;refine aX.of ((11+i,new)::jw i) [] (by omega) (Zr7 hi hw) (fun p hp=>.inr ?_) hA;simp only[fG,Gn,List.mem_cons,List.mem_map,List.mem_range] at hp;rcases hp with rfl | rfl | rfl | ⟨j,hj,rfl⟩
 ·refine⟨new,by simp,?_⟩
  rw[hnew,jy];exact⟨rfl,gL.cl (jS _)⟩
 ·refine⟨0,by simp[jw],?_⟩
  rw[h0,jy];exact⟨rfl,gL.cl (by intro y hy;simp at hy;subst hy;exact dZ d)⟩
 ·refine⟨10,by simp[jw],?_⟩
  rw[h10,jy];exact⟨rfl,ZmL (fun j hj=>.inl (by simp[jw,hj])) (.inl (by simp))⟩
 ·refine⟨11+j,by simp[jw,hj],?_⟩
  rw[hr j hj,jy];exact⟨rfl,gL.cl (jS _)⟩
theorem Zqd{a:AF}{S:St}{d:aC}{n i:Nat}{fB:List Bool}{A:List (Nat×AV)}(hi:i < 3000)(hn:n=d.next.length)(h0:S.g 0=some (.arr 3 [aR d]))(h10:S.g 10=some (.arr 1 (lY n (i+1))))
  (hnew:S.g (11+i)=some (.arr 1 (fB.map aD))) (hr:∀j,j < i→S.g (11+j)=some (.arr 1 ((oU (oW d) n j).map aD))) (hA:∀p∈A,bW (only [] S.g) (BN (jw (i+1)) 0) (a p.1) p.2):aX 0 a S (jm A) ⟨4000,bn (fG d i 0 fB)⟩:=by
 subst hn;refine aX.of (jw (i+1)) [] (by omega) (XM (by omega)) (fun p hp=>.inr ?_) hA;simp only[fG,Gn,List.mem_cons,List.mem_map,List.mem_range] at hp;rcases hp with rfl | rfl | rfl | ⟨j,hj,rfl⟩
 ·refine⟨11+i,by simp[jw],?_⟩
  rw[hnew,jy];exact⟨rfl,gL.cl (jS _)⟩
 ·refine⟨0,by simp[jw],?_⟩
  rw[h0,jy];exact⟨rfl,gL.cl (by intro y hy;simp at hy;subst hy;exact dZ d)⟩
 ·refine⟨10,by simp[jw],?_⟩
  rw[h10,jy];exact⟨rfl,ZiD fun j hj=>Ztf hj⟩
 ·refine⟨11+j,by simp[jw];omega,?_⟩
  rw[hr j hj,jy];exact⟨rfl,gL.cl (jS _)⟩
theorem ZvN(d:aC)(i:Nat)(fB:List Bool):bn (fG d i 0 fB) 0=some (.arr 3 [aR d]):=by
 have:¬(0=11+i):=by omega
 simp[fG,kD,this]
theorem ZuR(d:aC)(i:Nat)(fB:List Bool):bn (fG d i 0 fB) 10=some (.arr 1 (lY d.next.length (i+1))):=by
 have:¬(10=11+i):=by omega
 simp[fG,kD,this]
theorem ZvO(d:aC)(i:Nat)(fB:List Bool):bn (fG d i 0 fB) (11+i)=some (.arr 1 (fB.map aD)):=by simp[fG,kD]
theorem ZvP(d:aC){i j:Nat}(fB:List Bool)(h:j < i):bn (fG d i 0 fB) (11+j)=some (.arr 1 ((oU (oW d) d.next.length j).map aD)):=by
 unfold fG;rw[kD,if_neg (by omega),kD,if_neg (by omega),kD,if_neg (by omega)];exact Zfp h
theorem Zjd{P:Program}{d:aC}(R:dP d):bq P 0 Vm (dw [2] (dM (CJ (yK (oC d) d.next.length)))) (bF [aR d]) S0:=by
 have hn2:=R.n2;have hfn:=R.fin;have C:=FB R;have ed:(aR d).cells=[ah d.signs,aU d.next,bA d.fin]:=rfl;have q1:24*(d.next.length:Int)≤281474976710656:=by omega
 have q2:(d.next.length:Int)≤9223372036854775807:=by omega
 have q3:(d.next.length:Int)≤281474976710656:=by omega
 simp[Vm,sU,q1,q2,Zpp];refine lg d.next.length (oI d) (oA d.next.length) 4000 (oG d) () trivial ?_ ?_
 ·refine aX.of [(0,0),(10,7)] [] (by omega) ⟨by simp,by simp⟩ ?_ ?_
  ·simp only[oG,xS,Gn,List.range_zero,List.map_nil,ZjQ]
   simp[dZ]
  ·simp only[oA,mH]
   simp
 ·rintro i _ hi _
  by_cases hlt:i < d.next.length
  ·have g0:=Ef d d.next.length i (oW d)
   have g10:=CF d d.next.length i (oW d)
   have gr:=fun j (hj:j < i)=>CU d (n:=d.next.length) (m:=i) (oW d) hj
   generalize hG:bn (xS d d.next.length i (oW d))=g at g0 g10 gr;have hpl:=Qi d.next.length i
   simp[oA,oG,mH,hG,g10,hlt,sU,q3,q2,hpl,ZoR,Zpm];refine lg d.next.length (fI d i) (fA d.next.length i) 4000 (fG d i) (List.replicate d.next.length false) ⟨by simp,by simp⟩ ?_ ?_
   ·refine ZsB (new:=4006) (by omega) (by omega) rfl (by simp[aL,g0]) (by simp[aL]) (by simp[aL,aD]) (fun j hj=>?_) ?_
    ·have z1:¬(11+j=4006):=by omega
     have z2:¬(11+j=10):=by omega
     simp[aL,z1,z2,gr j hj]
    ·simp only[fA,oA,mH]
     simp;exact⟨by simp[jw],by simp[jw]⟩
   ·rintro k fB hk ⟨h1,h2⟩
    have f0:bn (fG d i k fB) 0=_:=ZvN d i fB;have f10:bn (fG d i k fB) 10=_:=ZuR d i fB;have fn:bn (fG d i k fB) (11+i)=_:=ZvO d i fB;have fr:∀j,j < i→bn (fG d i k fB) (11+j)=_:=fun j (hj:j < i)=>ZvP d fB hj
    generalize hGF:bn (fG d i k fB)=gf at f0 f10 fn fr;have aaZ:=Qi d.next.length (i+1)
    have hpi:∀h:i < (lY d.next.length (i+1)).length,(lY d.next.length (i+1))[i]=.own (11+i) 0 d.next.length:=fun h=>by
     simp[lY]
    by_cases hkn:k < d.next.length
    ·have hfi:i < d.fin.length:=by omega
     have hfk:k < d.fin.length:=by omega
     have e1:d.fin[i]=dG d i:=by rw[dG,List.getD_eq_getElem?_getD,List.getElem?_eq_getElem hfi];rfl
     have e2:d.fin[k]=dG d k:=by rw[dG,List.getD_eq_getElem?_getD,List.getElem?_eq_getElem hfk];rfl
     simp[fA,oA,mH,f0,f10,fn,hkn,hlt,aaZ,hpi,h1,ed,hfi,hfk,e1,e2];rw[bE _ (by omega)]
     have hv:(dG d i != dG d k)=oW d i k:=by
      unfold oW;cases dG d i<;>cases dG d k<;>rfl
     rw[hv];have hkl:k < (oU (oW d) d.next.length i).length:=by rw[Ct];exact hkn
     have z1:¬(0=11+i):=by omega
     have z2:¬(10=11+i):=by omega
     refine⟨hkn,fB.set k (oW d i k),⟨by simpa using h1,?_⟩,Zqd (by omega) rfl (by simp[aL,f0,z1]) (by simp[aL,f10,z2]) (by simp[aL,List.map_set,aD]) (fun j hj=>?_) ?_⟩
     ·rw[Zng _ _ _ (by omega),h2,List.take_succ_eq_append_getElem hkl,Cy]
     ·have z3:¬(j=i):=by omega
      simp[aL,z3,fr j hj]
     ·simp only[fA,oA,mH]
      simp;exact⟨by simp[jw],by simp[jw]⟩
    ·simp[fA,oA,mH,hkn]
     rw[bE _ (by omega)]
     have hrw:fB=oU (oW d) d.next.length i:=by
      have hke:k=d.next.length:=by omega
      rw[hke,List.take_of_length_le (by omega),List.take_of_length_le (by rw[Ct];exact Nat.le_refl _)] at h2;exact h2
     refine⟨hlt,(),trivial,Ad (n:=d.next.length) (m:=i+1) (M:=oW d) (by omega) f0 f10 (fun j hj=>?_) ?_⟩
     ·by_cases hji:j=i
      ·subst hji;rw[←hrw];exact fn
      ·exact fr j (by omega)
     ·simp only[oA,mH]
      simp;exact⟨by simp[jw],by simp[jw]⟩
  ·have hie:i=d.next.length:=by omega
   subst hie;simp[oA,oG,mH,ZeZ];refine ZrS R (Zts d) ?_ ?_
   ·refine Ad (n:=d.next.length) (m:=d.next.length) (M:=oW d) (by omega) (Ef d d.next.length d.next.length (oW d)) (CF d d.next.length d.next.length (oW d)) (fun j hj=>CU d (oW d) hj) ?_
    simp only[wA,mH];simp;exact⟨by simp[jw],by simp[jw]⟩
   ·intro M a S hM hcl ha hS
    obtain⟨N,g⟩:=S;simp only at hS;subst hS;simp[ha];refine .own 10 0 d.next.length 1 (lY d.next.length d.next.length) _ (CF d _ _ M) (by simp[lY]) (by simp[yK]) fun i h1 h2=>?_
    simp only[List.drop_zero] at h1 ⊢;have hi:i < d.next.length:=by simpa[yK] using h2
    simp only[List.getElem_take,QN,List.getElem_map]
    have hrow:(yK (oC d) d.next.length)[i]'(by rw[Zkt];exact hi)=oU M d.next.length i:=by
     simp only[yK,List.getElem_map,List.getElem_range];apply List.ext_getElem
     ·rw[ZeR,Ct]
     ·intro k h3 h4
      have hk:k < d.next.length:=by rw[Ct] at h4;exact h4
      rw[Cy,ZqI R hM hcl C hi hk];simp[Eh,bR]
    rw[hrow];refine .own (11+i) 0 d.next.length 1 _ _ (CU d M hi) (by simp[oU]) (by simp[oU]) fun j h3 h4=>?_
    simp only[List.drop_zero,List.getElem_take];exact .closed _ (jS _ _ (List.getElem_mem _))
end Go.Rf
namespace Go.Rf
open Go.RowKit
theorem Wy{d:aC}(R:dP d):nU d:=by
 have h1:=R.n2;have h2:=R.fin;have h3:=R.s1;have h4:=R.s2;refine⟨by unfold Len;omega,by unfold Len;omega,fun r hr=>?_,by omega⟩;obtain⟨i,hi,rfl⟩:=List.getElem_of_mem hr;have:=R.row i hi;unfold Len;omega
end Go.Rf
namespace Go.Rf
open Go.RowKit
attribute [local simp] mW mV oF pG pJ pQ pK nA qy pO ow pq mK oz kD qw pY qO qL qK qE qN oO oL ql pR qz qG qF qA qo pU qm qI qH oK kT pI pV pW pz o7 eG iB iU iy iR iN iM iT iO gG iP fH iF iQ iE eT eU gD ig je jf gZ jk fU fQ fE eO gV gW gX gP gQ jg iV iH jc iX iZ iY jd jh iK iq gT gU gM iw dO eP gI iL ji ex aH fF dF eY cK dn aL bT fJ gH eZ gN iD iC iW iJ bS dN dV fZ fV gY fu bD pE ny dL eH qc o8 pX oh fC gB gq gy fM dA eX eB d9 bB qx oD oq qj o9 qg qh p9 kZ qd p8 qb S0 ah aD rA q9 rC om og qp rJ rz rH rP rG rO rE rM rD tO gL.cl bW.cl aW dY aT jR jG tN tK tL mM sO sP sN tX jM jS kU tY qW qD r9 uh um uj tV nZ oH uq rW tT rX ou sM jy uy
def ZkV(uZ rT:FuncId):AC:= (.reg (some []) [rF 18 1 2,rL 19 18,rF 20 1 4,rL 21 20,ro 22 (.dH 1 2 (.sl true []) [(0,(.t 19)),(1,(.t 21))]),rk 23 uZ [(.t 22)],rk 24 rT [(.t 23)],rF 25 2 2,rL 26 25,rF 27 2 4,rL 28 27,ro 29 (.dH 1 2 (.sl true []) [(0,(.t 26)),(1,(.t 28))]),rk 30 uZ [(.t 29)],rk 31 rT [(.t 30)],rF 32 1 2,rn (.store 1 (.t 32) (.t 24)),rF 33 2 2,rn (.store 1 (.t 33) (.t 31))])
def ZkU(uZ rT:FuncId):AC:= (.loop (sq [ro 8 (.bin .lss (.t 7) (.t 6))] (.seq (.cond (.t 8) .skip (.exit 0)) (.seq (.block 1 (sq [ro 9 (.aM 3 (.t 5) (.t 7)),ro 10 (.load (some 3) (.t 9)),ro 4 (.alloc (.agg [(.v (.bool false)),(.sl true []),(.sl true [])]) 3),rn (.store 3 (.t 4) (.t 10))] (sq [rF 11 0 2,rL 12 11,rm 13 12,rg 14 13 false (.cu 0 (.t 4)),rg 15 13 false (.load none (.t 14)),ro 16 (.pick (.t 13) (.c (.v (.bool true))) (.t 15)),rF 17 0 2,rn (.store 1 (.t 17) (.t 16))] (ZkV uZ rT)))) (.reg none [ro 34 (.bin .add (.t 7) (ci 1)),rm 7 34])))))
def PV(uZ rT:FuncId):AC:= (sq [ro 2 (.alloc (.agg [(.v (.bool false)),(.sl true []),(.sl true [])]) 3)] (.seq (sq [rm 5 0,ro 6 (.len (.t 5)),ro 7 (.mv (ci 0))] (.block 0 (ZkU uZ rT))) (sq [ro 35 (.load (some 3) (.t 2)),rn (.store 3 (.t 2) (.t 35))] .ret)))
def ZkX(KZ:FuncId):AC:= (.loop (sq [ro 11 (.bin .lss (.t 10) (.t 9))] (.seq (.cond (.t 11) .skip (.exit 0)) (.seq (.block 1 (sq [ro 12 (.aM 4 (.t 8) (.t 10)),ro 13 (.load (some 4) (.t 12)),ro 7 (.alloc (.agg [(.v (.int .i64 0)),(.sl true []),(.sl true []),(.sl true [])]) 4),rn (.store 4 (.t 7) (.t 13))] (.reg none [rm 14 5,rm 15 0,ro 16 (.load (some 4) (.t 7)),rk 17 KZ [(.t 15),(.t 16)],ro 18 (.dH 3 1 (.agg [(.v (.bool false)),(.sl true []),(.sl true [])]) [(0,(.t 17))]),ro 19 (.app 3 56 (.t 14) (.t 18)),rm 5 19]))) (.reg none [ro 20 (.bin .add (.t 10) (ci 1)),rm 10 20])))))
def PI(KZ:FuncId):AC:= (sq [ro 4 (.mv (.c (.sl true [])))] (sq [ro 5 (.mv (.c (.sl true [])))] (.seq (sq [rm 8 1,ro 9 (.len (.t 8)),ro 10 (.mv (ci 0))] (.block 0 (ZkX KZ))) (sq [rm 21 5,rm 4 21] .ret))))
def ZkY(KR uZ rT:FuncId):AC:= (.loop (sq [ro 12 (.bin .lss (.t 11) (.t 10))] (.seq (.cond (.t 12) .skip (.exit 0)) (.seq (.block 1 (sq [ro 13 (.aM 3 (.t 9) (.t 11)),ro 14 (.load (some 3) (.t 13)),ro 7 (.alloc (.agg [(.v (.bool false)),(.sl true []),(.sl true [])]) 3),rn (.store 3 (.t 7) (.t 14))] (sq [rm 15 0,rF 16 2 5,rL 17 16,rF 18 1 7,rL 19 18,rk 20 KR [(.t 15),(.t 17),(.t 19)]] (.seq (sq [rF 21 0 5,rL 22 21] (.cond (.t 22) (.reg none [rF 23 1 5,rL 24 23,rF 25 1 7,rL 26 25,ro 27 (.dH 1 2 (.sl true []) [(0,(.t 24)),(1,(.t 26))]),rk 28 uZ [(.t 27)],rk 29 rT [(.t 28)],rF 30 1 5,rn (.store 1 (.t 30) (.t 29))]) .skip)) (.seq (sq [rF 31 0 7,rL 32 31,ro 33 (.un .not (.t 32))] (.cond (.t 33) (.reg none [rF 34 2 5,rn (.store 1 (.t 34) (.c (.sl true [])))]) .skip)) (sq [rF 35 2 5,rL 36 35,rF 37 2 7,rL 38 37,ro 39 (.dH 1 2 (.sl true []) [(0,(.t 36)),(1,(.t 38))]),rk 40 uZ [(.t 39)],rk 41 rT [(.t 40)],rF 42 2 5,rn (.store 1 (.t 42) (.t 41))] (.reg none [rF 43 0 5,rL 44 43,rm 45 44,rg 46 45 true (.cu 0 (.t 7)),rg 47 45 true (.load none (.t 46)),ro 48 (.pick (.t 45) (.t 47) (.c (.v (.bool false)))),rF 49 0 5,rn (.store 1 (.t 49) (.t 48))]))))))) (.reg none [ro 50 (.bin .add (.t 11) (ci 1)),rm 11 50])))))
def PK(KR uZ rT:FuncId):AC:= (sq [ro 4 (.alloc (.agg [(.v (.bool false)),(.sl true []),(.sl true [])]) 3)] (sq [ro 8 (.build (.agg [(.v (.bool false)),(.sl true []),(.sl true [])]) [(0,1)] [(0,(.c (.v (.bool true))))]),ro 5 (.alloc (.agg [(.v (.bool false)),(.sl true []),(.sl true [])]) 3),rn (.store 3 (.t 5) (.t 8))] (.seq (sq [rm 9 1,ro 10 (.len (.t 9)),ro 11 (.mv (ci 0))] (.block 0 (ZkY KR uZ rT))) (sq [ro 51 (.load (some 3) (.t 5)),rn (.store 3 (.t 4) (.t 51))] .ret))))
def dR(e:Ed):AV:=.agg [aD e.bH,aj e.fst,aj e.aS]
theorem FI(e:Ed):aY (dR e):=.agg _ (aG (dY _) (aG (aT _) (aG (aT _) aQ)))
theorem lJ(e:Ed):(dR e).cells=[aD e.bH,aj e.fst,aj e.aS]:=rfl
theorem Jh(e:Ed):(dR e).solid=true:=rfl
theorem QT(e:Ed):AV.agg [.v (.bool e.bH),aj e.fst,aj e.aS]=dR e:=rfl
theorem Zsl(l:List Ed):tJ 3 (l.map dR):=Ms (enc:=dR) (fun _=>rfl) l
theorem Xw(l:List Ed):Cls (l.map dR):=FQ FI l
theorem yU(l:List Ed):aY (.sl false (l.map dR)):=.sl _ _ (Xw l)
def nk(b:Bool):Ed:=⟨b,[],[]⟩
def neI(_:Nat)(_:Unit):Prop:=True
def Od(es:List Ed)(k:Nat)(_:Unit):List (Nat×AV):=[(2,.ptr 0 0 0),(5,.sl false (es.map dR)),(6,ah es.length),(7,ah k)]
def Oe(es:List Ed)(k:Nat)(_:Unit):List (Nat×Option aB):=[(0,some (.arr 3 [dR (tZ (es.take k) (nk false))]))]
theorem ZgS{P:Program}{fc fs:FuncId}(hc:Sg P fc)(hset:JF P fs)(es:List Ed)(hl:es.length≤100000)(he:∀e∈es,uM 100000 e) :
  bq P 0 (PV fc fs) (bL [.c 2 (some 3)] (dM (dR (tZ es (nk false))))) (bF [.sl false (es.map dR)]) S0:=by
 simp[PV,ZkU];refine lg es.length neI (Od es) 5 (Oe es) () trivial ?_ ?_
 ·refine aX.of [(0,0)] [] (by omega) ⟨by simp,by simp⟩ ?_ ?_
  ·simp[Oe,tZ,nk,dR]
   exact .loose (by simp)
  ·simp[Od,yU]
 ·rintro k _ hk _
  by_cases hlt:k < es.length
  ·have hsk:es[k]? = some es[k]:=List.getElem?_eq_getElem hlt
   have htk:es.take (k+1)=es.take k++[es[k]]:=by rw[List.take_add_one,hsk];rfl
   have hsn:=ZaS (es.take k) es[k] (nk false);rw[←htk] at hsn;have hek:=he _ (List.getElem_mem hlt);have hacc:=Ws (N:=100000) (es.take k) (nk false) ⟨jD.nil,jD.nil⟩ (fun e h=>he e (List.mem_of_mem_take h));generalize hgx:es[k]=e at *;generalize hac:tZ (es.take k) (nk false)=acc at *;have l1:=hek.f.len;have l2:=hek.l.len;have l3:=hacc.f.len;have l4:=hacc.l.len;have D1:=fun n' g'=>mZ.cd (S:=⟨n',g'⟩) (hc acc.fst e.fst (by omega)) (aG (.sl _ _ (aG (aT _) (aG (aT _) aQ))) aQ) (aT _)
   have D2:=fun n' g'=>mZ.cd (S:=⟨n',g'⟩) (hset (acc.fst++e.fst) (by rw[List.length_append];omega)) (aG (aT _) aQ) (aT _)
   have D3:=fun n' g'=>mZ.cd (S:=⟨n',g'⟩) (hc acc.aS e.aS (by omega)) (aG (.sl _ _ (aG (aT _) (aG (aT _) aQ))) aQ) (aT _)
   have D4:=fun n' g'=>mZ.cd (S:=⟨n',g'⟩) (hset (acc.aS++e.aS) (by rw[List.length_append];omega)) (aG (aT _) aQ) (aT _)
   cases hn:acc.bH <;>
   ·simp[Od,Oe,hlt,hgx,hac,hn,lJ,ZkV]
    refine⟨_,⟨_,D1 _ _⟩,_,⟨_,D2 _ _⟩,_,⟨_,D3 _ _⟩,_,⟨_,D4 _ _⟩,?_⟩;simp[kT,kZ];rw[bE _ (by omega)];refine⟨hlt,(),trivial,aX.of [(0,0)] [] (by omega) ⟨by simp,by simp⟩ ?_ ?_⟩
    ·simp[Oe,hsn,hn,dR]
    ·simp[Od,yU]
  ·have hke:k=es.length:=by omega
   subst hke;simp[Od,Oe,lJ,Jh,bL,bP,RV.ev,eF,bV,QT];exact .closed _ (FI _)
def FR(P:Program)(f:FuncId)(sg:Int)(q:aF):Prop:=∀st:Gs,qZ st→st.au.length+jE q≤10000→nS P f [cB q] sg true st (dU sg q st).2 (dR (dU sg q st).1)
def ngI(_:Nat)(_:Bool):Prop:=True
def Oi(sg:Int)(st:Gs)(ks:List aF)(k:Nat)(o:Bool):List (Nat×AV):=[(0,.ptr 0 0 0),(5,vV o 5 ((cZ sg (ks.take k) st).1.map dR)),(8,.sl false (ks.map cB)),(9,ah ks.length),(10,ah k)]
def Oj(sg:Int)(st:Gs)(ks:List aF)(k:Nat)(o:Bool):List (Nat×Option aB):=(5,vB o 3 ((cZ sg (ks.take k) st).1.map dR))::mG sg true (cZ sg (ks.take k) st).2 0 3 4
theorem vS(l:List aF):aY (.sl false (l.map cB)):=.sl _ _ (FQ pF l)
theorem Qd(sg:Int):∀(ks:List aF) (st:Gs),(cZ sg ks st).1.length=ks.length
 | [],st=>by simp only[cZ];rfl
 | q::qs,st=>by simp only[cZ,List.length_cons];rw[Qd sg qs]
theorem Zs7{g:Nat→Option aB}{R:Nat→Nat→Prop}{F:List Nat}{o:Bool}{id:Nat}{xs:List AV}(hF:id∈F)(hg:g id=vB o 3 xs)(hc:Cls xs):bW (only F g) R (vV o id xs) (.sl false xs):=by
 cases o with
 | true=>rw[dW];rw[bN] at hg;exact .sG hF hg rfl hc
 | false=>rw[mF];exact .loose hc
theorem Zoc{P:Program}(hm:P.follows .mixedOrders=true){f ff:FuncId}(h:Is P f (PI ff) [4] 2){sg:Int}{ks:List aF}(hl:ks.length≤100000)(hq:∀q∈ks,FR P ff sg q)
  (st:Gs) (hst:qZ st) (hb:st.au.length+jZ ks≤10000):nS P f [.sl false (ks.map cB)] sg true st (cZ sg ks st).2 (.sl false ((cZ sg ks st).1.map dR)):=by
 refine h.wM hm rfl ?_;simp[PI,mG,bM,ZkX];refine lg ks.length ngI (Oi sg st ks) 10 (Oj sg st ks) false trivial ?_ ?_
 ·refine aX.of [(0,0),(3,1),(4,2)] [] (by omega) ⟨by simp,by simp⟩ ?_ ?_
  ·simp[dW,bN,oV,Oj,mG,bM,cZ]
  ·simp[dW,mF,bN,Oi,cZ,vS]
 ·rintro k o hk _
  by_cases hlt:k < ks.length
  ·have hsk:ks[k]? = some ks[k]:=List.getElem?_eq_getElem hlt
   have htk:ks.take (k+1)=ks.take k++[ks[k]]:=by rw[List.take_add_one,hsk];rfl
   have hsn:=Zdb sg (ks.take k) ks[k] st;rw[←htk] at hsn;obtain⟨n1,n2,n3⟩:=QH sg (ks.take k) st hst
   have hcl:jZ (ks.take k)+jE ks[k]≤jZ ks:=by
    have h1:jZ (ks.take (k+1))≤jZ ks:=by
     have:=VJ (ks.take (k+1)) (ks.drop (k+1));rw[List.take_append_drop] at this;omega
    rw[htk,VJ] at h1;simp only[jZ] at h1;omega
   have hqk:=hq _ (List.getElem_mem hlt) (cZ sg (ks.take k) st).2 n1 (by omega);have hle:=Qd sg (ks.take k) st;rw[List.length_take] at hle;rcases hpq:ks[k] with⟨pk,ps,pg,EO⟩
   have hok:bY 56 (cZ sg (ks.take k) st).1.length 1:=by unfold bY;omega
   generalize hge:cZ sg (ks.take k) st=ge at *;obtain⟨es,st1⟩:=ge;simp only at hqk hsn n1 n2 n3 hok hle;rw[hpq] at hqk hsn;simp only[cO,ah] at hqk;have hcp:=pF (.mk pk ps pg EO);simp only[cO,ah] at hcp;have hok2:bY 56 (es.map dR).length 1:=by simpa using hok
   have hol:es.length≤100000:=by omega
   simp[Oi,Oj,mG,bM,hge,hlt,hpq,cO];refine nS.use hqk (fun _=>.cl (aG hcp aQ)) (FI _) (id:=0) (b:=3) (c:=4) ?_ ?_ ?_ (by simp) (by simp) ?_
   ·simp[bM]
   ·simp
   ·simp
   simp[mE,hok,lJ,Zsl,Jh];rw[bE _ (by omega)];refine⟨hlt,true,trivial,aX.of [(0,0),(3,22),(4,23),(5,20)] [] (by omega) ⟨by simp,by simp⟩ ?_ ?_⟩
   ·simp[dW,bN,Oj,mG,bM,hsn,Xw,FI]
   ·simp[dW,bN,Oi,hsn,vS]
  ·have hke:k=ks.length:=by omega
   subst hke;simp[Oi,Oj,mG,bM];refine⟨jm [(4,.sl false ((cZ sg ks st).1.map dR))],⟨10,bn (mG sg true (cZ sg ks st).2 0 3 4++[])⟩,aX.of [(0,0),(3,3),(4,4)] [5] (by omega) ⟨by simp,by simp⟩ ?_ ?_,by simp[jm],.of⟩
   ·simp[dW,bN,mG,bM]
   ·simp[dW,bN]
    exact Zs7 (by simp) (by simp[bn]) (Xw _)
abbrev Zsq(P:Program)(f:FuncId):Prop:=∀b:List Int,b.length≤1000000→aJ P f [.sl true [.sl true [],aj b]] (aj b)
def njI(_:Nat)(_:Unit):Prop:=True
def EM(es:List Ed)(k:Nat)(_:Unit):List (Nat×AV):=[(0,.ptr 0 0 0),(4,.ptr 5 0 0),(5,.ptr 6 0 0),(9,.sl false (es.map dR)),(10,ah es.length),(11,ah k)]
def EN(sg:Int)(st:Gs)(es:List Ed)(k:Nat)(_:Unit):List (Nat×Option aB):=(5,some (.arr 3 [dR (nk false)]))::(6,some (.arr 3 [dR (kE (es.take k) (nk true) st).1]))::mG sg true (kE (es.take k) (nk true) st).2 0 3 4
theorem Zor{P:Program}(hm:P.follows .mixedOrders=true){f ff fc fs:FuncId}(h:kS P f (PK ff fc fs) [.c 4 (some 3)] 2)(hc:Sg P fc)(hc0:Zsq P fc)(hset:JF P fs){sg:Int}
  (hf:∀(ss be:List Int) (st:Gs),qZ st→jD st.au.length ss→jD st.au.length be→st.au.length≤100000→nS P ff [aj ss,aj be] sg true st ⟨st.au,jN st.fo ss be⟩ (.aO []))
  (es:List Ed) (hl:es.length≤100000) (st:Gs) (hst:qZ st) (he:∀e∈es,uM st.au.length e) (hb:st.au.length≤10000):nS P f [.sl false (es.map dR)] sg true st (kE es (nk true) st).2 (dR (kE es (nk true) st).1):=by
 refine h.wM hm rfl ?_;simp[PK,mG,bM,ZkY,bD,jr,gJ];refine lg es.length njI (EM es) 10 (EN sg st es) () trivial ?_ ?_
 ·refine aX.of [(0,0),(3,1),(4,2),(5,3),(6,5)] [] (by omega) ⟨by simp,by simp⟩ ?_ ?_
  ·simp[dW,bN,EN,mG,bM,kE,nk,dR]
   exact .loose (by simp)
  ·simp[dW,bN,EM,yU]
 ·rintro k _ hk _
  by_cases hlt:k < es.length
  ·have hsk:es[k]? = some es[k]:=List.getElem?_eq_getElem hlt
   have htk:es.take (k+1)=es.take k++[es[k]]:=by rw[List.take_add_one,hsk];rfl
   have hsn:=Zdd (es.take k) es[k] (nk true) st;rw[←htk] at hsn;have hek:=he _ (List.getElem_mem hlt);obtain⟨n1,n2⟩:=Xn (es.take k) (nk true) st hst ⟨jD.nil,jD.nil⟩ (fun e h=>he e (List.mem_of_mem_take h));have n3:=(Qp (es.take k) (nk true) st).1;generalize hgx:es[k]=e at *;generalize hac:kE (es.take k) (nk true) st=ac at *;obtain⟨acc,st1⟩:=ac;simp only at n1 n2 n3 hsn;have l1:=hek.f.len;have l2:=hek.l.len;have l3:=n2.f.len;have l4:=n2.l.len;have h1:=hf acc.aS e.fst st1 n1 (by rw[n3];exact n2.l) (by rw[n3];exact hek.f) (by rw[n3];omega);have D1:=hc acc.fst e.fst (by omega);have D2:=hset (acc.fst++e.fst) (by rw[List.length_append];omega);have D3:=hc acc.aS e.aS (by omega);have D4:=hset (acc.aS++e.aS) (by rw[List.length_append];omega);have D5:=hc0 e.aS (by omega);have D6:=hset e.aS (by omega);simp[EM,EN,mG,bM,hlt,hgx,hac,bD,lJ];refine nS.use h1 (fun _=>.cl (aG (aT _) (aG (aT _) aQ))) (.aO _ (by simp)) (id:=0) (b:=3) (c:=4) ?_ ?_ ?_ (by simp) (by simp) ?_
   ·simp[bM]
   ·simp
   ·simp
   cases hn1:acc.bH<;>cases hn2:e.bH
   ·simp[mE,lJ,hn1]
    refine aN.pure D5 (aG (.sl _ _ (aG (mM _) (aG (aT _) aQ))) aQ) (aT _) ?_;simp;refine aN.pure D6 (aG (aT _) aQ) (aT _) ?_;simp[kT,kZ];rw[bE _ (by omega)];refine⟨hlt,(),trivial,aX.of [(0,0),(3,21),(4,22),(5,5),(6,6)] [] (by omega) ⟨by simp,by simp⟩ ?_ ?_⟩
    ·simp[dW,bN,EN,mG,bM,hsn,hn1,hn2,dR]
    ·simp[dW,bN,EM,yU]
   ·simp[mE,lJ,hn1]
    refine aN.pure D3 (aG (.sl _ _ (aG (aT _) (aG (aT _) aQ))) aQ) (aT _) ?_;simp;refine aN.pure D4 (aG (aT _) aQ) (aT _) ?_;simp[lJ,kT,kZ,hn1];rw[bE _ (by omega)];refine⟨hlt,(),trivial,aX.of [(0,0),(3,21),(4,22),(5,5),(6,6)] [] (by omega) ⟨by simp,by simp⟩ ?_ ?_⟩
    ·simp[dW,bN,EN,mG,bM,hsn,hn1,hn2,dR]
    ·simp[dW,bN,EM,yU]
   ·simp[mE,lJ,hn1]
    refine aN.pure D1 (aG (.sl _ _ (aG (aT _) (aG (aT _) aQ))) aQ) (aT _) ?_;simp;refine aN.pure D2 (aG (aT _) aQ) (aT _) ?_;simp[lJ,kT,kZ,hn1];refine aN.pure D5 (aG (.sl _ _ (aG (mM _) (aG (aT _) aQ))) aQ) (aT _) ?_;simp;refine aN.pure D6 (aG (aT _) aQ) (aT _) ?_;simp[kT,kZ];rw[bE _ (by omega)];refine⟨hlt,(),trivial,aX.of [(0,0),(3,21),(4,22),(5,5),(6,6)] [] (by omega) ⟨by simp,by simp⟩ ?_ ?_⟩
    ·simp[dW,bN,EN,mG,bM,hsn,hn1,hn2,dR]
    ·simp[dW,bN,EM,yU]
   ·simp[mE,lJ,hn1]
    refine aN.pure D1 (aG (.sl _ _ (aG (aT _) (aG (aT _) aQ))) aQ) (aT _) ?_;simp;refine aN.pure D2 (aG (aT _) aQ) (aT _) ?_;simp[lJ,kT,kZ,hn1];refine aN.pure D3 (aG (.sl _ _ (aG (aT _) (aG (aT _) aQ))) aQ) (aT _) ?_;simp;refine aN.pure D4 (aG (aT _) aQ) (aT _) ?_;simp[kT,kZ];rw[bE _ (by omega)];refine⟨hlt,(),trivial,aX.of [(0,0),(3,21),(4,22),(5,5),(6,6)] [] (by omega) ⟨by simp,by simp⟩ ?_ ?_⟩
    ·simp[dW,bN,EN,mG,bM,hsn,hn1,hn2,dR]
    ·simp[dW,bN,EM,yU]
  ·have hke:k=es.length:=by omega
   subst hke;simp[EM,EN,mG,bM,lJ,JG];refine⟨jm [(4,.ptr 5 0 0)],⟨10,bn (mG sg true (kE es (nk true) st).2 0 3 4++[(5,some (.arr 3 [dR (kE es (nk true) st).1]))])⟩,aX.of [(0,0),(3,3),(4,4),(5,5)] [] (by omega) ⟨by simp,by simp⟩ ?_ ?_,?_⟩
   ·simp[dW,bN,mG,bM,dR]
   ·simp[dW,bN]
   ·simp[bL,bP,RV.ev,eF,bV,mG,lJ,QT]
    exact .of
end Go.Rf
namespace Go.Rf
open Go.RowKit
attribute [local simp] mW mV oF pG pJ pQ pK nA qy pO ow pq mK oz kD qw pY qO qL qK qE qN oO oL ql pR qz qG qF qA qo pU qm qI qH oK kT pI pV pW pz o7 eG iB iU iy iR iN iM iT iO gG iP fH iF iQ iE eT eU gD ig je jf gZ jk fU fQ fE eO gV gW gX gP gQ jg iV iH jc iX iZ iY jd jh iK iq gT gU gM iw dO eP gI iL ji ex aH fF dF eY cK dn aL bT fJ gH eZ gN iD iC iW iJ bS dN dV fZ fV gY fu bD pE ny dL eH qc o8 pX oh fC gB gq gy fM dA eX eB d9 bB qx oD oq qj o9 qg qh p9 kZ qd p8 qb S0 ah aD rA q9 rC om og qp rJ rz rH rP rG rO rE rM rD tO gL.cl bW.cl aW dY aT jR jG tN tK tL mM sO sP sN tX jM jS kU tY qW qD r9 uh um uj tV nZ oH uq rW tT rX ou sM jy uy dW mF bN oV
def IB:AC:= (sq [ro 3 (.mv (.c (.v (.bool false))))] (sq [rm 4 0,ro 5 (.bin .lss (.t 4) (ci 0)),rm 6 5,rg 7 6 false (.mv (.t 0)),rg 8 6 false (.load none (.t 1)),rg 9 6 false (.fO (.t 8)),rg 10 6 false (.cu 0 (.t 9)),rg 11 6 false (.cu 0 (.t 10)),rg 12 6 false (.load none (.t 11)),rg 13 6 false (.bin .geq (.t 7) (.t 12)),ro 14 (.pick (.t 6) (.c (.v (.bool true))) (.t 13)),rm 3 14] .ret))
def ZkD:AC:= (.loop (.seq (sq [rm 16 6,rm 17 0,ro 18 (.len (.t 17)),ro 19 (.bin .lss (.t 16) (.t 18))] (.cond (.t 19) .skip (.exit 0))) (.seq (.block 1 (sq [rm 22 0,rm 23 6,ro 24 (.aM 1 (.t 22) (.t 23)),rL 25 24,rm 7 25] (sq [rm 26 1,rm 27 7,⟨(some 28),.mv (.c .junk),none,(some ((.t 26),[(.t 27)]))⟩,ro 29 (.un .not (.t 28))] (.cond (.t 29) (sq [rm 30 0,rm 31 5,rm 32 7,ro 33 (.aM 1 (.t 30) (.t 31)),rn (.store 1 (.t 33) (.t 32))] (.reg none [rm 34 5,ro 35 (.bin .add (.t 34) (ci 1)),rm 5 35])) .skip)))) (.reg none [rm 20 6,ro 21 (.bin .add (.t 20) (ci 1)),rm 6 21]))))
def Pq(P2c:FuncId):AC:= (sq [ro 4 (.mv (.c (.sl true [])))] (sq [rm 8 0,rm 9 1,rk 10 P2c [(.t 8),(.t 9)],rm 5 10] (.seq (sq [rm 11 5,ro 12 (.bin .eql (.t 11) (ci (-1)))] (.cond (.t 12) (sq [rm 13 0,rm 4 13] .ret) .skip)) (.seq (sq [rm 14 5,ro 15 (.bin .add (.t 14) (ci 1)),rm 6 15] (.block 0 ZkD)) (sq [rm 36 0,rm 37 5,ro 38 (.slc 1 (.t 36) (some (.t 37)) none),rn (.J9 1 (.v (.int .i64 0)) (.t 38))] (sq [rm 39 0,rm 40 5,ro 41 (.slc 1 (.t 39) none (some (.t 40))),rm 4 41] .ret))))))
def kM(sg n:Int):Bool:=decide (0≤n) && decide (n < sg)
def Ku(sg:Int):AV:=.bJ (.bJ (.agg [ah sg]) 0) 0
theorem Zjn(sg:Int):aY (Ku sg):=.bJ _ _ (.bJ _ _ (.agg _ (aG (aW _) aQ)))
theorem Zd7{P:Program}(sg n:Int):bq P 0 IB (dw [3] (dM (aD (!kM sg n)))) (bF [ah n,Ku sg]) S0:=by
 unfold Ku kM;by_cases h1:n < 0
 ·have h2:¬(0≤n):=by omega
  simp[IB,h1,h2];exact bO _ _
 ·have h2:0≤n:=by omega
  by_cases h3:n < sg
  ·have h4:¬(sg≤n):=by omega
   simp[IB,h1,h2,h3,h4,kg];exact bO _ _
  ·have h4:sg≤n:=by omega
   simp[IB,h1,h2,h3,h4,kg];exact bO _ _
def ni(sg:Int)(o:Bool)(st:Gs)(l:List Int):List (Nat×Option aB):=(4,vB o 1 (l.map ah))::(3,some (.arr 1 [.ptr 0 0 0]))::mG sg true st 0 1 2
def XA(sg:Int)(o:Bool)(st:Gs)(l:List Int)(r:AV)(S':St):Prop:=
 ∃xs:List Int,(r=if o=true then .own 4 0 (l.filter (kM sg)).length else .sl true [])∧xs.take (l.filter (kM sg)).length=l.filter (kM sg)∧xs.length=l.length∧S'=⟨10,bn (ni sg o st xs)⟩
def dfI(sg:Int)(l:List Int)(i0 k:Nat)(s:List Int×Nat):Prop:=
 s.2=((l.take (i0+1+k)).filter (kM sg)).length∧s.1.take s.2=(l.take (i0+1+k)).filter (kM sg)∧s.1.drop (i0+1+k)=l.drop (i0+1+k)∧s.2 < i0+1+k∧s.1.length=l.length
def GY(f1:FuncId)(i0:Nat)(l:List Int)(k:Nat)(s:List Int×Nat):List (Nat×AV):=[(0,.own 4 0 l.length),(1,.aP f1 [] [.ptr 3 0 0]),(5,ah s.2),(6,ah ((i0+1+k:Nat):Int))]
def AQ(sg:Int)(st:Gs)(_:Nat)(s:List Int×Nat):List (Nat×Option aB):=ni sg true st s.1
theorem XI{g:Nat→Option aB}{sg:Int}{v w:AV}(h0:g 0=some (.arr 4 [bM sg v w]))(h3:g 3=some (.arr 1 [.ptr 0 0 0])):Fz g (.ptr 3 0 0) (Ku sg):=
 .box 3 0 1 _ _ h3 (.pre 0 4 [ah sg] [v,w,.sl true []] h0 (aG (aW _) aQ))
theorem ZuS{g:Nat→Option aB}{o:Bool}{id:Nat}{l:List Int}(hg:g id=vB o 1 (l.map ah)):Fz g (vV o id (l.map ah)) (aj l):=wo hg (jM l)
theorem ZlY{X:Type}{p:X→Bool}{l:List X}(h:l.any p=false):su p l = -1:=by simp[su,h]
theorem Rh{gF:Nat→Option aB}{R:Nat→Nat→Prop}{f:FuncId}{i j:Nat}(h:R j i):bW gF R (.aP f [] [.ptr i 0 0]) (.aP f [] [.ptr j 0 0]):=
 .aP f [] [.ptr i 0 0] [] [.ptr j 0 0] rfl rfl (fun k h1=>by simp at h1) (fun k h1 h2=>by simp at h1;subst h1;exact .ptr _ _ _ _ h)
theorem Zg8{xs:List Int}{i:Nat}{v:Int}(h:i < xs.length):(xs.set i v).take (i+1)=xs.take i++[v]:=by
 rw[List.take_add_one,List.take_set_of_le (Nat.le_refl i),List.getElem?_set_self h];rfl
theorem ZqN{P:Program}(hm:P.follows .mixedOrders=true){f fi f1:FuncId}(h:Is P f (Pq fi) [4] 2){sg:Int}(l:List Int)(hl:l.length≤17592186043904)(o:Bool)(ho:o=true∨l=[])
  (hi:aJ P fi [aj l,.aP f1 [] [Ku sg]] (ah (su (fun n=>!kM sg n) l))) (hf:∀n,aJ P f1 [ah n,Ku sg] (aD (!kM sg n))) (st:Gs) :
  aN P f [vV o 4 (l.map ah),.aP f1 [] [.ptr 3 0 0]] ⟨5,bn (ni sg o st l)⟩ (XA sg o st l):=by
 refine h.wM hm rfl ?_;have g0:bn (ni sg o st l) 0=some (.arr 4 [bM sg (vV true 1 (st.au.map aj)) (vV true 2 (st.fo.map aj))]):=by simp[ni,mG,bn]
 have g3:bn (ni sg o st l) 3=some (.arr 1 [.ptr 0 0 0]):=by simp[ni,mG,bn]
 have g4:bn (ni sg o st l) 4=vB o 1 (l.map ah):=by simp[ni,mG]
 simp[Pq];refine aN.looks hi (dJ.cons (ZuS g4) (dJ.cons (.Pn (dJ.cons (XI g0 g3) dJ.nil)) dJ.nil)) (.v _) ?_;cases hany:l.any (fun n=>!kM sg n) with
 | false=>
  have hfl:l.filter (kM sg)=l:=by
   rw[List.filter_eq_self];intro x hx;have:=List.any_eq_false.mp hany x hx;simpa using this
  rw[ZlY hany];simp;refine⟨jm [(4,vV o 4 (l.map ah))],⟨10,bn (ni sg o st l)⟩,aX.of [(0,0),(1,1),(2,2),(3,3),(4,4)] [] (by omega) ⟨by simp,by simp⟩ ?_ ?_,?_⟩
  ·simp[ni,mG,bM]
  ·simp
  ·refine⟨l,?_,?_,rfl,rfl⟩
   ·rw[hfl]
    rcases ho with rfl | rfl
    ·simp[jm,dW]
    ·cases o<;>simp[jm,dW,mF]
   ·rw[hfl,List.take_length]
 | true=>
  have ho':o=true:=by
   rcases ho with h | h
   ·exact h
   ·rw[h] at hany;simp at hany
  subst ho';have hix:su (fun n=>!kM sg n) l=(l.findIdx (fun n=>!kM sg n):Nat):=by simp only[su];rw[if_pos hany]
  have hfi:l.findIdx (fun n=>!kM sg n) < l.length:=List.findIdx_lt_length.mpr (by simpa using hany)
  have hlow:∀i,i < l.findIdx (fun n=>!kM sg n)→∀(hi:i < l.length),kM sg l[i]=true:=fun i h1 h2=>by
   have:=List.not_of_lt_findIdx h1;simpa using this
  have hat:kM sg (l[l.findIdx (fun n=>!kM sg n)])=false:=by
   have:=List.findIdx_getElem (p:=fun n=>!kM sg n) (xs:=l) (w:=hfi);simpa using this
  rw[hix];generalize l.findIdx (fun n=>!kM sg n)=i0 at *;have hne:¬((i0:Int) = -1):=by omega
  have hne2:((i0:Int) == -1)=false:=by simp
  have hw:IntKind.i64.wrap ((i0:Int)+1)=(i0:Int)+1:=bE _ (by omega)
  have htf:(l.take i0).filter (kM sg)=l.take i0:=by
   rw[List.filter_eq_self];intro x hx;obtain⟨i,hi1,rfl⟩:=List.mem_iff_getElem.mp hx;rw[List.length_take] at hi1;rw[List.getElem_take];exact hlow i (by omega) (by omega)
  have hts:l.take (i0+1)=l.take i0++[l[i0]]:=by rw[List.take_add_one,List.getElem?_eq_getElem hfi];rfl
  simp[hne2,hw,dW,ZkD];refine lg (l.length - (i0+1)) (dfI sg l i0) (GY f1 i0 l) 5 (AQ sg st) (l,i0) ?_ ?_ ?_
  ·refine⟨?_,?_,rfl,by simp,rfl⟩
   ·simp only[Nat.add_zero]
    rw[hts,List.filter_append,htf];simp[hat];omega
   ·simp only[Nat.add_zero]
    rw[hts,List.filter_append,htf];simp[hat]
  ·refine aX.of [(0,0),(1,1),(2,2),(3,3),(4,4)] [] (by omega) ⟨by simp,by simp⟩ ?_ ?_
   ·simp[AQ,ni,mG,bM]
   ·simp[GY]
    exact Rh (.inl (by simp))
  ·rintro k ⟨xs,i⟩ hk ⟨e1,e2,e3,e4,e5⟩
   simp only at e1 e2 e3 e4 e5;have g0:bn (AQ sg st k (xs,i)) 0=some (.arr 4 [bM sg (vV true 1 (st.au.map aj)) (vV true 2 (st.fo.map aj))]):=by simp[AQ,ni,mG,bn]
   have g3:bn (AQ sg st k (xs,i)) 3=some (.arr 1 [.ptr 0 0 0]):=by simp[AQ,ni,mG,bn]
   have g4:bn (AQ sg st k (xs,i)) 4=some (.arr 1 (xs.map ah)):=by simp[AQ,ni,mG,bN]
   by_cases hlt:i0+1+k < l.length
   ·have lF:(i0:Int)+1+k < (l.length:Int):=by omega
    have hj0:(0:Int)≤(i0:Int)+1+k:=by omega
    have hjn:((i0:Int)+1+k).toNat=i0+1+k:=by omega
    have hxl:i0+1+k < xs.length:=by omega
    have hxk:xs[i0+1+k]? = some l[i0+1+k]:=by
     have:=congrArg (fun y=>y[0]?) e3;simp only[List.getElem?_drop,Nat.add_zero] at this;rw[this,List.getElem?_eq_getElem hlt]
    have abt:xs[i0+1+k]=l[i0+1+k]:=by
     have:=List.getElem?_eq_getElem hxl;rw[hxk] at this;exact(Option.some.inj this).symm
    have htk:l.take (i0+1+(k+1))=l.take (i0+1+k)++[l[i0+1+k]]:=by
     rw[show i0+1+(k+1)=i0+1+k+1 by omega,List.take_add_one,List.getElem?_eq_getElem hlt];rfl
    have hx:=hf l[i0+1+k];generalize hgv:l[i0+1+k]=v at *;cases hkv:kM sg v with
    | false=>
     rw[hkv] at hx;simp[GY,lF,hj0,hjn,hxk,e5,g4];refine aN.looks hx (dJ.cons (.closed _ (aW _)) (dJ.cons (XI g0 g3) dJ.nil)) (.v _) ?_;simp;rw[bE _ (by omega)];refine⟨by omega,(xs,i),⟨?_,?_,?_,by simp only;omega,e5⟩,aX.of [(0,0),(1,1),(2,2),(3,3),(4,4)] [] (by omega) ⟨by simp,by simp⟩ ?_ ?_⟩
     ·simp only
      rw[htk,List.filter_append];simp[hkv,e1]
     ·simp only
      rw[htk,List.filter_append];simp[hkv,e2]
     ·simp only
      have:=congrArg (fun y=>y.drop 1) e3;simpa[List.drop_drop,Nat.add_assoc] using this
     ·simp[AQ,ni,mG,bM]
     ·simp[GY]
      exact⟨Rh (.inl (by simp)),by omega⟩
    | true=>
     rw[hkv] at hx;have hi0:(0:Int)≤(i:Int):=by omega
     have Y4:i < l.length:=by omega
     have hiX:i < xs.length:=by omega
     have hwi:IntKind.i64.wrap ((i:Int)+1)=(i:Int)+1:=bE _ (by omega);have hwj:IntKind.i64.wrap ((i0:Int)+1+k+1)=(i0:Int)+1+k+1:=bE _ (by omega);simp[GY,lF,hj0,hjn,hxk,e5,g4];refine aN.looks hx (dJ.cons (.closed _ (aW _)) (dJ.cons (XI g0 g3) dJ.nil)) (.v _) ?_;simp[g4,Y4,e5,hwi,hwj];refine⟨by omega,(xs.set i v,i+1),⟨?_,?_,?_,by simp only;omega,by simp[e5]⟩,aX.of [(0,0),(1,1),(2,2),(3,3),(4,4)] [] (by omega) ⟨by simp,by simp⟩ ?_ ?_⟩
     ·simp only
      rw[htk,List.filter_append];simp[hkv,e1]
     ·simp only
      rw[htk,List.filter_append,Zg8 hiX,e2];simp[hkv]
     ·simp only
      have:=congrArg (fun y=>y.drop 1) e3;rw[List.drop_set_of_lt (by omega)];simpa[List.drop_drop,Nat.add_assoc] using this
     ·simp[AQ,ni,mG,bM]
      rw[show AV.v (.int .i64 v)=ah v from rfl,←List.map_set];exact .cl (jM _)
     ·simp[GY]
      exact⟨Rh (.inl (by simp)),by omega⟩
   ·have hke:k=l.length - (i0+1):=by omega
    have hj:i0+1+k=l.length:=by omega
    have lF:¬((i0:Int)+1+k < (l.length:Int)):=by omega
    have Y4:i≤l.length:=by omega
    have hiX:i+(l.length - i)≤xs.length:=by omega
    have hXl:l.length≤xs.length:=by omega
    have hdr:(xs.map ah).drop l.length=[]:=by rw[List.drop_eq_nil_iff,List.length_map];omega
    simp[GY,lF,g4,Ao,bnd,RX,Y4,hXl,hdr];rw[hj,List.take_length] at e1 e2;refine⟨jm [(4,.own 4 0 i)],⟨10,bn (ni sg true st (xs.take i++List.replicate (l.length - i) 0))⟩,aX.of [(0,0),(1,1),(2,2),(3,3),(4,4)] [] (by omega) ⟨by simp,by simp⟩ ?_ ?_,?_⟩
    ·simp[AQ,ni,mG,bM]
     rw[show(List.take i (List.map ah xs)++List.replicate (l.length - i) (AV.v (.int .i64 0)))=(xs.take i++List.replicate (l.length - i) 0).map ah by simp[ah]];exact .cl (jM _)
    ·simp
    ·refine⟨xs.take i++List.replicate (l.length - i) 0,?_,?_,?_,rfl⟩
     ·rw[←e1];simp[jm]
     ·rw[←e1,List.take_append_of_le_length (by rw[List.length_take];omega),List.take_take,Nat.min_self];exact e2
     ·rw[List.length_append,List.length_take,List.length_replicate];omega
end Go.Rf
namespace Go.Rf
open Go.RowKit
attribute [local simp] mh lW l7 mP mQ mU mR l9 mX mO mJ eG iB iU iy iR iN iM iT iO gG iP fH iF iQ iE eT eU gD ig je jf gZ jk fU fQ fE eO gV gW gX gP gQ jg iV iH jc iX iZ iY jd jh iK iq gT gU gM iw dO eP gI iL ji ex aH fF dF eY cK dn aL bT fJ gH eZ gN iD iC iW iJ bS dN dV fZ fV gY fu bD bX dL eH dz gu fC gB gq gy fM dA eX eB d9 bB AV.solid S0 ah aD
def HZ(l:List Int):Bool:=!l.isEmpty
theorem Zf6{P:Program}{fc:FuncId}(H:xw P fc (q8 1 8 (.v (.int .i64 0))) [.t 2] 1)(l:List Int)(hl:l.length≤17592186043904){S:St}{K:AV→St→Prop}(hg:S.g (S.n+5)=none)
  (hk:K (vV (HZ l) (S.n+5) (l.map ah)) ((St.mk (S.n+7) S.g).set (S.n+5) (vB (HZ l) 1 (l.map ah)))):aN P fc [aj l] S K:=by
 refine H rfl ?_;have hb:dN 1 0 (.v (.int .i64 0)) []=some (.sl true []):=VG _ _;by_cases h0:l=[]
 ·subst h0
  have hr:∀n aA,(kP 1 8 (.sl true []) (.sl false [])).run ⟨n,S.g⟩ aA=some (.sl true [],⟨n,S.g⟩):=by
   intro n aA;simp[kP,lD,AV.ku,Eff.run,St.dX,St.fP,bY]
  have hs:∀n,(St.mk n S.g).set (S.n+5) none=St.mk n S.g:=fun n=>by
   simp only[St.set,St.mk.injEq,true_and];funext j;simp only[bG];split
   ·rename_i h;subst h;exact hg.symm
   ·rfl
  simp only[HZ,List.isEmpty_nil,Bool.not_true,List.map_nil,mF,oV,hs] at hk;simp[q8,aj,hr];refine⟨[.sl true []],by simp[bP,RV.ev,aH],?_⟩;simp[bV];exact hk
 ·have hn:HZ l=true:=by cases l with
   | nil=>exact(h0 rfl).elim
   | cons x l=>rfl
  have hr:∀n aA,(kP 1 8 (.sl true []) (.sl false (l.map ah))).run ⟨n,S.g⟩ aA=some (.own aA 0 l.length,(⟨n,S.g⟩:St).set aA (some (.arr 1 (l.map ah)))):=by
   intro n aA;have hc:=QE l;have ha:bY 8 0 l.length:=by unfold bY;omega
   have hc2:∀x∈l.map ah,x.cells.length=1:=hc;have h3:lD 1 [] (.sl false (l.map ah))=some (l.map ah):=by simp only[lD];rw[if_pos hc2]
   have h4:¬(l.map ah).length=0:=by simp;exact h0
   simp only[kP,Eff.run,AV.ku,List.mapM_nil,Option.pure_def,h3,Option.bind_some,List.length_nil,Nat.zero_add,List.length_map,ha,and_true];rw[if_pos (by simp),if_neg (by simpa using h0)];simp[St.dX,St.fP]
  rw[hn,dW,bN,List.length_map] at hk;simp[q8,aj,hr];refine⟨[.own (S.n+5) 0 l.length],by simp[bP,RV.ev,aH],?_⟩;simp[bV];exact hk
def Nh(o:Bool)(q k:Nat):AV:=if o=true then .own q 0 k else .sl true []
theorem Zo9{P:Program}{f f1:FuncId}{sg:Int}{o:Bool}{st:Gs}{l:List Int}(h:aN P f [vV o 4 (l.map ah),.aP f1 [] [.ptr 3 0 0]] ⟨5,bn (ni sg o st l)⟩ (XA sg o st l)){S:St}{K:AV→St→Prop}{id b c bx q:Nat}
  (h1:S.g id=some (.arr 4 [bM sg (.own b 0 st.au.length) (.own c 0 st.fo.length)])) (h2:S.g b=some (.arr 1 (st.au.map aj))) (h3:S.g c=some (.arr 1 (st.fo.map aj)))
  (h4:S.g bx=some (.arr 1 [.ptr id 0 0])) (h5:S.g q=vB o 1 (l.map ah)) (hd:[(0,id),(1,b),(2,c),(3,bx),(4,q)].Pairwise fun p q=>p.1≠q.1∧p.2≠q.2) (hl:id < S.n∧b < S.n∧c < S.n∧bx < S.n∧q < S.n)
  (hk:∀xs:List Int,xs.take (l.filter (kM sg)).length=l.filter (kM sg)→xs.length=l.length→K (Nh o q (l.filter (kM sg)).length) ((St.mk (S.n+5) S.g).set q (vB o 1 (xs.map ah)))) :
  aN P f [vV o q (l.map ah),.aP f1 [] [.ptr bx 0 0]] S K:=by
 refine aN.frame 5 [(0,id),(1,b),(2,c),(3,bx),(4,q)] (ni sg o st l) [vV o 4 (l.map ah),.aP f1 [] [.ptr 3 0 0]] _ hd (by simp;omega) ?_ ?_ h ?_
 ·intro p hp
  simp only[ni,mG,List.mem_cons,List.not_mem_nil,or_false] at hp;rcases hp with rfl | rfl | rfl | rfl | rfl
  ·exact .inr ⟨q,by simp,by rw[h5];exact qD (jM _)⟩
  ·refine .inr ⟨bx,by simp,?_⟩
   rw[h4,jy];exact⟨rfl,.cons (.ptr _ _ _ _ (by simp)) .nil⟩
  ·refine .inr ⟨id,by simp,?_⟩
   rw[h1,jy];refine⟨rfl,?_⟩;simp only[bM,nZ,oH,and_true,ou,dW,List.length_map];exact⟨.cl (aW _),.own _ _ _ _ (by simp),.own _ _ _ _ (by simp),.cl (mM _)⟩
  ·exact .inr ⟨b,by simp,by rw[h2,bN,jy];exact⟨rfl,.cl (kU _)⟩⟩
  ·exact .inr ⟨c,by simp,by rw[h3,bN,jy];exact⟨rfl,.cl (kU _)⟩⟩
 ·exact .cons (qW (by simp) (jM _)) (.cons (Rh (by simp)) .nil)
 ·rintro r1 S1 hn ⟨xs,rfl,q1,q2,rfl⟩
  refine⟨Nh o q (l.filter (kM sg)).length,_,hk xs q1 q2,?_,by simp[bT],fun i k hi=>?_⟩
  ·unfold Nh
   cases o with
   | true=>simp only[if_true];exact .own _ _ _ _ (.inl ⟨by omega,by simp⟩)
   | false=>simp only[Bool.false_eq_true,if_false];exact .cl (mM _)
  ·simp only[aL] at hi
   by_cases eq:i=q
   ·rw[if_pos eq] at hi
    refine .inr ⟨4,.inl ⟨by omega,by simp[eq]⟩,?_⟩;rw[←hi];simp only[ni,bn,if_true];exact qD (jM _)
   rw[if_neg eq] at hi;by_cases e0:i=id
   ·refine .inr ⟨0,.inl ⟨by omega,by simp[e0]⟩,?_⟩
    rw[←hi,e0,h1];simp only[ni,mG,bn,show(0:Nat)=4↔False by simp,show(0:Nat)=3↔False by simp,if_false,if_true];rw[jy];refine⟨rfl,?_⟩;simp only[bM,nZ,oH,and_true,ou,dW,List.length_map];exact⟨.cl (aW _),.own _ _ _ _ (.inl ⟨by omega,by simp⟩),.own _ _ _ _ (.inl ⟨by omega,by simp⟩),.cl (mM _)⟩
   by_cases e1:i=b
   ·refine .inr ⟨1,.inl ⟨by omega,by simp[e1]⟩,?_⟩
    rw[←hi,e1,h2];simp only[ni,mG,bn,show(1:Nat)=4↔False by simp,show(1:Nat)=3↔False by simp,show(1:Nat)=0↔False by simp,if_false,if_true,bN];rw[jy];exact⟨rfl,.cl (kU _)⟩
   by_cases e2:i=c
   ·refine .inr ⟨2,.inl ⟨by omega,by simp[e2]⟩,?_⟩
    rw[←hi,e2,h3];simp only[ni,mG,bn,show(2:Nat)=4↔False by simp,show(2:Nat)=3↔False by simp,show(2:Nat)=0↔False by simp,show(2:Nat)=1↔False by simp,if_false,if_true,bN];rw[jy];exact⟨rfl,.cl (kU _)⟩
   by_cases e3:i=bx
   ·refine .inr ⟨3,.inl ⟨by omega,by simp[e3]⟩,?_⟩
    rw[←hi,e3,h4];simp only[ni,mG,bn,show(3:Nat)=4↔False by simp,if_false,if_true];rw[jy];exact⟨rfl,.cons (.ptr _ _ _ _ (.inl ⟨by omega,by simp⟩)) .nil⟩
   exact .inl ⟨by simp;omega,hi⟩
theorem ZqW{o:Bool}{q:Nat}{l xs:List Int}{sg:Int}{g:Nat→Option aB}(ho:o=true∨l=[])(hg:g q=vB o 1 (xs.map ah))(h1:xs.take (l.filter (kM sg)).length=l.filter (kM sg))(h2:xs.length=l.length) :
  Fz (only [q] g) (Nh o q (l.filter (kM sg)).length) (aj (l.filter (kM sg))):=by
 unfold Nh;cases o with
 | true=>
  rw[if_pos rfl];rw[bN] at hg;have hle:(l.filter (kM sg)).length≤l.length:=List.length_filter_le _ _;refine .own q 0 _ 1 (xs.map ah) ((l.filter (kM sg)).map ah) (by rw[Ec,if_pos (by simp)];exact hg) (by simp;omega) (by simp) (fun i h3 h4=>?_);have e:((xs.map ah).drop 0).take (l.filter (kM sg)).length=(l.filter (kM sg)).map ah:=by rw[List.drop_zero,←List.map_take,h1]
  simp only[e];exact .closed _ (jM _ _ (List.getElem_mem _))
 | false=>
  rcases ho with h | rfl
  ·cases h
  ·rw[if_neg (by simp)]
   exact .loose true [] (.sl _ _ (by simp))
theorem Zhn{P:Program}{b:Nat}{Q:Exit→AF→St→Prop}{a:AF}{S:St}{l:List l6}:bq P b (.xk l) Q a S=jL P S.n l [] (nK Q) a ⟨S.n+l.length,S.g⟩:=by simp only[bq];rw[Zq0]
end Go.Rf
