import Derived.Test.YtdmcjhnbmgmgoaaGreatDoorRfE8
import Derived.Lib.ItoaLen
set_option linter.unusedVariables false
set_option linter.unusedSimpArgs false
set_option linter.unusedSectionVars false
namespace Go.Rf
def Sj(n:Net)(at_:List Int)(sign:Int):List Int:=ZqU [] (qB n at_ sign)
def Zm(kd:Kd)(n:Net)(set:List Int)(s:Int):List Int:=
 match kd with
 | .whole=>Sj n set s
 | .tails=>0::Sj n set s
 | .heads=>if mq n set=true then set else Sj n set s
def Z7(kd:Kd)(n:Net)(most:Int)(i:Nat)(st:q9):Option q9:=
 match st.1[i]? with
 | none=>none
 | some set=>match uq most (Zm kd n set) n.signs.toNat st.1 with
  | none=>none
  | some (s2,r)=>some (s2,st.2.1++[r],st.2.2++[mq n set])
def Tp(kd:Kd)(n:Net)(most:Int):Nat→Nat→q9→Option q9
 | 0,_,_=>none
 | f+1,i,st=>if i=st.1.length then some st else match Z7 kd n most i st with
  | none=>none
  | some st'=>Tp kd n most f (i+1) st'
def Zh(kd:Kd)(n:Net)(most:Int):aD×Int:=
 if qV n=true∧1≤most∧most≤3000 then (match Tp kd n most (most.toNat+1) 0 ([[0]],[],[]) with
  | some st=>(⟨n.signs,st.2.1,st.2.2⟩,0)
  | none=>(⟨0,[],[]⟩,13))
 else (⟨0,[],[]⟩,1)
theorem Zqa(n:Net)(a:List Int)(s:Int):Sj n a s=qW n a s:=Zky _
theorem Ztz(kd:Kd)(n:Net)(a:List Int):Zm kd n a=lI kd n a:=by
 funext s;cases kd<;>simp[Zm,lI,Zqa]
theorem Zus(kd:Kd)(n:Net)(most:Int)(i:Nat)(st:q9):Z7 kd n most i st=uS kd n most i st:=by
 unfold Z7 uS;simp only[Ztz];rfl
theorem ZqI(kd:Kd)(n:Net)(most:Int):∀(f i:Nat) (st:q9),Tp kd n most f i st=Bz kd n most f i st
 | 0,_,_=>rfl
 | f+1,i,st=>by
  unfold Tp Bz;rw[Zus];split
  ·rfl
  ·cases uS kd n most i st with
   | none=>rfl
   | some st'=>exact ZqI kd n most f (i+1) st'
theorem ZsI(kd:Kd)(n:Net)(most:Int):Zh kd n most=mY kd n most:=by
 unfold Zh mY yQ;rw[ZqI];rfl
def dI:AV→Option Int
 | .v (.int .i64 n)=>some n
 | _=>none
def Tg:List AV→Option (List Int)
 | []=>some []
 | x::xs=>match dI x,Tg xs with
  | some n,some l=>some (n::l)
  | _,_=>none
def Ti:AV→Option (List Int)
 | .sl _ xs=>Tg xs
 | _=>none
def SC:List AV→Option (List (List Int))
 | []=>some []
 | x::xs=>match Ti x,SC xs with
  | some n,some l=>some (n::l)
  | _,_=>none
def Nb:AV→Option (List (List Int))
 | .sl _ xs=>SC xs
 | _=>none
def Y7:AV→Option Net
 | .agg [a,b,c,d]=>match dI a,Nb b,Nb c,Ti d with
  | some a,some b,some c,some d=>some ⟨a,b,c,d⟩
  | _,_,_,_=>none
 | _=>none
theorem MW{x:AV}{n:Int}(h:dI x=some n):x=aj n:=by
 unfold dI at h;split at h
 ·cases h;rfl
 ·cases h
theorem Zqw:∀{xs:List AV} {l:List Int},Tg xs=some l→xs=l.map aj
 | [],l,h=>by cases h;rfl
 | x::xs,l,h=>by
  unfold Tg at h;split at h
  ·rename_i n l' h1 h2
   cases h;rw[MW h1,Zqw h2];rfl
  ·cases h
theorem Zqx{x:AV}{l:List Int}(h:Ti x=some l):Wk x (aA l):=by
 unfold Ti at h;split at h
 ·rw[Zqw h];exact Wk.sl' (mE.refl _)
 ·cases h
theorem ZlX:∀{xs:List AV} {l:List (List Int)},SC xs=some l→mE xs (l.map aA)
 | [],l,h=>by cases h;exact mE.nil
 | x::xs,l,h=>by
  unfold SC at h;split at h
  ·rename_i n l' h1 h2
   cases h;exact mE.cons (Zqx h1) (ZlX h2)
  ·cases h
theorem X0{x:AV}{l:List (List Int)}(h:Nb x=some l):Wk x (aX l):=by
 unfold Nb at h;split at h
 ·exact Wk.sl' (ZlX h)
 ·cases h
theorem ZrK{x:AV}{n:Net}(h:Y7 x=some n):Wk x (jy n):=by
 unfold Y7 at h;split at h
 ·split at h
  ·rename_i h1 h2 h3 h4
   cases h;refine Wk.agg' (mE.cons ?_ (mE.cons (X0 h2) (mE.cons (X0 h3) (mE.cons (Zqx h4) mE.nil))));rw[MW h1];exact .refl _
  ·cases h
 ·cases h
def Ub(n:Net):Bool:=n.rows.all (fun l=>Nat.ble l.length 1000) && Nat.ble n.aB.length 20 && Nat.ble n.follow.length 20
def Uk(kd:Kd):List AV→Option AV
 | [a,b]=>match Y7 a,dI b with
  | some n,some m=>if Ub n=true then some (mo (Zh kd n m)) else none
  | _,_=>none
 | _=>none
theorem ZqZ{P:Program}{f:FuncId}{kd:Kd}(H:∀n m,Ub n=true→aO P f [jy n,aj m] (mo (mY kd n m))){args:List AV}{r:AV}(h:Uk kd args=some r):aO P f args r:=by
 unfold Uk at h;split at h
 ·split at h
  ·rename_i n m h1 h2
   split at h
   ·rename_i hk
    cases h;rw[ZsI];exact(H n m hk).wk (mE.cons (ZrK h1) (mE.cons (by rw[MW h2];exact .refl _) mE.nil))
   ·cases h
  ·cases h
 ·cases h
end Go.Rf
namespace Go.Rf
open Go.RowKit
def dB:AV→Option Bool
 | .v (.bool b)=>some b
 | _=>none
def Tf:List AV→Option (List Bool)
 | []=>some []
 | x::xs=>match dB x,Tf xs with
  | some n,some l=>some (n::l)
  | _,_=>none
def Zp:AV→Option (List Bool)
 | .sl _ xs=>Tf xs
 | _=>none
def Gn:AV→Option aD
 | .agg [a,b,c]=>match dI a,Nb b,Zp c with
  | some a,some b,some c=>some ⟨a,b,c⟩
  | _,_,_=>none
 | _=>none
theorem ZvH{x:AV}{n:Bool}(h:dB x=some n):x=aH n:=by
 unfold dB at h;split at h
 ·cases h;rfl
 ·cases h
theorem Zqv:∀{xs:List AV} {l:List Bool},Tf xs=some l→xs=l.map aH
 | [],l,h=>by cases h;rfl
 | x::xs,l,h=>by
  unfold Tf at h;split at h
  ·rename_i n l' h1 h2
   cases h;rw[ZvH h1,Zqv h2];rfl
  ·cases h
theorem ZtP{x:AV}{l:List Bool}(h:Zp x=some l):Wk x (ji l):=by
 unfold Zp at h;split at h
 ·rw[Zqv h];exact Wk.sl' (mE.refl _)
 ·cases h
theorem XZ{x:AV}{n:aD}(h:Gn x=some n):Wk x (aW n):=by
 unfold Gn at h;split at h
 ·split at h
  ·rename_i h1 h2 h3
   cases h;refine Wk.agg' (mE.cons ?_ (mE.cons (X0 h2) (mE.cons (ZtP h3) mE.nil)));rw[MW h1];exact .refl _
  ·cases h
 ·cases h
def okD(d:aD):Bool:=decide (-1000≤d.signs) && decide (d.signs≤1000) && Nat.ble d.next.length 20 && Nat.ble d.fin.length 20 && d.next.all fun l=>Nat.ble l.length 20
theorem Yz{d:aD}(h:okD d=true):r9 d:=by
 simp only[okD,Bool.and_eq_true,List.all_eq_true,Nat.ble_eq,decide_eq_true_eq] at h;obtain⟨⟨⟨⟨h1,h2⟩,h3⟩,h4⟩,h5⟩:=h;exact⟨by unfold Len;omega,by unfold Len;omega,fun r hr=>by have:=h5 r hr;unfold Len;omega,by omega⟩
def x1(F:aD→AV):List AV→Option AV
 | [a]=>match Gn a with
  | some d=>if okD d=true then some (F d) else none
  | none=>none
 | _=>none
def x2(F:aD→aD→AV):List AV→Option AV
 | [a,b]=>match Gn a,Gn b with
  | some d,some e=>if okD d=true∧okD e=true then some (F d e) else none
  | _,_=>none
 | _=>none
theorem Zwa{P:Program}{f:FuncId}{F:aD→AV}(H:∀d,r9 d→aO P f [aW d] (F d)){args:List AV}{r:AV}(h:x1 F args=some r):aO P f args r:=by
 unfold x1 at h;split at h
 ·split at h
  ·rename_i d h1
   split at h
   ·rename_i hk
    cases h;exact(H d (Yz hk)).wk (mE.cons (XZ h1) mE.nil)
   ·cases h
  ·cases h
 ·cases h
def x3m(F:aD→aD→Int→AV):List AV→Option AV
 | [a,b,c]=>match Gn a,Gn b,dI c with
  | some d,some e,some m=>if okD d=true∧okD e=true then some (F d e m) else none
  | _,_,_=>none
 | _=>none
theorem Zv3{P:Program}{f:FuncId}{F:aD→aD→Int→AV}(H:∀d e m,r9 d→r9 e→aO P f [aW d,aW e,aj m] (F d e m)){args:List AV}{r:AV}(h:x3m F args=some r):aO P f args r:=by
 unfold x3m at h;split at h
 ·split at h
  ·rename_i d e m h1 h2 h3
   split at h
   ·rename_i hk
    cases h;rw[MW h3];exact(H d e m (Yz hk.1) (Yz hk.2)).wk (mE.cons (XZ h1) (mE.cons (XZ h2) (mE.cons (.refl _) mE.nil)))
   ·cases h
  ·cases h
 ·cases h
theorem ZiE(a:AF)(g:Nat→Option aF):∀ts:List Nat,bX a g (ts.map RV.t)=some (ts.map a)
 | []=>rfl
 | t::ts=>by simp[bX,RV.ev,ZiE a g ts]
theorem Znj(a:AF):∀ts:List Nat,cO (ts.map a)=uN ts a
 | []=>rfl
 | [t]=>rfl
 | t::u::ts=>rfl
theorem Is.P6i{P:Program}(hm:P.follows .mixedOrders=true){f:FuncId}{ac:AC}{ts:List Nat}{n:Nat}(h:Is P f ac ts n):wW P f ac (ts.map RV.t) n:=by
 intro args S K hn hb;refine h.xk hm hn (Cc _ (fun e a S' k=>?_) hb);cases e<;>simp only[bR,gG] at k ⊢
 all_goals
  obtain⟨xs,h1,h2⟩:=k;rw[ZiE] at h1;cases h1;rw[Znj] at h2;exact h2
def F6{α:Type}:List (Nat×α)→Nat→Option α
 | [],_=>none
 | (k,a)::l,f=>bif Nat.beq f k then some a else F6 l f
theorem Xa{α:Type}:∀{l:List (Nat×α)} {f:Nat} {g:α},F6 l f=some g→(f,g)∈l
 | [],f,g,h=>by cases h
 | (k,a)::l,f,g,h=>by
  simp only[F6] at h;cases hb:Nat.beq f k with
  | true=>
   rw[hb] at h;have:=Nat.eq_of_beq_eq_true hb;subst this;cases h;exact List.mem_cons_self
  | false=>rw[hb] at h;exact List.mem_cons_of_mem _ (Xa h)
def KnC(P:Program)(c:Nat×AC×List RV×Nat):Prop:=wW P c.1 c.2.1 c.2.2.1 c.2.2.2
def KnR(P:Program)(c:Nat×(List AV→Option AV)):Prop:=∀args r,c.2 args=some r→aO P c.1 args r
theorem ZsT{P:Program}(hm:P.follows .mixedOrders=true){cs:List (Nat×AC×List RV×Nat)}{ks:List (Nat×(List AV→Option AV))}(h1:∀c∈cs,KnC P c)(h2:∀k∈ks,KnR P k):zX P (SX P (F6 cs) (fun _=>none) (F6 ks)):=
 ZsU hm (fun f p h=>h1 _ (Xa h)) (fun f g args v h=>by cases h) (fun f g args r h hg=>h2 _ (Xa h) args r hg)
theorem Zl9{α:Type}{p:α→Prop}:∀x∈([]:List α),p x:=fun x h=>by cases h
theorem all_cons{α:Type}{p:α→Prop}{a:α}{l:List α}(h:p a)(k:∀x∈l,p x):∀x∈a::l,p x:=fun x hx=>by
 rcases List.mem_cons.mp hx with rfl | hx
 ·exact h
 ·exact k x hx
end Go.Rf
namespace Go.Rf
open Go.RowKit
attribute [local simp] oP oM oH pU pK pR pO oO qw pQ oI pI jv jE jF jK qm qQ qO qN qH qP oZ oU qy qd qx qK qJ qF qA qg qz qM qL oQ lQ pV qh qj pJ pG dN gL fJ gJ ig fI gK iq gX gV gY eZ gQ gZ gP d9 eF gU iN iK iM iL iO gD fM fH dZ fQ fU fV fP fE iH iw gT iF iC iE iD iG iI iA gu fF fG fK gy dx dL fq iB iJ ex au bS dM dY bF bJ aG bf dU eY dQ fO gN gM iy gW bO dw dz eD eu fZ dR bC pz oG dD dJ pW pE ql oK eB eX eP eU dW dh dS dP dO bB qD oJ oL qc pF pY qb qp lZ pX qo qE S0 aj aH kP dX.cl bH.cl aS bY aR iT jq kL kJ kK jD kF kI kE kQ iZ jP jd kR jQ jO jY kS kU kT kN jJ jL kV jW kM jX jM kH iQ kW bT jr bA jN
def Z9x(P3L:FuncId):AC:= (sq [ro 2 (.box 4 (.t 0)),ro 4 (.mv (.c (.v (.bool false))))] (.seq (sq [ro 5 (.mv (ci 0))] (.block 0 (.loop (.seq (sq [rm 6 5,rm 7 1,ro 8 (.len (.t 7)),ro 9 (.bin .lss (.t 6) (.t 8))] (.cond (.t 9) .skip (.exit 0))) (.seq (.block 1 (.seq (.reg (some []) [rF 12 3 2,rL 13 12,rm 14 1,rm 15 5,ro 16 (.aI 1 (.t 14) (.t 15)),rL 17 16,rk 18 P3L [(.t 13),(.t 17)]]) (.cond (.t 18) (sq [ro 4 (.mv (.c (.v (.bool true))))] .ret) .skip))) (.reg none [rm 10 5,ro 11 (.bin .add (.t 10) (ci 1)),rm 5 11])))))) (sq [ro 4 (.mv (.c (.v (.bool false))))] .ret)))
def Z8l(EM P3y P3M:FuncId):AC:= (sq [ro 4 (.box 4 (.t 0)),ro 8 (.mv (.c (.sl true [])))] (.seq (sq [rm 10 3,ro 11 (.bin .eql (.t 10) (ci 2)),rm 12 11,rg 13 12 true (.load (some 4) (.t 4)),rg 14 12 true (.mv (.t 1)),rl 15 12 true EM [(.t 13),(.t 14)],ro 16 (.pick (.t 12) (.t 15) (.c (.v (.bool false))))] (.cond (.t 16) (sq [rm 17 1,rm 8 17] .ret) .skip)) (sq [ro 18 (.load (some 4) (.t 4)),rm 19 1,rm 20 2,rk 21 P3y [(.t 18),(.t 19),(.t 20)],rm 9 21] (.seq (sq [rm 22 3,ro 23 (.bin .eql (.t 22) (ci 1))] (.cond (.t 23) (.reg none [rm 24 9,rk 25 P3M [(.t 24),(ci 0)],rm 9 25]) .skip)) (sq [rm 26 9,rm 8 26] .ret)))))
def Zlm(BL:FuncId):AC:= (.block 4 (.loop (.seq (sq [rm 52 14,rm 53 8,ro 54 (.len (.t 53)),ro 55 (.bin .lss (.t 52) (.t 54)),rm 56 55,rg 57 56 true (.mv (.t 8)),rg 58 56 true (.mv (.t 14)),rg 59 56 true (.aI 1 (.t 57) (.t 58)),rg 60 56 true (.load none (.t 59)),rg 61 56 true (.mv (.t 13)),rl 62 56 true BL [(.t 60),(.t 61)],rg 63 56 true (.un .not (.t 62)),ro 64 (.pick (.t 56) (.t 63) (.c (.v (.bool false))))] (.cond (.t 64) .skip (.exit 4))) (.block 5 (.reg none [rm 65 14,ro 66 (.bin .add (.t 65) (ci 1)),rm 14 66])))))
def ZoI(KE BL:FuncId):AC:= (.block 2 (.loop (.seq (sq [rm 38 12,rF 39 0 3,rL 40 39,ro 41 (.bin .lss (.t 38) (.t 40))] (.cond (.t 41) .skip (.exit 2))) (.seq (.block 3 (.seq (.reg (some []) [ro 44 (.load (some 4) (.t 3)),rm 45 8,rm 46 10,ro 47 (.aI 1 (.t 45) (.t 46)),rL 48 47,rm 49 12,rm 50 2,rk 51 KE [(.t 44),(.t 48),(.t 49),(.t 50)],rm 13 51]) (sq [ro 14 (.mv (ci 0))] (.seq (Zlm BL) (.seq (sq [rm 67 14,rm 68 8,ro 69 (.len (.t 68)),ro 70 (.bin .eql (.t 67) (.t 69))] (.cond (.t 70) (.seq (sq [rm 71 14,rm 72 1,ro 73 (.bin .eql (.t 71) (.t 72))] (.cond (.t 73) (sq [ro 74 (.build (.agg [(.v (.int .i64 0)),(.sl true []),(.sl true [])]) [] []),rn (.store 3 (.t 6) (.t 74)),ro 7 (.mv (ci 13))] .ret) .skip)) (.reg none [rm 75 8,rm 76 13,ro 77 (.dn 1 1 (.sl true []) [(0,(.t 76))]),ro 78 (.app 1 24 (.t 75) (.t 77)),rm 8 78])) .skip)) (.reg none [rm 79 11,rm 80 14,ro 81 (.dn 1 1 (.v (.int .i64 0)) [(0,(.t 80))]),ro 82 (.app 1 8 (.t 79) (.t 81)),rm 11 82])))))) (.reg none [rm 42 12,ro 43 (.bin .add (.t 42) (ci 1)),rm 12 43])))))
def Zln(EM:FuncId):AC:= (.reg (some [[],[],[],[],[],[true],[false,true],[false,false,true],[false,false,false,true],[false,false,false,false,true],[false,false,false,false,false,true],[false,false,false,false,false,false,true],[],[],[],[true]]) [rF 83 1 9,rL 84 83,rm 85 11,ro 86 (.dn 1 1 (.sl true []) [(0,(.t 85))]),ro 87 (.app 1 24 (.t 84) (.t 86)),rF 88 2 9,rL 89 88,ro 90 (.load (some 4) (.t 3)),rm 91 8,rm 92 10,ro 93 (.aI 1 (.t 91) (.t 92)),rL 94 93,rk 95 EM [(.t 90),(.t 94)],ro 96 (.dn 1 1 (.v (.bool false)) [(0,(.t 95))]),ro 97 (.app 1 1 (.t 89) (.t 96)),rF 98 1 9,rn (.store 1 (.t 98) (.t 87)),rF 99 2 9,rn (.store 1 (.t 99) (.t 97))])
def ZoH(KE BL EM:FuncId):AC:= (.block 0 (.loop (.seq (sq [rm 32 10,rm 33 8,ro 34 (.len (.t 33)),ro 35 (.bin .lss (.t 32) (.t 34))] (.cond (.t 35) .skip (.exit 0))) (.seq (.block 1 (sq [ro 11 (.mv (.c (.sl true [])))] (.seq (sq [ro 12 (.mv (ci 0))] (ZoI KE BL)) (Zln EM)))) (.reg none [rm 36 10,ro 37 (.bin .add (.t 36) (ci 1)),rm 10 37])))))
def ZoG:AC:= (sq [ro 100 (.load (some 3) (.t 9)),rn (.store 3 (.t 6) (.t 100)),ro 7 (.mv (ci 0))] .ret)
def Z9y(UY KE BL EM:FuncId):AC:= (sq [ro 3 (.box 4 (.t 0)),ro 6 (.alloc (.agg [(.v (.int .i64 0)),(.sl true []),(.sl true [])]) 3),ro 7 (.mv (ci 0))] (.seq (sq [ro 15 (.load (some 4) (.t 3)),rk 16 UY [(.t 15)],ro 17 (.un .not (.t 16)),rm 18 17,rg 19 18 false (.mv (.t 1)),rg 20 18 false (.bin .lss (.t 19) (ci 1)),ro 21 (.pick (.t 18) (.c (.v (.bool true))) (.t 20)),rm 22 21,rg 23 22 false (.mv (.t 1)),rg 24 22 false (.bin .gtr (.t 23) (ci 3000)),ro 25 (.pick (.t 22) (.c (.v (.bool true))) (.t 24))] (.cond (.t 25) (sq [ro 26 (.build (.agg [(.v (.int .i64 0)),(.sl true []),(.sl true [])]) [] []),rn (.store 3 (.t 6) (.t 26)),ro 7 (.mv (ci 1))] .ret) .skip)) (sq [ro 27 (.dn 1 1 (.v (.int .i64 0)) [(0,(ci 0))]),ro 28 (.dn 1 1 (.sl true []) [(0,(.t 27))]),rm 8 28] (sq [rF 29 0 3,rL 30 29,ro 31 (.build (.agg [(.v (.int .i64 0)),(.sl true []),(.sl true [])]) [(0,1)] [(0,(.t 30))]),ro 9 (.alloc (.agg [(.v (.int .i64 0)),(.sl true []),(.sl true [])]) 3),rn (.store 3 (.t 9) (.t 31))] (.seq (sq [ro 10 (.mv (ci 0))] (ZoH KE BL EM)) ZoG)))))
theorem Fz.Ls{g:Nat→Option aF}{a b:List AV}(h:gI g a b):Fz g (.agg a) (.agg b):=.agg _ _ h.1 h.2
theorem Fz.Ig{g:Nat→Option aF}{a b:List AV}(h:gI g a b):Fz g (.aN a) (.aN b):=.aN _ _ h.1 h.2
theorem MH{g:Nat→Option aF}:Fz g (.sl true []) (.sl false []):=.loose true [] (.sl _ _ (by simp))
theorem vX(g:Nat→Option aF)(e:Int):Fz g (.aN [.agg [.v (.int .i64 0),.sl true [],.sl true []],.v (.int .i64 e)]) (mo (⟨0,[],[]⟩,e)):=
 .Ig (.cons (.Ls (.cons (.closed _ (.v _)) (.cons MH (.cons MH .nil)))) (.cons (.closed _ (.v _)) .nil))
end Go.Rf
namespace Go.Rf
open Go.RowKit
attribute [local simp] oP oM oH pU pK pR pO oO qw pQ oI pI jv jE jF jK qm qQ qO qN qH qP oZ oU qy qd qx qK qJ qF qA qg qz qM qL oQ lQ pV qh qj pJ pG dN gL fJ gJ ig fI gK iq gX gV gY eZ gQ gZ gP d9 eF gU iN iK iM iL iO gD fM fH dZ fQ fU fV fP fE iH iw gT iF iC iE iD iG iI iA gu fF fG fK gy dx dL fq iB iJ ex au bS dM dY bF bJ aG bf dU eY dQ fO gN gM iy gW bO dw dz eD eu fZ dR bC pz oG dD dJ pW pE ql oK eB eX eP eU dW dh dS dP dO bB qD oJ oL qc pF pY qb qp lZ pX qo qE S0 aj aH rA rD rO rz rC rG rJ rE rH rU rR rT rQ rM rP kP dX.cl bH.cl aS bY aR iT jq kL kJ kK jD kF kI kE kQ iZ jP jd kR jQ jO jY kS kU kT kN jJ jL kV jW kM jX jM kH iQ kW bT jr bA jN
def VL:AC:= (sq [ro 1 (.box 3 (.t 0)),ro 2 (.mv (.c (.sl true [])))] (sq [ro 3 (.mv (.c (.sl true [])))] (.seq (sq [rF 7 2 1,rL 8 7,ro 9 (.len (.t 8)),ro 10 (.mv (ci 0))] (.block 0 (.loop (sq [ro 11 (.bin .lss (.t 10) (.t 9))] (.seq (.cond (.t 11) .skip (.exit 0)) (.seq (.block 1 (sq [ro 12 (.aI 1 (.t 8) (.t 10)),rL 13 12,rm 5 13] (sq [ro 6 (.mv (ci 0))] (.seq (sq [rm 14 5] (.cond (.t 14) (.reg none [ro 6 (.mv (ci 1))]) .skip)) (.reg none [rm 15 3,rm 16 6,ro 17 (.dn 1 1 (.v (.int .i64 0)) [(0,(.t 16))]),ro 18 (.app 1 8 (.t 15) (.t 17)),rm 3 18]))))) (.reg none [ro 19 (.bin .add (.t 10) (ci 1)),rm 10 19]))))))) (sq [rm 20 3,rm 2 20] .ret))))
def Vx(yK yI zy:FuncId):AC:= (.loop (sq [ro 23 (.bin .lss (.t 22) (.t 21))] (.seq (.cond (.t 23) .skip (.exit 0)) (.seq (.block 1 (sq [ro 24 (.aI 1 (.t 20) (.t 22)),rL 25 24,rm 9 25] (sq [rk 26 zy [(.t 7),(.c (.v (.int .u8 44)))]] (.reg none [rm 27 1,rm 28 9,ro 29 (.aI 1 (.t 27) (.t 28)),rL 30 29,rk 31 yK [(.t 30)],rk 32 yI [(.t 7),(.t 31)]])))) (.reg none [ro 33 (.bin .add (.t 22) (ci 1)),rm 22 33])))))
def Z8r(yK yI zy EL:FuncId):AC:= (sq [rm 10 1,rm 11 2,ro 12 (.aI 1 (.t 10) (.t 11)),rL 13 12,rk 14 yK [(.t 13)],rk 15 yI [(.t 7),(.t 14)]] (.seq (sq [rF 16 1 3,rL 17 16,rm 18 2,ro 19 (.aI 1 (.t 17) (.t 18)),rL 20 19,ro 21 (.len (.t 20)),ro 22 (.mv (ci 0))] (.block 0 (Vx yK yI zy))) (sq [rk 34 EL [(.t 7)],rm 6 34] .ret)))
def Zb5(yK yI zy EL:FuncId):AC:= (sq [ro 3 (.box 3 (.t 0)),ro 6 (.mv (.c (.v (.string ⟨#[]⟩))))] (sq [ro 7 (.alloc (.agg [(.v (.pointer none)),(.sl true [])]) 2)] (Z8r yK yI zy EL)))
def VI(P4P:FuncId):AC:= (sq [ro 2 (.box 3 (.t 0)),ro 4 (.mv (.c (.sl true []))),ro 5 (.mv (ci 0))] (sq [ro 12 (.EA),rm 6 12] (sq [ro 7 (.mv (.c (.sl true [])))] (.seq (sq [rF 13 1 2,rL 14 13,ro 15 (.len (.t 14)),ro 16 (.mv (ci 0))] (.block 0 (.loop (sq [ro 17 (.bin .lss (.t 16) (.t 15))] (.seq (.cond (.t 17) .skip (.exit 0)) (.seq (.block 1 (sq [rm 18 16,rm 8 18] (sq [ro 19 (.load (some 3) (.t 2)),rm 20 1,rm 21 8,rk 22 P4P [(.t 19),(.t 20),(.t 21)],rm 9 22] (sq [rm 24 6,rm 25 9,ro 26 (.look .str (.v (.int .i64 0)) true (.t 24) (.t 25)),rm 23 26,ro 27 (.ext 0 (.t 23)),ro 28 (.ext 1 (.t 23)),rm 10 27,rm 11 28] (.seq (sq [rm 29 11,ro 30 (.un .not (.t 29))] (.cond (.t 30) (sq [rm 31 6,ro 32 (.G6 (.t 31)),rm 10 32] (.reg none [rm 33 6,rm 34 9,rm 35 10,rn (.BG .str (.t 33) (.t 34) (.t 35))])) .skip)) (.reg none [rm 36 7,rm 37 10,ro 38 (.dn 1 1 (.v (.int .i64 0)) [(0,(.t 37))]),ro 39 (.app 1 8 (.t 36) (.t 38)),rm 7 39])))))) (.reg none [ro 40 (.bin .add (.t 16) (ci 1)),rm 16 40]))))))) (sq [rm 41 7,rm 42 6,ro 43 (.G6 (.t 42)),rm 4 41,rm 5 43] .ret)))))
def VA(P4v P4F:FuncId):AC:= (sq [ro 1 (.box 3 (.t 0)),ro 2 (.mv (.c (.sl true [])))] (sq [ro 7 (.load (some 3) (.t 1)),rk 8 P4v [(.t 7)],rm 3 8] (sq [ro 4 (.mv (ci 0))] (.block 0 (.loop (.block 1 (sq [ro 10 (.load (some 3) (.t 1)),rm 11 3,rk 12 P4F [(.t 10),(.t 11)],rm 9 12,ro 13 (.ext 0 (.t 9)),ro 14 (.ext 1 (.t 9)),rm 5 13,rm 6 14] (.seq (sq [rm 15 6,rm 16 4,ro 17 (.bin .eql (.t 15) (.t 16))] (.cond (.t 17) (sq [rm 18 5,rm 2 18] .ret) .skip)) (.reg none [rm 19 5,rm 20 6,rm 3 19,rm 4 20])))))))))
abbrev Ur:=List Int×Bool
def coI(d:aD)(i:Nat)(s:Ur):Prop:=s.1=(vY d).take i
def GD(d:aD)(i:Nat)(s:Ur):List (Nat×AV):=[(3,vV s.2 1 (s.1.map aj)),(8,ji d.fin),(9,aj d.fin.length),(10,aj i)]
def GH(i:Nat)(s:Ur):List (Nat×Option aF):=[(1,vB s.2 1 (s.1.map aj))]
theorem Zhi{P:Program}(d:aD)(hl:d.fin.length≤4000):bM P 0 VL (gG [2] (iP (aA (vY d)))) (bU [aW d]) S0:=by
 simp[VL];refine uJ d.fin.length (coI d) (GD d) 10 GH ([],false) rfl ?_ ?_
 ·refine bL.of [] [] (by omega) ⟨by simp,by simp⟩ ?_ ?_
  ·simp[GH]
  ·simp[GD]
 ·rintro i ⟨xs,o⟩ hi hx
  simp only[coI] at hx;have hcl:(vY d).length=d.fin.length:=by simp[vY]
  have hxl:xs.length=i:=by rw[hx];simp[hcl];omega
  by_cases hlt:i < d.fin.length
  ·have hok:dV 8 xs.length 1:=by unfold dV;omega
   have hn:(vY d).take (i+1)=xs++[(vY d)[i]'(by omega)]:=by rw[List.take_succ_eq_append_getElem (by omega),←hx]
   have hg:(vY d)[i]'(by omega)=if d.fin[i]=true then 1 else 0:=by simp[vY]
   have hgd:d.fin.getD i false=d.fin[i]:=by rw[List.getD_eq_getElem?_getD,List.getElem?_eq_getElem hlt];rfl
   rw[hg] at hn;cases hb:d.fin[i] with
   | true=>
    simp only[hb,if_true] at hn;simp[GD,GH,hlt,hb,hok];rw[bG _ (by omega)];refine⟨hlt,(xs++[1],true),hn.symm,bL.of [(1,20)] [] (by omega) ⟨by simp,by simp⟩ ?_ ?_⟩
    ·simp[GH]
    ·simp[GD]
   | false=>
    simp only[hb,Bool.false_eq_true,if_false] at hn;simp[GD,GH,hlt,hb,hok];rw[bG _ (by omega)];refine⟨hlt,(xs++[0],true),hn.symm,bL.of [(1,19)] [] (by omega) ⟨by simp,by simp⟩ ?_ ?_⟩
    ·simp[GH]
    ·simp[GD]
  ·have hie:i=d.fin.length:=by omega
   have ht:xs=vY d:=by rw[hx];exact List.take_of_length_le (by omega)
   subst ht;simp[GD,GH,hie];refine Bp ?_ (iZ _);simp
def uY:List Int→List UInt8
 | []=>[]
 | k::ks=>Lib.itoa k++ks.flatMap fun n=>44::Lib.itoa n
def zh(l:List Int):AV:=sJ (uY l)
def y5(l:List Int):List UInt8:=l.flatMap fun n=>Lib.itoa n++[44]
theorem XT(ks:List Int):∀k,uY (k::ks)++[44]=y5 (k::ks):=by
 induction ks with
 | nil=>intro k;simp[uY,y5]
 | cons j js ih=>
  intro k;have:=ih j;simp only[uY,y5,List.flatMap_cons,List.append_assoc,List.cons_append] at this ⊢;rw[this];simp
theorem Zb6(n:Nat):∀b∈Lib.decDigits n,b≠44:=by
 induction n using Nat.strongRecOn with
 | _ n ih=>
  rw[Lib.decDigits];split
  ·rename_i h
   intro b hb e;simp only[List.mem_cons,List.not_mem_nil,or_false] at hb;have:=IV h;rw[←hb,e] at this;have h32:(44:UInt8).toNat=44:=rfl;omega
  ·rename_i h
   have h2:=ih (n / 10) (by omega);have hd:n % 10 < 10:=Nat.mod_lt _ (by omega);intro b hb e;rcases List.mem_append.mp hb with hb | hb
   ·exact h2 b hb e
   ·simp only[List.mem_cons,List.not_mem_nil,or_false] at hb
    have:=IV hd;rw[←hb,e] at this;have h32:(44:UInt8).toNat=44:=rfl;omega
theorem LP(n:Int)(l:List Int):y5 (n::l)=Lib.itoa n++44::y5 l:=by simp[y5]
theorem ZgO:∀{l m:List Int},uX l→uX m→y5 l=y5 m→l=m
 | [],[],_,_,_=>rfl
 | [],n::m,_,_,h=>by rw[LP] at h;simp[y5] at h
 | n::l,[],_,_,h=>by rw[LP] at h;simp[y5] at h
 | n::l,k::m,hl,hm,h=>by
  have hn:=hl n (by simp);have hk:=hm k (by simp);rw[LP,LP,Mv hn,Mv hk] at h;obtain⟨h1,h2⟩:=Yj (Zb6 _) (Zb6 _) h;have:=congrArg Gw h1;rw[(Il _).1,(Il _).1] at this;rw[ZgO (fun z hz=>hl z (by simp[hz])) (fun z hz=>hm z (by simp[hz])) h2];congr 1;omega
def JC(l:List Int):Prop:=l≠[]∧∀n∈l,0≤n∧n < 10000
theorem Zo0{l m:List Int}(hl:JC l)(hm:JC m)(h:uY l=uY m):l=m:=by
 obtain⟨k,ks,rfl⟩:=List.exists_cons_of_ne_nil hl.1;obtain⟨j,js,rfl⟩:=List.exists_cons_of_ne_nil hm.1;refine ZgO (fun n hn=>(hl.2 n hn).1) (fun n hn=>(hm.2 n hn).1) ?_;rw[←XT,←XT,h]
theorem Zwm:Bg .str JC zh:=by
 refine⟨fun x=>rfl,fun x y hx hy=>?_⟩;have:tJ (zh x) (zh y)=((⟨(uY x).toArray⟩:ByteArray) == ⟨(uY y).toArray⟩):=rfl;rw[this,Zqp];by_cases h:x=y
 ·subst h;simp
 ·simp only[h,decide_false,beq_eq_false_iff_ne,ne_eq]
  intro e;refine h (Zo0 hx hy ?_);simpa using e
theorem ZmE{n:Int}(h:0≤n∧n < 10000):(Lib.itoa n).length≤21:=Lib.itoa_length_le n (by omega) (by omega)
theorem ZgQ:∀{l:List Int},(∀n∈l,0≤n∧n < 10000)→(y5 l).length≤22*l.length
 | [],_=>by simp[y5]
 | k::ks,h=>by
  have h1:=ZmE (h k (by simp));have h2:=ZgQ (l:=ks) (fun n hn=>h n (by simp[hn]));rw[LP,List.length_append,List.length_cons,List.length_cons];omega
theorem Zea(k:Int)(ks:List Int)(n:Int):uY (k::(ks++[n]))=uY (k::ks)++44::Lib.itoa n:=by simp[uY]
def Uj(d:aD)(c:List Int)(s:Nat):List (Nat×AV):=[(1,aA c),(2,aj s),(3,.bN (aW d) 0)]
structure Vq(T e B:Nat)(w0:World)(c row:List Int)(k0:Int)(m:Nat)(a:AF)(w:World)(j:Nat):Prop where
 hj:j≤row.length
 hm:m=row.length - j
 e1:a 1=aA c
 e7:a 7=.ptr 0 0 0
 e20:a 20=aA row
 e21:a 21=aj row.length
 e22:a 22=aj j
 bl:wH T e B B w0 (uY (k0::(row.take j).map fun t=>c.getD t.toNat 0)) w
def Zvz(T e B:Nat)(w0:World)(H:Nat→Option (Array Value))(c row:List Int)(k0:Int)(m:Nat)(a:AF)(w:World):Prop:=lX H w∧∃j,Vq T e B w0 c row k0 m a w j
def xS(n:Int):Prop:=0≤n∧n < 10000
theorem ZgT{P:Program}{fi fw fb fs:FuncId}{T e:TypeId}(k:Bq P fw fb fs T e)(hi:Dj P fi xS){c row:List Int}{k0:Int}(hk0:xS k0)(hc:∀n∈c,xS n)(hr:∀t∈row,0≤t∧t < c.length)(hlen:row.length≤4000)
  {E:Env} {B:Nat} {w0:World} (hE:BE E B B) (zq:kC P E.H) {Q:Exit→AF→World→Prop} (hQ:∀a w,Vq T e B w0 c row k0 0 a w row.length→lX E.H w→Q (.exit 0) a w) {a:AF} {w:World} (h:Vq T e B w0 c row k0 row.length a w 0) (hH:lX E.H w) :
  mV P E (Vx fi fw fb) Q a w:=by
 unfold Vx;unfold mV;refine⟨Zvz T e B w0 E.H c row k0,⟨row.length,hH,0,h⟩,?_⟩;rintro m a w ⟨hH,j,hI⟩;by_cases hj:j < row.length
 ·have h1:(j:Int) < row.length:=by omega
  have hget:(row.map aj)[j]? = some (aj row[j]):=by simp[hj]
  have hw:IntKind.i64.wrap ((j:Int)+1)=j+1:=bG _ (by omega);obtain⟨h2,h3⟩:=hr _ (List.getElem_mem hj);have hcl:row[j].toNat < c.length:=by omega
  have hgc:(c.map aj)[row[j].toNat]? = some (aj c[row[j].toNat]):=by simp[hcl]
  have hgo:=hc _ (List.getElem_mem hcl)
  have ht:(row.take (j+1)).map (fun t=>c.getD t.toNat 0)=(row.take j).map (fun t=>c.getD t.toNat 0)++[c[row[j].toNat]]:=by
   rw[List.take_succ_eq_append_getElem hj,List.map_append];simp[List.getElem?_eq_getElem hcl]
  have hle:(uY (k0::(row.take (j+1)).map fun t=>c.getD t.toNat 0)).length≤22*4001:=by
   have h4:=ZgQ (l:=k0::(row.take (j+1)).map fun t=>c.getD t.toNat 0) (fun n hn=>by
    simp only[List.mem_cons,List.mem_map] at hn;rcases hn with rfl | ⟨t,ht,rfl⟩
    ·exact hk0
    ·obtain⟨h5,h6⟩:=hr t (List.mem_of_mem_take ht)
     have:t.toNat < c.length:=by omega
     rw[List.getD_eq_getElem?_getD,List.getElem?_eq_getElem this];exact hc _ (List.getElem_mem this))
   rw[←XT] at h4;simp only[List.length_append,List.length_cons,List.length_map,List.length_take,List.length_nil] at h4;omega
  rw[ht,Zea] at hle;simp only[List.length_append,List.length_cons] at hle;simp[ex,au,dM,dY,dU,bZ,dF,dP,dO,bB,aj,mV,WG,yX,DV,zZ,Eff.rW,hI.e1,hI.e7,hI.e20,hI.e21,hI.e22,aA,h1,hget,h2,hgc];refine uh.byte k hE hI.bl hH (by omega) (fun w1 b1 hH1=>?_) (c:=44) rfl
  try simp[l9,lT,l6,mI,mJ,mM,mK,l7,mP,mH,mF,dN,gL,fJ,gJ,ig,fI,gK,iq,gX,gV,gY,eZ,gQ,gZ,gP,d9,eF,gU,iN,iK,iM,iL,iO,gD,fM,fH,dZ,fQ,fU,fV,fP,fE,iH,iw,gT,iF,iC,iE,iD,iG,iI,iA,gu,fF,fG,fK,gy,dx,dL,fq,iB,iJ,ex,au,bS,dM,dY,bF,bJ,aG,bf,dU,eY,dQ,fO,gN,gM,iy,gW,bO,dw,dz,eD,eu,fZ,dR,bC,bZ,dD,dJ,dF,fu,eB,eX,eP,eU,dW,dh,dS,dP,dO,bB,AV.solid,S0,aj,aH,mV,WG,yX,DV,zZ,Eff.rW,hI.e1,hI.e7,hI.e20,hI.e21,hI.e22,aA,h1,hget,h2,hgc]
  refine uh.itoa hi hE b1 hgo zq hH1 fun w9 b9 NN=>?_
  refine uh.str k hE b9 NN (by simp only[List.length_append,List.length_cons,List.length_nil];omega) fun w2 b2 hH2=>?_
  refine⟨row.length - (j+1),by have:=hI.hm;omega,hH2,j+1,⟨by omega,rfl,?_,?_,?_,?_,?_,?_⟩⟩
  ·simp[AF.put,bI,hI.e1]
  ·simp[AF.put,bI,hI.e7]
  ·simp[AF.put,bI,hI.e20]
  ·simp[AF.put,bI,hI.e21]
  ·simp[AF.put,bI,hw,aj]
  ·rw[ht,Zea]
   rw[List.append_assoc] at b2;exact b2
 ·have hj2:j=row.length:=by have:=hI.hj;omega
  subst hj2;have h1:¬((row.length:Int) < row.length):=by omega
  simp[ex,au,dM,dP,dO,aj,mV,WG,yX,zZ,Eff.rW,hI.e21,hI.e22,h1];refine hQ _ _ ⟨Nat.le_refl _,by omega,?_,?_,?_,?_,?_,hI.bl⟩ hH
  ·simp[AF.put,bI,hI.e1]
  ·simp[AF.put,bI,hI.e7]
  ·simp[AF.put,bI,hI.e20]
  ·simp[AF.put,bI,hI.e21]
  ·simp[AF.put,bI,hI.e22]
theorem Zo3{P:Program}(hm:P.follows .mixedOrders=true){f fi fw fb fs:FuncId}{T e:TypeId}(h:Is P f (Zb5 fi fw fb fs) [6] 3)(hT:Ba P f T)(k:Bq P fw fb fs T e)(hi:Dj P fi xS){d:aD}(R:bD d){c:List Int}(hcl:c.length=d.next.length)
  (hc:∀n∈c,xS n) {s:Nat} (hs:s < d.next.length):aO P f [aW d,aA c,aj s] (zh (uZ d c s)):=by
 obtain⟨fn,co,hf,hnm,hb,hcm,hr,hn⟩:=h
 have hT':FK co=some T:=by
  unfold Ba at hT;rw[hf] at hT;simpa[hb] using hT
 refine aO.P5I (T:=T) (e:=e) (args:=[aW d,aA c,aj s]) (A:=Uj d c s) hm hf hnm hb hcm hT' hr hn rfl ?_ (fun E B w w0 hE zq hH hB=>?_)
 ·simp
  refine bL.of [] [0] (by omega) ⟨by simp,by simp⟩ ?_ ?_
  ·simp
  ·simp[Uj]
   exact .fz _ _ (.ptr 0 0 0 3 [aW d] (aW d) (by simp[only,aG]) (by simp) (.closed _ (iV d)))
 ·unfold Z8r
  have hgs:xS (c.getD s 0):=by
   rw[List.getD_eq_getElem?_getD,List.getElem?_eq_getElem (by omega)];exact hc _ (List.getElem_mem _)
  have hsc:(c.map aj)[s]? = some (aj (c.getD s 0)):=by
   rw[List.getD_eq_getElem?_getD,List.getElem?_map,List.getElem?_eq_getElem (show s < c.length by omega)];rfl
  have hrow:(d.next.map aA)[s]? = some (aA (d.next.getD s [])):=by
   rw[List.getD_eq_getElem?_getD,List.getElem?_map,List.getElem?_eq_getElem hs];rfl
  have ed:(aW d).cells=[aj d.signs,aX d.next,ji d.fin]:=rfl;have es:(aW d).solid=true:=rfl
  have hrl:(d.next.getD s []).length≤4000:=by
   have:=R.row s hs;have:=R.s2;rw[List.getD_eq_getElem?_getD,List.getElem?_eq_getElem hs,Option.getD_some];omega
  have hra:∀t∈d.next.getD s [],0≤t∧t < c.length:=by
   intro t ht;rw[List.getD_eq_getElem?_getD,List.getElem?_eq_getElem hs,Option.getD_some] at ht;obtain⟨j,hj,rfl⟩:=List.getElem_of_mem ht;rw[hcl];exact R.at_ s hs j hj
  have hz:uY [c.getD s 0]=[]++Lib.itoa (c.getD s 0):=by simp[uY]
  have hvk:uY (uZ d c s)=uY (c.getD s 0::((d.next.getD s []).take (d.next.getD s []).length).map fun t=>c.getD t.toNat 0):=by rw[List.take_length];rfl
  generalize hrw:d.next.getD s []=row at *
  generalize hk0:c.getD s 0=k0 at *;simp[ex,au,dM,dY,dU,bZ,dJ,dF,fu,bB,aj,mV,WG,yX,zZ,Eff.rW,Uj,jv,aA,hsc];refine uh.itoa hi hE hB hgs zq hH fun w9 b9 NN=>?_
  try simp[l9,lT,l6,mI,mJ,mM,mK,l7,mP,mH,mF,dN,gL,fJ,gJ,ig,fI,gK,iq,gX,gV,gY,eZ,gQ,gZ,gP,d9,eF,gU,iN,iK,iM,iL,iO,gD,fM,fH,dZ,fQ,fU,fV,fP,fE,iH,iw,gT,iF,iC,iE,iD,iG,iI,iA,gu,fF,fG,fK,gy,dx,dL,fq,iB,iJ,ex,au,bS,dM,dY,bF,bJ,aG,bf,dU,eY,dQ,fO,gN,gM,iy,gW,bO,dw,dz,eD,eu,fZ,dR,bC,bZ,dD,dJ,dF,fu,eB,eX,eP,eU,dW,dh,dS,dP,dO,bB,AV.solid,S0,aj,aH,mV,WG,yX,DV,zZ,Eff.rW,Uj,jv,jE,aA,hsc]
  refine uh.str k hE b9 NN (by have:=ZmE hgs;simp only[List.length_nil];omega) fun w2 b2 hH2=>?_
  rw[←hz] at b2
  try simp[eY,Eff.rW,aA,aX,hrow]
  refine ZgT k hi hgs hc hra hrl (w0:=w0) hE zq (fun a w' hI ZB=>?_) ⟨Nat.zero_le _,by omega,?_,?_,?_,?_,?_,?_⟩ hH2
  ·have e7:=hI.e7
   simp[yX,DV,e7];have hbl:=hI.bl;rw[←hvk] at hbl;refine uh.string k hE hbl ZB fun w2 h2=>?_
   simp[sJ,h2]
  ·simp[AF.put,bI,jv,aA]
  ·simp[AF.put,bI]
  ·simp[AF.put,bI,aA]
  ·simp[AF.put,bI,aj]
  ·simp[AF.put,bI,aj]
  ·simpa using b2
theorem Zki{K:Type}[DecidableEq K][i:BEq K][LawfulBEq K](k:K)(l:List K):@List.idxOf K instBEqOfDecidableEq k l=@List.idxOf K i k l:=by
 have e:∀a b:K,(@BEq.beq K instBEqOfDecidableEq a b)=@BEq.beq K i a b:=fun a b=>by
  by_cases h:a=b
  ·exact(decide_eq_true h).trans (beq_iff_eq.mpr h).symm
  ·exact(decide_eq_false h).trans (beq_eq_false_iff_ne.mpr h).symm
 have e2:@instBEqOfDecidableEq K _=i:=by
  cases i with
  | mk f=>exact congrArg BEq.mk (funext fun a=>funext fun b=>e a b)
 rw[e2]
theorem QB(l:List Int):aY (zh l):=.v _
theorem Zup(l:List (List Int)):∀x∈(cZ l).2,0≤x∧x < l.length:=by
 have h:=A8 l;intro x hx;obtain⟨i,hi,rfl⟩:=List.getElem_of_mem hx;have hil:i < l.length:=by rw[←h.len];exact hi
 have h1:=h.at_ i hil
 rw[List.getElem?_eq_getElem hi,Option.some.injEq] at h1;have h2:=List.idxOf_lt_length_iff.mpr ((h.mem l[i]).mpr (List.getElem_mem hil));have h3:=ZqP l;rw[h1];omega
theorem ZgS{d:aD}(R:bD d){c:List Int}(hcl:c.length=d.next.length)(hc:∀n∈c,xS n){s:Nat}(hs:s < d.next.length):JC (uZ d c s):=by
 have hg:∀i,i < c.length→xS (c.getD i 0):=fun i hi=>by
  rw[List.getD_eq_getElem?_getD,List.getElem?_eq_getElem hi];exact hc _ (List.getElem_mem hi)
 refine⟨by simp[uZ],fun n hn=>?_⟩;simp only[uZ,List.mem_cons,List.mem_map] at hn;rcases hn with rfl | ⟨t,ht,rfl⟩
 ·exact hg s (by omega)
 ·rw[List.getD_eq_getElem?_getD,List.getElem?_eq_getElem hs,Option.getD_some] at ht
  obtain⟨j,hj,rfl⟩:=List.getElem_of_mem ht;have:=R.at_ s hs j hj
  exact hg _ (by omega)
abbrev Un:=(List (List Int)×List Int)×Bool
def NH(d:aD)(c:List Int)(i:Nat)(s:Un):Prop:=s.1=cZ ((qI d c).take i)
def GL(d:aD)(c:List Int)(i:Nat)(s:Un):List (Nat×AV):=[(1,aA c),(2,.ptr 0 0 0),(6,.mp 1),(7,vV s.2 2 (s.1.2.map aj)),(15,aj d.next.length),(16,aj i)]
def GN(d:aD)(i:Nat)(s:Un):List (Nat×Option aF):=[(0,some (.arr 3 [aW d])),(1,some (.map (jc zh 0 s.1.1))),(2,vB s.2 1 (s.1.2.map aj))]
theorem Zkf{P:Program}{fv:FuncId}{d:aD}(R:bD d){c:List Int}(hcl:c.length=d.next.length)(hc:∀n∈c,xS n)(hv:∀s:Nat,s < d.next.length→aO P fv [aW d,aA c,aj s] (zh (uZ d c s))) :
  bM P 0 (VI fv) (gG [4,5] (iP (.aN [aA (ni d c).2,aj (ni d c).1.length]))) (bU [aW d,aA c]) S0:=by
 have hn:=R.n2;simp[VI,Gd];refine uJ d.next.length (NH d c) (GL d c) 10 (GN d) (([],[]),false) (by simp[NH,cZ]) ?_ ?_
 ·refine bL.of [(0,0),(1,3)] [] (by omega) ⟨by simp,by simp⟩ ?_ ?_
  ·simp[GN,jc,iV]
   exact zM (by simp[Sn])
  ·simp[GL]
 ·rintro i ⟨⟨ks,ls⟩,o⟩ hi hx
  simp only[NH] at hx;have ok:=A8 ((qI d c).take i);rw[←hx] at ok;have hvl:=Fh d c;have hll:=ok.len;simp only[List.length_take] at hll;by_cases hlt:i < d.next.length
  ·have hxi:=hv i hlt
   have Av:(qI d c)[i]'(by omega)=uZ d c i:=by simp[qI]
   have hsn:cZ ((qI d c).take (i+1))=xw (ks,ls) (uZ d c i):=by rw[List.take_succ_eq_append_getElem (by omega),Fe,←hx,Av]
   have hkg:JC (uZ d c i):=ZgS R hcl hc hlt
   have hks:∀k∈ks,JC k:=fun k hk=>by
    have:=(ok.mem k).mp hk;have:=List.mem_of_mem_take this;simp only[qI,List.mem_map,List.mem_range] at this;obtain⟨j,hj,rfl⟩:=this;exact ZgS R hcl hc hj
   have hok:dV 8 ls.length 1:=by unfold dV;omega
   generalize hk:uZ d c i=k at *;have Au:=fun(km aC:Nat) (S:St) (hg:S.g km=some (.map (jc zh 0 ks)))=>YU (aC:=aC) Zwm hkg hks hg
   have hlen:=fun(km aC:Nat) (S:St) (hg:S.g km=some (.map (jc zh 0 ks)))=>Zwn (aC:=aC) hg
   by_cases hin:k∈ks
   ·have hst:xw (ks,ls) k=(ks,ls++[(ks.idxOf k:Int)]):=by simp[xw,hin]
    simp[GL,GN,hlt];refine aQ.pure hxi (aL (iV d) (aL (aR _) (aL (aS _) aU))) (QB _) ?_;simp[Au,hin,hok];rw[bG _ (by omega)];refine⟨hlt,((ks,ls++[(ks.idxOf k:Int)]),true),by rw[NH,hsn,hst],bL.of [(0,0),(1,1),(2,31)] [] (by omega) ⟨by simp,by simp⟩ ?_ ?_⟩
    ·simp[GN,iV]
     exact⟨zM (zR QB _ _),by rw[Zki]⟩
    ·simp[GL]
   ·have hst:xw (ks,ls) k=(ks++[k],ls++[(ks.length:Int)]):=by simp[xw,hin]
    have TG:=fun(km aC:Nat) (S:St) (hg:S.g km=some (.map (jc zh 0 ks)))=>RY (aC:=aC) Zwm hkg hks hin hg
    simp[GL,GN,hlt];refine aQ.pure hxi (aL (iV d) (aL (aR _) (aL (aS _) aU))) (QB _) ?_;simp[Au,hin,hok,hlen,TG];rw[bG _ (by omega)];refine⟨hlt,((ks++[k],ls++[(ks.length:Int)]),true),by rw[NH,hsn,hst],bL.of [(0,0),(1,1),(2,38)] [] (by omega) ⟨by simp,by simp⟩ ?_ ?_⟩
    ·simp[GN,iV]
     exact zM (zR QB _ _)
    ·simp[GL]
  ·have hie:i=d.next.length:=by omega
   have ht:(ks,ls)=ni d c:=by rw[hx,List.take_of_length_le (by omega)];rfl
   have hlen:=fun(km aC:Nat) (S:St) (hg:S.g km=some (.map (jc zh 0 ks)))=>Zwn (aC:=aC) hg
   rw[←ht];simp[GL,GN,hie,hlen];refine .Ig (.cons (Bp ?_ (iZ _)) (.cons (.closed _ (.v _)) .nil));simp
def clI(d:aD)(m:Nat)(s:List Int×Nat):Prop:=
 Gb d m s.1 s.2=vS d∧(∃j,Gh d j s.1)∧d.next.length < m+s.2∧s.2≤d.next.length∧s.2≤(ni d s.1).1.length∧∀x∈s.1,xS x
def Td(s:List Int×Nat):List (Nat×AV):=[(1,.ptr 0 0 0),(3,aA s.1),(4,aj s.2)]
def Te(d:aD)(_:List Int×Nat):List (Nat×Option aF):=[(0,some (.arr 3 [aW d]))]
theorem ZfA{P:Program}{fc ff:FuncId}{d:aD}(R:bD d)(hc:aO P fc [aW d] (aA (vY d)))
  (hf:∀c:List Int,c.length=d.next.length→(∀n∈c,xS n)→aO P ff [aW d,aA c] (.aN [aA (ni d c).2,aj (ni d c).1.length])) :
  bM P 0 (VA fc ff) (gG [2] (iP (aA (vS d)))) (bU [aW d]) S0:=by
 have hn:=R.n2;simp[VA];refine aQ.pure hc (aL (iV d) aU) (aR _) ?_;simp;refine ZkN (clI d) Td 10 (Te d) (d.next.length+1) (vY d,0) ⟨rfl,⟨0,Zdv R⟩,by simp,by simp,by simp,fun x hx=>?_⟩ ?_ ?_
 ·simp only[vY,List.mem_map] at hx
  obtain⟨b,_,rfl⟩:=hx;unfold xS;split<;>omega
 ·refine bL.of [(0,0)] [] (by omega) ⟨by simp,by simp⟩ ?_ ?_
  ·simp[Te,iV]
  ·simp[Td]
 ·rintro m ⟨c,n⟩ ⟨h1,⟨j,h2⟩,h3,h4,h5,h6⟩
  simp only at h1 h2 h3 h4 h5 h6;obtain⟨a1,a2,a3,a4⟩:=QC R h2;obtain⟨m,rfl⟩:∃m',m=m'+1:=⟨m - 1,by omega⟩;rw[Gb] at h1;simp[Td,Te];refine aQ.pure (hf c h2.len h6) (aL (iV d) (aL (aR _) aU)) (.aN _ (aL (aR _) (aL (aS _) aU))) ?_;by_cases he:(ni d c).1.length=n
  ·rw[if_pos he] at h1
   simp[he,h1];exact .closed _ (aR _)
  ·rw[if_neg he] at h1
   have he':(((ni d c).1.length:Int) == (n:Int))=false:=by simp;omega
   simp[he'];refine⟨m,((ni d c).2,(ni d c).1.length),by omega,⟨h1,⟨_,Qe R h2⟩,by omega,a2,a1,fun x hx=>?_⟩,bL.of [(0,0)] [] (by omega) ⟨by simp,by simp⟩ ?_ ?_⟩
   ·have:=Zup _ x hx
    rw[Fh] at this;exact⟨this.1,by omega⟩
   ·simp[Te,iV]
   ·simp[Td]
def Zio:AC:= (.block 2 (.loop (sq [ro 48 (.bin .lss (.t 47) (.t 46))] (.seq (.cond (.t 48) .skip (.exit 2)) (.seq (.block 3 (sq [rm 49 47,ro 50 (.aI 1 (.t 45) (.t 47)),rL 51 50,rm 10 49,rm 11 51] (sq [rm 53 5,rm 54 4,rm 55 11,ro 56 (.aI 1 (.t 54) (.t 55)),rL 57 56,ro 58 (.look (.int .i64) (.v (.int .i64 0)) true (.t 53) (.t 57)),rm 52 58,ro 59 (.ext 0 (.t 52)),ro 60 (.ext 1 (.t 52)),rm 12 59,rm 13 60] (.seq (sq [rm 61 13,ro 62 (.un .not (.t 61))] (.cond (.t 62) (sq [rm 63 6,ro 64 (.len (.t 63)),rm 12 64] (sq [rm 65 5,rm 66 4,rm 67 11,ro 68 (.aI 1 (.t 66) (.t 67)),rL 69 68,rm 70 12,rn (.BG (.int .i64) (.t 65) (.t 69) (.t 70))] (.reg none [rm 71 6,rm 72 11,ro 73 (.dn 1 1 (.v (.int .i64 0)) [(0,(.t 72))]),ro 74 (.app 1 8 (.t 71) (.t 73)),rm 6 74]))) .skip)) (.reg none [rm 75 9,rm 76 10,rm 77 12,ro 78 (.aI 1 (.t 75) (.t 76)),rn (.store 1 (.t 78) (.t 77))]))))) (.reg none [ro 79 (.bin .add (.t 47) (ci 1)),rm 47 79]))))))
def Zil:AC:= (.reg (some [[],[],[],[],[],[true],[false,true],[false,false,true],[false,false,false,true],[false,false,false,false,true],[false,false,false,false,false,true],[false,false,false,false,false,false,true],[false,false,false,false,false,false,false,true],[false,false,false,false,false,false,false,false,true],[false,false,false,false,false,false,false,false,false,true],[false,false,false,false,false,false,false,false,false,false,true],[],[true]]) [rF 80 1 7,rL 81 80,rm 82 9,ro 83 (.dn 1 1 (.sl true []) [(0,(.t 82))]),ro 84 (.app 1 24 (.t 81) (.t 83)),rF 85 2 7,rL 86 85,rF 87 2 1,rL 88 87,rm 89 6,rm 90 8,ro 91 (.aI 1 (.t 89) (.t 90)),rL 92 91,ro 93 (.aI 1 (.t 88) (.t 92)),rL 94 93,ro 95 (.dn 1 1 (.v (.bool false)) [(0,(.t 94))]),ro 96 (.app 1 1 (.t 86) (.t 95)),rF 97 1 7,rn (.store 1 (.t 97) (.t 84)),rF 98 2 7,rn (.store 1 (.t 98) (.t 96))])
def Zin:AC:= (.block 0 (.loop (.seq (sq [rm 29 8,rm 30 6,ro 31 (.len (.t 30)),ro 32 (.bin .lss (.t 29) (.t 31))] (.cond (.t 32) .skip (.exit 0))) (.seq (.block 1 (sq [rF 35 0 1,rL 36 35,ro 37 (.wF 1 8 (.v (.int .i64 0)) (.t 36) (.t 36)),rm 9 37] (.seq (.seq (.reg (some []) [rF 38 1 1,rL 39 38,rm 40 6,rm 41 8,ro 42 (.aI 1 (.t 40) (.t 41)),rL 43 42,ro 44 (.aI 1 (.t 39) (.t 43)),rL 45 44,ro 46 (.len (.t 45)),ro 47 (.mv (ci 0))]) Zio) Zil))) (.reg none [rm 33 8,ro 34 (.bin .add (.t 33) (ci 1)),rm 8 34])))))
def Zim:AC:= (sq [ro 99 (.load (some 3) (.t 7)),rn (.store 3 (.t 2) (.t 99)),ro 3 (.mv (ci 0))] .ret)
def Wi(Dr P4j:FuncId):AC:= (sq [ro 1 (.box 3 (.t 0)),ro 2 (.alloc (.agg [(.v (.int .i64 0)),(.sl true []),(.sl true [])]) 3),ro 3 (.mv (ci 0))] (.seq (sq [ro 14 (.load (some 3) (.t 1)),rk 15 Dr [(.t 14)],ro 16 (.un .not (.t 15))] (.cond (.t 16) (sq [ro 17 (.build (.agg [(.v (.int .i64 0)),(.sl true []),(.sl true [])]) [] []),rn (.store 3 (.t 2) (.t 17)),ro 3 (.mv (ci 1))] .ret) .skip)) (sq [ro 18 (.load (some 3) (.t 1)),rk 19 P4j [(.t 18)],rm 4 19] (sq [ro 20 (.EA),rm 21 4,ro 22 (.aI 1 (.t 21) (ci 0)),rL 23 22,rn (.BG (.int .i64) (.t 20) (.t 23) (ci 0)),rm 24 20,rm 5 24] (sq [ro 25 (.dn 1 1 (.v (.int .i64 0)) [(0,(ci 0))]),rm 6 25] (sq [rF 26 0 1,rL 27 26,ro 28 (.build (.agg [(.v (.int .i64 0)),(.sl true []),(.sl true [])]) [(0,1)] [(0,(.t 27))]),ro 7 (.alloc (.agg [(.v (.int .i64 0)),(.sl true []),(.sl true [])]) 3),rn (.store 3 (.t 7) (.t 28))] (.seq (sq [ro 8 (.mv (ci 0))] Zin) Zim)))))))
def CQ(l:List Nat):List Int:=l.map fun(q:Nat)=>(q:Int)
theorem Zj6(l:List Nat):(CQ l).length=l.length:=by simp[CQ]
theorem Zn0(l:List Nat)(q:Nat):CQ (l++[q])=CQ l++[(q:Int)]:=by simp[CQ]
theorem Zj5{l:List Nat}{i q:Nat}(h:l[i]? = some q):(CQ l)[i]? = some (q:Int):=by simp[CQ,h]
theorem Zb:Bg (.int .i64) (fun _:Int=>True) aj:=
 ⟨fun _=>rfl,fun x y _ _=>by
  have:tJ (aj x) (aj y)=(x == y):=rfl;rw[this];by_cases h:x=y
  ·subst h;simp
  ·simp[h]⟩
def wN(d:aD):aD×Int:=if lS d=true then (nY d,0) else (⟨0,[],[]⟩,1)
abbrev Us:=(List Int×List Int×List (List Int)×List Bool)×(Bool×Bool×Bool)
def loI(d:aD)(c:List Int)(i:Nat)(s:Us):Prop:=s.1=(CQ (ku d c i).1,(ku d c i).1.map (jT c),(ku d c i).2)∧∀m,m < i→m < (ku d c m).1.length
def zi(c:List Int)(i:Nat)(os:List Int)(o:Bool):List (Nat×AV):=[(1,.ptr 0 0 0),(2,.ptr 1 0 0),(4,aA c),(5,.mp 3),(6,vV o 4 (os.map aj)),(7,.ptr 2 0 0),(8,aj i)]
def zk(d:aD)(os ks:List Int)(nx:List (List Int))(en:List Bool)(o oN oE:Bool):List (Nat×Option aF):=
 [(0,some (.arr 3 [aW d])),(1,some (.arr 3 [rV])),(2,some (.arr 3 [.agg [aj d.signs,vV oN 5 (nx.map aA),vV oE 6 (en.map aH)]])),(3,some (.map (jc aj 0 ks))),(4,vB o 1 (os.map aj)),(5,vB oN 1 (nx.map aA)),(6,vB oE 1 (en.map aH))]
def Oh(c:List Int)(i:Nat)(s:Us):List (Nat×AV):=zi c i s.1.1 s.2.1
def Oi(d:aD)(_:Nat)(s:Us):List (Nat×Option aF):=zk d s.1.1 s.1.2.1 s.1.2.2.1 s.1.2.2.2 s.2.1 s.2.2.1 s.2.2.2
abbrev Ut:=(List Int×List Int×List Int)×Bool
def lrI(d:aD)(c:List Int)(q:Nat)(one:List Nat)(k:Nat)(s:Ut):Prop:=
 s.1.1=CQ (om c (fun s=>bQ d q s) k one).1∧s.1.2.1=(om c (fun s=>bQ d q s) k one).1.map (jT c)∧s.1.2.2.length=d.signs.toNat∧s.1.2.2.take k=(om c (fun s=>bQ d q s) k one).2
def G7(d:aD)(c:List Int)(i:Nat)(row:List Int)(k:Nat)(s:Ut):List (Nat×AV):=(9,.own 7 0 d.signs.toNat)::(45,aA row)::(46,aj d.signs)::(47,aj k)::zi c i s.1.1 s.2
def G8(d:aD)(nx:List (List Int))(en:List Bool)(oN oE:Bool)(_:Nat)(s:Ut):List (Nat×Option aF):=(7,some (.arr 1 (s.1.2.2.map aj)))::zk d s.1.1 s.1.2.1 nx en s.2 oN oE
theorem Zfn{gF:Nat→Option aF}{R:Nat→Nat→Prop}(uE:List Int)(k:Nat)(v:Int):dX gF R ((List.map aj uE).set k (.v (.int .i64 v))) ((List.map aj uE).set k (.v (.int .i64 v))):=by
 have:(List.map aj uE).set k (.v (.int .i64 v))=List.map aj (uE.set k v):=by rw[List.map_set];rfl
 rw[this];exact dX.cl (iZ _)
theorem ZgM(l:List Int)(k:Nat)(v:Int)(h:k < l.length):(l.set k v).take (k+1)=l.take k++[v]:=by
 rw[List.take_succ_eq_append_getElem (by simpa using h),List.take_set_of_le (Nat.le_refl _)];simp
theorem ZeL{P:Program}{fr fc:FuncId}{d:aD}(hr:aO P fr [aW d] (aH (lS d)))(hc:bD d→aO P fc [aW d] (aA (vS d))) :
  bM P 0 (Wi fr fc) (bR [.c 2 (some 3),.t 3] (iP (mo (wN d)))) (bU [aW d]) S0:=by
 have ed:(aW d).cells=[aj d.signs,aX d.next,ji d.fin]:=rfl;simp[Wi];refine aQ.pure hr (aL (iV d) aU) (bY _) ?_;cases hb:lS d with
 | false=>
  have hz:wN d=(⟨0,[],[]⟩,1):=by simp[wN,hb]
  rw[hz];simp[bR,bX,RV.ev,gH,cO,jw,jh];exact vX _ 1
 | true=>
  have R:=(uW d).mp hb;have hz:wN d=(nY d,0):=by simp[wN,hb]
  rw[hz];have C:=PY R;have hn1:=R.n1;have hn2:=R.n2;have hs1:=R.s1;have hs2:=R.s2;have hcl:=C.len;have hc0:(0:Nat) < (vS d).length:=by omega
  simp;refine aQ.pure (hc R) (aL (iV d) aU) (aR _) ?_;have hspec:=Iy R;have hlD:nY d=⟨d.signs,(nA d).2.1,(nA d).2.2⟩:=rfl;generalize hcc:vS d=c at *;have aah:=fun(km aC:Nat) (S:St) (hg:S.g km=some (.map []))=>RY (ks:=[]) (x:=c[0]) (aC:=aC) Zb trivial (by simp) (by simp) hg
  simp[jc,aj] at aah;simp[Gd,hc0,aah,jw,jh,Zin];refine uJ (d.next.length+1) (loI d c) (Oh c) 10 (Oi d) (([0],[jT c 0],[],[]),(false,false,false)) ⟨rfl,fun m hm=>by omega⟩ ?_ ?_
  ·refine bL.of [(0,0),(1,1),(2,21),(3,9)] [] (by omega) ⟨by simp,by simp⟩ ?_ ?_
   ·simp[Oi,zk,rV,iV,jc]
    have aaL:c[0]=jT c 0:=by rw[jT,List.getD_eq_getElem?_getD,List.getElem?_eq_getElem hc0];rfl
    rw[aaL];exact zM (zR (enc:=aj) aS [jT c 0] 0)
   ·simp[Oh,zi]
    exact .cl (.sl _ _ (aL (aS _) aU))
  ·rintro i ⟨⟨os,ks,nx,en⟩,oo,oN,oE⟩ hi ⟨heq,hmin⟩
   simp only[Prod.mk.injEq] at heq;obtain⟨ho,hk,hne⟩:=heq;have ok:=MJ R c i hmin;have hle:=ok.le;have hlen:=ok.len;have hnd:=ok.nd;generalize hst:ku d c i=st at *;obtain⟨one,nx',en'⟩:=st;simp only[Prod.mk.injEq] at ho hk hne hle hlen hnd;obtain⟨rfl,rfl⟩:=hne;have hol:os.length=one.length:=by rw[ho,Zj6]
   by_cases hlt:i < one.length
   ·obtain⟨q,hq⟩:∃q,one[i]? = some q:=⟨_,List.getElem?_eq_getElem hlt⟩
    have Ew:q < d.next.length:=ok.lt q (by obtain⟨h1,h2⟩:=List.getElem?_eq_some_iff.mp hq;rw[←h2];exact List.getElem_mem h1)
    have hoi:i < os.length:=by omega
    have hoq:os[i]? = some (q:Int):=by rw[ho];exact Zj5 hq
    obtain⟨_,ab9⟩:=List.getElem?_eq_some_iff.mp hoq;have hrl:((d.next[q]).length:Int)=d.signs:=R.row q Ew;have hsa:=fun(k:Nat) (h:(k:Int) < d.signs)=>DR R Ew (s:=(k:Int)) (by omega) h
    have hgq:d.next.getD q []=d.next[q]:=by rw[List.getD_eq_getElem?_getD,List.getElem?_eq_getElem Ew];rfl
    have hfl:q < d.fin.length:=by have:=R.fin;omega
    have Tx:d.fin[q]=jR d q:=by rw[jR,List.getD_eq_getElem?_getD,List.getElem?_eq_getElem hfl];rfl
    have ZQ:(i:Int) < os.length:=by omega
    have hm0:(0:Int)≤d.signs:=by omega
    have hmk:8*d.signs≤281474976710656:=by omega
    have N7:d.signs≤9223372036854775807:=by omega
    have hnx:ku d c (i+1)=((om c (fun s=>bQ d q s) d.signs.toNat one).1,nx++[(om c (fun s=>bQ d q s) d.signs.toNat one).2],en++[jR d q]):=by
     simp only[ku,hst,Og,hq]
    generalize hrow:d.next[q]=row at *
    simp[Oh,zi,Oi,zk,ZQ,D7,hm0,hmk,N7,hoi,ab9,Ew,hrl,hrow,Zio];refine uJ d.signs.toNat (lrI d c q one) (G7 d c i row) 10 (G8 d nx en oN oE) ((os,ks,List.replicate d.signs.toNat 0),oo) ⟨ho,hk,by simp,by simp[om]⟩ ?_ ?_
    ·refine bL.of [(0,0),(1,1),(2,2),(3,3),(4,4),(5,5),(6,6),(7,16)] [] (by omega) ⟨by simp,by simp⟩ ?_ ?_
     ·simp[G8,zk,rV,iV]
      exact zM (zR aS _ _)
     ·simp[G7,zi]
    ·rintro k ⟨⟨os1,C8,rw⟩,o1⟩ hkn ⟨h1,h2,h3,h4⟩
     simp only at h1 h2 h3 h4;have hro:=XO (c:=c) (t:=fun s=>bQ d q s) hnd k;have hlr:om c (fun s=>bQ d q s) (k+1) one=((sN c (om c (fun s=>bQ d q s) k one).1 (bQ d q k)).1,(om c (fun s=>bQ d q s) k one).2++[((sN c (om c (fun s=>bQ d q s) k one).1 (bQ d q k)).2:Int)]):=rfl;generalize hp:om c (fun s=>bQ d q s) k one=p at *;obtain⟨iX,r⟩:=p;simp only at h1 h2 h4 hlr hro;have ZR:os1.length=iX.length:=by rw[h1,Zj6]
     have aaZ:C8.length=iX.length:=by rw[h2,List.length_map]
     have hle1:iX.length≤d.next.length:=by
      refine Qt _ _ ((List.pairwise_map.mp hro.nd).imp (fun h e=>h (congrArg _ e))) (fun x hx=>?_);rcases hro.new x hx with h | ⟨s,hs,rfl⟩
      ·exact ok.lt x h
      ·exact xA R Ew (by omega) (by omega)
     by_cases hkl:(k:Int) < d.signs
     ·obtain⟨hj,hs1,hs2⟩:=hsa k hkl
      have hkn':k < d.signs.toNat:=by omega
      have hkr:k < row.length:=by omega
      have hs3:row[k]=(bQ d q k:Int):=hs1;generalize ht:bQ d q k=t at *;have htc:t < c.length:=by omega
      have hct:c[t]=jT c t:=by rw[jT,List.getD_eq_getElem?_getD,List.getElem?_eq_getElem htc];rfl
      have BD:k < rw.length:=by omega
      have hkm:(k:Int) < max d.signs 0:=by omega
      have hrw:d.signs≤rw.length:=by omega
      have Au:=fun(km aC:Nat) (S:St) (hg:S.g km=some (.map (jc aj 0 C8)))=>YU (x:=jT c t) (aC:=aC) Zb trivial (fun _ _=>trivial) hg
      simp only[aj] at Au;have hok:dV 8 os1.length 1:=by unfold dV;omega
      by_cases hin:jT c t∈C8
      ·have hln:sN c iX t=(iX,C8.idxOf (jT c t)):=by rw[sN,←h2,if_pos hin]
       rw[hln] at hlr;simp[G7,zi,G8,zk,hkl,hkr,hs3,htc,hct,Au,hin,BD,hkm,hrw];rw[bG _ (by omega)];refine⟨hkn',((os1,C8,rw.set k (C8.idxOf (jT c t))),o1),⟨by rw[hlr];exact h1,by rw[hlr];exact h2,by simpa using h3,?_⟩,bL.of [(0,0),(1,1),(2,2),(3,3),(4,4),(5,5),(6,6),(7,7)] [] (by omega) ⟨by simp,by simp⟩ ?_ ?_⟩
       ·simp only;rw[hlr,ZgM _ _ _ BD,h4]
       ·simp[G8,zk,rV,iV]
        exact⟨Zfn _ _ _,zM (zR aS _ _)⟩
       ·simp[G7,zi]
      ·have hln:sN c iX t=(iX++[t],iX.length):=by rw[sN,←h2,if_neg hin]
       rw[hln] at hlr;have TG:=fun(km aC:Nat) (S:St) (hg:S.g km=some (.map (jc aj 0 C8)))=>RY (x:=jT c t) (aC:=aC) Zb trivial (fun _ _=>trivial) hin hg
       simp only[aj,aaZ,←ZR] at TG;simp[G7,zi,G8,zk,hkl,hkr,hs3,htc,hct,Au,hin,BD,TG,hok,hkm,hrw];rw[bG _ (by omega)];refine⟨hkn',((os1++[(t:Int)],C8++[jT c t],rw.set k os1.length),true),⟨by rw[hlr];simp only;rw[Zn0,h1],by rw[hlr];simp only;rw[List.map_append,h2];rfl,by simpa using h3,?_⟩,bL.of [(0,0),(1,1),(2,2),(3,3),(4,42),(5,5),(6,6),(7,7)] [] (by omega) ⟨by simp,by simp⟩ ?_ ?_⟩
       ·simp only;rw[hlr,ZgM _ _ _ BD,h4,ZR]
       ·simp[G8,zk,rV,iV]
        exact⟨Zfn _ _ _,zM (zR aS _ _)⟩
       ·simp[G7,zi]
     ·have hke:k=d.signs.toNat:=by omega
      have hrr:rw=r:=by rw[←h4,hke,←h3,List.take_length]
      have TM:dV 24 nx.length 1:=by have:=ok.nx;simp only at this;unfold dV;omega
      have TL:dV 1 en.length 1:=by have:=ok.en;simp only at this;unfold dV;omega
      have hpre:=hro.pre i q hq;have ab7:i < os1.length:=by rw[ZR];exact(List.getElem?_eq_some_iff.mp hpre).1
      have ab8:os1[i]? = some (q:Int):=by rw[h1];exact Zj5 hpre
      obtain⟨_,abb⟩:=List.getElem?_eq_some_iff.mp ab8;simp[G7,zi,G8,zk,hkl,ab7,abb,hfl,Tx,TM,TL,Zil];rw[bG _ (by omega)];refine⟨by rintro j (⟨_,rfl⟩ | rfl)<;>simp,by rintro j (⟨_,rfl⟩ | rfl)<;>simp,by rintro j (⟨_,rfl⟩ | rfl)<;>simp,by omega,((os1,C8,nx++[rw],en++[jR d q]),(o1,true,true)),⟨?_,fun m hm=>?_⟩,bL.of [(0,0),(1,1),(2,2),(3,3),(4,4),(5,15),(6,27)] [7] (by omega) ⟨by simp,by simp⟩ ?_ ?_⟩
      ·simp only;rw[hnx,←hke,hp,h1,h2,hrr]
      ·by_cases qR:m=i
       ·subst qR;rw[hst];exact hlt
       ·exact hmin m (by omega)
      ·simp[Oi,zk,rV,iV,h3]
       exact zM (zR aS _ _)
      ·simp[Oh,zi]
   ·have hie:i=one.length:=by omega
    have hlast:nA d=(one,nx,en):=by
     obtain⟨k,e1,e2,e3,e4⟩:=hspec
     have hki:k=i:=by
      rcases Nat.lt_trichotomy k i with h | h | h
      ·have:=hmin k h
       rw[←e1] at this;omega
      ·exact h
      ·have:=e3 i h
       rw[hst] at this;simp only at this;omega
     rw[e1,hki,hst]
    rw[hlD,hlast];have ZQ:¬(i:Int) < os.length:=by omega
    simp[Oh,zi,Oi,zk,ZQ,Zim,bR,bX,RV.ev,gH,cO,rV];refine .Ig (.cons (.Ls (.cons (.closed _ (.v _)) (.cons (Bp ?_ (jd _)) (.cons (Bp ?_ (jP _)) .nil)))) (.cons (.closed _ (.v _)) .nil))
    ·simp
    ·simp
def Zlz:AC:= (.block 2 (.loop (.seq (sq [rm 19 7,rm 20 6,ro 21 (.bin .lss (.t 19) (.t 20)),rm 22 21,rg 23 22 true (.mv (.t 3)),rg 24 22 true (.mv (.t 6)),rg 25 22 true (.aI 1 (.t 23) (.t 24)),rg 26 22 true (.load none (.t 25)),rg 27 22 true (.mv (.t 7)),rg 28 22 true (.aI 1 (.t 26) (.t 27)),rg 29 22 true (.load none (.t 28)),ro 30 (.pick (.t 22) (.t 29) (.c (.v (.bool false))))] (.cond (.t 30) .skip (.exit 2))) (.block 3 (.reg none [rm 31 7,ro 32 (.bin .add (.t 31) (ci 1)),rm 7 32])))))
def ZoJ:AC:= (sq [rm 33 7,rm 34 6,ro 35 (.bin .lss (.t 33) (.t 34))] (.cond (.t 35) (.reg none [rm 36 4,rm 37 4,rm 38 7,ro 39 (.aI 1 (.t 37) (.t 38)),rL 40 39,ro 41 (.dn 1 1 (.v (.int .i64 0)) [(0,(.t 40))]),ro 42 (.app 1 8 (.t 36) (.t 41)),rm 4 42]) (sq [rm 43 4,rm 44 5,ro 45 (.dn 1 1 (.v (.int .i64 0)) [(0,(.t 44))]),ro 46 (.app 1 8 (.t 43) (.t 45)),rm 4 46] (.reg none [rm 47 5,ro 48 (.bin .add (.t 47) (ci 1)),rm 5 48]))))
def Z8e(AA P3e:FuncId):AC:= (sq [ro 1 (.box 3 (.t 0)),ro 2 (.mv (.c (.sl true [])))] (.seq (sq [ro 8 (.load (some 3) (.t 1)),rk 9 AA [(.t 8)],ro 10 (.un .not (.t 9))] (.cond (.t 10) (sq [ro 2 (.mv (.c (.sl true [])))] .ret) .skip)) (sq [ro 11 (.load (some 3) (.t 1)),rk 12 P3e [(.t 11)],rm 3 12] (sq [ro 4 (.mv (.c (.sl true [])))] (sq [ro 5 (.mv (ci 0))] (.seq (sq [ro 6 (.mv (ci 0))] (.block 0 (.loop (.seq (sq [rm 13 6,rm 14 3,ro 15 (.len (.t 14)),ro 16 (.bin .lss (.t 13) (.t 15))] (.cond (.t 16) .skip (.exit 0))) (.seq (.block 1 (sq [ro 7 (.mv (ci 0))] (.seq Zlz ZoJ))) (.reg none [rm 17 6,ro 18 (.bin .add (.t 17) (ci 1)),rm 6 18])))))) (sq [rm 49 4,rm 2 49] .ret)))))))
def ZoL:AC:= (.reg (some [[],[],[],[],[],[true],[false,true],[false,false,true],[false,false,false,true],[false,false,false,false,true],[false,false,false,false,false,true],[false,false,false,false,false,false,true],[false,false,false,false,false,false,false,true],[false,false,false,false,false,false,false,false,true],[false,false,false,false,false,false,false,false,false,true],[false,false,false,false,false,false,false,false,false,false,true],[],[true]]) [rF 77 1 6,rL 78 77,rm 79 8,ro 80 (.dn 1 1 (.sl true []) [(0,(.t 79))]),ro 81 (.app 1 24 (.t 78) (.t 80)),rF 82 2 6,rL 83 82,rF 84 2 1,rL 85 84,rm 86 5,rm 87 7,ro 88 (.aI 1 (.t 86) (.t 87)),rL 89 88,ro 90 (.aI 1 (.t 85) (.t 89)),rL 91 90,ro 92 (.dn 1 1 (.v (.bool false)) [(0,(.t 91))]),ro 93 (.app 1 1 (.t 83) (.t 92)),rF 94 1 6,rn (.store 1 (.t 94) (.t 81)),rF 95 2 6,rn (.store 1 (.t 95) (.t 93))])
def ZlB:AC:= (.block 4 (.loop (.seq (.seq (.reg (some []) [rm 45 11,rm 46 5,ro 47 (.len (.t 46)),ro 48 (.bin .lss (.t 45) (.t 47)),rm 49 48,rg 50 49 true (.mv (.t 4)),rg 51 49 true (.mv (.t 5)),rg 52 49 true (.mv (.t 11)),rg 53 49 true (.aI 1 (.t 51) (.t 52)),rg 54 49 true (.load none (.t 53)),rg 55 49 true (.aI 1 (.t 50) (.t 54)),rg 56 49 true (.load none (.t 55)),rg 57 49 true (.mv (.t 4)),rg 58 49 true (.mv (.t 10)),rg 59 49 true (.aI 1 (.t 57) (.t 58)),rg 60 49 true (.load none (.t 59)),rg 61 49 true (.bin .neq (.t 56) (.t 60)),ro 62 (.pick (.t 49) (.t 61) (.c (.v (.bool false))))]) (.cond (.t 62) .skip (.exit 4))) (.block 5 (.reg none [rm 63 11,ro 64 (.bin .add (.t 63) (ci 1)),rm 11 64])))))
def ZoO:AC:= (.block 2 (.loop (.seq (sq [rm 28 9,rF 29 0 1,rL 30 29,ro 31 (.bin .lss (.t 28) (.t 30))] (.cond (.t 31) .skip (.exit 2))) (.seq (.block 3 (.seq (.reg (some []) [rF 34 1 1,rL 35 34,rm 36 5,rm 37 7,ro 38 (.aI 1 (.t 36) (.t 37)),rL 39 38,ro 40 (.aI 1 (.t 35) (.t 39)),rL 41 40,rm 42 9,ro 43 (.aI 1 (.t 41) (.t 42)),rL 44 43,rm 10 44]) (sq [ro 11 (.mv (ci 0))] (.seq ZlB (.seq (sq [rm 65 11,rm 66 5,ro 67 (.len (.t 66)),ro 68 (.bin .eql (.t 65) (.t 67))] (.cond (.t 68) (.reg none [rm 69 5,rm 70 10,ro 71 (.dn 1 1 (.v (.int .i64 0)) [(0,(.t 70))]),ro 72 (.app 1 8 (.t 69) (.t 71)),rm 5 72]) .skip)) (.reg none [rm 73 8,rm 74 11,ro 75 (.dn 1 1 (.v (.int .i64 0)) [(0,(.t 74))]),ro 76 (.app 1 8 (.t 73) (.t 75)),rm 8 76])))))) (.reg none [rm 32 9,ro 33 (.bin .add (.t 32) (ci 1)),rm 9 33])))))
def ZoN:AC:= (.block 0 (.loop (.seq (sq [rm 22 7,rm 23 5,ro 24 (.len (.t 23)),ro 25 (.bin .lss (.t 22) (.t 24))] (.cond (.t 25) .skip (.exit 0))) (.seq (.block 1 (sq [ro 8 (.mv (.c (.sl true [])))] (.seq (sq [ro 9 (.mv (ci 0))] ZoO) ZoL))) (.reg none [rm 26 7,ro 27 (.bin .add (.t 26) (ci 1)),rm 7 27])))))
def ZoM:AC:= (sq [ro 96 (.load (some 3) (.t 6)),rn (.store 3 (.t 2) (.t 96)),ro 3 (.mv (ci 0))] .ret)
def ZaA(AA P2L:FuncId):AC:= (sq [ro 1 (.box 3 (.t 0)),ro 2 (.alloc (.agg [(.v (.int .i64 0)),(.sl true []),(.sl true [])]) 3),ro 3 (.mv (ci 0))] (.seq (sq [ro 12 (.load (some 3) (.t 1)),rk 13 AA [(.t 12)],ro 14 (.un .not (.t 13))] (.cond (.t 14) (sq [ro 15 (.build (.agg [(.v (.int .i64 0)),(.sl true []),(.sl true [])]) [] []),rn (.store 3 (.t 2) (.t 15)),ro 3 (.mv (ci 1))] .ret) .skip)) (sq [ro 16 (.load (some 3) (.t 1)),rk 17 P2L [(.t 16)],rm 4 17] (sq [ro 18 (.dn 1 1 (.v (.int .i64 0)) [(0,(ci 0))]),rm 5 18] (sq [rF 19 0 1,rL 20 19,ro 21 (.build (.agg [(.v (.int .i64 0)),(.sl true []),(.sl true [])]) [(0,1)] [(0,(.t 20))]),ro 6 (.alloc (.agg [(.v (.int .i64 0)),(.sl true []),(.sl true [])]) 3),rn (.store 3 (.t 6) (.t 21))] (.seq (sq [ro 7 (.mv (ci 0))] ZoN) ZoM))))))
def PI:AC:= (sq [ro 4 (.mv (ci 0))] (.seq (.reg (some [[],[],[],[],[],[],[],[],[],[false,false,false,false,false,false,false,true,true],[true],[false,true],[false,false,true],[false,false,false,true],[false,false,false,false,true],[false,false,false,false,false,true],[false,false,false,false,false,false,false,false,false,false,false,false,false,false,true,true],[],[],[],[false,false,false,false,false,false,false,false,false,false,false,false,false,false,false,false,false,false,true]]) [rm 5 0,rm 6 0,rm 7 0,ro 8 (.iU (.t 7)),rF 9 0 8,rF 10 1 9,rL 11 10,rm 12 1,ro 13 (.dn 1 1 (.sl true []) [(0,(.t 12))]),ro 14 (.app 1 24 (.t 11) (.t 13)),rm 15 0,ro 16 (.iU (.t 15)),rF 17 0 16,rF 18 2 17,rL 19 18,ro 20 (.dn 1 1 (.sl true []) [(0,(.c (.sl true [])))]),ro 21 (.app 1 24 (.t 19) (.t 20)),ro 22 (.iU (.t 5)),rF 23 0 22,rF 24 1 23,rn (.store 1 (.t 24) (.t 14)),ro 25 (.iU (.t 6)),rF 26 0 25,rF 27 2 26,rn (.store 1 (.t 27) (.t 21))]) (sq [rm 28 0,ro 29 (.iU (.t 28)),rF 30 0 29,rF 31 1 30,rL 32 31,ro 33 (.len (.t 32)),ro 34 (.bin .sub (.t 33) (ci 1)),rm 4 34] .ret)))
def Zls(uU sD:FuncId):AC:= (.loop (sq [ro 11 (.bin .lss (.t 10) (.t 9))] (.seq (.cond (.t 11) .skip (.exit 0)) (.seq (.block 1 (sq [ro 12 (.aI 1 (.t 8) (.t 10)),rL 13 12,rm 7 13] (.reg (some []) [rm 14 0,ro 15 (.iU (.t 14)),rF 16 0 15,rF 17 2 16,rL 18 17,rm 19 7,rm 20 0,ro 21 (.iU (.t 20)),rF 22 0 21,rF 23 2 22,rL 24 23,rm 25 7,ro 26 (.aI 1 (.t 24) (.t 25)),rL 27 26,rm 28 2,ro 29 (.dn 1 2 (.sl true []) [(0,(.t 27)),(1,(.t 28))]),rk 30 uU [(.t 29)],rk 31 sD [(.t 30)],ro 32 (.aI 1 (.t 18) (.t 19)),rn (.store 1 (.t 32) (.t 31))]))) (.reg none [ro 33 (.bin .add (.t 10) (ci 1)),rm 10 33])))))
def PD(uU sD:FuncId):AC:= (sq [rm 8 1,ro 9 (.len (.t 8)),ro 10 (.mv (ci 0))] (.block 0 (Zls uU sD)))
theorem Zjz{P:Program}(hm:P.follows .mixedOrders=true){f:FuncId}(h:Is P f PI [4] 2)(sg:Int)(o:Bool)(b:List Int)(st:Gs)(hs:st.fo.length=st.aB.length)(hl:st.aB.length≤100000) :
  oV P f [aA b] sg o st ⟨st.aB++[b],st.fo++[[]]⟩ (aj st.aB.length):=by
 refine h.xg hm rfl ?_;have ok1:dV 24 st.aB.length 1:=by unfold dV;omega
 have ok2:dV 24 st.fo.length 1:=by unfold dV;omega
 have hw:=bG (st.aB.length:Int) (by omega);simp[oP,oM,oH,oO,oI,jF,oZ,oU,oQ,lQ,dN,eZ,d9,eF,dZ,fQ,fU,fV,fP,fE,gu,fF,fG,fK,gy,dx,dL,fq,ex,au,bS,dM,dY,bF,bJ,aG,bf,eY,dQ,fO,bO,dw,dz,oG,dD,dJ,oK,dP,dO,bB,oJ,oL,lZ,aj,PI,mG,bP,ok1,ok2,lu,hw];refine⟨by rintro j (⟨_,rfl⟩ | rfl)<;>simp,jA [(4,aj st.aB.length)],⟨10,cB (mG sg true ⟨st.aB++[b],st.fo++[[]]⟩ 0 3 4++[])⟩,bL.of [(0,0),(3,13),(4,20)] [] (by omega) ⟨by simp,by simp⟩ ?_ ?_,by simp[jA,aj],.of⟩
 ·simp[aA,mG,bP]
  exact .loose (by simp)
 ·simp
abbrev Sr(P:Program)(f:FuncId):Prop:=∀a b:List Int,a.length+b.length≤1000000→aO P f [.sl true [aA a,aA b]] (aA (a++b))
abbrev Jz(P:Program)(f:FuncId):Prop:=∀l:List Int,l.length≤17592186043904→aO P f [aA l] (aA (jl l))
def nfI(ss:List Int)(k:Nat)(_:Unit):Prop:=True
def Oo(ss be:List Int)(k:Nat)(_:Unit):List (Nat×AV):=[(0,.ptr 0 0 0),(2,aA be),(8,aA ss),(9,aj ss.length),(10,aj k)]
def Oq(sg:Int)(st:Gs)(ss be:List Int)(k:Nat)(_:Unit):List (Nat×Option aF):=mG sg true ⟨st.aB,kr st.fo (ss.take k) be⟩ 0 1 2
theorem ZfY{P:Program}(hm:P.follows .mixedOrders=true){f fc fs:FuncId}(h:Is P f (PD fc fs) [] 3)(hc:Sr P fc)(hset:Jz P fs)(sg:Int)(ss be:List Int)(st:Gs)(hst:rY st)
  (hss:jC st.aB.length ss) (hbe:jC st.aB.length be) (hl:st.aB.length≤100000):oV P f [aA ss,aA be] sg true st ⟨st.aB,kr st.fo ss be⟩ (.aN []):=by
 refine h.xg hm rfl ?_;have hsl:=hss.len;have hbl:=hbe.len;simp[PD,mG,bP,Zls];refine uJ ss.length (nfI ss) (Oo ss be) 3 (Oq sg st ss be) () trivial ?_ ?_
 ·refine bL.of [(0,0),(1,1),(2,2)] [] (by omega) ⟨by simp,by simp⟩ ?_ ?_
  ·simp[Oq,mG,bP,kr]
  ·simp[Oo]
 ·rintro k _ hk _
  by_cases hlt:k < ss.length
  ·have hsk:ss[k]? = some ss[k]:=List.getElem?_eq_getElem hlt
   have hsd:ss.getD k 0=ss[k]:=by rw[List.getD_eq_getElem?_getD,hsk];rfl
   have hs0:=hss.1.2 _ (List.getElem_mem hlt);have hs1:=hss.2 _ (List.getElem_mem hlt);have hfl:=DC (ss.take k) st.fo be;have hlen:=hst.len;have hrow:=ZiO (Yr (ss.take k) st.fo be hst.rows hbe) (ss[k]).toNat;have hrl:=hrow.len;have hcc:=hc ((kr st.fo (ss.take k) be).getD (ss[k]).toNat []) be (by omega);have abn:=hset ((kr st.fo (ss.take k) be).getD (ss[k]).toNat []++be) (by rw[List.length_append];omega);have htk:ss.take (k+1)=ss.take k++[ss[k]]:=by rw[List.take_add_one,hsk];rfl
   have hfs:=ZfX (ss.take k) st.fo ss[k] be;rw[←htk] at hfs;have hxl:(ss[k]).toNat < (kr st.fo (ss.take k) be).length:=by omega
   have abq:ss[k] < ((kr st.fo (ss.take k) be).length:Int):=by omega
   have hge:((kr st.fo (ss.take k) be))[(ss[k]).toNat]? = some ((kr st.fo (ss.take k) be).getD (ss[k]).toNat []):=by
    rw[List.getD_eq_getElem?_getD,List.getElem?_eq_getElem hxl];rfl
   have hgl:(kr st.fo (ss.take k) be)[(ss[k]).toNat]=(kr st.fo (ss.take k) be).getD (ss[k]).toNat []:=by
    rw[List.getD_eq_getElem?_getD,List.getElem?_eq_getElem hxl];rfl
   have D1:=fun n' g'=>nJ.cd (S:=⟨n',g'⟩) hcc (aL (.sl _ _ (aL (aR _) (aL (aR _) aU))) aU) (aR _)
   have D2:=fun n' g'=>nJ.cd (S:=⟨n',g'⟩) abn (aL (aR _) aU) (aR _)
   generalize hro:(kr st.fo (ss.take k) be).getD (ss[k]).toNat []=row at *;generalize hgx:ss[k]=x at *;generalize NU:kr st.fo (ss.take k) be=fo at *;simp[Oo,Oq,mG,bP,hlt,hgx,NU,lu,hxl,abq,hs0,hgl,bT,bA];refine⟨_,⟨_,D1 _ _⟩,_,⟨_,D2 _ _⟩,?_⟩;simp[lQ];rw[bG _ (by omega)];refine⟨hlt,(),trivial,bL.of [(0,0),(1,1),(2,2)] [] (by omega) ⟨by simp,by simp⟩ ?_ ?_⟩
   ·simp[Oq,mG,bP,hfs]
    rw[←List.map_set];exact .cl (jd _)
   ·simp[Oo]
  ·have hke:k=ss.length:=by omega
   subst hke;simp[Oo,Oq,mG,bP];refine⟨jA [],⟨10,cB (mG sg true ⟨st.aB,kr st.fo ss be⟩ 0 3 4++[])⟩,bL.of [(0,0),(3,1),(4,2)] [] (by omega) ⟨by simp,by simp⟩ ?_ ?_,.of⟩
   ·simp[mG,bP]
   ·simp
def ZtG:AC:= (.block 10 (.loop (.seq (sq [rm 59 10,rF 60 0 1,rL 61 60,ro 62 (.bin .lss (.t 59) (.t 61)),rm 63 62,rg 64 63 true (.mv (.t 4)),rg 65 63 true (.mv (.t 8)),rg 66 63 true (.aI 1 (.t 64) (.t 65)),rg 67 63 true (.load none (.t 66)),rg 68 63 true (.mv (.t 9)),rg 69 63 true (.aI 1 (.t 67) (.t 68)),rg 70 63 true (.load none (.t 69)),rg 71 63 true (.un .not (.t 70)),ro 72 (.pick (.t 63) (.t 71) (.c (.v (.bool false))))] (.cond (.t 72) .skip (.exit 10))) (.seq (.block 11 (.seq (.reg (some []) [rm 75 4,rF 76 1 1,rL 77 76,rm 78 8,ro 79 (.aI 1 (.t 77) (.t 78)),rL 80 79,rm 81 10,ro 82 (.aI 1 (.t 80) (.t 81)),rL 83 82,ro 84 (.aI 1 (.t 75) (.t 83)),rL 85 84,rF 86 1 1,rL 87 86,rm 88 9,ro 89 (.aI 1 (.t 87) (.t 88)),rL 90 89,rm 91 10,ro 92 (.aI 1 (.t 90) (.t 91)),rL 93 92,ro 94 (.aI 1 (.t 85) (.t 93)),rL 95 94]) (.cond (.t 95) (.seq (.reg (some [[],[],[],[],[],[],[],[],[],[],[],[false,true]]) [rm 96 4,rm 97 8,ro 98 (.aI 1 (.t 96) (.t 97)),rL 99 98,rm 100 9,rm 101 4,rm 102 9,ro 103 (.aI 1 (.t 101) (.t 102)),rL 104 103,rm 105 8,ro 106 (.aI 1 (.t 99) (.t 100)),rn (.store 1 (.t 106) (.c (.v (.bool true)))),ro 107 (.aI 1 (.t 104) (.t 105)),rn (.store 1 (.t 107) (.c (.v (.bool true))))]) (.reg none [ro 7 (.mv (.c (.v (.bool true))))])) .skip))) (.reg none [rm 73 10,ro 74 (.bin .add (.t 73) (ci 1)),rm 10 74])))))
def ZtE:AC:= (.block 8 (.loop (.seq (sq [rm 54 9,rm 55 8,ro 56 (.bin .lss (.t 54) (.t 55))] (.cond (.t 56) .skip (.exit 8))) (.seq (.block 9 (sq [ro 10 (.mv (ci 0))] ZtG)) (.reg none [rm 57 9,ro 58 (.bin .add (.t 57) (ci 1)),rm 9 58])))))
def ZtD:AC:= (.block 6 (.loop (.seq (sq [rm 49 8,rm 50 3,ro 51 (.bin .lss (.t 49) (.t 50))] (.cond (.t 51) .skip (.exit 6))) (.seq (.block 7 (sq [ro 9 (.mv (ci 0))] ZtE)) (.reg none [rm 52 8,ro 53 (.bin .add (.t 52) (ci 1)),rm 8 53])))))
def ZtH:AC:= (.block 4 (.loop (.seq (sq [rm 48 7] (.cond (.t 48) .skip (.exit 4))) (.block 5 (sq [ro 7 (.mv (.c (.v (.bool false))))] (sq [ro 8 (.mv (ci 0))] ZtD))))))
def ZtC:AC:= (.block 2 (.loop (.seq (sq [rm 26 6,rm 27 3,ro 28 (.bin .lss (.t 26) (.t 27))] (.cond (.t 28) .skip (.exit 2))) (.seq (.block 3 (.reg (some []) [rm 31 4,rm 32 5,ro 33 (.aI 1 (.t 31) (.t 32)),rL 34 33,rm 35 6,rF 36 2 1,rL 37 36,rm 38 5,ro 39 (.aI 1 (.t 37) (.t 38)),rL 40 39,rF 41 2 1,rL 42 41,rm 43 6,ro 44 (.aI 1 (.t 42) (.t 43)),rL 45 44,ro 46 (.beq true (.t 40) (.t 45)),ro 47 (.aI 1 (.t 34) (.t 35)),rn (.store 1 (.t 47) (.t 46))])) (.reg none [rm 29 6,ro 30 (.bin .add (.t 29) (ci 1)),rm 6 30])))))
def ZtF:AC:= (.block 0 (.loop (.seq (sq [rm 16 5,rm 17 3,ro 18 (.bin .lss (.t 16) (.t 17))] (.cond (.t 18) .skip (.exit 0))) (.seq (.block 1 (sq [rm 21 4,rm 22 5,rm 23 3,ro 24 (.wF 1 1 (.v (.bool false)) (.t 23) (.t 23)),ro 25 (.aI 1 (.t 21) (.t 22)),rn (.store 1 (.t 25) (.t 24))] (sq [ro 6 (.mv (ci 0))] ZtC))) (.reg none [rm 19 5,ro 20 (.bin .add (.t 19) (ci 1)),rm 5 20])))))
def Zlh:AC:= (.seq (sq [ro 7 (.mv (.c (.v (.bool true))))] ZtH) (sq [rm 108 4,rm 2 108] .ret))
def Z9c:AC:= (sq [ro 1 (.box 3 (.t 0)),ro 2 (.mv (.c (.sl true [])))] (sq [rF 11 1 1,rL 12 11,ro 13 (.len (.t 12)),rm 3 13] (sq [rm 14 3,ro 15 (.wF 1 24 (.sl true []) (.t 14) (.t 14)),rm 4 15] (.seq (sq [ro 5 (.mv (ci 0))] ZtF) Zlh))))
end Go.Rf
namespace Go.Rf
open Go.RowKit
theorem Zgy{d:aD}(R:bD d):r9 d:=by
 have h1:=R.n2;have h2:=R.fin;have h3:=R.s1;have h4:=R.s2;refine⟨by unfold Len;omega,by unfold Len;omega,fun r hr=>?_,by omega⟩;obtain⟨i,hi,rfl⟩:=List.getElem_of_mem hr;have:=R.row i hi;unfold Len;omega
end Go.Rf
namespace Go.Rf
open Go.RowKit
attribute [local simp] oP oM oH pU pK pR pO oO qw pQ oI pI jv jE jF jK qm qQ qO qN qH qP oZ oU qy qd qx qK qJ qF qA qg qz qM qL oQ lQ pV qh qj pJ pG dN gL fJ gJ ig fI gK iq gX gV gY eZ gQ gZ gP d9 eF gU iN iK iM iL iO gD fM fH dZ fQ fU fV fP fE iH iw gT iF iC iE iD iG iI iA gu fF fG fK gy dx dL fq iB iJ ex au bS dM dY bF bJ aG bf dU eY dQ fO gN gM iy gW bO dw dz eD eu fZ dR bC pz oG dD dJ pW pE ql oK eB eX eP eU dW dh dS dP dO bB qD oJ oL qc pF pY qb qp lZ pX qo qE S0 aj aH rA rD rO rz rC rG rJ rE rH rU rR rT rQ rM rP kP dX.cl bH.cl aS bY aR iT jq kL kJ kK jD kF kI kE kQ iZ jP jd kR jQ jO jY kS kU kT kN jJ jL kV jW kM jX jM kH iQ kW
def Zlr(uU sD:FuncId):AC:= (.reg (some []) [rF 18 1 2,rL 19 18,rF 20 1 4,rL 21 20,ro 22 (.dn 1 2 (.sl true []) [(0,(.t 19)),(1,(.t 21))]),rk 23 uU [(.t 22)],rk 24 sD [(.t 23)],rF 25 2 2,rL 26 25,rF 27 2 4,rL 28 27,ro 29 (.dn 1 2 (.sl true []) [(0,(.t 26)),(1,(.t 28))]),rk 30 uU [(.t 29)],rk 31 sD [(.t 30)],rF 32 1 2,rn (.store 1 (.t 32) (.t 24)),rF 33 2 2,rn (.store 1 (.t 33) (.t 31))])
def Zlq(uU sD:FuncId):AC:= (.loop (sq [ro 8 (.bin .lss (.t 7) (.t 6))] (.seq (.cond (.t 8) .skip (.exit 0)) (.seq (.block 1 (sq [ro 9 (.aI 3 (.t 5) (.t 7)),ro 10 (.load (some 3) (.t 9)),ro 4 (.alloc (.agg [(.v (.bool false)),(.sl true []),(.sl true [])]) 3),rn (.store 3 (.t 4) (.t 10))] (sq [rF 11 0 2,rL 12 11,rm 13 12,rg 14 13 false (.dA 0 (.t 4)),rg 15 13 false (.load none (.t 14)),ro 16 (.pick (.t 13) (.c (.v (.bool true))) (.t 15)),rF 17 0 2,rn (.store 1 (.t 17) (.t 16))] (Zlr uU sD)))) (.reg none [ro 34 (.bin .add (.t 7) (ci 1)),rm 7 34])))))
def PU(uU sD:FuncId):AC:= (sq [ro 2 (.alloc (.agg [(.v (.bool false)),(.sl true []),(.sl true [])]) 3)] (.seq (sq [rm 5 0,ro 6 (.len (.t 5)),ro 7 (.mv (ci 0))] (.block 0 (Zlq uU sD))) (sq [ro 35 (.load (some 3) (.t 2)),rn (.store 3 (.t 2) (.t 35))] .ret)))
def Zlt(KT:FuncId):AC:= (.loop (sq [ro 11 (.bin .lss (.t 10) (.t 9))] (.seq (.cond (.t 11) .skip (.exit 0)) (.seq (.block 1 (sq [ro 12 (.aI 4 (.t 8) (.t 10)),ro 13 (.load (some 4) (.t 12)),ro 7 (.alloc (.agg [(.v (.int .i64 0)),(.sl true []),(.sl true []),(.sl true [])]) 4),rn (.store 4 (.t 7) (.t 13))] (.reg none [rm 14 5,rm 15 0,ro 16 (.load (some 4) (.t 7)),rk 17 KT [(.t 15),(.t 16)],ro 18 (.dn 3 1 (.agg [(.v (.bool false)),(.sl true []),(.sl true [])]) [(0,(.t 17))]),ro 19 (.app 3 56 (.t 14) (.t 18)),rm 5 19]))) (.reg none [ro 20 (.bin .add (.t 10) (ci 1)),rm 10 20])))))
def PK(KT:FuncId):AC:= (sq [ro 4 (.mv (.c (.sl true [])))] (sq [ro 5 (.mv (.c (.sl true [])))] (.seq (sq [rm 8 1,ro 9 (.len (.t 8)),ro 10 (.mv (ci 0))] (.block 0 (Zlt KT))) (sq [rm 21 5,rm 4 21] .ret))))
def Zlu(KM uU sD:FuncId):AC:= (.loop (sq [ro 12 (.bin .lss (.t 11) (.t 10))] (.seq (.cond (.t 12) .skip (.exit 0)) (.seq (.block 1 (sq [ro 13 (.aI 3 (.t 9) (.t 11)),ro 14 (.load (some 3) (.t 13)),ro 7 (.alloc (.agg [(.v (.bool false)),(.sl true []),(.sl true [])]) 3),rn (.store 3 (.t 7) (.t 14))] (sq [rm 15 0,rF 16 2 5,rL 17 16,rF 18 1 7,rL 19 18,rk 20 KM [(.t 15),(.t 17),(.t 19)]] (.seq (sq [rF 21 0 5,rL 22 21] (.cond (.t 22) (.reg none [rF 23 1 5,rL 24 23,rF 25 1 7,rL 26 25,ro 27 (.dn 1 2 (.sl true []) [(0,(.t 24)),(1,(.t 26))]),rk 28 uU [(.t 27)],rk 29 sD [(.t 28)],rF 30 1 5,rn (.store 1 (.t 30) (.t 29))]) .skip)) (.seq (sq [rF 31 0 7,rL 32 31,ro 33 (.un .not (.t 32))] (.cond (.t 33) (.reg none [rF 34 2 5,rn (.store 1 (.t 34) (.c (.sl true [])))]) .skip)) (sq [rF 35 2 5,rL 36 35,rF 37 2 7,rL 38 37,ro 39 (.dn 1 2 (.sl true []) [(0,(.t 36)),(1,(.t 38))]),rk 40 uU [(.t 39)],rk 41 sD [(.t 40)],rF 42 2 5,rn (.store 1 (.t 42) (.t 41))] (.reg none [rF 43 0 5,rL 44 43,rm 45 44,rg 46 45 true (.dA 0 (.t 7)),rg 47 45 true (.load none (.t 46)),ro 48 (.pick (.t 45) (.t 47) (.c (.v (.bool false)))),rF 49 0 5,rn (.store 1 (.t 49) (.t 48))]))))))) (.reg none [ro 50 (.bin .add (.t 11) (ci 1)),rm 11 50])))))
def PL(KM uU sD:FuncId):AC:= (sq [ro 4 (.alloc (.agg [(.v (.bool false)),(.sl true []),(.sl true [])]) 3)] (sq [ro 8 (.build (.agg [(.v (.bool false)),(.sl true []),(.sl true [])]) [(0,1)] [(0,(.c (.v (.bool true))))]),ro 5 (.alloc (.agg [(.v (.bool false)),(.sl true []),(.sl true [])]) 3),rn (.store 3 (.t 5) (.t 8))] (.seq (sq [rm 9 1,ro 10 (.len (.t 9)),ro 11 (.mv (ci 0))] (.block 0 (Zlu KM uU sD))) (sq [ro 51 (.load (some 3) (.t 5)),rn (.store 3 (.t 4) (.t 51))] .ret))))
def eH(e:Ed):AV:=.agg [aH e.bK,aA e.fst,aA e.aT]
theorem Fp(e:Ed):aY (eH e):=.agg _ (aL (bY _) (aL (aR _) (aL (aR _) aU)))
theorem mX(e:Ed):(eH e).cells=[aH e.bK,aA e.fst,aA e.aT]:=rfl
theorem Ja(e:Ed):(eH e).solid=true:=rfl
theorem Q8(e:Ed):AV.agg [.v (.bool e.bK),aA e.fst,aA e.aT]=eH e:=rfl
theorem Ztb(l:List Ed):tT 3 (l.map eH):=Mh (enc:=eH) (fun _=>rfl) l
theorem Yb(l:List Ed):Cls (l.map eH):=Je Fp l
theorem yN(l:List Ed):aY (.sl false (l.map eH)):=.sl _ _ (Yb l)
def nT(b:Bool):Ed:=⟨b,[],[]⟩
def neI(_:Nat)(_:Unit):Prop:=True
def Ol(es:List Ed)(k:Nat)(_:Unit):List (Nat×AV):=[(2,.ptr 0 0 0),(5,.sl false (es.map eH)),(6,aj es.length),(7,aj k)]
def Om(es:List Ed)(k:Nat)(_:Unit):List (Nat×Option aF):=[(0,some (.arr 3 [eH (tY (es.take k) (nT false))]))]
theorem Zhq{P:Program}{fc fs:FuncId}(hc:Sr P fc)(hset:Jz P fs)(es:List Ed)(hl:es.length≤100000)(he:∀e∈es,uF 100000 e) :
  bM P 0 (PU fc fs) (bR [.c 2 (some 3)] (iP (eH (tY es (nT false))))) (bU [.sl false (es.map eH)]) S0:=by
 simp[PU,Zlq];refine uJ es.length neI (Ol es) 5 (Om es) () trivial ?_ ?_
 ·refine bL.of [(0,0)] [] (by omega) ⟨by simp,by simp⟩ ?_ ?_
  ·simp[Om,tY,nT,eH]
   exact .loose (by simp)
  ·simp[Ol,yN]
 ·rintro k _ hk _
  by_cases hlt:k < es.length
  ·have hsk:es[k]? = some es[k]:=List.getElem?_eq_getElem hlt
   have htk:es.take (k+1)=es.take k++[es[k]]:=by rw[List.take_add_one,hsk];rfl
   have hsn:=Zb8 (es.take k) es[k] (nT false);rw[←htk] at hsn;have hek:=he _ (List.getElem_mem hlt);have hacc:=W9 (N:=100000) (es.take k) (nT false) ⟨jC.nil,jC.nil⟩ (fun e h=>he e (List.mem_of_mem_take h));generalize hgx:es[k]=e at *;generalize hac:tY (es.take k) (nT false)=acc at *;have l1:=hek.f.len;have l2:=hek.l.len;have l3:=hacc.f.len;have l4:=hacc.l.len;have D1:=fun n' g'=>nJ.cd (S:=⟨n',g'⟩) (hc acc.fst e.fst (by omega)) (aL (.sl _ _ (aL (aR _) (aL (aR _) aU))) aU) (aR _)
   have D2:=fun n' g'=>nJ.cd (S:=⟨n',g'⟩) (hset (acc.fst++e.fst) (by rw[List.length_append];omega)) (aL (aR _) aU) (aR _)
   have D3:=fun n' g'=>nJ.cd (S:=⟨n',g'⟩) (hc acc.aT e.aT (by omega)) (aL (.sl _ _ (aL (aR _) (aL (aR _) aU))) aU) (aR _)
   have D4:=fun n' g'=>nJ.cd (S:=⟨n',g'⟩) (hset (acc.aT++e.aT) (by rw[List.length_append];omega)) (aL (aR _) aU) (aR _)
   cases hn:acc.bK <;>
   ·simp[Ol,Om,hlt,hgx,hac,hn,mX,Zlr]
    refine⟨_,⟨_,D1 _ _⟩,_,⟨_,D2 _ _⟩,_,⟨_,D3 _ _⟩,_,⟨_,D4 _ _⟩,?_⟩;simp[lQ,lZ];rw[bG _ (by omega)];refine⟨hlt,(),trivial,bL.of [(0,0)] [] (by omega) ⟨by simp,by simp⟩ ?_ ?_⟩
    ·simp[Om,hsn,hn,eH]
    ·simp[Ol,yN]
  ·have hke:k=es.length:=by omega
   subst hke;simp[Ol,Om,mX,Ja,bR,bX,RV.ev,gH,cO,Q8];exact .closed _ (Fp _)
def FH(P:Program)(f:FuncId)(sg:Int)(q:aM):Prop:=∀st:Gs,rY st→st.aB.length+jH q≤10000→oV P f [jf q] sg true st (eT sg q st).2 (eH (eT sg q st).1)
def ngI(_:Nat)(_:Bool):Prop:=True
def Ot(sg:Int)(st:Gs)(ks:List aM)(k:Nat)(o:Bool):List (Nat×AV):=[(0,.ptr 0 0 0),(5,vV o 5 ((dG sg (ks.take k) st).1.map eH)),(8,.sl false (ks.map jf)),(9,aj ks.length),(10,aj k)]
def Ou(sg:Int)(st:Gs)(ks:List aM)(k:Nat)(o:Bool):List (Nat×Option aF):=(5,vB o 3 ((dG sg (ks.take k) st).1.map eH))::mG sg true (dG sg (ks.take k) st).2 0 3 4
theorem BO(l:List aM):aY (.sl false (l.map jf)):=.sl _ _ (Je xV l)
theorem Qh(sg:Int):∀(ks:List aM) (st:Gs),(dG sg ks st).1.length=ks.length
 | [],st=>by simp only[dG];rfl
 | q::qs,st=>by simp only[dG,List.length_cons];rw[Qh sg qs]
theorem ZsX{g:Nat→Option aF}{R:Nat→Nat→Prop}{F:List Nat}{o:Bool}{id:Nat}{xs:List AV}(hF:id∈F)(hg:g id=vB o 3 xs)(hc:Cls xs):bH (only F g) R (vV o id xs) (.sl false xs):=by
 cases o with
 | true=>rw[bT];rw[bA] at hg;exact .sQ hF hg rfl hc
 | false=>rw[jr];exact .loose hc
theorem Zpb{P:Program}(hm:P.follows .mixedOrders=true){f ff:FuncId}(h:Is P f (PK ff) [4] 2){sg:Int}{ks:List aM}(hl:ks.length≤100000)(hq:∀q∈ks,FH P ff sg q)
  (st:Gs) (hst:rY st) (hb:st.aB.length+lq ks≤10000):oV P f [.sl false (ks.map jf)] sg true st (dG sg ks st).2 (.sl false ((dG sg ks st).1.map eH)):=by
 refine h.xg hm rfl ?_;simp[PK,mG,bP,Zlt];refine uJ ks.length ngI (Ot sg st ks) 10 (Ou sg st ks) false trivial ?_ ?_
 ·refine bL.of [(0,0),(3,1),(4,2)] [] (by omega) ⟨by simp,by simp⟩ ?_ ?_
  ·simp[bT,bA,jN,Ou,mG,bP,dG]
  ·simp[bT,jr,bA,Ot,dG,BO]
 ·rintro k o hk _
  by_cases hlt:k < ks.length
  ·have hsk:ks[k]? = some ks[k]:=List.getElem?_eq_getElem hlt
   have htk:ks.take (k+1)=ks.take k++[ks[k]]:=by rw[List.take_add_one,hsk];rfl
   have hsn:=ZdH sg (ks.take k) ks[k] st;rw[←htk] at hsn;obtain⟨n1,n2,n3⟩:=QG sg (ks.take k) st hst
   have hcl:lq (ks.take k)+jH ks[k]≤lq ks:=by
    have h1:lq (ks.take (k+1))≤lq ks:=by
     have:=VY (ks.take (k+1)) (ks.drop (k+1));rw[List.take_append_drop] at this;omega
    rw[htk,VY] at h1;simp only[lq] at h1;omega
   have hqk:=hq _ (List.getElem_mem hlt) (dG sg (ks.take k) st).2 n1 (by omega);have hle:=Qh sg (ks.take k) st;rw[List.length_take] at hle;rcases hpq:ks[k] with⟨pk,ps,pg,EF⟩
   have hok:dV 56 (dG sg (ks.take k) st).1.length 1:=by unfold dV;omega
   generalize hge:dG sg (ks.take k) st=ge at *;obtain⟨es,st1⟩:=ge;simp only at hqk hsn n1 n2 n3 hok hle;rw[hpq] at hqk hsn;simp only[lY,aj] at hqk;have hcp:=xV (.mk pk ps pg EF);simp only[lY,aj] at hcp;have hok2:dV 56 (es.map eH).length 1:=by simpa using hok
   have hol:es.length≤100000:=by omega
   simp[Ot,Ou,mG,bP,hge,hlt,hpq,lY];refine oV.use hqk (fun _=>.cl (aL hcp aU)) (Fp _) (id:=0) (b:=3) (c:=4) ?_ ?_ ?_ (by simp) (by simp) ?_
   ·simp[bP]
   ·simp
   ·simp
   simp[nM,hok,mX,Ztb,Ja];rw[bG _ (by omega)];refine⟨hlt,true,trivial,bL.of [(0,0),(3,22),(4,23),(5,20)] [] (by omega) ⟨by simp,by simp⟩ ?_ ?_⟩
   ·simp[bT,bA,Ou,mG,bP,hsn,Yb,Fp]
   ·simp[bT,bA,Ot,hsn,BO]
  ·have hke:k=ks.length:=by omega
   subst hke;simp[Ot,Ou,mG,bP];refine⟨jA [(4,.sl false ((dG sg ks st).1.map eH))],⟨10,cB (mG sg true (dG sg ks st).2 0 3 4++[])⟩,bL.of [(0,0),(3,3),(4,4)] [5] (by omega) ⟨by simp,by simp⟩ ?_ ?_,by simp[jA],.of⟩
   ·simp[bT,bA,mG,bP]
   ·simp[bT,bA]
    exact ZsX (by simp) (by simp[cB]) (Yb _)
abbrev Zth(P:Program)(f:FuncId):Prop:=∀b:List Int,b.length≤1000000→aO P f [.sl true [.sl true [],aA b]] (aA b)
def njI(_:Nat)(_:Unit):Prop:=True
def EC(es:List Ed)(k:Nat)(_:Unit):List (Nat×AV):=[(0,.ptr 0 0 0),(4,.ptr 5 0 0),(5,.ptr 6 0 0),(9,.sl false (es.map eH)),(10,aj es.length),(11,aj k)]
def ED(sg:Int)(st:Gs)(es:List Ed)(k:Nat)(_:Unit):List (Nat×Option aF):=(5,some (.arr 3 [eH (nT false)]))::(6,some (.arr 3 [eH (lF (es.take k) (nT true) st).1]))::mG sg true (lF (es.take k) (nT true) st).2 0 3 4
theorem Zpt{P:Program}(hm:P.follows .mixedOrders=true){f ff fc fs:FuncId}(h:lN P f (PL ff fc fs) [.c 4 (some 3)] 2)(hc:Sr P fc)(hc0:Zth P fc)(hset:Jz P fs){sg:Int}
  (hf:∀(ss be:List Int) (st:Gs),rY st→jC st.aB.length ss→jC st.aB.length be→st.aB.length≤100000→oV P ff [aA ss,aA be] sg true st ⟨st.aB,kr st.fo ss be⟩ (.aN []))
  (es:List Ed) (hl:es.length≤100000) (st:Gs) (hst:rY st) (he:∀e∈es,uF st.aB.length e) (hb:st.aB.length≤10000):oV P f [.sl false (es.map eH)] sg true st (lF es (nT true) st).2 (eH (lF es (nT true) st).1):=by
 refine h.xg hm rfl ?_;simp[PL,mG,bP,Zlu,bC,jw,jh];refine uJ es.length njI (EC es) 10 (ED sg st es) () trivial ?_ ?_
 ·refine bL.of [(0,0),(3,1),(4,2),(5,3),(6,5)] [] (by omega) ⟨by simp,by simp⟩ ?_ ?_
  ·simp[bT,bA,ED,mG,bP,lF,nT,eH]
   exact .loose (by simp)
  ·simp[bT,bA,EC,yN]
 ·rintro k _ hk _
  by_cases hlt:k < es.length
  ·have hsk:es[k]? = some es[k]:=List.getElem?_eq_getElem hlt
   have htk:es.take (k+1)=es.take k++[es[k]]:=by rw[List.take_add_one,hsk];rfl
   have hsn:=ZdJ (es.take k) es[k] (nT true) st;rw[←htk] at hsn;have hek:=he _ (List.getElem_mem hlt);obtain⟨n1,n2⟩:=X9 (es.take k) (nT true) st hst ⟨jC.nil,jC.nil⟩ (fun e h=>he e (List.mem_of_mem_take h));have n3:=(Qo (es.take k) (nT true) st).1;generalize hgx:es[k]=e at *;generalize hac:lF (es.take k) (nT true) st=ac at *;obtain⟨acc,st1⟩:=ac;simp only at n1 n2 n3 hsn;have l1:=hek.f.len;have l2:=hek.l.len;have l3:=n2.f.len;have l4:=n2.l.len;have h1:=hf acc.aT e.fst st1 n1 (by rw[n3];exact n2.l) (by rw[n3];exact hek.f) (by rw[n3];omega);have D1:=hc acc.fst e.fst (by omega);have D2:=hset (acc.fst++e.fst) (by rw[List.length_append];omega);have D3:=hc acc.aT e.aT (by omega);have D4:=hset (acc.aT++e.aT) (by rw[List.length_append];omega);have D5:=hc0 e.aT (by omega);have D6:=hset e.aT (by omega);simp[EC,ED,mG,bP,hlt,hgx,hac,bC,mX];refine oV.use h1 (fun _=>.cl (aL (aR _) (aL (aR _) aU))) (.aN _ (by simp)) (id:=0) (b:=3) (c:=4) ?_ ?_ ?_ (by simp) (by simp) ?_
   ·simp[bP]
   ·simp
   ·simp
   cases hn1:acc.bK<;>cases hn2:e.bK
   ·simp[nM,mX,hn1]
    refine aQ.pure D5 (aL (.sl _ _ (aL (jD _) (aL (aR _) aU))) aU) (aR _) ?_;simp;refine aQ.pure D6 (aL (aR _) aU) (aR _) ?_;simp[lQ,lZ];rw[bG _ (by omega)];refine⟨hlt,(),trivial,bL.of [(0,0),(3,21),(4,22),(5,5),(6,6)] [] (by omega) ⟨by simp,by simp⟩ ?_ ?_⟩
    ·simp[bT,bA,ED,mG,bP,hsn,hn1,hn2,eH]
    ·simp[bT,bA,EC,yN]
   ·simp[nM,mX,hn1]
    refine aQ.pure D3 (aL (.sl _ _ (aL (aR _) (aL (aR _) aU))) aU) (aR _) ?_;simp;refine aQ.pure D4 (aL (aR _) aU) (aR _) ?_;simp[mX,lQ,lZ,hn1];rw[bG _ (by omega)];refine⟨hlt,(),trivial,bL.of [(0,0),(3,21),(4,22),(5,5),(6,6)] [] (by omega) ⟨by simp,by simp⟩ ?_ ?_⟩
    ·simp[bT,bA,ED,mG,bP,hsn,hn1,hn2,eH]
    ·simp[bT,bA,EC,yN]
   ·simp[nM,mX,hn1]
    refine aQ.pure D1 (aL (.sl _ _ (aL (aR _) (aL (aR _) aU))) aU) (aR _) ?_;simp;refine aQ.pure D2 (aL (aR _) aU) (aR _) ?_;simp[mX,lQ,lZ,hn1];refine aQ.pure D5 (aL (.sl _ _ (aL (jD _) (aL (aR _) aU))) aU) (aR _) ?_;simp;refine aQ.pure D6 (aL (aR _) aU) (aR _) ?_;simp[lQ,lZ];rw[bG _ (by omega)];refine⟨hlt,(),trivial,bL.of [(0,0),(3,21),(4,22),(5,5),(6,6)] [] (by omega) ⟨by simp,by simp⟩ ?_ ?_⟩
    ·simp[bT,bA,ED,mG,bP,hsn,hn1,hn2,eH]
    ·simp[bT,bA,EC,yN]
   ·simp[nM,mX,hn1]
    refine aQ.pure D1 (aL (.sl _ _ (aL (aR _) (aL (aR _) aU))) aU) (aR _) ?_;simp;refine aQ.pure D2 (aL (aR _) aU) (aR _) ?_;simp[mX,lQ,lZ,hn1];refine aQ.pure D3 (aL (.sl _ _ (aL (aR _) (aL (aR _) aU))) aU) (aR _) ?_;simp;refine aQ.pure D4 (aL (aR _) aU) (aR _) ?_;simp[lQ,lZ];rw[bG _ (by omega)];refine⟨hlt,(),trivial,bL.of [(0,0),(3,21),(4,22),(5,5),(6,6)] [] (by omega) ⟨by simp,by simp⟩ ?_ ?_⟩
    ·simp[bT,bA,ED,mG,bP,hsn,hn1,hn2,eH]
    ·simp[bT,bA,EC,yN]
  ·have hke:k=es.length:=by omega
   subst hke;simp[EC,ED,mG,bP,mX,JA];refine⟨jA [(4,.ptr 5 0 0)],⟨10,cB (mG sg true (lF es (nT true) st).2 0 3 4++[(5,some (.arr 3 [eH (lF es (nT true) st).1]))])⟩,bL.of [(0,0),(3,3),(4,4),(5,5)] [] (by omega) ⟨by simp,by simp⟩ ?_ ?_,?_⟩
   ·simp[bT,bA,mG,bP,eH]
   ·simp[bT,bA]
   ·simp[bR,bX,RV.ev,gH,cO,mG,mX,Q8]
    exact .of
end Go.Rf
namespace Go.Rf
open Go.RowKit
attribute [local simp] oP oM oH pU pK pR pO oO qw pQ oI pI jv jE jF jK qm qQ qO qN qH qP oZ oU qy qd qx qK qJ qF qA qg qz qM qL oQ lQ pV qh qj pJ pG dN gL fJ gJ ig fI gK iq gX gV gY eZ gQ gZ gP d9 eF gU iN iK iM iL iO gD fM fH dZ fQ fU fV fP fE iH iw gT iF iC iE iD iG iI iA gu fF fG fK gy dx dL fq iB iJ ex au bS dM dY bF bJ aG bf dU eY dQ fO gN gM iy gW bO dw dz eD eu fZ dR bC pz oG dD dJ pW pE ql oK eB eX eP eU dW dh dS dP dO bB qD oJ oL qc pF pY qb qp lZ pX qo qE S0 aj aH rA rD rO rz rC rG rJ rE rH rU rR rT rQ rM rP kP dX.cl bH.cl aS bY aR iT jq kL kJ kK jD kF kI kE kQ iZ jP jd kR jQ jO jY kS kU kT kN jJ jL kV jW kM jX jM kH iQ kW bT jr bA jN
def Ii:AC:= (sq [ro 3 (.mv (.c (.v (.bool false))))] (sq [rm 4 0,ro 5 (.bin .lss (.t 4) (ci 0)),rm 6 5,rg 7 6 false (.mv (.t 0)),rg 8 6 false (.load none (.t 1)),rg 9 6 false (.iU (.t 8)),rg 10 6 false (.dA 0 (.t 9)),rg 11 6 false (.dA 0 (.t 10)),rg 12 6 false (.load none (.t 11)),rg 13 6 false (.bin .geq (.t 7) (.t 12)),ro 14 (.pick (.t 6) (.c (.v (.bool true))) (.t 13)),rm 3 14] .ret))
def Zli:AC:= (.loop (.seq (sq [rm 16 6,rm 17 0,ro 18 (.len (.t 17)),ro 19 (.bin .lss (.t 16) (.t 18))] (.cond (.t 19) .skip (.exit 0))) (.seq (.block 1 (sq [rm 22 0,rm 23 6,ro 24 (.aI 1 (.t 22) (.t 23)),rL 25 24,rm 7 25] (sq [rm 26 1,rm 27 7,⟨(some 28),.mv (.c .junk),none,(some ((.t 26),[(.t 27)]))⟩,ro 29 (.un .not (.t 28))] (.cond (.t 29) (sq [rm 30 0,rm 31 5,rm 32 7,ro 33 (.aI 1 (.t 30) (.t 31)),rn (.store 1 (.t 33) (.t 32))] (.reg none [rm 34 5,ro 35 (.bin .add (.t 34) (ci 1)),rm 5 35])) .skip)))) (.reg none [rm 20 6,ro 21 (.bin .add (.t 20) (ci 1)),rm 6 21]))))
def Px(P20:FuncId):AC:= (sq [ro 4 (.mv (.c (.sl true [])))] (sq [rm 8 0,rm 9 1,rk 10 P20 [(.t 8),(.t 9)],rm 5 10] (.seq (sq [rm 11 5,ro 12 (.bin .eql (.t 11) (ci (-1)))] (.cond (.t 12) (sq [rm 13 0,rm 4 13] .ret) .skip)) (.seq (sq [rm 14 5,ro 15 (.bin .add (.t 14) (ci 1)),rm 6 15] (.block 0 Zli)) (sq [rm 36 0,rm 37 5,ro 38 (.slc 1 (.t 36) (some (.t 37)) none),rn (.J4 1 (.v (.int .i64 0)) (.t 38))] (sq [rm 39 0,rm 40 5,ro 41 (.slc 1 (.t 39) none (some (.t 40))),rm 4 41] .ret))))))
def lJ(sg n:Int):Bool:=decide (0≤n) && decide (n < sg)
def Km(sg:Int):AV:=.bN (.bN (.agg [aj sg]) 0) 0
theorem Zk3(sg:Int):aY (Km sg):=.bN _ _ (.bN _ _ (.agg _ (aL (aS _) aU)))
theorem ZdE{P:Program}(sg n:Int):bM P 0 Ii (gG [3] (iP (aH (!lJ sg n)))) (bU [aj n,Km sg]) S0:=by
 unfold Km lJ;by_cases h1:n < 0
 ·have h2:¬(0≤n):=by omega
  simp[Ii,h1,h2];exact jk _ _
 ·have h2:0≤n:=by omega
  by_cases h3:n < sg
  ·have h4:¬(sg≤n):=by omega
   simp[Ii,h1,h2,h3,h4,lu];exact jk _ _
  ·have h4:sg≤n:=by omega
   simp[Ii,h1,h2,h3,h4,lu];exact jk _ _
def nS(sg:Int)(o:Bool)(st:Gs)(l:List Int):List (Nat×Option aF):=(4,vB o 1 (l.map aj))::(3,some (.arr 1 [.ptr 0 0 0]))::mG sg true st 0 1 2
def Yc(sg:Int)(o:Bool)(st:Gs)(l:List Int)(r:AV)(S':St):Prop:=
 ∃xs:List Int,(r=if o=true then .own 4 0 (l.filter (lJ sg)).length else .sl true [])∧xs.take (l.filter (lJ sg)).length=l.filter (lJ sg)∧xs.length=l.length∧S'=⟨10,cB (nS sg o st xs)⟩
def dfI(sg:Int)(l:List Int)(i0 k:Nat)(s:List Int×Nat):Prop:=
 s.2=((l.take (i0+1+k)).filter (lJ sg)).length∧s.1.take s.2=(l.take (i0+1+k)).filter (lJ sg)∧s.1.drop (i0+1+k)=l.drop (i0+1+k)∧s.2 < i0+1+k∧s.1.length=l.length
def GI(f1:FuncId)(i0:Nat)(l:List Int)(k:Nat)(s:List Int×Nat):List (Nat×AV):=[(0,.own 4 0 l.length),(1,.aP f1 [] [.ptr 3 0 0]),(5,aj s.2),(6,aj ((i0+1+k:Nat):Int))]
def Am(sg:Int)(st:Gs)(_:Nat)(s:List Int×Nat):List (Nat×Option aF):=nS sg true st s.1
theorem Yt{g:Nat→Option aF}{sg:Int}{v w:AV}(h0:g 0=some (.arr 4 [bP sg v w]))(h3:g 3=some (.arr 1 [.ptr 0 0 0])):Fz g (.ptr 3 0 0) (Km sg):=
 .box 3 0 1 _ _ h3 (.pre 0 4 [aj sg] [v,w,.sl true []] h0 (aL (aS _) aU))
theorem ZvO{g:Nat→Option aF}{o:Bool}{id:Nat}{l:List Int}(hg:g id=vB o 1 (l.map aj)):Fz g (vV o id (l.map aj)) (aA l):=Bp hg (iZ l)
theorem ZmD{X:Type}{p:X→Bool}{l:List X}(h:l.any p=false):sM p l = -1:=by simp[sM,h]
theorem Ru{gF:Nat→Option aF}{R:Nat→Nat→Prop}{f:FuncId}{i j:Nat}(h:R j i):bH gF R (.aP f [] [.ptr i 0 0]) (.aP f [] [.ptr j 0 0]):=
 .aP f [] [.ptr i 0 0] [] [.ptr j 0 0] rfl rfl (fun k h1=>by simp at h1) (fun k h1 h2=>by simp at h1;subst h1;exact .ptr _ _ _ _ h)
theorem ZgN{xs:List Int}{i:Nat}{v:Int}(h:i < xs.length):(xs.set i v).take (i+1)=xs.take i++[v]:=by
 rw[List.take_add_one,List.take_set_of_le (Nat.le_refl i),List.getElem?_set_self h];rfl
theorem ZrL{P:Program}(hm:P.follows .mixedOrders=true){f fi f1:FuncId}(h:Is P f (Px fi) [4] 2){sg:Int}(l:List Int)(hl:l.length≤17592186043904)(o:Bool)(ho:o=true∨l=[])
  (hi:aO P fi [aA l,.aP f1 [] [Km sg]] (aj (sM (fun n=>!lJ sg n) l))) (hf:∀n,aO P f1 [aj n,Km sg] (aH (!lJ sg n))) (st:Gs) :
  aQ P f [vV o 4 (l.map aj),.aP f1 [] [.ptr 3 0 0]] ⟨5,cB (nS sg o st l)⟩ (Yc sg o st l):=by
 refine h.xg hm rfl ?_;have g0:cB (nS sg o st l) 0=some (.arr 4 [bP sg (vV true 1 (st.aB.map aA)) (vV true 2 (st.fo.map aA))]):=by simp[nS,mG,cB]
 have g3:cB (nS sg o st l) 3=some (.arr 1 [.ptr 0 0 0]):=by simp[nS,mG,cB]
 have g4:cB (nS sg o st l) 4=vB o 1 (l.map aj):=by simp[nS,mG]
 simp[Px];refine aQ.looks hi (gI.cons (ZvO g4) (gI.cons (.Po (gI.cons (Yt g0 g3) gI.nil)) gI.nil)) (.v _) ?_;cases hany:l.any (fun n=>!lJ sg n) with
 | false=>
  have hfl:l.filter (lJ sg)=l:=by
   rw[List.filter_eq_self];intro x hx;have:=List.any_eq_false.mp hany x hx;simpa using this
  rw[ZmD hany];simp;refine⟨jA [(4,vV o 4 (l.map aj))],⟨10,cB (nS sg o st l)⟩,bL.of [(0,0),(1,1),(2,2),(3,3),(4,4)] [] (by omega) ⟨by simp,by simp⟩ ?_ ?_,?_⟩
  ·simp[nS,mG,bP]
  ·simp
  ·refine⟨l,?_,?_,rfl,rfl⟩
   ·rw[hfl]
    rcases ho with rfl | rfl
    ·simp[jA,bT]
    ·cases o<;>simp[jA,bT,jr]
   ·rw[hfl,List.take_length]
 | true=>
  have ho':o=true:=by
   rcases ho with h | h
   ·exact h
   ·rw[h] at hany;simp at hany
  subst ho';have hix:sM (fun n=>!lJ sg n) l=(l.findIdx (fun n=>!lJ sg n):Nat):=by simp only[sM];rw[if_pos hany]
  have hfi:l.findIdx (fun n=>!lJ sg n) < l.length:=List.findIdx_lt_length.mpr (by simpa using hany)
  have hlow:∀i,i < l.findIdx (fun n=>!lJ sg n)→∀(hi:i < l.length),lJ sg l[i]=true:=fun i h1 h2=>by
   have:=List.not_of_lt_findIdx h1;simpa using this
  have hat:lJ sg (l[l.findIdx (fun n=>!lJ sg n)])=false:=by
   have:=List.findIdx_getElem (p:=fun n=>!lJ sg n) (xs:=l) (w:=hfi);simpa using this
  rw[hix];generalize l.findIdx (fun n=>!lJ sg n)=i0 at *;have hne:¬((i0:Int) = -1):=by omega
  have hne2:((i0:Int) == -1)=false:=by simp
  have hw:IntKind.i64.wrap ((i0:Int)+1)=(i0:Int)+1:=bG _ (by omega)
  have Oa:(l.take i0).filter (lJ sg)=l.take i0:=by
   rw[List.filter_eq_self];intro x hx;obtain⟨i,hi1,rfl⟩:=List.mem_iff_getElem.mp hx;rw[List.length_take] at hi1;rw[List.getElem_take];exact hlow i (by omega) (by omega)
  have hts:l.take (i0+1)=l.take i0++[l[i0]]:=by rw[List.take_add_one,List.getElem?_eq_getElem hfi];rfl
  simp[hne2,hw,bT,Zli];refine uJ (l.length - (i0+1)) (dfI sg l i0) (GI f1 i0 l) 5 (Am sg st) (l,i0) ?_ ?_ ?_
  ·refine⟨?_,?_,rfl,by simp,rfl⟩
   ·simp only[Nat.add_zero]
    rw[hts,List.filter_append,Oa];simp[hat];omega
   ·simp only[Nat.add_zero]
    rw[hts,List.filter_append,Oa];simp[hat]
  ·refine bL.of [(0,0),(1,1),(2,2),(3,3),(4,4)] [] (by omega) ⟨by simp,by simp⟩ ?_ ?_
   ·simp[Am,nS,mG,bP]
   ·simp[GI]
    exact Ru (.inl (by simp))
  ·rintro k ⟨xs,i⟩ hk ⟨e1,e2,e3,e4,e5⟩
   simp only at e1 e2 e3 e4 e5;have g0:cB (Am sg st k (xs,i)) 0=some (.arr 4 [bP sg (vV true 1 (st.aB.map aA)) (vV true 2 (st.fo.map aA))]):=by simp[Am,nS,mG,cB]
   have g3:cB (Am sg st k (xs,i)) 3=some (.arr 1 [.ptr 0 0 0]):=by simp[Am,nS,mG,cB]
   have g4:cB (Am sg st k (xs,i)) 4=some (.arr 1 (xs.map aj)):=by simp[Am,nS,mG,bA]
   by_cases hlt:i0+1+k < l.length
   ·have sU:(i0:Int)+1+k < (l.length:Int):=by omega
    have hj0:(0:Int)≤(i0:Int)+1+k:=by omega
    have hjn:((i0:Int)+1+k).toNat=i0+1+k:=by omega
    have hxl:i0+1+k < xs.length:=by omega
    have hxk:xs[i0+1+k]? = some l[i0+1+k]:=by
     have:=congrArg (fun y=>y[0]?) e3;simp only[List.getElem?_drop,Nat.add_zero] at this;rw[this,List.getElem?_eq_getElem hlt]
    have abN:xs[i0+1+k]=l[i0+1+k]:=by
     have:=List.getElem?_eq_getElem hxl;rw[hxk] at this;exact(Option.some.inj this).symm
    have htk:l.take (i0+1+(k+1))=l.take (i0+1+k)++[l[i0+1+k]]:=by
     rw[show i0+1+(k+1)=i0+1+k+1 by omega,List.take_add_one,List.getElem?_eq_getElem hlt];rfl
    have hx:=hf l[i0+1+k];generalize hgv:l[i0+1+k]=v at *;cases hkv:lJ sg v with
    | false=>
     rw[hkv] at hx;simp[GI,sU,hj0,hjn,hxk,e5,g4];refine aQ.looks hx (gI.cons (.closed _ (aS _)) (gI.cons (Yt g0 g3) gI.nil)) (.v _) ?_;simp;rw[bG _ (by omega)];refine⟨by omega,(xs,i),⟨?_,?_,?_,by simp only;omega,e5⟩,bL.of [(0,0),(1,1),(2,2),(3,3),(4,4)] [] (by omega) ⟨by simp,by simp⟩ ?_ ?_⟩
     ·simp only
      rw[htk,List.filter_append];simp[hkv,e1]
     ·simp only
      rw[htk,List.filter_append];simp[hkv,e2]
     ·simp only
      have:=congrArg (fun y=>y.drop 1) e3;simpa[List.drop_drop,Nat.add_assoc] using this
     ·simp[Am,nS,mG,bP]
     ·simp[GI]
      exact⟨Ru (.inl (by simp)),by omega⟩
    | true=>
     rw[hkv] at hx;have hi0:(0:Int)≤(i:Int):=by omega
     have ZI:i < l.length:=by omega
     have hiX:i < xs.length:=by omega
     have hwi:IntKind.i64.wrap ((i:Int)+1)=(i:Int)+1:=bG _ (by omega);have ZY:IntKind.i64.wrap ((i0:Int)+1+k+1)=(i0:Int)+1+k+1:=bG _ (by omega);simp[GI,sU,hj0,hjn,hxk,e5,g4];refine aQ.looks hx (gI.cons (.closed _ (aS _)) (gI.cons (Yt g0 g3) gI.nil)) (.v _) ?_;simp[g4,ZI,e5,hwi,ZY];refine⟨by omega,(xs.set i v,i+1),⟨?_,?_,?_,by simp only;omega,by simp[e5]⟩,bL.of [(0,0),(1,1),(2,2),(3,3),(4,4)] [] (by omega) ⟨by simp,by simp⟩ ?_ ?_⟩
     ·simp only
      rw[htk,List.filter_append];simp[hkv,e1]
     ·simp only
      rw[htk,List.filter_append,ZgN hiX,e2];simp[hkv]
     ·simp only
      have:=congrArg (fun y=>y.drop 1) e3;rw[List.drop_set_of_lt (by omega)];simpa[List.drop_drop,Nat.add_assoc] using this
     ·simp[Am,nS,mG,bP]
      rw[show AV.v (.int .i64 v)=aj v from rfl,←List.map_set];exact .cl (iZ _)
     ·simp[GI]
      exact⟨Ru (.inl (by simp)),by omega⟩
   ·have hke:k=l.length - (i0+1):=by omega
    have hj:i0+1+k=l.length:=by omega
    have sU:¬((i0:Int)+1+k < (l.length:Int)):=by omega
    have ZI:i≤l.length:=by omega
    have hiX:i+(l.length - i)≤xs.length:=by omega
    have hXl:l.length≤xs.length:=by omega
    have hdr:(xs.map aj).drop l.length=[]:=by rw[List.drop_eq_nil_iff,List.length_map];omega
    simp[GI,sU,g4,wm,bnd,R7,ZI,hXl,hdr];rw[hj,List.take_length] at e1 e2;refine⟨jA [(4,.own 4 0 i)],⟨10,cB (nS sg true st (xs.take i++List.replicate (l.length - i) 0))⟩,bL.of [(0,0),(1,1),(2,2),(3,3),(4,4)] [] (by omega) ⟨by simp,by simp⟩ ?_ ?_,?_⟩
    ·simp[Am,nS,mG,bP]
     rw[show(List.take i (List.map aj xs)++List.replicate (l.length - i) (AV.v (.int .i64 0)))=(xs.take i++List.replicate (l.length - i) 0).map aj by simp[aj]];exact .cl (iZ _)
    ·simp
    ·refine⟨xs.take i++List.replicate (l.length - i) 0,?_,?_,?_,rfl⟩
     ·rw[←e1];simp[jA]
     ·rw[←e1,List.take_append_of_le_length (by rw[List.length_take];omega),List.take_take,Nat.min_self];exact e2
     ·rw[List.length_append,List.length_take,List.length_replicate];omega
end Go.Rf
namespace Go.Rf
open Go.RowKit
attribute [local simp] oP oM oH pU pK pR pO oO qw pQ oI pI jv jE jF jK qm qQ qO qN qH qP oZ oU qy qd qx qK qJ qF qA qg qz qM qL oQ lQ pV qh qj pJ pG dN gL fJ gJ ig fI gK iq gX gV gY eZ gQ gZ gP d9 eF gU iN iK iM iL iO gD fM fH dZ fQ fU fV fP fE iH iw gT iF iC iE iD iG iI iA gu fF fG fK gy dx dL fq iB iJ ex au bS dM dY bF bJ aG bf dU eY dQ fO gN gM iy gW bO dw dz eD eu fZ dR bC pz oG dD dJ pW pE ql oK eB eX eP eU dW dh dS dP dO bB qD oJ oL qc pF pY qb qp lZ pX qo qE S0 aj aH rA rD rO rz rC rG rJ rE rH rU rR rT rQ rM rP
def Wj(ER EO:FuncId):AC:= (sq [ro 3 (.box 3 (.t 0)),ro 6 (.mv (.c (.v (.bool false))))] (sq [rm 8 1,rm 9 2,rk 10 ER [(.t 8),(.t 9)],rm 7 10] (sq [rm 11 7,ro 12 (.len (.t 11)),ro 13 (.bin .gtr (.t 12) (ci 0)),rm 14 13,rg 15 14 true (.load (some 3) (.t 3)),rg 16 14 true (.mv (.t 7)),rl 17 14 true EO [(.t 15),(.t 16)],ro 18 (.pick (.t 14) (.t 17) (.c (.v (.bool false)))),rm 6 18] .ret)))
def atF(d:aD)(l:List Int)(p:Int):Bool:=decide (0 < (jg l p).length) && nD d (jg l p)
theorem Zrp{P:Program}{fw fa:FuncId}(d:aD)(l:List Int)(p:Int)(hw:aO P fw [aA l,aj p] (aA (jg l p)))(ha:aO P fa [aW d,aA (jg l p)] (aH (nD d (jg l p)))) :
  bM P 0 (Wj fw fa) (gG [6] (iP (aH (atF d l p)))) (bU [aW d,aA l,aj p]) S0:=by
 unfold atF;generalize jg l p=w at *;generalize nD d w=ac at *;have hd:=iV d;simp[Wj];refine aQ.pure hw (aL (aR _) (aL (aS _) aU)) (aR _) ?_;by_cases h0:0 < w.length
 ·simp[h0]
  refine aQ.pure ha (aL hd (aL (aR _) aU)) (bY _) ?_;simp;exact jk _ _
 ·simp[h0]
  exact jk false _
end Go.Rf
namespace Go.Rf
open Go.RowKit
attribute [local simp] oP oM oH pU pK pR pO oO qw pQ oI pI jv jE jF jK qm qQ qO qN qH qP oZ oU qy qd qx qK qJ qF qA qg qz qM qL oQ lQ pV qh qj pJ pG dN gL fJ gJ ig fI gK iq gX gV gY eZ gQ gZ gP d9 eF gU iN iK iM iL iO gD fM fH dZ fQ fU fV fP fE iH iw gT iF iC iE iD iG iI iA gu fF fG fK gy dx dL fq iB iJ ex au bS dM dY bF bJ aG bf dU eY dQ fO gN gM iy gW bO dw dz eD eu fZ dR bC pz oG dD dJ pW pE ql oK eB eX eP eU dW dh dS dP dO bB qD oJ oL qc pF pY qb qp lZ pX qo qE S0 aj aH
def Z9b(U1:FuncId):AC:= (sq [ro 2 (.box 4 (.t 0)),ro 4 (.alloc (.agg [(.v (.int .i64 0)),(.sl true []),(.sl true [])]) 3),ro 5 (.mv (ci 0))] (sq [ro 6 (.load (some 4) (.t 2)),rm 7 1,rk 8 U1 [(.t 6),(.t 7),(ci 1)],ro 9 (.ext 0 (.t 8)),ro 10 (.ext 1 (.t 8)),rn (.store 3 (.t 4) (.t 9)),rm 5 10] .ret))
def Z99(U1:FuncId):AC:= (sq [ro 2 (.box 4 (.t 0)),ro 4 (.alloc (.agg [(.v (.int .i64 0)),(.sl true []),(.sl true [])]) 3),ro 5 (.mv (ci 0))] (sq [ro 6 (.load (some 4) (.t 2)),rm 7 1,rk 8 U1 [(.t 6),(.t 7),(ci 2)],ro 9 (.ext 0 (.t 8)),ro 10 (.ext 1 (.t 8)),rn (.store 3 (.t 4) (.t 9)),rm 5 10] .ret))
theorem ZiR{kd:Kd}{n:Net}{most:Int}:∀(f i:Nat) {st st':q9},oz kd n most i=some st→Bz kd n most f i st=some st'→∃j,i≤j∧oz kd n most j=some st'∧j=st'.1.length
 | 0,i,st,st',h,e=>by cases e
 | f+1,i,st,st',h,e=>by
  simp only[Bz] at e;split at e
  ·rename_i hi;cases e;exact⟨i,Nat.le_refl _,h,hi⟩
  ·cases hn:uS kd n most i st with
   | none=>rw[hn] at e;cases e
   | some s2=>
    rw[hn] at e;obtain⟨j,h1,h2,h3⟩:=ZiR f (i+1) (st:=s2) (by simp only[oz,h,hn]) e;exact⟨j,by omega,h2,h3⟩
theorem Zdz{kd:Kd}{n:Net}{most:Int}{st:q9}(h:yQ kd n most=some st):oz kd n most st.1.length=some st:=by
 obtain⟨j,_,h2,h3⟩:=ZiR _ 0 (st:=([[0]],[],[])) rfl h;rwa[h3] at h2
theorem ZsH(kd:Kd)(n:Net)(most:Int):r9 (mY kd n most).1:=by
 unfold mY;split
 ·rename_i h
  have R:=(AQ n).mp h.1;cases hm:yQ kd n most with
  | none=>exact⟨by simp[Len],by simp[Len],by simp,by simp⟩
  | some st=>
   have ok:=Jt R h.2.1 _ (Zdz hm);have h1:=ok.ss.l;have h2:=ok.nx;have h3:=ok.en;have h4:=R.s1;have h5:=R.s2;refine⟨by unfold Len;simp only;omega,by unfold Len;simp only;omega,fun r hr=>?_,by simp only;omega⟩;have:=ok.row r hr;unfold Len;omega
 ·exact⟨by simp[Len],by simp[Len],by simp,by simp⟩
end Go.Rf
namespace Go.Rf
open Go.RowKit
theorem ZnQ{X:Type}{p:List X→Prop}(h0:p [])(h1:∀l x,p l→p (l++[x]))(l:List X):p l:=by
 have:∀r:List X,p r.reverse:=by
  intro r;induction r with
  | nil=>exact h0
  | cons x r ih=>rw[List.reverse_cons];exact h1 _ _ ih
 rw[←List.reverse_reverse l];exact this _
theorem Zn4{most:Int}{ss ss':List (List Int)}{x:List Int}{j:Int}(h:yx most ss x=some (ss',j)):(∀(i:Nat) (y:List Int),ss[i]? = some y→ss'[i]? = some y)∧∃k:Nat,j=k∧ss'[k]? = some x:=by
 unfold yx at h;split at h
 ·rename_i hin
  cases h;have hlt:=List.idxOf_lt_length_of_mem hin;exact⟨fun i y hy=>hy,_,rfl,by rw[List.getElem?_eq_getElem hlt,List.getElem_idxOf hlt]⟩
 ·split at h
  ·cases h
  ·cases h
   refine⟨fun i y hy=>?_,ss.length,rfl,by simp⟩;have hl:=(List.getElem?_eq_some_iff.mp hy).1;rw[List.getElem?_append_left hl];exact hy
theorem ZgA{most:Int}{b:Int→List Int}{ss:List (List Int)}:∀(k:Nat) {ss':List (List Int)} {r:List Int},uq most b k ss=some (ss',r)→
  (∀(i:Nat) (y:List Int),ss[i]? = some y→ss'[i]? = some y)∧r.length=k∧∀s:Nat,s < k→∃j:Nat,r[s]? = some (j:Int)∧ss'[j]? = some (b s)
 | 0,ss',r,h=>by
  simp only[uq,Option.some.injEq,Prod.mk.injEq] at h;obtain⟨rfl,rfl⟩:=h;exact⟨fun _ _ h=>h,rfl,fun s hs=>by omega⟩
 | k+1,ss',r,h=>by
  simp only[uq] at h;split at h
  ·cases h
  ·rename_i s1 r1 h1
   obtain⟨i1,i2,i3⟩:=ZgA k h1;split at h
   ·cases h
   ·rename_i s2 j h2
    cases h;obtain⟨j1,q,rfl,j2⟩:=Zn4 h2;refine⟨fun i y hy=>j1 i y (i1 i y hy),by simp[i2],fun s hs=>?_⟩;by_cases hsk:s=k
    ·subst hsk
     refine⟨q,?_,j2⟩;rw[List.getElem?_append_right (by omega),i2];simp
    ·obtain⟨j,a1,a2⟩:=i3 s (by omega)
     refine⟨j,?_,j1 _ _ a2⟩;rw[List.getElem?_append_left (by omega)];exact a1
structure Zwx(kd:Kd)(n:Net)(i:Nat)(st:q9):Prop where
 zero:st.1[0]? = some [0]
 row:∀k < i,∃set r,st.1[k]? = some set∧st.2.2[k]? = some (mq n set)∧st.2.1[k]? = some r∧∀s:Nat,s < n.signs.toNat→∃j:Nat,r[s]? = some (j:Int)∧st.1[j]? = some (lI kd n set s)
theorem Zjx{kd:Kd}{n:Net}(R:nR n){most:Int}(hm:1≤most):∀(i:Nat) {st:q9},oz kd n most i=some st→Zwx kd n i st
 | 0,st,e=>by
  simp only[oz,Option.some.injEq] at e;subst e;exact⟨rfl,fun k hk=>by omega⟩
 | i+1,st,e=>by
  simp only[oz] at e;split at e
  ·cases e
  ·rename_i st0 h0
   have ih:=Zjx R hm i h0;have ok:=Jt R hm i h0;unfold uS at e;split at e
   ·cases e
   ·rename_i set hset
    split at e
    ·cases e
    ·rename_i s2 r hr
     cases e;obtain⟨a1,a2,a3⟩:=ZgA _ hr;refine⟨a1 _ _ ih.zero,fun k hk=>?_⟩;by_cases hki:k=i
     ·subst hki
      refine⟨set,r,a1 _ _ hset,?_,?_,a3⟩
      ·simp only;rw[List.getElem?_append_right (by have:=ok.en;omega)];simp[ok.en]
      ·simp only;rw[List.getElem?_append_right (by have:=ok.nx;omega)];simp[ok.nx]
     ·obtain⟨set',r',b1,b2,b3,b4⟩:=ih.row k (by omega)
      refine⟨set',r',a1 _ _ b1,?_,?_,fun s hs=>?_⟩
      ·have:=(List.getElem?_eq_some_iff.mp b2).1
       simp only;rw[List.getElem?_append_left this];exact b2
      ·have:=(List.getElem?_eq_some_iff.mp b3).1
       simp only;rw[List.getElem?_append_left this];exact b3
      ·obtain⟨j,c1,c2⟩:=b4 s hs
       exact⟨j,c1,a1 _ _ c2⟩
def setAt(kd:Kd)(n:Net)(set l:List Int):List Int:=l.foldl (lI kd n) set
theorem ZfM{kd:Kd}{n:Net}(R:nR n){most:Int}(hm:1≤most)(h3:most≤3000){st:q9}(h:yQ kd n most=some st) :
  bD ⟨n.signs,st.2.1,st.2.2⟩∧∀l:List Int,(∀s∈l,0≤s∧s < n.signs)→nD ⟨n.signs,st.2.1,st.2.2⟩ l=mq n (setAt kd n [0] l):=by
 have hst:=Zdz h;have ok:=Jt R hm _ hst;have sp:=Zjx R hm _ hst;have hl:=ok.ss.l;have hnx:=ok.nx;have hen:=ok.en;have h0:=(List.getElem?_eq_some_iff.mp sp.zero).1
 have D:bD ⟨n.signs,st.2.1,st.2.2⟩:=by
  refine⟨R.s1,R.s2,by simp only;omega,by simp only;omega,by simp only;omega,fun i hi=>?_,fun i hi j hj=>?_⟩
  ·simp only at hi ⊢
   have h7:(st.2.1[i]).length=n.signs.toNat:=ok.row _ (List.getElem_mem hi);have:=R.s1;omega
  ·simp only at hi hj ⊢
   obtain⟨set,r,b1,b2,b3,b4⟩:=sp.row i (by omega);rw[List.getElem?_eq_getElem hi] at b3;cases b3;have hrl:=ok.row _ (List.getElem_mem hi);obtain⟨q,c1,c2⟩:=b4 j (by omega);obtain⟨_,c3⟩:=List.getElem?_eq_some_iff.mp c1;have:=(List.getElem?_eq_some_iff.mp c2).1;rw[c3];omega
 refine⟨D,fun l hls=>?_⟩
 have key:∀(l:List Int) (a:Nat) (set:List Int),(∀s∈l,0≤s∧s < n.signs)→st.1[a]? = some set→∃a',sG ⟨n.signs,st.2.1,st.2.2⟩ a l=some a'∧st.1[a']? = some (setAt kd n set l):=by
  intro l;induction l with
  | nil=>intro a set _ ha;exact⟨a,rfl,ha⟩
  | cons s l ih=>
   intro a set hs ha;have hs0:=hs s (by simp);have hal:=(List.getElem?_eq_some_iff.mp ha).1;obtain⟨set',r,b1,b2,b3,b4⟩:=sp.row a hal;rw[ha] at b1;cases b1;obtain⟨j,c1,c2⟩:=b4 s.toNat (by omega);have hst:((s.toNat:Nat):Int)=s:=by omega
   rw[hst] at c2
   have Bj:bQ ⟨n.signs,st.2.1,st.2.2⟩ a s=j:=by
    simp[bQ,List.getD_eq_getElem?_getD,b3,c1]
   obtain⟨a',d1,d2⟩:=ih j _ (fun x hx=>hs x (by simp[hx])) c2;exact⟨a',by rw[sG,if_pos hs0,Bj];exact d1,d2⟩
 obtain⟨a',e1,e2⟩:=key l 0 [0] hls sp.zero;have hal:=(List.getElem?_eq_some_iff.mp e2).1;obtain⟨set',r,b1,b2,b3,b4⟩:=sp.row a' hal;rw[e2] at b1;cases b1;have hrun:xM ⟨n.signs,st.2.1,st.2.2⟩ l=some a':=by rw[xM,if_pos ((uW _).mpr D)];exact e1
 simp[nD,hrun,List.getD_eq_getElem?_getD,b2]
theorem WX{n:Net}{set:List Int}:mq n set=true↔∃x∈set,x∈n.last:=by simp[mq]
theorem IL{n:Net}(h:qV n=true)(l:List Int):za n l=mq n (vw n l):=by simp[za,h,mq]
theorem Ze0(kd:Kd)(n:Net)(set l:List Int)(s:Int):setAt kd n set (l++[s])=lI kd n (setAt kd n set l) s:=by simp[setAt]
theorem ZgL{n:Net}(l:List Int):∀q:Int,q∈setAt .tails n [0] l↔∃i≤l.length,q∈vw n (l.drop i):=by
 refine ZnQ (p:=fun l=>∀q:Int,q∈setAt .tails n [0] l↔∃i≤l.length,q∈vw n (l.drop i)) ?_ ?_ l
 ·intro q;simp[setAt,vw]
 ·intro l s ih q
  rw[Ze0];simp only[lI,List.mem_cons];constructor
  ·rintro(rfl | hq)
   ·exact⟨(l++[s]).length,Nat.le_refl _,by rw[List.drop_length];simp[vw]⟩
   ·rw[IZ] at hq
    obtain⟨p,hp,he⟩:=hq;obtain⟨i,hi,hpi⟩:=(ih p).mp hp;refine⟨i,by simp;omega,?_⟩;rw[List.drop_append_of_le_length hi,WO,IZ];exact⟨p,hpi,he⟩
  ·rintro⟨i,hi,hq⟩
   simp only[List.length_append,List.length_cons,List.length_nil] at hi;by_cases hil:i≤l.length
   ·right
    rw[List.drop_append_of_le_length hil,WO,IZ] at hq;obtain⟨p,hp,he⟩:=hq;rw[IZ];exact⟨p,(ih p).mpr ⟨i,hil,hp⟩,he⟩
   ·left
    have:(l++[s]).drop i=[]:=List.drop_eq_nil_of_le (by simp;omega);rw[this] at hq;simpa[vw] using hq
theorem L6{p:Nat→Bool}{i:Nat}:0 < (M5 p i).length↔∃k < i,p k=true:=by
 simp only[M5,List.length_map,List.length_pos_iff_exists_mem,List.mem_filter,List.mem_range]
theorem ZnZ{n:Net}(h:qV n=true)(l:List Int):mq n (setAt .tails n [0] l)=decide (0 < (M5 (Ug n l) (l.length+1)).length):=by
 rw[Bool.eq_iff_iff,WX,decide_eq_true_iff,L6];constructor
 ·rintro⟨q,hq,hl⟩
  obtain⟨i,hi,hqi⟩:=(ZgL l q).mp hq;refine⟨l.length - i,by omega,?_⟩;have e:l.length - (l.length - i)=i:=by omega
  rw[Ug,e,IL h,WX];exact⟨q,hqi,hl⟩
 ·rintro⟨k,hk,hp⟩
  rw[Ug,IL h,WX] at hp;obtain⟨q,hq,hl⟩:=hp;exact⟨q,(ZgL l q).mpr ⟨l.length - k,by omega,hq⟩,hl⟩
theorem Zmy{n:Net}(h:qV n=true)(l:List Int):if ∃k < l.length+1,xP n l k=true then mq n (setAt .heads n [0] l)=true else setAt .heads n [0] l=vw n l:=by
 refine ZnQ (p:=fun l=>if ∃k < l.length+1,xP n l k=true then mq n (setAt .heads n [0] l)=true else setAt .heads n [0] l=vw n l) ?_ ?_ l
 ·split
  ·rename_i hk
   obtain⟨k,hk,hp⟩:=hk;simp only[xP,List.take_nil] at hp;rw[IL h] at hp;exact hp
  ·rfl
 ·intro l s ih
  rw[Ze0];have htk:∀k,k≤l.length→xP n (l++[s]) k=xP n l k:=fun k hk=>by simp only[xP];rw[List.take_append_of_le_length hk]
  by_cases hex:∃k < l.length+1,xP n l k=true
  ·rw[if_pos hex] at ih
   obtain⟨k,hk,hp⟩:=hex;rw[if_pos ⟨k,by simp;omega,by rw[htk k (by omega)];exact hp⟩];simp only[lI,ih,if_true]
  ·rw[if_neg hex] at ih
   have hno:mq n (vw n l)=false:=by
    cases hb:mq n (vw n l) with
    | false=>rfl
    | true=>exact(hex ⟨l.length,by omega,by rw[xP,List.take_length,IL h];exact hb⟩).elim
   have hst:lI .heads n (setAt .heads n [0] l) s=vw n (l++[s]):=by simp only[lI,ih,hno,Bool.false_eq_true,if_false];rw[WO]
   rw[hst];split
   ·rename_i hk
    obtain⟨k,hk,hp⟩:=hk;simp only[List.length_append,List.length_cons,List.length_nil] at hk;by_cases hkl:k≤l.length
    ·rw[htk k hkl] at hp
     exact(hex ⟨k,by omega,hp⟩).elim
    ·rw[xP,List.take_of_length_le (by simp;omega),IL h] at hp
     exact hp
   ·rfl
theorem Zmx{n:Net}(h:qV n=true)(l:List Int):mq n (setAt .heads n [0] l)=decide (0 < (M5 (xP n l) (l.length+1)).length):=by
 have:=Zmy h l;by_cases hex:∃k < l.length+1,xP n l k=true
 ·rw[if_pos hex] at this
  rw[this];exact(decide_eq_true (L6.mpr hex)).symm
 ·rw[if_neg hex] at this
  rw[this];have hd:decide (0 < (M5 (xP n l) (l.length+1)).length)=false:=decide_eq_false (fun hp=>hex (L6.mp hp));rw[hd];cases hb:mq n (vw n l) with
  | false=>rfl
  | true=>exact(hex ⟨l.length,by omega,by rw[xP,List.take_length,IL h];exact hb⟩).elim
end Go.Rf
namespace Go.Rf
open Go.RowKit
attribute [local simp] oP oM oH pU pK pR pO oO qw pQ oI pI jv jE jF jK qm qQ qO qN qH qP oZ oU qy qd qx qK qJ qF qA qg qz qM qL oQ lQ pV qh qj pJ pG dN gL fJ gJ ig fI gK iq gX gV gY eZ gQ gZ gP d9 eF gU iN iK iM iL iO gD fM fH dZ fQ fU fV fP fE iH iw gT iF iC iE iD iG iI iA gu fF fG fK gy dx dL fq iB iJ ex au bS dM dY bF bJ aG bf dU eY dQ fO gN gM iy gW bO dw dz eD eu dR bC pz oG dD dJ pW pE ql oK eB eX eP eU dS dP dO bB qD oJ oL qc pF pY qb qp lZ pX qo qE S0 aj aH rA rD rO rz rC rG rJ rE rH rU rR rT rQ rM rP QU Sl Uh Ui SY S9 Ta Sm M7 Rx Qw yO
def Z9A:AC:= (sq [ro 4 (.box 3 (.t 0)),ro 5 (.box 3 (.t 1)),ro 6 (.box 2 (.t 2)),ro 8 (.alloc (.agg [(.v (.int .i64 0)),(.v (.int .i64 0))]) 2)] (sq [rm 11 3,ro 12 (.bin .quo (.t 11) (ci 2)),rm 13 3,ro 14 (.bin .rem (.t 13) (ci 2)),ro 15 (.bin .eql (.t 14) (ci 1)),rm 9 12,rm 10 15] (.seq (.block 0 (sq [rF 17 0 6,rL 18 17,ro 19 (.bin .leq (.t 18) (ci 1)),rm 20 19,rg 21 20 true (.mv (.t 10)),rg 22 20 true (.un .not (.t 21)),ro 23 (.pick (.t 20) (.t 22) (.c (.v (.bool false)))),rm 16 23] (.cond (.t 16) (sq [rF 24 1 4,rL 25 24,rF 26 1 6,rL 27 26,ro 28 (.aI 1 (.t 25) (.t 27)),rL 29 28,rm 30 9,ro 31 (.aI 1 (.t 29) (.t 30)),rL 32 31,ro 33 (.build (.agg [(.v (.int .i64 0)),(.v (.int .i64 0))]) [(0,1),(1,1)] [(0,(ci 1)),(1,(.t 32))]),rn (.store 2 (.t 8) (.t 33))] .ret) (sq [rF 35 0 6,rL 36 35,ro 37 (.bin .eql (.t 36) (ci 1)),rm 38 37,rg 39 38 true (.dA 2 (.t 4)),rg 40 38 true (.load none (.t 39)),rg 41 38 true (.dA 1 (.t 6)),rg 42 38 true (.load none (.t 41)),rg 43 38 true (.aI 1 (.t 40) (.t 42)),rg 44 38 true (.load none (.t 43)),ro 45 (.pick (.t 38) (.t 44) (.c (.v (.bool false)))),rm 34 45] (.cond (.t 34) (sq [rF 46 1 5,rL 47 46,ro 48 (.aI 1 (.t 47) (ci 0)),rL 49 48,rm 50 9,ro 51 (.aI 1 (.t 49) (.t 50)),rL 52 51,ro 53 (.build (.agg [(.v (.int .i64 0)),(.v (.int .i64 0))]) [(0,1),(1,1)] [(0,(ci 2)),(1,(.t 52))]),rn (.store 2 (.t 8) (.t 53))] .ret) (sq [rF 55 0 6,rL 56 55,ro 57 (.bin .eql (.t 56) (ci 2)),rm 58 57,rg 59 58 true (.mv (.t 10)),rg 60 58 true (.un .not (.t 59)),ro 61 (.pick (.t 58) (.t 60) (.c (.v (.bool false)))),rm 54 61] (.cond (.t 54) (sq [rF 62 1 5,rL 63 62,rF 64 1 6,rL 65 64,ro 66 (.aI 1 (.t 63) (.t 65)),rL 67 66,rm 68 9,ro 69 (.aI 1 (.t 67) (.t 68)),rL 70 69,ro 71 (.build (.agg [(.v (.int .i64 0)),(.v (.int .i64 0))]) [(0,1),(1,1)] [(0,(ci 2)),(1,(.t 70))]),rn (.store 2 (.t 8) (.t 71))] .ret) .skip))))))) (sq [ro 72 (.build (.agg [(.v (.int .i64 0)),(.v (.int .i64 0))]) [(0,1),(1,1)] [(0,(ci 3)),(1,(ci 0))]),rn (.store 2 (.t 8) (.t 72))] .ret))))
def zD:AC:= (sq [ro 5 (.box 2 (.t 1)),ro 8 (.alloc (.agg [(.v (.int .i64 0)),(.v (.int .i64 0))]) 2)] (.seq (sq [rm 9 3] (.cond (.t 9) (.seq (.seq (.reg (some []) [rF 10 0 5,rL 11 10,ro 12 (.bin .eql (.t 11) (ci 1)),rm 13 12,rg 14 13 true (.mv (.t 0)),rg 15 13 true (.iU (.t 14)),rg 16 13 true (.dA 0 (.t 15)),rg 17 13 true (.dA 2 (.t 16)),rg 18 13 true (.load none (.t 17)),rg 19 13 true (.dA 1 (.t 5)),rg 20 13 true (.load none (.t 19)),rg 21 13 true (.aI 1 (.t 18) (.t 20)),rg 22 13 true (.load none (.t 21)),ro 23 (.pick (.t 13) (.t 22) (.c (.v (.bool false))))]) (.cond (.t 23) (sq [rm 24 0,ro 25 (.iU (.t 24)),rF 26 3 25,rF 27 1 26,rL 28 27,ro 29 (.aI 1 (.t 28) (ci 0)),rL 30 29,rm 31 2,ro 32 (.aI 1 (.t 30) (.t 31)),rL 33 32,ro 34 (.build (.agg [(.v (.int .i64 0)),(.v (.int .i64 0))]) [(0,1),(1,1)] [(0,(ci 2)),(1,(.t 33))]),rn (.store 2 (.t 8) (.t 34))] .ret) .skip)) (sq [ro 35 (.build (.agg [(.v (.int .i64 0)),(.v (.int .i64 0))]) [(0,1)] [(0,(ci 3))]),rn (.store 2 (.t 8) (.t 35))] .ret)) .skip)) (.seq (sq [rF 36 0 5,rL 37 36] (.block 0 (.seq (sq [ro 39 (.bin .eql (.t 37) (ci 0)),rm 38 39] (.cond (.t 38) .skip (.reg none [ro 40 (.bin .eql (.t 37) (ci 1)),rm 38 40]))) (.cond (.t 38) (.seq (.reg (some []) [rm 41 0,ro 42 (.iU (.t 41)),rF 43 0 42,rF 44 1 43,rL 45 44,rF 46 1 5,rL 47 46,ro 48 (.aI 1 (.t 45) (.t 47)),rL 49 48,rm 50 2,ro 51 (.aI 1 (.t 49) (.t 50)),rL 52 51,ro 53 (.build (.agg [(.v (.int .i64 0)),(.v (.int .i64 0))]) [(0,1),(1,1)] [(0,(ci 1)),(1,(.t 52))]),rn (.store 2 (.t 8) (.t 53))]) .ret) (sq [ro 55 (.bin .eql (.t 37) (ci 2)),rm 54 55] (.cond (.t 54) (.seq (.reg (some []) [rm 56 0,ro 57 (.iU (.t 56)),rF 58 3 57,rF 59 1 58,rL 60 59,rF 61 1 5,rL 62 61,ro 63 (.aI 1 (.t 60) (.t 62)),rL 64 63,rm 65 2,ro 66 (.aI 1 (.t 64) (.t 65)),rL 67 66,ro 68 (.build (.agg [(.v (.int .i64 0)),(.v (.int .i64 0))]) [(0,1),(1,1)] [(0,(ci 2)),(1,(.t 67))]),rn (.store 2 (.t 8) (.t 68))]) .ret) .skip)))))) (sq [ro 69 (.load (some 2) (.t 5)),rn (.store 2 (.t 8) (.t 69))] .ret))))
theorem Cm(x y:Int)(S:St):iP (.agg [.v (.int .i64 x),.v (.int .i64 y)]) (.agg [.v (.int .i64 x),.v (.int .i64 y)]) S:=.closed _ (yM (x,y))
theorem Rv{d:aD}(R:bD d){q:Int}(h0:0≤q)(h1:q < d.next.length){h:Nat}(hs:(h:Int) < d.signs) :
  ∃row,d.next[q.toNat]?.getD []=row∧(∀hh:q.toNat < d.next.length,d.next[q.toNat]=row)∧h < row.length∧row[h]?.getD 0=((bQ d q.toNat h:Nat):Int)∧∀hh:h < row.length,row[h]=((bQ d q.toNat h:Nat):Int):=by
 have hq:q.toNat < d.next.length:=by omega
 have hr:=R.row _ hq;have hh:h < (d.next[q.toNat]).length:=by omega
 have ha:=R.at_ _ hq h hh
 have e1:d.next[q.toNat]? = some d.next[q.toNat]:=List.getElem?_eq_getElem hq
 have e2:(d.next[q.toNat])[h]? = some (d.next[q.toNat])[h]:=List.getElem?_eq_getElem hh
 have e:(d.next[q.toNat])[h]=((bQ d q.toNat h:Nat):Int):=by
  unfold bQ;simp only[List.getD_eq_getElem?_getD,e1,Option.getD_some,Int.toNat_natCast,e2];omega
 exact⟨d.next[q.toNat],by rw[e1];rfl,fun _=>rfl,hh,by rw[e2];exact e,fun _=>e⟩
theorem ZqG{d:aD}(i:Nat):d.fin[i]?.getD false=jR d i∧∀h:i < d.fin.length,d.fin[i]=jR d i:=⟨by simp[jR,List.getD_eq_getElem?_getD],fun h=>by simp[jR,List.getD_eq_getElem?_getD,h]⟩
def zu(b a:aD):AV:=.bN (.agg [aj b.signs,aX b.next,ji b.fin,aj a.signs,aX a.next,ji a.fin]) 0
theorem Zh6{P:Program}{b a:aD}(Rb:bD b)(Ra:bD a)(hs:b.signs=a.signs)(x:Int×Int)(hx:vM b a x)(s:Nat)(hlt:s < (2*b.signs).toNat) :
  bM P 0 zD (bR [.c 8 (some 2)] (iP (cK (oh b a x s)))) (bU [zu b a,cK x,aj (s / 2:Nat),aH (decide (s % 2=1))]) S0:=by
 obtain⟨v0,v1,v2,v3,v4,v5⟩:=hx;have hsb:=Rb.s2;have hbf:=Rb.fin;have hbn:=Rb.n1;have han:=Ra.n1;have aa3:0 < a.next.length:=by omega
 have abz:a.next≠[]:=List.length_pos_iff.mp aa3
 obtain⟨p,q⟩:=x;simp only at v0 v1 v2 v3 v4 v5;unfold oh;have hhs:((s / 2:Nat):Int) < b.signs:=by omega
 have aae:((s / 2:Nat):Int) < a.signs:=by omega
 generalize s / 2=h at *;by_cases hodd:s % 2=1
 ·rw[if_pos hodd,decide_eq_true hodd]
  obtain rfl | rfl | rfl | rfl:p=0∨p=1∨p=2∨p=3:=by omega
  ·simp[zD,zu,bR,bX,RV.ev,gH,cO,jw,jh,cK]
   exact Cm _ _ _
  ·have TN:q < (b.fin.length:Int):=by rw[hbf];exact v3 (by omega)
   obtain⟨row,r1,r1',r2,r3,r3'⟩:=Rv Ra (q:=0) (by omega) (by omega) aae;simp only[Int.toNat_zero] at r1 r1' r3 r3';obtain⟨hfi,Kc⟩:=ZqG (d:=b) q.toNat;cases Tx:jR b q.toNat with
   | true=>
    rw[Tx] at hfi Kc;simp[zD,zu,lu,v2,TN,Kc,r1',r2,r3',aa3,bR,bX,RV.ev,gH,cO,jw,jh,cK];exact Cm _ _ _
   | false=>
    rw[Tx] at hfi Kc;simp[zD,zu,lu,v2,TN,Kc,bR,bX,RV.ev,gH,cO,jw,jh,cK];exact Cm _ _ _
  ·simp[zD,zu,bR,bX,RV.ev,gH,cO,jw,jh,cK]
   exact Cm _ _ _
  ·simp[zD,zu,bR,bX,RV.ev,gH,cO,jw,jh,cK]
   exact Cm _ _ _
 ·rw[if_neg hodd,decide_eq_false hodd]
  obtain rfl | rfl | rfl | rfl:p=0∨p=1∨p=2∨p=3:=by omega
  ·obtain⟨row,r1,r1',r2,r3,r3'⟩:=Rv Rb v2 (v3 (by omega)) hhs
   have Kh:=v3 (by omega);simp[zD,zu,lu,v2,Kh,r1',r2,r3',bR,bX,RV.ev,gH,cO,jw,jh,cK];exact Cm _ _ _
  ·obtain⟨row,r1,r1',r2,r3,r3'⟩:=Rv Rb v2 (v3 (by omega)) hhs
   have Kh:=v3 (by omega);simp[zD,zu,lu,v2,Kh,r1',r2,r3',bR,bX,RV.ev,gH,cO,jw,jh,cK];exact Cm _ _ _
  ·obtain⟨row,r1,r1',r2,r3,r3'⟩:=Rv Ra v2 (v4 (by omega)) aae
   have Kh:=v4 (by omega);simp[zD,zu,lu,v2,Kh,r1',r2,r3',bR,bX,RV.ev,gH,cO,jw,jh,cK];exact Cm _ _ _
  ·have h0:=v5 rfl
   subst h0;simp[zD,zu,bR,bX,RV.ev,gH,cO,cK];exact Cm _ _ _
end Go.Rf
namespace Go.Rf
open Go.RowKit
attribute [local simp] oP oM oH pU pK pR pO oO qw pQ oI pI jv jE jF jK qm qQ qO qN qH qP oZ oU qy qd qx qK qJ qF qA qg qz qM qL oQ lQ pV qh qj pJ pG dN gL fJ gJ ig fI gK iq gX gV gY eZ gQ gZ gP d9 eF gU iN iK iM iL iO gD fM fH dZ fQ fU fV fP fE iH iw gT iF iC iE iD iG iI iA gu fF fG fK gy dx dL fq iB iJ ex au bS dM dY bF bJ aG bf dU eY dQ fO gN gM iy gW bO dw dz eD eu dR bC pz oG dD dJ pW pE ql oK eB eX eP eU dS dP dO bB qD oJ oL qc pF pY qb qp lZ pX qo qE S0 aj aH rA rD rO rz rC rG rJ rE rH rU rR rT rQ rM rP QU Sl Uh Ui SY S9 Ta Sm M7 Rx Qw yO kP dX.cl bH.cl aS bY aR iT jq kL kJ kK jD kF kI kE kQ iZ jP jd kR jQ jO jY kS kU kT kN jJ jL kV jW kM jX jM kH iQ kW bT jr bA jN
def ZlE:AC:= (.block 4 (.loop (.seq (.seq (.reg (some []) [rm 70 14,rm 71 8,ro 72 (.len (.t 71)),ro 73 (.bin .lss (.t 70) (.t 72)),rm 74 73,rg 75 74 true (.mv (.t 8)),rg 76 74 true (.mv (.t 14)),rg 77 74 true (.aI 2 (.t 75) (.t 76)),rg 78 74 true (.load (some 2) (.t 77)),rg 79 74 true (.load (some 2) (.t 13)),rg 80 74 true (.seq true [0,1] (.t 78) (.t 79)),ro 81 (.pick (.t 74) (.t 80) (.c (.v (.bool false))))]) (.cond (.t 81) .skip (.exit 4))) (.block 5 (.reg none [rm 82 14,ro 83 (.bin .add (.t 82) (ci 1)),rm 14 83])))))
def ZoS(KI:FuncId):AC:= (.block 2 (.loop (.seq (sq [rm 56 12,rF 57 0 9,rL 58 57,ro 59 (.bin .lss (.t 56) (.t 58))] (.cond (.t 59) .skip (.exit 2))) (.seq (.block 3 (.seq (.reg (some [[],[],[],[],[],[],[],[],[true,true,true,true,true,true,true,true]]) [ro 62 (.load (some 3) (.t 3)),ro 63 (.load (some 3) (.t 4)),rm 64 8,rm 65 10,ro 66 (.aI 2 (.t 64) (.t 65)),ro 67 (.load (some 2) (.t 66)),rm 68 12,rk 69 KI [(.t 62),(.t 63),(.t 67),(.t 68)],ro 13 (.alloc (.agg [(.v (.int .i64 0)),(.v (.int .i64 0))]) 2),rn (.store 2 (.t 13) (.t 69))]) (sq [ro 14 (.mv (ci 0))] (.seq ZlE (.seq (sq [rm 84 14,rm 85 8,ro 86 (.len (.t 85)),ro 87 (.bin .eql (.t 84) (.t 86))] (.cond (.t 87) (.seq (sq [rm 88 14,rm 89 2,ro 90 (.bin .eql (.t 88) (.t 89))] (.cond (.t 90) (sq [ro 91 (.build (.agg [(.v (.int .i64 0)),(.sl true []),(.sl true [])]) [] []),rn (.store 3 (.t 6) (.t 91)),ro 7 (.mv (ci 13))] .ret) .skip)) (.reg none [rm 92 8,ro 93 (.load (some 2) (.t 13)),ro 94 (.dn 2 1 (.agg [(.v (.int .i64 0)),(.v (.int .i64 0))]) [(0,(.t 93))]),ro 95 (.app 2 16 (.t 92) (.t 94)),rm 8 95])) .skip)) (.reg none [rm 96 11,rm 97 14,ro 98 (.dn 1 1 (.v (.int .i64 0)) [(0,(.t 97))]),ro 99 (.app 1 8 (.t 96) (.t 98)),rm 11 99])))))) (.reg none [rm 60 12,ro 61 (.bin .add (.t 60) (ci 1)),rm 12 61])))))
def ZlF:AC:= (.reg (some [[],[],[],[],[],[true],[false,true],[false,false,true],[false,false,false,true],[false,false,false,false,true],[false,false,false,false,false,true],[false,false,false,false,false,false,true],[false,false,false,false,false,false,false,true],[],[],[],[],[],[],[],[],[],[],[],[],[],[true]]) [rF 100 1 9,rL 101 100,rm 102 11,ro 103 (.dn 1 1 (.sl true []) [(0,(.t 102))]),ro 104 (.app 1 24 (.t 101) (.t 103)),rF 105 2 9,rL 106 105,rm 107 8,rm 108 10,ro 109 (.aI 2 (.t 107) (.t 108)),rF 110 0 109,rL 111 110,ro 112 (.bin .eql (.t 111) (ci 2)),rm 113 112,rg 114 113 true (.dA 2 (.t 4)),rg 115 113 true (.load none (.t 114)),rg 116 113 true (.mv (.t 8)),rg 117 113 true (.mv (.t 10)),rg 118 113 true (.aI 2 (.t 116) (.t 117)),rg 119 113 true (.dA 1 (.t 118)),rg 120 113 true (.load none (.t 119)),rg 121 113 true (.aI 1 (.t 115) (.t 120)),rg 122 113 true (.load none (.t 121)),ro 123 (.pick (.t 113) (.t 122) (.c (.v (.bool false)))),ro 124 (.dn 1 1 (.v (.bool false)) [(0,(.t 123))]),ro 125 (.app 1 1 (.t 106) (.t 124)),rF 126 1 9,rn (.store 1 (.t 126) (.t 104)),rF 127 2 9,rn (.store 1 (.t 127) (.t 125))])
def ZoR(KI:FuncId):AC:= (.block 0 (.loop (.seq (sq [rm 50 10,rm 51 8,ro 52 (.len (.t 51)),ro 53 (.bin .lss (.t 50) (.t 52))] (.cond (.t 53) .skip (.exit 0))) (.seq (.block 1 (sq [ro 11 (.mv (.c (.sl true [])))] (.seq (sq [ro 12 (.mv (ci 0))] (ZoS KI)) ZlF))) (.reg none [rm 54 10,ro 55 (.bin .add (.t 54) (ci 1)),rm 10 55])))))
def ZoQ:AC:= (sq [ro 128 (.load (some 3) (.t 9)),rn (.store 3 (.t 6) (.t 128)),ro 7 (.mv (ci 0))] .ret)
def ZaB(AA KI:FuncId):AC:= (sq [ro 3 (.box 3 (.t 0)),ro 4 (.box 3 (.t 1)),ro 6 (.alloc (.agg [(.v (.int .i64 0)),(.sl true []),(.sl true [])]) 3),ro 7 (.mv (ci 0))] (.seq (sq [ro 15 (.load (some 3) (.t 3)),rk 16 AA [(.t 15)],ro 17 (.un .not (.t 16)),rm 18 17,rg 19 18 false (.load (some 3) (.t 4)),rl 20 18 false AA [(.t 19)],rg 21 18 false (.un .not (.t 20)),ro 22 (.pick (.t 18) (.c (.v (.bool true))) (.t 21)),rm 23 22,rg 24 23 false (.dA 0 (.t 3)),rg 25 23 false (.load none (.t 24)),rg 26 23 false (.dA 0 (.t 4)),rg 27 23 false (.load none (.t 26)),rg 28 23 false (.bin .neq (.t 25) (.t 27)),ro 29 (.pick (.t 23) (.c (.v (.bool true))) (.t 28)),rm 30 29,rg 31 30 false (.dA 0 (.t 3)),rg 32 30 false (.load none (.t 31)),rg 33 30 false (.bin .gtr (.t 32) (ci 200)),ro 34 (.pick (.t 30) (.c (.v (.bool true))) (.t 33)),rm 35 34,rg 36 35 false (.mv (.t 2)),rg 37 35 false (.bin .lss (.t 36) (ci 1)),ro 38 (.pick (.t 35) (.c (.v (.bool true))) (.t 37)),rm 39 38,rg 40 39 false (.mv (.t 2)),rg 41 39 false (.bin .gtr (.t 40) (ci 3000)),ro 42 (.pick (.t 39) (.c (.v (.bool true))) (.t 41))] (.cond (.t 42) (sq [ro 43 (.build (.agg [(.v (.int .i64 0)),(.sl true []),(.sl true [])]) [] []),rn (.store 3 (.t 6) (.t 43)),ro 7 (.mv (ci 1))] .ret) .skip)) (sq [ro 44 (.build (.agg [(.v (.int .i64 0)),(.v (.int .i64 0))]) [(0,1),(1,1)] [(0,(ci 0)),(1,(ci 0))]),ro 45 (.dn 2 1 (.agg [(.v (.int .i64 0)),(.v (.int .i64 0))]) [(0,(.t 44))]),rm 8 45] (sq [rF 46 0 3,rL 47 46,ro 48 (.bin .mul (ci 2) (.t 47)),ro 49 (.build (.agg [(.v (.int .i64 0)),(.sl true []),(.sl true [])]) [(0,1)] [(0,(.t 48))]),ro 9 (.alloc (.agg [(.v (.int .i64 0)),(.sl true []),(.sl true [])]) 3),rn (.store 3 (.t 9) (.t 49))] (.seq (sq [ro 10 (.mv (ci 0))] (ZoR KI)) ZoQ)))))
section
variable(b a:aD)(most:Int)
end
def PG:AC:= (sq [ro 3 (.box 2 (.t 1)),ro 4 (.mv (ci 0))] (.seq (.reg (some []) [rm 8 0,ro 9 (.iU (.t 8)),rF 10 6 9,rL 11 10,ro 12 (.load (some 2) (.t 3)),ro 13 (.look (.ints 2) (.v (.int .i64 0)) true (.t 11) (.t 12)),rm 7 13,ro 14 (.ext 0 (.t 7)),ro 15 (.ext 1 (.t 7)),rm 5 14,rm 6 15]) (.seq (sq [rm 16 6,ro 17 (.un .not (.t 16))] (.cond (.t 17) (sq [rm 18 0,ro 19 (.iU (.t 18)),rF 20 7 19,rL 21 20,ro 22 (.len (.t 21)),rm 5 22] (.seq (.reg (some []) [rm 23 0,ro 24 (.iU (.t 23)),rF 25 6 24,rL 26 25,ro 27 (.load (some 2) (.t 3)),rm 28 5,rn (.BG (.ints 2) (.t 26) (.t 27) (.t 28))]) (.reg (some [[],[],[],[],[],[],[],[false,false,false,false,false,false,true]]) [rm 29 0,rm 30 0,ro 31 (.iU (.t 30)),rF 32 7 31,rL 33 32,ro 34 (.load (some 2) (.t 3)),ro 35 (.dn 2 1 (.agg [(.v (.int .i64 0)),(.v (.int .i64 0))]) [(0,(.t 34))]),ro 36 (.app 2 16 (.t 33) (.t 35)),ro 37 (.iU (.t 29)),rF 38 7 37,rn (.store 1 (.t 38) (.t 36))]))) .skip)) (sq [rm 39 5,rm 4 39] .ret))))
theorem Sd:Bg (.ints 2) (fun _:Int×Int=>True) cK:=⟨fun _=>rfl,fun x y _ _=>by
 obtain⟨a,b⟩:=x;obtain⟨c,d⟩:=y;by_cases h1:a=c<;>by_cases h2:b=d<;>simp[tJ,cK,Bu,h1,h2]⟩
section
variable{K:Type}[DecidableEq K]{d:KK}{good:K→Prop}{enc:K→AV}
theorem Zuf(h:Bg d good enc){ks:List K}{x:K}(hx:good x)(hs:∀s∈ks,good s){km aC:Nat}{S:St}(hg:S.g km=some (.map (jc enc 0 ks))) :
  (Bd d (.v (.int .i64 0)) true (.mp km) (enc x)).runT S aC=some (.aN [.v (.int .i64 (if x∈ks then (ks.idxOf x:Int) else 0)),.v (.bool (decide (x∈ks)))],S,[km],[]):=by
 have hk:=LW h ks 0;simp only[Bd,dL,hg,Option.bind_some,if_pos (show isK d (enc x)=true∧∀e∈jc enc 0 ks,isK d e.1=true from⟨h.k x,hk⟩),YK h hx ks 0 hs];by_cases hin:x∈ks
 ·simp[hin,aj]
 ·simp[hin]
theorem Zul(h:Bg d good enc){ks:List K}{x:K}(hx:good x)(hs:∀s∈ks,good s)(hn:x∉ks){km aC:Nat}{S:St}(hg:S.g km=some (.map (jc enc 0 ks))) :
  (Cr d (.mp km) (enc x) (.v (.int .i64 ks.length))).runT S aC=some (.junk,S.set km (some (.map (jc enc 0 (ks++[x])))),[km],[km]):=by
 have hk:=LW h ks 0;have h2:=Zi h hx ks 0 hs hn;rw[Nat.zero_add] at h2;have h':o9 (enc x) (.v (.int .i64 ks.length)) (jc enc 0 ks)=jc enc 0 (ks++[x]):=h2;simp only[Cr,fq,hg,Option.bind_some,if_pos (show isK d (enc x)=true∧∀e∈jc enc 0 ks,isK d e.1=true from⟨h.k x,hk⟩),h',Option.map_some]
end
theorem Dw{gF:Nat→Option aF}{R:Nat→Nat→Prop}(ss:List (Int×Int)):Br gF R (some (.map (jc cK 0 ss))) (some (.map (jc cK 0 ss))):=zM (zR yM _ _)
def nL(b a:aD)(km:Nat)(lv:AV):AV:=.agg [aj b.signs,aX b.next,ji b.fin,aj a.signs,aX a.next,ji a.fin,.mp km,lv]
def kG(b a:aD)(o:Bool)(ss:List (Int×Int))(id il km:Nat):List (Nat×Option aF):=
 [(id,some (.arr 8 [nL b a km (vV o il (ss.map cK))])),(il,vB o 2 (ss.map cK)),(km,some (.map (jc cK 0 ss)))]
def Zd(b a:aD)(ss:List (Int×Int))(S:St):Prop:=S.n=10∧S.g 0=some (.arr 8 [nL b a 2 (.own 3 0 ss.length)])∧S.g 3=some (.arr 2 (ss.map cK))∧S.g 2=some (.map (jc cK 0 ss))
theorem Zd.of{b a:aD}{ss:List (Int×Int)}{G:List (Nat×Option aF)}:Zd b a ss ⟨10,cB (kG b a true ss 0 3 2++G)⟩:=⟨rfl,by simp[kG,bT],by simp[kG,cB,bA],by simp[kG,cB]⟩
def CR(ss:List (Int×Int))(x:Int×Int):List (Int×Int):=if x∈ss then ss else ss++[x]
def Ee(ss:List (Int×Int))(x:Int×Int):Int:=if x∈ss then (@List.idxOf _ instBEqOfDecidableEq x ss:Int) else ss.length
def Jy(P:Program)(f:FuncId)(b a:aD)(o:Bool)(ss:List (Int×Int))(x:Int×Int):Prop:=
 aQ P f [.ptr 0 0 0,cK x] ⟨3,cB (kG b a o ss 0 1 2)⟩ fun r' S'=>r'=aj (Ee ss x)∧Zd b a (CR ss x) S'
def Gt(b a:aD)(ss:List (Int×Int))(id il km:Nat)(S:St):St:=
 (((((St.mk (S.n+7) S.g).set id (some (.arr 8 [nL b a km (.own S.n 0 ss.length)]))).set il none).set km (some (.map (jc cK 0 ss)))).set S.n (some (.arr 2 (ss.map cK))))
theorem Jy.use{P:Program}{f:FuncId}{b a:aD}{o:Bool}{ss:List (Int×Int)}{x:Int×Int}(h:Jy P f b a o ss x){S:St}{K:AV→St→Prop}{id il km:Nat}
  (h1:S.g id=some (.arr 8 [nL b a km (vV o il (ss.map cK))])) (h2:S.g il=vB o 2 (ss.map cK)) (h3:S.g km=some (.map (jc cK 0 ss)))
  (hd:id≠il∧id≠km∧il≠km) (hl:id < S.n∧il < S.n∧km < S.n) (hk:K (aj (Ee ss x)) (Gt b a (CR ss x) id il km S)):aQ P f [.ptr id 0 0,cK x] S K:=by
 refine aQ.frame 3 [(0,id),(1,il),(2,km)] (kG b a o ss 0 1 2) [.ptr 0 0 0,cK x] _ (by simp;omega) (by simp;omega) ?_ ?_ h ?_
 ·intro p hp
  simp only[kG,List.mem_cons,List.not_mem_nil,or_false] at hp;rcases hp with rfl | rfl | rfl
  ·refine .inr ⟨id,by simp,?_⟩
   rw[h1,iQ];refine⟨rfl,?_⟩;simp only[nL,jJ,jL,and_true,jM,jX];exact⟨.cl (aS _),.cl (iT _),.cl (jq _),.cl (aS _),.cl (iT _),.cl (jq _),by simp,jQ (by simp) (Bb _)⟩
  ·exact .inr ⟨il,by simp,by rw[h2];exact jO (Bb _)⟩
  ·exact .inr ⟨km,by simp,by rw[h3];exact zM (zR yM _ _)⟩
 ·exact .cons (.ptr _ _ _ _ (by simp)) (.cons (.cl (yM _)) .nil)
 ·rintro r1 S1 hn ⟨rfl,q1,q2,q3,q4⟩
  refine⟨_,_,hk,.cl (aS _),by simp[Gt,bf,q1],fun i k hi=>?_⟩;simp only[Gt,aG] at hi;by_cases e4:i=S.n
  ·rw[if_pos e4] at hi
   refine .inr ⟨3,.inr ⟨by omega,by omega⟩,?_⟩;rw[←hi,q3,iQ];exact⟨rfl,.cl (Bb _)⟩
  rw[if_neg e4] at hi;by_cases ec:i=km
  ·rw[if_pos ec] at hi
   refine .inr ⟨2,.inl ⟨by omega,by simp[ec]⟩,?_⟩;rw[←hi,q4];exact zM (zR yM _ _)
  rw[if_neg ec] at hi;by_cases eb:i=il
  ·rw[if_pos eb] at hi;cases hi
  rw[if_neg eb] at hi;by_cases ea:i=id
  ·rw[if_pos ea] at hi
   refine .inr ⟨0,.inl ⟨by omega,by simp[ea]⟩,?_⟩;rw[←hi,q2,iQ];refine⟨rfl,?_⟩;simp only[nL,jJ,jL,and_true,jM,jW,jX];exact⟨.cl (aS _),.cl (iT _),.cl (jq _),.cl (aS _),.cl (iT _),.cl (jq _),.inl ⟨by omega,by simp⟩,.inr ⟨by omega,by omega⟩⟩
  ·rw[if_neg ea] at hi
   refine .inl ⟨?_,hi⟩;simp;omega
theorem Zn8{P:Program}(hm:P.follows .mixedOrders=true){f:FuncId}(h:Is P f PG [4] 2)(b a:aD)(o:Bool)(ss:List (Int×Int))(ho:o=true∨ss=[])(hl:ss.length≤100000)(x:Int×Int):Jy P f b a o ss x:=by
 refine h.xg hm rfl ?_;have ok1:dV 16 ss.length 1:=by unfold dV;omega
 have aag:=fun(aC:Nat) (S:St) (hg:S.g 2=some (.map (jc cK 0 ss)))=>Zuf (x:=x) (aC:=aC) Sd trivial (fun _ _=>trivial) hg
 have Au:=fun(aC:Nat) (S:St) (hg:S.g 2=some (.map (jc cK 0 ss)))=>YU (x:=x) (aC:=aC) Sd trivial (fun _ _=>trivial) hg
 have hax:AV.agg [.v (.int .i64 x.1),.v (.int .i64 x.2)]=cK x:=rfl;by_cases hin:x∈ss
 ·have ho':o=true:=by
   rcases ho with h | h
   ·exact h
   ·subst h;simp at hin
  subst ho';simp only[hin,if_true,decide_true] at aag Au;rw[CR,Ee,if_pos hin,if_pos hin];simp[PG,kG,nL,lu,hax,Au];refine⟨jA [(4,.v (.int .i64 (@List.idxOf _ instBEqOfDecidableEq x ss:Int)))],⟨10,cB (kG b a true ss 0 3 2++[])⟩,bL.of [(0,0),(2,2),(3,1)] [] (by omega) ⟨by simp,by simp⟩ ?_ ?_,by simp[jA],.of⟩
  ·simp[kG,nL,Dw,Bb]
  ·simp
 ·have hmT:=fun(aC:Nat) (S:St) (hg:S.g 2=some (.map (jc cK 0 ss)))=>Zul (x:=x) (aC:=aC) Sd trivial (fun _ _=>trivial) hin hg
  simp only[hin,if_false,decide_false] at aag Au;have hm0:=fun(aC:Nat) (S:St) (hg:S.g 2=some (.map (jc cK 0 ss)))=>RY (x:=x) (aC:=aC) Sd trivial (fun _ _=>trivial) hin hg
  rw[CR,Ee,if_neg hin,if_neg hin];simp[PG,kG,nL,ok1,lu,hax,Au,hm0];refine⟨jA [(4,aj ss.length)],⟨10,cB (kG b a true (ss++[x]) 0 3 2++[])⟩,bL.of [(0,0),(2,2),(3,38)] [] (by omega) ⟨by simp,by simp⟩ ?_ ?_,by simp[jA,aj],.of⟩
  ·simp[kG,nL,Dw,Bb,yM]
  ·simp
def Zir(H9 KJ:FuncId):AC:= (.block 2 (.loop (sq [ro 77 (.bin .lss (.t 76) (.t 75))] (.seq (.cond (.t 77) .skip (.exit 2)) (.seq (.block 3 (sq [rm 78 76,rm 13 78] (sq [rm 79 12,rm 80 13,rm 81 8,rm 82 8,ro 83 (.load (some 2) (.t 11)),rm 84 13,ro 85 (.bin .quo (.t 84) (ci 2)),rm 86 13,ro 87 (.bin .and (.t 86) (ci 1)),ro 88 (.bin .eql (.t 87) (ci 1)),rk 89 KJ [(.t 82),(.t 83),(.t 85),(.t 88)],rk 90 H9 [(.t 81),(.t 89)],ro 91 (.aI 1 (.t 79) (.t 80)),rn (.store 1 (.t 91) (.t 90))] (sq [rm 92 8,ro 93 (.iU (.t 92)),rF 94 7 93,rL 95 94,ro 96 (.len (.t 95)),rm 97 2,ro 98 (.bin .gtr (.t 96) (.t 97))] (.cond (.t 98) (sq [ro 99 (.build (.agg [(.v (.int .i64 0)),(.sl true []),(.sl true [])]) [] []),rn (.store 3 (.t 6) (.t 99)),ro 7 (.mv (ci 13))] .ret) .skip))))) (.reg none [ro 100 (.bin .add (.t 76) (ci 1)),rm 76 100]))))))
def WV:AC:= (.reg (some [[],[],[],[],[],[true],[false,true],[false,false,true],[false,false,false,true],[false,false,false,false,true],[],[],[],[],[],[],[],[],[],[],[true]]) [rF 101 1 9,rL 102 101,rm 103 12,ro 104 (.dn 1 1 (.sl true []) [(0,(.t 103))]),ro 105 (.app 1 24 (.t 102) (.t 104)),rF 106 2 9,rL 107 106,rF 108 0 11,rL 109 108,ro 110 (.bin .eql (.t 109) (ci 2)),rm 111 110,rg 112 111 true (.dA 2 (.t 4)),rg 113 111 true (.load none (.t 112)),rg 114 111 true (.dA 1 (.t 11)),rg 115 111 true (.load none (.t 114)),rg 116 111 true (.aI 1 (.t 113) (.t 115)),rg 117 111 true (.load none (.t 116)),ro 118 (.pick (.t 111) (.t 117) (.c (.v (.bool false)))),ro 119 (.dn 1 1 (.v (.bool false)) [(0,(.t 118))]),ro 120 (.app 1 1 (.t 107) (.t 119)),rF 121 1 9,rn (.store 1 (.t 121) (.t 105)),rF 122 2 9,rn (.store 1 (.t 122) (.t 120))])
def Ziq(H9 KJ:FuncId):AC:= (.block 0 (.loop (.seq (sq [rm 55 10,rm 56 8,ro 57 (.iU (.t 56)),rF 58 7 57,rL 59 58,ro 60 (.len (.t 59)),ro 61 (.bin .lss (.t 55) (.t 60))] (.cond (.t 61) .skip (.exit 0))) (.seq (.block 1 (sq [rm 64 8,ro 65 (.iU (.t 64)),rF 66 7 65,rL 67 66,rm 68 10,ro 69 (.aI 2 (.t 67) (.t 68)),ro 70 (.load (some 2) (.t 69)),ro 11 (.alloc (.agg [(.v (.int .i64 0)),(.v (.int .i64 0))]) 2),rn (.store 2 (.t 11) (.t 70))] (sq [rF 71 0 9,rL 72 71,ro 73 (.wF 1 8 (.v (.int .i64 0)) (.t 72) (.t 72)),rm 12 73] (.seq (sq [rm 74 12,ro 75 (.len (.t 74)),ro 76 (.mv (ci 0))] (Zir H9 KJ)) WV)))) (.reg none [rm 62 10,ro 63 (.bin .add (.t 62) (ci 1)),rm 10 63])))))
def Zip:AC:= (sq [ro 123 (.load (some 3) (.t 9)),rn (.store 3 (.t 6) (.t 123)),ro 7 (.mv (ci 0))] .ret)
def WH(Dr H9 KJ:FuncId):AC:= (sq [ro 3 (.box 3 (.t 0)),ro 4 (.box 3 (.t 1)),ro 6 (.alloc (.agg [(.v (.int .i64 0)),(.sl true []),(.sl true [])]) 3),ro 7 (.mv (ci 0))] (.seq (sq [ro 14 (.load (some 3) (.t 3)),rk 15 Dr [(.t 14)],ro 16 (.un .not (.t 15)),rm 17 16,rg 18 17 false (.load (some 3) (.t 4)),rl 19 17 false Dr [(.t 18)],rg 20 17 false (.un .not (.t 19)),ro 21 (.pick (.t 17) (.c (.v (.bool true))) (.t 20)),rm 22 21,rg 23 22 false (.dA 0 (.t 3)),rg 24 22 false (.load none (.t 23)),rg 25 22 false (.dA 0 (.t 4)),rg 26 22 false (.load none (.t 25)),rg 27 22 false (.bin .neq (.t 24) (.t 26)),ro 28 (.pick (.t 22) (.c (.v (.bool true))) (.t 27)),rm 29 28,rg 30 29 false (.dA 0 (.t 3)),rg 31 29 false (.load none (.t 30)),rg 32 29 false (.bin .gtr (.t 31) (ci 200)),ro 33 (.pick (.t 29) (.c (.v (.bool true))) (.t 32)),rm 34 33,rg 35 34 false (.mv (.t 2)),rg 36 34 false (.bin .lss (.t 35) (ci 1)),ro 37 (.pick (.t 34) (.c (.v (.bool true))) (.t 36)),rm 38 37,rg 39 38 false (.mv (.t 2)),rg 40 38 false (.bin .gtr (.t 39) (ci 3000)),ro 41 (.pick (.t 38) (.c (.v (.bool true))) (.t 40))] (.cond (.t 41) (sq [ro 42 (.build (.agg [(.v (.int .i64 0)),(.sl true []),(.sl true [])]) [] []),rn (.store 3 (.t 6) (.t 42)),ro 7 (.mv (ci 1))] .ret) .skip)) (sq [ro 43 (.load (some 3) (.t 3)),ro 44 (.load (some 3) (.t 4)),ro 45 (.EA),ro 46 (.build (.agg [(.v (.int .i64 0)),(.sl true []),(.sl true []),(.v (.int .i64 0)),(.sl true []),(.sl true []),(.v (.map none)),(.sl true [])]) [(0,3),(3,3),(6,1)] [(0,(.t 43)),(1,(.t 44)),(2,(.t 45))]),ro 47 (.box 8 (.t 46)),rm 8 47] (sq [rm 48 8,ro 49 (.build (.agg [(.v (.int .i64 0)),(.v (.int .i64 0))]) [] []),rk 50 H9 [(.t 48),(.t 49)]] (sq [rF 51 0 3,rL 52 51,ro 53 (.bin .mul (ci 2) (.t 52)),ro 54 (.build (.agg [(.v (.int .i64 0)),(.sl true []),(.sl true [])]) [(0,1)] [(0,(.t 53))]),ro 9 (.alloc (.agg [(.v (.int .i64 0)),(.sl true []),(.sl true [])]) 3),rn (.store 3 (.t 9) (.t 54))] (.seq (sq [ro 10 (.mv (ci 0))] (Ziq H9 KJ)) Zip))))))
abbrev YP:=uV (Int×Int)×(Bool×Bool)
section
variable(b a:aD)(most:Int)(n:Nat)
def yh(i:Nat):List (Nat×AV):=[(2,aj most),(3,.ptr 0 0 0),(4,.ptr 1 0 0),(6,.ptr 2 0 0),(8,.ptr 3 0 0),(9,.ptr 6 0 0),(10,aj i)]
def yj(ss:List (Int×Int))(nx:List (List Int))(en:List Bool)(oN oE:Bool):List (Nat×Option aF):=
 [(0,some (.arr 3 [aW b])),(1,some (.arr 3 [aW a])),(2,some (.arr 3 [rV])),(3,some (.arr 8 [nL b a 5 (.own 4 0 ss.length)])),(4,some (.arr 2 (ss.map cK))),(5,some (.map (jc cK 0 ss))),
  (6,some (.arr 3 [.agg [.v (.int .i64 n),vV oN 7 (nx.map aA),vV oE 8 (en.map aH)]])),(7,vB oN 1 (nx.map aA)),(8,vB oE 1 (en.map aH))]
def Zwb(i:Nat)(s:YP):Prop:=pq (q8 b a) most i=some s.1∧∀m,m < i→∀oC,pq (q8 b a) most m=some oC→m≠oC.1.length
def Jv(i:Nat)(s:YP):List (Nat×AV):=yh most i
def Jw(_:Nat)(s:YP):List (Nat×Option aF):=yj b a n s.1.1 s.1.2.1 s.1.2.2 s.2.1 s.2.2
def Zwc(x:Int×Int)(sW:List (Int×Int))(k:Nat)(s:List (Int×Int)×List Int):Prop:=
 wC most (oh b a x) k sW=some (s.1,s.2.take k)∧s.2.length=n∧∀j (h:j < sW.length),s.1[j]? = some sW[j]
def Gf(i:Nat)(k:Nat)(s:List (Int×Int)×List Int):List (Nat×AV):=(11,.ptr 9 0 0)::(12,.own 10 0 n)::(75,aj n)::(76,aj k)::yh most i
def Gg(x:Int×Int)(nx:List (List Int))(en:List Bool)(oN oE:Bool)(_:Nat)(s:List (Int×Int)×List Int):List (Nat×Option aF):=
 (9,some (.arr 2 [cK x]))::(10,some (.arr 1 (s.2.map aj)))::yj b a n s.1 nx en oN oE
theorem Zdn{gF:Nat→Option aF}{R:Nat→Nat→Prop}(uE:List Int)(k:Nat)(v:Int):dX gF R ((List.map aj uE).set k (.v (.int .i64 v))) ((List.map aj uE).set k (.v (.int .i64 v))):=by
 have:(List.map aj uE).set k (.v (.int .i64 v))=List.map aj (uE.set k v):=by rw[List.map_set];rfl
 rw[this];exact dX.cl (iZ _)
theorem Ze8(l:List Int)(k:Nat)(v:Int)(h:k < l.length):(l.set k v).take (k+1)=l.take k++[v]:=by
 rw[List.take_succ_eq_append_getElem (by simpa using h),List.take_set_of_le (Nat.le_refl _)];simp
theorem Zu6{g:Nat→Option aF}{b a:aD}{km:Nat}{lv:AV}(h:g 3=some (.arr 8 [nL b a km lv])):Fz g (.ptr 3 0 0) (zu b a):=
 .pre 3 8 [aj b.signs,aX b.next,ji b.fin,aj a.signs,aX a.next,ji a.fin] [.mp km,lv] h (aL (aS _) (aL (iT _) (aL (jq _) (aL (aS _) (aL (iT _) (aL (jq _) aU))))))
end
theorem ZpU(p:Int×Int):xG (cK p):=.agg _ fun y hy=>by simp at hy;rcases hy with rfl | rfl<;>exact .v _
theorem Zrl{k:Nat}(h:k≤1000):(IntKind.i64.wrap ((k % 2 ^ IntKind.i64.bits &&& 1 % 2 ^ IntKind.i64.bits:Nat):Int) == 1)=decide (k % 2=1):=by
 have e1:k % 2 ^ IntKind.i64.bits=k:=Nat.mod_eq_of_lt (by show k < 2 ^ 64;omega);have e2:1 % 2 ^ IntKind.i64.bits=1:=rfl;rw[e1,e2,Nat.and_one_is_mod,bG _ (by omega)];by_cases h:k % 2=1
 ·simp[h]
 ·have h0:k % 2=0:=by omega
  simp[h0]
theorem ZhK{P:Program}{fr uw fb:FuncId}(b a:aD)(most:Int)(hrb:aO P fr [aW b] (aH (lS b)))(hra:aO P fr [aW a] (aH (lS a)))
  (hn:∀o ss x,(o=true∨ss=[])→ss.length≤100000→Jy P uw b a o ss x)
  (hb:bD b→bD a→b.signs=a.signs→∀x (s:Nat),vM b a x→s < (2*b.signs).toNat→aO P fb [zu b a,cK x,aj (s / 2:Nat),aH (decide (s % 2=1))] (cK (oh b a x s))) :
  bM P 0 (WH fr uw fb) (bR [.c 6 (some 3),.t 7] (iP (mo (lG b a most)))) (bU [aW b,aW a,aj most]) S0:=by
 simp[WH];refine aQ.pure hrb (aL (iV b) aU) (bY _) ?_;cases hRb:lS b with
 | false=>
  have hres:lG b a most=(⟨0,[],[]⟩,1):=by simp[lG,hRb]
  rw[hres];simp[bR,bX,RV.ev,gH,cO,jw,jh];exact vX _ 1
 | true=>
 simp;refine aQ.pure hra (aL (iV a) aU) (bY _) ?_;cases ZE:lS a with
 | false=>
  have hres:lG b a most=(⟨0,[],[]⟩,1):=by simp[lG,ZE]
  rw[hres];simp[bR,bX,RV.ev,gH,cO,jw,jh];exact vX _ 1
 | true=>
 have Rb:=(uW b).mp hRb;have Ra:=(uW a).mp ZE;by_cases hsg:b.signs=a.signs;rotate_left
 ·have hres:lG b a most=(⟨0,[],[]⟩,1):=by rw[lG,if_neg (by simp[hsg])]
  have hne:(b.signs != a.signs)=true:=by simp[hsg]
  rw[hres];simp[hne,bR,bX,RV.ev,gH,cO,jw,jh];exact vX _ 1
 have hne:(b.signs != a.signs)=false:=by simp[hsg]
 by_cases h2:200 < b.signs
 ·have hres:lG b a most=(⟨0,[],[]⟩,1):=by rw[lG,if_neg (by omega)]
  rw[hres];simp[hne,h2,bR,bX,RV.ev,gH,cO,jw,jh];exact vX _ 1
 by_cases h1:most < 1
 ·have hres:lG b a most=(⟨0,[],[]⟩,1):=by rw[lG,if_neg (by omega)]
  rw[hres];simp[hne,h2,h1,bR,bX,RV.ev,gH,cO,jw,jh];exact vX _ 1
 by_cases h3:3000 < most
 ·have hres:lG b a most=(⟨0,[],[]⟩,1):=by rw[lG,if_neg (by omega)]
  rw[hres];simp[hne,h2,h1,h3,bR,bX,RV.ev,gH,cO,jw,jh];exact vX _ 1
 have hres:lG b a most=(match F8 (q8 b a) most with | some st=>(⟨2*b.signs,st.2.1,st.2.2⟩,0) | none=>(⟨0,[],[]⟩,13)):=by rw[lG,if_pos ⟨hRb,ZE,hsg,by omega,by omega,by omega⟩];cases F8 (q8 b a) most<;>rfl
 have hs1:=Rb.s1;obtain⟨n,hn2⟩:∃n:Nat,2*b.signs=(n:Int):=⟨(2*b.signs).toNat,by omega⟩;have Z0:IntKind.i64.wrap (2*b.signs)=(n:Int):=by rw[hn2];exact bG _ (by omega)
 have I:=Zwq Rb Ra hsg;have hb':=hb Rb Ra hsg;have aa2:(q8 b a).sg=n:=by show(2*b.signs).toNat=n;omega
 have ZC:(q8 b a).b=oh b a:=rfl;simp[hne,h2,h1,h3,jw,jh,Gd];refine Jy.use (hn false [] (0,0) (.inr rfl) (by simp)) (id:=36) (il:=3) (km:=34) (by simp[nL,jr]) (by simp[jN]) (by simp[jc]) (by simp) (by simp) ?_;have hn0:CR [] (0,0)=[(0,0)]:=rfl;simp[Gt,hn0,Z0,jw,jh,Zip,Ziq];refine uJ most.toNat (Zwb b a most) (Jv most) 10 (Jw b a n) (([(0,0)],[],[]),false,false) ⟨rfl,fun m hm=>by omega⟩ ?_ ?_
 ·refine bL.of [(0,0),(1,1),(2,2),(3,36),(4,41),(5,34),(6,52)] [] (by omega) ⟨by simp,by simp⟩ ?_ ?_
  ·simp[Jw,yj,rV,iV,nL,Dw,yM]
  ·simp[Jv,yh,cK]
 ·rintro i ⟨⟨ss,nx,fin⟩,oN,oE⟩ hi' ⟨heq,hmin⟩
  simp only at heq hmin;have ok:=MK I (by omega) i heq;have hle:=ok.le;have hsl:=ok.ss.l;simp only at hle hsl;by_cases hlt:i < ss.length
  ·obtain⟨x,hx⟩:∃x,ss[i]? = some x:=⟨_,List.getElem?_eq_getElem hlt⟩
   have hxe:ss[i]=x:=by rw[List.getElem?_eq_getElem hlt] at hx;exact Option.some.inj hx
   have TS:vM b a x:=ok.ss.v x (by rw[←hxe];exact List.getElem_mem hlt);have Kg:pq (q8 b a) most (i+1)=yG (q8 b a) most i (ss,nx,fin):=by simp only[pq,heq]
   have hax:AV.agg [.v (.int .i64 x.1),.v (.int .i64 x.2)]=cK x:=rfl;have sU:(i:Int) < (ss.length:Int):=by omega
   have hmk:8*(n:Int)≤281474976710656:=by omega
   have N7:(n:Int)≤9223372036854775807:=by omega
   have abG:8*n≤281474976710656:=by omega
   have abH:n≤9223372036854775807:=by omega
   simp[Jv,yh,Jw,yj,nL,hlt,sU,hxe,Zir,lu,D7,hmk,N7];refine uJ n (Zwc b a most n x ss) (Gf most n i) 11 (Gg b a n x nx fin oN oE) (ss,List.replicate n 0) ⟨rfl,by simp,fun j hj=>List.getElem?_eq_getElem hj⟩ ?_ ?_
   ·refine bL.of [(0,0),(1,1),(2,2),(3,3),(4,4),(5,5),(6,6),(7,7),(8,8),(9,24),(10,28)] [] (by omega) ⟨by simp,by simp⟩ ?_ ?_
    ·simp[Gg,yj,rV,iV,nL,Dw,Bb,yM,hax]
    ·simp[Gf,yh]
   ·rintro k ⟨ss1,uE⟩ hk ⟨hrow,Ki,hpre⟩
    simp only at hrow Ki hpre;have hsx:∀s,s < n→s < (q8 b a).sg:=fun s hs=>by omega
    obtain⟨hok,hlen1,hrl⟩:=XQ (V:=vM b a) (n:=n) (fun s hs=>I.next x s TS (hsx s hs)) ok.ss k hk hrow;simp only at hok hlen1 hrl;have hl1:=hok.l;have hi1:i < ss1.length:=by omega
    by_cases hkl:k < n
    ·have Es:(k:Int) < (n:Int):=by omega
     have hxn:=hb' x k TS (by omega);have hvb:=I.next x k TS (hsx k hkl)
     have hcn:=hn true ss1 (oh b a x k) (.inl rfl) (by omega);rw[ZC] at hvb;generalize hto:oh b a x k=to at *;have hqq:((k / 2:Nat):Int)=(k:Int) / 2:=by omega
     have hq:IntKind.i64.wrap ((k:Int) / 2)=(k:Int) / 2:=by rw[←hqq];exact bG _ (by omega)
     have hand:=Zrl (k:=k) (by omega);rw[hqq] at hxn;simp[Gf,yh,Gg,yj,nL,Es,hax,hq,hand];refine aQ.looks hxn (gI.cons (Zu6 (km:=5) (lv:=.own 4 0 ss1.length) (by simp[nL])) (gI.cons (.closed _ (yM x)) (gI.cons (.closed _ (aS _)) (gI.cons (.closed _ (bY _)) gI.nil)))) (ZpU _) ?_;simp;refine Jy.use hcn (id:=3) (il:=4) (km:=5) (by simp[nL,bT]) (by simp[bA]) (by simp) (by simp) (by simp) ?_;have BD:k < uE.length:=by omega
     have hrwn:n≤uE.length:=by omega
     by_cases hin:to∈ss1
     ·have hnl:CR ss1 to=ss1:=by rw[CR,if_pos hin]
      have TI:Ee ss1 to=(@List.idxOf _ instBEqOfDecidableEq to ss1:Int):=by rw[Ee,if_pos hin]
      have hnf:Ag most ss1 (oh b a x k)=some (ss1,(@List.idxOf _ instBEqOfDecidableEq to ss1:Int)):=by unfold Ag;rw[hto,if_pos hin]
      have hle2:¬most < (ss1.length:Int):=by omega
      simp[Gt,hnl,TI,nL,lu,Es,BD,hrwn,hle2];rw[bG ((k:Int)+1) (by omega)];refine⟨hkl,(ss1,uE.set k (@List.idxOf _ instBEqOfDecidableEq to ss1:Int)),⟨by rw[Ze8 _ _ _ BD];simp only[wC,hrow,hnf],by simpa using Ki,hpre⟩,bL.of [(0,0),(1,1),(2,2),(3,3),(4,28),(5,5),(6,6),(7,7),(8,8),(9,9),(10,10)] [] (by omega) ⟨by simp,by simp⟩ ?_ ?_⟩
      ·simp[Gg,yj,rV,iV,nL,Dw,Bb,yM,Zdn]
      ·simp[Gf,yh]
     ·have hnl:CR ss1 to=ss1++[to]:=by rw[CR,if_neg hin]
      have TI:Ee ss1 to=(ss1.length:Int):=by rw[Ee,if_neg hin]
      by_cases hfull:(ss1.length:Int)=most
      ·have hnf:Ag most ss1 (oh b a x k)=none:=by unfold Ag;rw[hto,if_neg hin,if_pos hfull]
       have hgt:most < (ss1.length:Int)+1:=by omega
       have hrn:wC most (oh b a x) n ss=none:=ZgB (k:=k+1) (by simp only[wC,hrow,hnf]) _ (by omega)
       have hnone:F8 (q8 b a) most=none:=by
        refine ZiS (most.toNat+1) 0 rfl i (Nat.zero_le _) (by rw[Kg];simp only[yG,hx,aa2,ZC,hrn]) (fun m _ h2 oC uy=>?_);by_cases qR:m=i
        ·subst qR
         rw[heq] at uy;cases uy;simp only;omega
        ·exact hmin m (by omega) oC uy
       rw[hnone] at hres;simp only at hres;rw[hres];simp[Gt,hnl,TI,nL,lu,Es,BD,hrwn,hgt,bR,bX,RV.ev,gH,cO,jw,jh,rV];exact vX _ 13
      ·have hnf:Ag most ss1 (oh b a x k)=some (ss1++[to],(ss1.length:Int)):=by unfold Ag;rw[hto,if_neg hin,if_neg hfull]
       have hgt:¬most < (ss1.length:Int)+1:=by omega
       simp[Gt,hnl,TI,nL,lu,Es,BD,hrwn,hgt];rw[bG ((k:Int)+1) (by omega)];refine⟨hkl,(ss1++[to],uE.set k ss1.length),⟨by rw[Ze8 _ _ _ BD];simp only[wC,hrow,hnf],by simpa using Ki,fun a ha=>?_⟩,bL.of [(0,0),(1,1),(2,2),(3,3),(4,28),(5,5),(6,6),(7,7),(8,8),(9,9),(10,10)] [] (by omega) ⟨by simp,by simp⟩ ?_ ?_⟩
       ·have:=hpre a ha
        have hal:=(List.getElem?_eq_some_iff.mp this).1;simp only;rw[List.getElem?_append_left hal];exact this
       ·simp[Gg,yj,rV,iV,nL,Dw,Bb,yM,Zdn]
       ·simp[Gf,yh]
    ·have hke:k=n:=by omega
     subst hke;have hrt:uE.take k=uE:=by rw[←Ki,List.take_length]
     rw[hrt] at hrow;have hnx:=ok.nx;have hfn:=ok.en;simp only at hnx hfn;have TM:dV 24 nx.length 1:=by unfold dV;omega
     have TL:dV 1 fin.length 1:=by unfold dV;omega
     have hsr:yG (q8 b a) most i (ss,nx,fin)=some (ss1,nx++[uE],fin++[wz a x]):=by simp only[yG,hx,aa2,ZC,hrow];rfl
     obtain⟨v0,v1,v2,v3,v4,v5⟩:=TS;by_cases h2x:x.1=2
     ·have hme:wz a x=jR a x.2.toNat:=by simp[wz,h2x]
      have haf:=Ra.fin;have TN:x.2 < (a.fin.length:Int):=by have:=v4 h2x;omega
      obtain⟨hfi,Kc⟩:=ZqG (d:=a) x.2.toNat;simp[Gf,yh,Gg,yj,nL,WV,TM,TL,h2x,v2,TN,Kc];refine⟨by rintro j (⟨_,rfl⟩ | rfl)<;>simp,by rintro j (⟨_,rfl⟩ | rfl)<;>simp,?_⟩;rw[bG ((i:Int)+1) (by omega)];refine⟨by omega,((ss1,nx++[uE],fin++[wz a x]),true,true),⟨by rw[Kg,hsr],fun m hm oC uy=>?_⟩,bL.of [(0,0),(1,1),(2,2),(3,3),(4,4),(5,5),(6,6),(7,16),(8,31)] [10] (by omega) ⟨by simp,by simp⟩ ?_ ?_⟩
      ·by_cases qR:m=i
       ·subst qR
        rw[heq] at uy;cases uy;simp only;omega
       ·exact hmin m (by omega) oC uy
      ·simp[Jw,yj,rV,iV,nL,Dw,Bb,hme,Ki]
      ·simp[Jv,yh]
     ·have hme:wz a x=false:=by simp[wz,h2x]
      have aaw:(x.1 == 2)=false:=by simp[h2x]
      simp[Gf,yh,Gg,yj,nL,WV,TM,TL,aaw];refine⟨by rintro j (⟨_,rfl⟩ | rfl)<;>simp,by rintro j (⟨_,rfl⟩ | rfl)<;>simp,?_⟩;rw[bG ((i:Int)+1) (by omega)];refine⟨by omega,((ss1,nx++[uE],fin++[wz a x]),true,true),⟨by rw[Kg,hsr],fun m hm oC uy=>?_⟩,bL.of [(0,0),(1,1),(2,2),(3,3),(4,4),(5,5),(6,6),(7,16),(8,31)] [10] (by omega) ⟨by simp,by simp⟩ ?_ ?_⟩
      ·by_cases qR:m=i
       ·subst qR
        rw[heq] at uy;cases uy;simp only;omega
       ·exact hmin m (by omega) oC uy
      ·simp[Jw,yj,rV,iV,nL,Dw,Bb,hme,Ki]
      ·simp[Jv,yh]
  ·have hie:i=ss.length:=by omega
   subst hie;have CY:F8 (q8 b a) most=some (ss,nx,fin):=Zmt I (by omega) (most.toNat+1) 0 rfl (by omega) ss.length (ss,nx,fin) (Nat.zero_le _) heq rfl (fun m _ h2=>hmin m h2);rw[CY] at hres;simp only at hres;rw[hres,hn2];simp[Jv,yh,Jw,yj,nL,lu,bR,bX,RV.ev,gH,cO,rV];refine .Ig (.cons (.Ls (.cons (.closed _ (.v _)) (.cons (Bp ?_ (jd _)) (.cons (Bp ?_ (jP _)) .nil)))) (.cons (.closed _ (.v _)) .nil))
   ·simp
   ·simp
end Go.Rf
