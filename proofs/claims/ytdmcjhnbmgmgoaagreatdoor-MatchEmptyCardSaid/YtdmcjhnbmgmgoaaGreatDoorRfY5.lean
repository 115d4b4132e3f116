import Derived.Test.YtdmcjhnbmgmgoaaGreatDoorRfE8
import Derived.Lib.ItoaLen
set_option linter.unusedVariables false
set_option linter.unusedSimpArgs false
set_option linter.unusedSectionVars false
namespace Go.Rf
def RI(n:Net)(at_:List Int)(sign:Int):List Int:=ZpW [] (qy n at_ sign)
def YL(kd:Kd)(n:Net)(set:List Int)(s:Int):List Int:=
 match kd with
 | .whole=>RI n set s
 | .tails=>0::RI n set s
 | .heads=>if lC n set=true then set else RI n set s
def Zm(kd:Kd)(n:Net)(most:Int)(i:Nat)(st:qX):Option qX:=
 match st.1[i]? with
 | none=>none
 | some set=>match ug most (YL kd n set) n.signs.toNat st.1 with
  | none=>none
  | some (s2,r)=>some (s2,st.2.1++[r],st.2.2++[lC n set])
def SB(kd:Kd)(n:Net)(most:Int):Nat→Nat→qX→Option qX
 | 0,_,_=>none
 | f+1,i,st=>if i=st.1.length then some st else match Zm kd n most i st with
  | none=>none
  | some st'=>SB kd n most f (i+1) st'
def Si(kd:Kd)(n:Net)(most:Int):aD×Int:=
 if qQ n=true∧1≤most∧most≤3000 then (match SB kd n most (most.toNat+1) 0 ([[0]],[],[]) with
  | some st=>(⟨n.signs,st.2.1,st.2.2⟩,0)
  | none=>(⟨0,[],[]⟩,13))
 else (⟨0,[],[]⟩,1)
theorem Zpc(n:Net)(a:List Int)(s:Int):RI n a s=qR n a s:=ZjP _
theorem ZsB(kd:Kd)(n:Net)(a:List Int):YL kd n a=kD kd n a:=by
 funext s;cases kd<;>simp[YL,kD,Zpc]
theorem Ztp(kd:Kd)(n:Net)(most:Int)(i:Nat)(st:qX):Zm kd n most i st=uN kd n most i st:=by
 unfold Zm uN;simp only[ZsB];rfl
theorem ZpI(kd:Kd)(n:Net)(most:Int):∀(f i:Nat) (st:qX),SB kd n most f i st=Bn kd n most f i st
 | 0,_,_=>rfl
 | f+1,i,st=>by
  unfold SB Bn;rw[Ztp];split
  ·rfl
  ·cases uN kd n most i st with
   | none=>rfl
   | some st'=>exact ZpI kd n most f (i+1) st'
theorem Zmz(kd:Kd)(n:Net)(most:Int):Si kd n most=uj kd n most:=by
 unfold Si uj yG;rw[ZpI];rfl
def dI:AV→Option Int
 | .v (.int .i64 n)=>some n
 | _=>none
def Sv:List AV→Option (List Int)
 | []=>some []
 | x::xs=>match dI x,Sv xs with
  | some n,some l=>some (n::l)
  | _,_=>none
def Sw:AV→Option (List Int)
 | .sl _ xs=>Sv xs
 | _=>none
def R3:List AV→Option (List (List Int))
 | []=>some []
 | x::xs=>match Sw x,R3 xs with
  | some n,some l=>some (n::l)
  | _,_=>none
def MJ:AV→Option (List (List Int))
 | .sl _ xs=>R3 xs
 | _=>none
def Yp:AV→Option Net
 | .agg [a,b,c,d]=>match dI a,MJ b,MJ c,Sw d with
  | some a,some b,some c,some d=>some ⟨a,b,c,d⟩
  | _,_,_,_=>none
 | _=>none
theorem Mt{x:AV}{n:Int}(h:dI x=some n):x=aj n:=by
 unfold dI at h;split at h
 ·cases h;rfl
 ·cases h
theorem Zpx:∀{xs:List AV} {l:List Int},Sv xs=some l→xs=l.map aj
 | [],l,h=>by cases h;rfl
 | x::xs,l,h=>by
  unfold Sv at h;split at h
  ·rename_i n l' h1 h2
   cases h;rw[Mt h1,Zpx h2];rfl
  ·cases h
theorem Zpy{x:AV}{l:List Int}(h:Sw x=some l):Wk x (aA l):=by
 unfold Sw at h;split at h
 ·rw[Zpx h];exact Wk.sl' (kU.refl _)
 ·cases h
theorem Zl6:∀{xs:List AV} {l:List (List Int)},R3 xs=some l→kU xs (l.map aA)
 | [],l,h=>by cases h;exact kU.nil
 | x::xs,l,h=>by
  unfold R3 at h;split at h
  ·rename_i n l' h1 h2
   cases h;exact kU.cons (Zpy h1) (Zl6 h2)
  ·cases h
theorem W9{x:AV}{l:List (List Int)}(h:MJ x=some l):Wk x (aX l):=by
 unfold MJ at h;split at h
 ·exact Wk.sl' (Zl6 h)
 ·cases h
theorem ZqL{x:AV}{n:Net}(h:Yp x=some n):Wk x (ji n):=by
 unfold Yp at h;split at h
 ·split at h
  ·rename_i h1 h2 h3 h4
   cases h;refine Wk.agg' (kU.cons ?_ (kU.cons (W9 h2) (kU.cons (W9 h3) (kU.cons (Zpy h4) kU.nil))));rw[Mt h1];exact .refl _
  ·cases h
 ·cases h
def Tq(n:Net):Bool:=n.rows.all (fun l=>Nat.ble l.length 1000) && Nat.ble n.aB.length 20 && Nat.ble n.follow.length 20
def TI(kd:Kd):List AV→Option AV
 | [a,b]=>match Yp a,dI b with
  | some n,some m=>if Tq n=true then some (jV (Si kd n m)) else none
  | _,_=>none
 | _=>none
theorem Zq1{P:Program}{f:FuncId}{kd:Kd}(H:∀n m,Tq n=true→aN P f [ji n,aj m] (jV (uj kd n m))){args:List AV}{r:AV}(h:TI kd args=some r):aN P f args r:=by
 unfold TI at h;split at h
 ·split at h
  ·rename_i n m h1 h2
   split at h
   ·rename_i hk
    cases h;rw[Zmz];exact(H n m hk).wk (kU.cons (ZqL h1) (kU.cons (by rw[Mt h2];exact .refl _) kU.nil))
   ·cases h
  ·cases h
 ·cases h
end Go.Rf
namespace Go.Rf
open Go.RowKit
def dB:AV→Option Bool
 | .v (.bool b)=>some b
 | _=>none
def Sr:List AV→Option (List Bool)
 | []=>some []
 | x::xs=>match dB x,Sr xs with
  | some n,some l=>some (n::l)
  | _,_=>none
def YP:AV→Option (List Bool)
 | .sl _ xs=>Sr xs
 | _=>none
def Gb:AV→Option aD
 | .agg [a,b,c]=>match dI a,MJ b,YP c with
  | some a,some b,some c=>some ⟨a,b,c⟩
  | _,_,_=>none
 | _=>none
theorem ZuC{x:AV}{n:Bool}(h:dB x=some n):x=aH n:=by
 unfold dB at h;split at h
 ·cases h;rfl
 ·cases h
theorem Zpw:∀{xs:List AV} {l:List Bool},Sr xs=some l→xs=l.map aH
 | [],l,h=>by cases h;rfl
 | x::xs,l,h=>by
  unfold Sr at h;split at h
  ·rename_i n l' h1 h2
   cases h;rw[ZuC h1,Zpw h2];rfl
  ·cases h
theorem ZsQ{x:AV}{l:List Bool}(h:YP x=some l):Wk x (iY l):=by
 unfold YP at h;split at h
 ·rw[Zpw h];exact Wk.sl' (kU.refl _)
 ·cases h
theorem WZ{x:AV}{n:aD}(h:Gb x=some n):Wk x (aT n):=by
 unfold Gb at h;split at h
 ·split at h
  ·rename_i h1 h2 h3
   cases h;refine Wk.agg' (kU.cons ?_ (kU.cons (W9 h2) (kU.cons (ZsQ h3) kU.nil)));rw[Mt h1];exact .refl _
  ·cases h
 ·cases h
def okD(d:aD):Bool:=decide (-1000≤d.signs) && decide (d.signs≤1000) && Nat.ble d.next.length 20 && Nat.ble d.fin.length 20 && d.next.all fun l=>Nat.ble l.length 20
theorem XQ{d:aD}(h:okD d=true):rP d:=by
 simp only[okD,Bool.and_eq_true,List.all_eq_true,Nat.ble_eq,decide_eq_true_eq] at h;obtain⟨⟨⟨⟨h1,h2⟩,h3⟩,h4⟩,h5⟩:=h;exact⟨by unfold Len;omega,by unfold Len;omega,fun r hr=>by have:=h5 r hr;unfold Len;omega,by omega⟩
def x1(F:aD→AV):List AV→Option AV
 | [a]=>match Gb a with
  | some d=>if okD d=true then some (F d) else none
  | none=>none
 | _=>none
def x2(F:aD→aD→AV):List AV→Option AV
 | [a,b]=>match Gb a,Gb b with
  | some d,some e=>if okD d=true∧okD e=true then some (F d e) else none
  | _,_=>none
 | _=>none
theorem Zv0{P:Program}{f:FuncId}{F:aD→AV}(H:∀d,rP d→aN P f [aT d] (F d)){args:List AV}{r:AV}(h:x1 F args=some r):aN P f args r:=by
 unfold x1 at h;split at h
 ·split at h
  ·rename_i d h1
   split at h
   ·rename_i hk
    cases h;exact(H d (XQ hk)).wk (kU.cons (WZ h1) kU.nil)
   ·cases h
  ·cases h
 ·cases h
def Zr(F:aD→aD→Int→AV):List AV→Option AV
 | [a,b,c]=>match Gb a,Gb b,dI c with
  | some d,some e,some m=>if okD d=true∧okD e=true then some (F d e m) else none
  | _,_,_=>none
 | _=>none
theorem ZtY{P:Program}{f:FuncId}{F:aD→aD→Int→AV}(H:∀d e m,rP d→rP e→aN P f [aT d,aT e,aj m] (F d e m)){args:List AV}{r:AV}(h:Zr F args=some r):aN P f args r:=by
 unfold Zr at h;split at h
 ·split at h
  ·rename_i d e m h1 h2 h3
   split at h
   ·rename_i hk
    cases h;rw[Mt h3];exact(H d e m (XQ hk.1) (XQ hk.2)).wk (kU.cons (WZ h1) (kU.cons (WZ h2) (kU.cons (.refl _) kU.nil)))
   ·cases h
  ·cases h
 ·cases h
theorem Zi2(a:AF)(g:Nat→Option aF):∀ts:List Nat,bV a g (ts.map RV.t)=some (ts.map a)
 | []=>rfl
 | t::ts=>by simp[bV,RV.ev,Zi2 a g ts]
theorem Zmm(a:AF):∀ts:List Nat,cK (ts.map a)=uI ts a
 | []=>rfl
 | [t]=>rfl
 | t::u::ts=>rfl
theorem Is.P6i{P:Program}(hm:P.follows .mixedOrders=true){f:FuncId}{ac:AC}{ts:List Nat}{n:Nat}(h:Is P f ac ts n):wT P f ac (ts.map RV.t) n:=by
 intro args S K hn hb;refine h.wV hm hn (BN _ (fun e a S' k=>?_) hb);cases e<;>simp only[bK,gG] at k ⊢
 all_goals
  obtain⟨xs,h1,h2⟩:=k;rw[Zi2] at h1;cases h1;rw[Zmm] at h2;exact h2
def FY{α:Type}:List (Nat×α)→Nat→Option α
 | [],_=>none
 | (k,a)::l,f=>bif Nat.beq f k then some a else FY l f
theorem Wl{α:Type}:∀{l:List (Nat×α)} {f:Nat} {g:α},FY l f=some g→(f,g)∈l
 | [],f,g,h=>by cases h
 | (k,a)::l,f,g,h=>by
  simp only[FY] at h;cases hb:Nat.beq f k with
  | true=>
   rw[hb] at h;have:=Nat.eq_of_beq_eq_true hb;subst this;cases h;exact List.mem_cons_self
  | false=>rw[hb] at h;exact List.mem_cons_of_mem _ (Wl h)
def KnC(P:Program)(c:Nat×AC×List RV×Nat):Prop:=wT P c.1 c.2.1 c.2.2.1 c.2.2.2
def KnR(P:Program)(c:Nat×(List AV→Option AV)):Prop:=∀args r,c.2 args=some r→aN P c.1 args r
theorem ZrX{P:Program}(hm:P.follows .mixedOrders=true){cs:List (Nat×AC×List RV×Nat)}{ks:List (Nat×(List AV→Option AV))}(h1:∀c∈cs,KnC P c)(h2:∀k∈ks,KnR P k):zL P (Sj P (FY cs) (fun _=>none) (FY ks)):=
 ZrY hm (fun f p h=>h1 _ (Wl h)) (fun f g args v h=>by cases h) (fun f g args r h hg=>h2 _ (Wl h) args r hg)
theorem Zks{α:Type}{p:α→Prop}:∀x∈([]:List α),p x:=fun x h=>by cases h
theorem all_cons{α:Type}{p:α→Prop}{a:α}{l:List α}(h:p a)(k:∀x∈l,p x):∀x∈a::l,p x:=fun x hx=>by
 rcases List.mem_cons.mp hx with rfl | hx
 ·exact h
 ·exact k x hx
end Go.Rf
namespace Go.Rf
open Go.RowKit
attribute [local simp] oJ oH oD pF pJ pQ pK oI qm pO oF o9 jK jT jU kr pY qM qK qJ qA qL oP oL qp pR qo qG qF qC qx pU qw qI qH oK kL pG pV pW pq o8 dO iA fI gI ig fH gJ iq gX gT gY eY gN gZ gM eB eD gQ iJ iG iI iH iK fV fK fG dY fZ gu gy fO fP iL iw gP iE iB iD iC iF iM gV fQ fE fF fJ fU dx dL eZ gW iN ex au cu dM dX bM bU aG bB dV eX dR fM gL gK iy gU bL dw dz dZ d9 gD dS bA pE ow dA dJ pI oZ pX oz eu eU eO eT dW dn dU dQ dP bq qz oG oC qh o7 qd qg qj kV p9 p8 ql S0 aj aH mR iZ.cl bQ.cl aW dN aS jo jL mX mV mW jZ mH nu mY nk jr lu jw ny lQ kX mh nA nD nC ni kM kJ nE lZ mZ l6 kK mF jh nG bZ jO bE kQ
def Z9m(P3K:FuncId):AC:= (sq [ro 2 (.box 4 (.t 0)),ro 4 (.mv (.c (.v (.bool false))))] (.seq (sq [ro 5 (.mv (ci 0))] (.block 0 (.loop (.seq (sq [rm 6 5,rm 7 1,ro 8 (.len (.t 7)),ro 9 (.bin .lss (.t 6) (.t 8))] (.cond (.t 9) .skip (.exit 0))) (.seq (.block 1 (.seq (.reg (some []) [rF 12 3 2,rL 13 12,rm 14 1,rm 15 5,ro 16 (.aI 1 (.t 14) (.t 15)),rL 17 16,rk 18 P3K [(.t 13),(.t 17)]]) (.cond (.t 18) (sq [ro 4 (.mv (.c (.v (.bool true))))] .ret) .skip))) (.reg none [rm 10 5,ro 11 (.bin .add (.t 10) (ci 1)),rm 5 11])))))) (sq [ro 4 (.mv (.c (.v (.bool false))))] .ret)))
def Z8h(EG P3y P3L:FuncId):AC:= (sq [ro 4 (.box 4 (.t 0)),ro 8 (.mv (.c (.sl true [])))] (.seq (sq [rm 10 3,ro 11 (.bin .eql (.t 10) (ci 2)),rm 12 11,rg 13 12 true (.load (some 4) (.t 4)),rg 14 12 true (.mv (.t 1)),rl 15 12 true EG [(.t 13),(.t 14)],ro 16 (.pick (.t 12) (.t 15) (.c (.v (.bool false))))] (.cond (.t 16) (sq [rm 17 1,rm 8 17] .ret) .skip)) (sq [ro 18 (.load (some 4) (.t 4)),rm 19 1,rm 20 2,rk 21 P3y [(.t 18),(.t 19),(.t 20)],rm 9 21] (.seq (sq [rm 22 3,ro 23 (.bin .eql (.t 22) (ci 1))] (.cond (.t 23) (.reg none [rm 24 9,rk 25 P3L [(.t 24),(ci 0)],rm 9 25]) .skip)) (sq [rm 26 9,rm 8 26] .ret)))))
def ZkG(Bw:FuncId):AC:= (.block 4 (.loop (.seq (sq [rm 52 14,rm 53 8,ro 54 (.len (.t 53)),ro 55 (.bin .lss (.t 52) (.t 54)),rm 56 55,rg 57 56 true (.mv (.t 8)),rg 58 56 true (.mv (.t 14)),rg 59 56 true (.aI 1 (.t 57) (.t 58)),rg 60 56 true (.load none (.t 59)),rg 61 56 true (.mv (.t 13)),rl 62 56 true Bw [(.t 60),(.t 61)],rg 63 56 true (.un .not (.t 62)),ro 64 (.pick (.t 56) (.t 63) (.c (.v (.bool false))))] (.cond (.t 64) .skip (.exit 4))) (.block 5 (.reg none [rm 65 14,ro 66 (.bin .add (.t 65) (ci 1)),rm 14 66])))))
def ZnK(Ki Bw:FuncId):AC:= (.block 2 (.loop (.seq (sq [rm 38 12,rF 39 0 3,rL 40 39,ro 41 (.bin .lss (.t 38) (.t 40))] (.cond (.t 41) .skip (.exit 2))) (.seq (.block 3 (.seq (.reg (some []) [ro 44 (.load (some 4) (.t 3)),rm 45 8,rm 46 10,ro 47 (.aI 1 (.t 45) (.t 46)),rL 48 47,rm 49 12,rm 50 2,rk 51 Ki [(.t 44),(.t 48),(.t 49),(.t 50)],rm 13 51]) (sq [ro 14 (.mv (ci 0))] (.seq (ZkG Bw) (.seq (sq [rm 67 14,rm 68 8,ro 69 (.len (.t 68)),ro 70 (.bin .eql (.t 67) (.t 69))] (.cond (.t 70) (.seq (sq [rm 71 14,rm 72 1,ro 73 (.bin .eql (.t 71) (.t 72))] (.cond (.t 73) (sq [ro 74 (.build (.agg [(.v (.int .i64 0)),(.sl true []),(.sl true [])]) [] []),rn (.store 3 (.t 6) (.t 74)),ro 7 (.mv (ci 13))] .ret) .skip)) (.reg none [rm 75 8,rm 76 13,ro 77 (.cO 1 1 (.sl true []) [(0,(.t 76))]),ro 78 (.app 1 24 (.t 75) (.t 77)),rm 8 78])) .skip)) (.reg none [rm 79 11,rm 80 14,ro 81 (.cO 1 1 (.v (.int .i64 0)) [(0,(.t 80))]),ro 82 (.app 1 8 (.t 79) (.t 81)),rm 11 82])))))) (.reg none [rm 42 12,ro 43 (.bin .add (.t 42) (ci 1)),rm 12 43])))))
def ZkH(EG:FuncId):AC:= (.reg (some [[],[],[],[],[],[true],[false,true],[false,false,true],[false,false,false,true],[false,false,false,false,true],[false,false,false,false,false,true],[false,false,false,false,false,false,true],[],[],[],[true]]) [rF 83 1 9,rL 84 83,rm 85 11,ro 86 (.cO 1 1 (.sl true []) [(0,(.t 85))]),ro 87 (.app 1 24 (.t 84) (.t 86)),rF 88 2 9,rL 89 88,ro 90 (.load (some 4) (.t 3)),rm 91 8,rm 92 10,ro 93 (.aI 1 (.t 91) (.t 92)),rL 94 93,rk 95 EG [(.t 90),(.t 94)],ro 96 (.cO 1 1 (.v (.bool false)) [(0,(.t 95))]),ro 97 (.app 1 1 (.t 89) (.t 96)),rF 98 1 9,rn (.store 1 (.t 98) (.t 87)),rF 99 2 9,rn (.store 1 (.t 99) (.t 97))])
def ZnJ(Ki Bw EG:FuncId):AC:= (.block 0 (.loop (.seq (sq [rm 32 10,rm 33 8,ro 34 (.len (.t 33)),ro 35 (.bin .lss (.t 32) (.t 34))] (.cond (.t 35) .skip (.exit 0))) (.seq (.block 1 (sq [ro 11 (.mv (.c (.sl true [])))] (.seq (sq [ro 12 (.mv (ci 0))] (ZnK Ki Bw)) (ZkH EG)))) (.reg none [rm 36 10,ro 37 (.bin .add (.t 36) (ci 1)),rm 10 37])))))
def ZnI:AC:= (sq [ro 100 (.load (some 3) (.t 9)),rn (.store 3 (.t 6) (.t 100)),ro 7 (.mv (ci 0))] .ret)
def Z9n(Uq Ki Bw EG:FuncId):AC:= (sq [ro 3 (.box 4 (.t 0)),ro 6 (.alloc (.agg [(.v (.int .i64 0)),(.sl true []),(.sl true [])]) 3),ro 7 (.mv (ci 0))] (.seq (sq [ro 15 (.load (some 4) (.t 3)),rk 16 Uq [(.t 15)],ro 17 (.un .not (.t 16)),rm 18 17,rg 19 18 false (.mv (.t 1)),rg 20 18 false (.bin .lss (.t 19) (ci 1)),ro 21 (.pick (.t 18) (.c (.v (.bool true))) (.t 20)),rm 22 21,rg 23 22 false (.mv (.t 1)),rg 24 22 false (.bin .gtr (.t 23) (ci 3000)),ro 25 (.pick (.t 22) (.c (.v (.bool true))) (.t 24))] (.cond (.t 25) (sq [ro 26 (.build (.agg [(.v (.int .i64 0)),(.sl true []),(.sl true [])]) [] []),rn (.store 3 (.t 6) (.t 26)),ro 7 (.mv (ci 1))] .ret) .skip)) (sq [ro 27 (.cO 1 1 (.v (.int .i64 0)) [(0,(ci 0))]),ro 28 (.cO 1 1 (.sl true []) [(0,(.t 27))]),rm 8 28] (sq [rF 29 0 3,rL 30 29,ro 31 (.build (.agg [(.v (.int .i64 0)),(.sl true []),(.sl true [])]) [(0,1)] [(0,(.t 30))]),ro 9 (.alloc (.agg [(.v (.int .i64 0)),(.sl true []),(.sl true [])]) 3),rn (.store 3 (.t 9) (.t 31))] (.seq (sq [ro 10 (.mv (ci 0))] (ZnJ Ki Bw EG)) ZnI)))))
theorem Fz.K6{g:Nat→Option aF}{a b:List AV}(h:fC g a b):Fz g (.agg a) (.agg b):=.agg _ _ h.1 h.2
theorem Fz.H8{g:Nat→Option aF}{a b:List AV}(h:fC g a b):Fz g (.aM a) (.aM b):=.aM _ _ h.1 h.2
theorem Mi{g:Nat→Option aF}:Fz g (.sl true []) (.sl false []):=.loose true [] (.sl _ _ (by simp))
theorem vU(g:Nat→Option aF)(e:Int):Fz g (.aM [.agg [.v (.int .i64 0),.sl true [],.sl true []],.v (.int .i64 e)]) (jV (⟨0,[],[]⟩,e)):=
 .H8 (.cons (.K6 (.cons (.closed _ (.v _)) (.cons Mi (.cons Mi .nil)))) (.cons (.closed _ (.v _)) .nil))
end Go.Rf
namespace Go.Rf
open Go.RowKit
attribute [local simp] oJ oH oD pF pJ pQ pK oI qm pO oF o9 jK jT jU kr pY qM qK qJ qA qL oP oL qp pR qo qG qF qC qx pU qw qI qH oK kL pG pV pW pq o8 dO iA fI gI ig fH gJ iq gX gT gY eY gN gZ gM eB eD gQ iJ iG iI iH iK fV fK fG dY fZ gu gy fO fP iL iw gP iE iB iD iC iF iM gV fQ fE fF fJ fU dx dL eZ gW iN ex au cu dM dX bM bU aG bB dV eX dR fM gL gK iy gU bL dw dz dZ d9 gD dS bA pE ow dA dJ pI oZ pX oz eu eU eO eT dW dn dU dQ dP bq qz oG oC qh o7 qd qg qj kV p9 p8 ql S0 aj aH ru qZ rA q9 qY rz rH q8 rG rO rE rM rD rJ rC mR iZ.cl bQ.cl aW dN aS jo jL mX mV mW jZ mH nu mY nk jr lu jw ny lQ kX mh nA nD nC ni kM kJ nE lZ mZ l6 kK mF jh nG bZ jO bE kQ
def Vp:AC:= (sq [ro 1 (.box 3 (.t 0)),ro 2 (.mv (.c (.sl true [])))] (sq [ro 3 (.mv (.c (.sl true [])))] (.seq (sq [rF 7 2 1,rL 8 7,ro 9 (.len (.t 8)),ro 10 (.mv (ci 0))] (.block 0 (.loop (sq [ro 11 (.bin .lss (.t 10) (.t 9))] (.seq (.cond (.t 11) .skip (.exit 0)) (.seq (.block 1 (sq [ro 12 (.aI 1 (.t 8) (.t 10)),rL 13 12,rm 5 13] (sq [ro 6 (.mv (ci 0))] (.seq (sq [rm 14 5] (.cond (.t 14) (.reg none [ro 6 (.mv (ci 1))]) .skip)) (.reg none [rm 15 3,rm 16 6,ro 17 (.cO 1 1 (.v (.int .i64 0)) [(0,(.t 16))]),ro 18 (.app 1 8 (.t 15) (.t 17)),rm 3 18]))))) (.reg none [ro 19 (.bin .add (.t 10) (ci 1)),rm 10 19]))))))) (sq [rm 20 3,rm 2 20] .ret))))
def Va(yA yw zm:FuncId):AC:= (.loop (sq [ro 23 (.bin .lss (.t 22) (.t 21))] (.seq (.cond (.t 23) .skip (.exit 0)) (.seq (.block 1 (sq [ro 24 (.aI 1 (.t 20) (.t 22)),rL 25 24,rm 9 25] (sq [rk 26 zm [(.t 7),(.c (.v (.int .u8 44)))]] (.reg none [rm 27 1,rm 28 9,ro 29 (.aI 1 (.t 27) (.t 28)),rL 30 29,rk 31 yA [(.t 30)],rk 32 yw [(.t 7),(.t 31)]])))) (.reg none [ro 33 (.bin .add (.t 22) (ci 1)),rm 22 33])))))
def Z8n(yA yw zm EF:FuncId):AC:= (sq [rm 10 1,rm 11 2,ro 12 (.aI 1 (.t 10) (.t 11)),rL 13 12,rk 14 yA [(.t 13)],rk 15 yw [(.t 7),(.t 14)]] (.seq (sq [rF 16 1 3,rL 17 16,rm 18 2,ro 19 (.aI 1 (.t 17) (.t 18)),rL 20 19,ro 21 (.len (.t 20)),ro 22 (.mv (ci 0))] (.block 0 (Va yA yw zm))) (sq [rk 34 EF [(.t 7)],rm 6 34] .ret)))
def ZaS(yA yw zm EF:FuncId):AC:= (sq [ro 3 (.box 3 (.t 0)),ro 6 (.mv (.c (.v (.string ⟨#[]⟩))))] (sq [ro 7 (.alloc (.agg [(.v (.pointer none)),(.sl true [])]) 2)] (Z8n yA yw zm EF)))
def Vk(P4Q:FuncId):AC:= (sq [ro 2 (.box 3 (.t 0)),ro 4 (.mv (.c (.sl true []))),ro 5 (.mv (ci 0))] (sq [ro 12 (.Er),rm 6 12] (sq [ro 7 (.mv (.c (.sl true [])))] (.seq (sq [rF 13 1 2,rL 14 13,ro 15 (.len (.t 14)),ro 16 (.mv (ci 0))] (.block 0 (.loop (sq [ro 17 (.bin .lss (.t 16) (.t 15))] (.seq (.cond (.t 17) .skip (.exit 0)) (.seq (.block 1 (sq [rm 18 16,rm 8 18] (sq [ro 19 (.load (some 3) (.t 2)),rm 20 1,rm 21 8,rk 22 P4Q [(.t 19),(.t 20),(.t 21)],rm 9 22] (sq [rm 24 6,rm 25 9,ro 26 (.look .str (.v (.int .i64 0)) true (.t 24) (.t 25)),rm 23 26,ro 27 (.ext 0 (.t 23)),ro 28 (.ext 1 (.t 23)),rm 10 27,rm 11 28] (.seq (sq [rm 29 11,ro 30 (.un .not (.t 29))] (.cond (.t 30) (sq [rm 31 6,ro 32 (.GR (.t 31)),rm 10 32] (.reg none [rm 33 6,rm 34 9,rm 35 10,rn (.Br .str (.t 33) (.t 34) (.t 35))])) .skip)) (.reg none [rm 36 7,rm 37 10,ro 38 (.cO 1 1 (.v (.int .i64 0)) [(0,(.t 37))]),ro 39 (.app 1 8 (.t 36) (.t 38)),rm 7 39])))))) (.reg none [ro 40 (.bin .add (.t 16) (ci 1)),rm 16 40]))))))) (sq [rm 41 7,rm 42 6,ro 43 (.GR (.t 42)),rm 4 41,rm 5 43] .ret)))))
def Vd(P4v P4G:FuncId):AC:= (sq [ro 1 (.box 3 (.t 0)),ro 2 (.mv (.c (.sl true [])))] (sq [ro 7 (.load (some 3) (.t 1)),rk 8 P4v [(.t 7)],rm 3 8] (sq [ro 4 (.mv (ci 0))] (.block 0 (.loop (.block 1 (sq [ro 10 (.load (some 3) (.t 1)),rm 11 3,rk 12 P4G [(.t 10),(.t 11)],rm 9 12,ro 13 (.ext 0 (.t 9)),ro 14 (.ext 1 (.t 9)),rm 5 13,rm 6 14] (.seq (sq [rm 15 6,rm 16 4,ro 17 (.bin .eql (.t 15) (.t 16))] (.cond (.t 17) (sq [rm 18 5,rm 2 18] .ret) .skip)) (.reg none [rm 19 5,rm 20 6,rm 3 19,rm 4 20])))))))))
abbrev TN:=List Int×Bool
def coI(d:aD)(i:Nat)(s:TN):Prop:=s.1=(vW d).take i
def Gu(d:aD)(i:Nat)(s:TN):List (Nat×AV):=[(3,vV s.2 1 (s.1.map aj)),(8,iY d.fin),(9,aj d.fin.length),(10,aj i)]
def Gv(i:Nat)(s:TN):List (Nat×Option aF):=[(1,vB s.2 1 (s.1.map aj))]
theorem ZgK{P:Program}(d:aD)(hl:d.fin.length≤4000):bG P 0 Vp (gG [2] (iQ (aA (vW d)))) (bP [aT d]) S0:=by
 simp[Vp];refine wG d.fin.length (coI d) (Gu d) 10 Gv ([],false) rfl ?_ ?_
 ·refine bR.of [] [] (by omega) ⟨by simp,by simp⟩ ?_ ?_
  ·simp[Gv]
  ·simp[Gu]
 ·rintro i ⟨xs,o⟩ hi hx
  simp only[coI] at hx;have hcl:(vW d).length=d.fin.length:=by simp[vW]
  have hxl:xs.length=i:=by rw[hx];simp[hcl];omega
  by_cases hlt:i < d.fin.length
  ·have hok:dF 8 xs.length 1:=by unfold dF;omega
   have hn:(vW d).take (i+1)=xs++[(vW d)[i]'(by omega)]:=by rw[List.take_succ_eq_append_getElem (by omega),←hx]
   have hg:(vW d)[i]'(by omega)=if d.fin[i]=true then 1 else 0:=by simp[vW]
   have hgd:d.fin.getD i false=d.fin[i]:=by rw[List.getD_eq_getElem?_getD,List.getElem?_eq_getElem hlt];rfl
   rw[hg] at hn;cases hb:d.fin[i] with
   | true=>
    simp only[hb,if_true] at hn;simp[Gu,Gv,hlt,hb,hok];rw[bI _ (by omega)];refine⟨hlt,(xs++[1],true),hn.symm,bR.of [(1,20)] [] (by omega) ⟨by simp,by simp⟩ ?_ ?_⟩
    ·simp[Gv]
    ·simp[Gu]
   | false=>
    simp only[hb,Bool.false_eq_true,if_false] at hn;simp[Gu,Gv,hlt,hb,hok];rw[bI _ (by omega)];refine⟨hlt,(xs++[0],true),hn.symm,bR.of [(1,19)] [] (by omega) ⟨by simp,by simp⟩ ?_ ?_⟩
    ·simp[Gv]
    ·simp[Gu]
  ·have hie:i=d.fin.length:=by omega
   have ht:xs=vW d:=by rw[hx];exact List.take_of_length_le (by omega)
   subst ht;simp[Gu,Gv,hie];refine Bb ?_ (jr _);simp
def uU:List Int→List UInt8
 | []=>[]
 | k::ks=>Lib.itoa k++ks.flatMap fun n=>44::Lib.itoa n
def yQ(l:List Int):AV:=sF (uU l)
def yL(l:List Int):List UInt8:=l.flatMap fun n=>Lib.itoa n++[44]
theorem Xr(ks:List Int):∀k,uU (k::ks)++[44]=yL (k::ks):=by
 induction ks with
 | nil=>intro k;simp[uU,yL]
 | cons j js ih=>
  intro k;have:=ih j;simp only[uU,yL,List.flatMap_cons,List.append_assoc,List.cons_append] at this ⊢;rw[this];simp
theorem ZaT(n:Nat):∀b∈Lib.decDigits n,b≠44:=by
 induction n using Nat.strongRecOn with
 | _ n ih=>
  rw[Lib.decDigits];split
  ·rename_i h
   intro b hb e;simp only[List.mem_cons,List.not_mem_nil,or_false] at hb;have:=IB h;rw[←hb,e] at this;have h32:(44:UInt8).toNat=44:=rfl;omega
  ·rename_i h
   have h2:=ih (n / 10) (by omega);have hd:n % 10 < 10:=Nat.mod_lt _ (by omega);intro b hb e;rcases List.mem_append.mp hb with hb | hb
   ·exact h2 b hb e
   ·simp only[List.mem_cons,List.not_mem_nil,or_false] at hb
    have:=IB hd;rw[←hb,e] at this;have h32:(44:UInt8).toNat=44:=rfl;omega
theorem Lp(n:Int)(l:List Int):yL (n::l)=Lib.itoa n++44::yL l:=by simp[yL]
theorem Zge:∀{l m:List Int},uT l→uT m→yL l=yL m→l=m
 | [],[],_,_,_=>rfl
 | [],n::m,_,_,h=>by rw[Lp] at h;simp[yL] at h
 | n::l,[],_,_,h=>by rw[Lp] at h;simp[yL] at h
 | n::l,k::m,hl,hm,h=>by
  have hn:=hl n (by simp);have hk:=hm k (by simp);rw[Lp,Lp,L6 hn,L6 hk] at h;obtain⟨h1,h2⟩:=XD (ZaT _) (ZaT _) h;have:=congrArg Gq h1;rw[(Ib _).1,(Ib _).1] at this;rw[Zge (fun z hz=>hl z (by simp[hz])) (fun z hz=>hm z (by simp[hz])) h2];congr 1;omega
def Ju(l:List Int):Prop:=l≠[]∧∀n∈l,0≤n∧n < 10000
theorem Zn2{l m:List Int}(hl:Ju l)(hm:Ju m)(h:uU l=uU m):l=m:=by
 obtain⟨k,ks,rfl⟩:=List.exists_cons_of_ne_nil hl.1;obtain⟨j,js,rfl⟩:=List.exists_cons_of_ne_nil hm.1;refine Zge (fun n hn=>(hl.2 n hn).1) (fun n hn=>(hm.2 n hn).1) ?_;rw[←Xr,←Xr,h]
theorem Zvd:AY .str Ju yQ:=by
 refine⟨fun x=>rfl,fun x y hx hy=>?_⟩;have:tu (yQ x) (yQ y)=((⟨(uU x).toArray⟩:ByteArray) == ⟨(uU y).toArray⟩):=rfl;rw[this,Zpq];by_cases h:x=y
 ·subst h;simp
 ·simp only[h,decide_false,beq_eq_false_iff_ne,ne_eq]
  intro e;refine h (Zn2 hx hy ?_);simpa using e
theorem ZlL{n:Int}(h:0≤n∧n < 10000):(Lib.itoa n).length≤21:=Lib.itoa_length_le n (by omega) (by omega)
theorem Zgg:∀{l:List Int},(∀n∈l,0≤n∧n < 10000)→(yL l).length≤22*l.length
 | [],_=>by simp[yL]
 | k::ks,h=>by
  have h1:=ZlL (h k (by simp));have h2:=Zgg (l:=ks) (fun n hn=>h n (by simp[hn]));rw[Lp,List.length_append,List.length_cons,List.length_cons];omega
theorem ZdH(k:Int)(ks:List Int)(n:Int):uU (k::(ks++[n]))=uU (k::ks)++44::Lib.itoa n:=by simp[uU]
def TH(d:aD)(c:List Int)(s:Nat):List (Nat×AV):=[(1,aA c),(2,aj s),(3,.bJ (aT d) 0)]
structure U3(T e B:Nat)(w0:World)(c row:List Int)(k0:Int)(m:Nat)(a:AF)(w:World)(j:Nat):Prop where
 hj:j≤row.length
 hm:m=row.length - j
 e1:a 1=aA c
 e7:a 7=.ptr 0 0 0
 e20:a 20=aA row
 e21:a 21=aj row.length
 e22:a 22=aj j
 bl:wD T e B B w0 (uU (k0::(row.take j).map fun t=>c.getD t.toNat 0)) w
def Zuu(T e B:Nat)(w0:World)(H:Nat→Option (Array Value))(c row:List Int)(k0:Int)(m:Nat)(a:AF)(w:World):Prop:=kT H w∧∃j,U3 T e B w0 c row k0 m a w j
def xM(n:Int):Prop:=0≤n∧n < 10000
theorem Zgk{P:Program}{fi fw fb fs:FuncId}{T e:TypeId}(k:Bc P fw fb fs T e)(hi:Da P fi xM){c row:List Int}{k0:Int}(hk0:xM k0)(hc:∀n∈c,xM n)(hr:∀t∈row,0≤t∧t < c.length)(hlen:row.length≤4000)
  {E:Env} {B:Nat} {w0:World} (hE:BE E B B) (y7:jI P E.H) {Q:Exit→AF→World→Prop} (hQ:∀a w,U3 T e B w0 c row k0 0 a w row.length→kT E.H w→Q (.exit 0) a w) {a:AF} {w:World} (h:U3 T e B w0 c row k0 row.length a w 0) (hH:kT E.H w) :
  lV P E (Va fi fw fb) Q a w:=by
 unfold Va;unfold lV;refine⟨Zuu T e B w0 E.H c row k0,⟨row.length,hH,0,h⟩,?_⟩;rintro m a w ⟨hH,j,hI⟩;by_cases hj:j < row.length
 ·have h1:(j:Int) < row.length:=by omega
  have hget:(row.map aj)[j]? = some (aj row[j]):=by simp[hj]
  have hw:IntKind.i64.wrap ((j:Int)+1)=j+1:=bI _ (by omega);obtain⟨h2,h3⟩:=hr _ (List.getElem_mem hj);have hcl:row[j].toNat < c.length:=by omega
  have hgc:(c.map aj)[row[j].toNat]? = some (aj c[row[j].toNat]):=by simp[hcl]
  have hgo:=hc _ (List.getElem_mem hcl)
  have ht:(row.take (j+1)).map (fun t=>c.getD t.toNat 0)=(row.take j).map (fun t=>c.getD t.toNat 0)++[c[row[j].toNat]]:=by
   rw[List.take_succ_eq_append_getElem hj,List.map_append];simp[List.getElem?_eq_getElem hcl]
  have hle:(uU (k0::(row.take (j+1)).map fun t=>c.getD t.toNat 0)).length≤22*4001:=by
   have h4:=Zgg (l:=k0::(row.take (j+1)).map fun t=>c.getD t.toNat 0) (fun n hn=>by
    simp only[List.mem_cons,List.mem_map] at hn;rcases hn with rfl | ⟨t,ht,rfl⟩
    ·exact hk0
    ·obtain⟨h5,h6⟩:=hr t (List.mem_of_mem_take ht)
     have:t.toNat < c.length:=by omega
     rw[List.getD_eq_getElem?_getD,List.getElem?_eq_getElem this];exact hc _ (List.getElem_mem this))
   rw[←Xr] at h4;simp only[List.length_append,List.length_cons,List.length_map,List.length_take,List.length_nil] at h4;omega
  rw[ht,ZdH] at hle;simp only[List.length_append,List.length_cons] at hle;simp[ex,au,dM,dX,dV,bW,dD,dQ,dP,bq,aj,lV,WG,yK,DJ,zS,Eff.rR,hI.e1,hI.e7,hI.e20,hI.e21,hI.e22,aA,h1,hget,h2,hgc];refine tX.byte k hE hI.bl hH (by omega) (fun w1 b1 hH1=>?_) (c:=44) rfl
  try simp[kZ,kN,kW,lH,lK,lI,lM,kY,lN,lG,lF,dO,iA,fI,gI,ig,fH,gJ,iq,gX,gT,gY,eY,gN,gZ,gM,eB,eD,gQ,iJ,iG,iI,iH,iK,fV,fK,fG,dY,fZ,gu,gy,fO,fP,iL,iw,gP,iE,iB,iD,iC,iF,iM,gV,fQ,fE,fF,fJ,fU,dx,dL,eZ,gW,iN,ex,au,cu,dM,dX,bM,bU,aG,bB,dV,eX,dR,fM,gL,gK,iy,gU,bL,dw,dz,dZ,d9,gD,dS,bA,bW,dA,dJ,dD,fq,eu,eU,eO,eT,dW,dn,dU,dQ,dP,bq,AV.solid,S0,aj,aH,lV,WG,yK,DJ,zS,Eff.rR,hI.e1,hI.e7,hI.e20,hI.e21,hI.e22,aA,h1,hget,h2,hgc]
  refine tX.itoa hi hE b1 hgo y7 hH1 fun w9 b9 Ni=>?_
  refine tX.str k hE b9 Ni (by simp only[List.length_append,List.length_cons,List.length_nil];omega) fun w2 b2 hH2=>?_
  refine⟨row.length - (j+1),by have:=hI.hm;omega,hH2,j+1,⟨by omega,rfl,?_,?_,?_,?_,?_,?_⟩⟩
  ·simp[AF.put,bF,hI.e1]
  ·simp[AF.put,bF,hI.e7]
  ·simp[AF.put,bF,hI.e20]
  ·simp[AF.put,bF,hI.e21]
  ·simp[AF.put,bF,hw,aj]
  ·rw[ht,ZdH]
   rw[List.append_assoc] at b2;exact b2
 ·have hj2:j=row.length:=by have:=hI.hj;omega
  subst hj2;have h1:¬((row.length:Int) < row.length):=by omega
  simp[ex,au,dM,dQ,dP,aj,lV,WG,yK,zS,Eff.rR,hI.e21,hI.e22,h1];refine hQ _ _ ⟨Nat.le_refl _,by omega,?_,?_,?_,?_,?_,hI.bl⟩ hH
  ·simp[AF.put,bF,hI.e1]
  ·simp[AF.put,bF,hI.e7]
  ·simp[AF.put,bF,hI.e20]
  ·simp[AF.put,bF,hI.e21]
  ·simp[AF.put,bF,hI.e22]
theorem Zn5{P:Program}(hm:P.follows .mixedOrders=true){f fi fw fb fs:FuncId}{T e:TypeId}(h:Is P f (ZaS fi fw fb fs) [6] 3)(hT:AO P f T)(k:Bc P fw fb fs T e)(hi:Da P fi xM){d:aD}(R:bD d){c:List Int}(hcl:c.length=d.next.length)
  (hc:∀n∈c,xM n) {s:Nat} (hs:s < d.next.length):aN P f [aT d,aA c,aj s] (yQ (uV d c s)):=by
 obtain⟨fn,co,hf,hnm,hb,hcm,hr,hn⟩:=h
 have hT':FC co=some T:=by
  unfold AO at hT;rw[hf] at hT;simpa[hb] using hT
 refine aN.P5I (T:=T) (e:=e) (args:=[aT d,aA c,aj s]) (A:=TH d c s) hm hf hnm hb hcm hT' hr hn rfl ?_ (fun E B w w0 hE y7 hH hB=>?_)
 ·simp
  refine bR.of [] [0] (by omega) ⟨by simp,by simp⟩ ?_ ?_
  ·simp
  ·simp[TH]
   exact .fz _ _ (.ptr 0 0 0 3 [aT d] (aT d) (by simp[only,aG]) (by simp) (.closed _ (iV d)))
 ·unfold Z8n
  have hgs:xM (c.getD s 0):=by
   rw[List.getD_eq_getElem?_getD,List.getElem?_eq_getElem (by omega)];exact hc _ (List.getElem_mem _)
  have hsc:(c.map aj)[s]? = some (aj (c.getD s 0)):=by
   rw[List.getD_eq_getElem?_getD,List.getElem?_map,List.getElem?_eq_getElem (show s < c.length by omega)];rfl
  have hrow:(d.next.map aA)[s]? = some (aA (d.next.getD s [])):=by
   rw[List.getD_eq_getElem?_getD,List.getElem?_map,List.getElem?_eq_getElem hs];rfl
  have ed:(aT d).cells=[aj d.signs,aX d.next,iY d.fin]:=rfl;have es:(aT d).solid=true:=rfl
  have hrl:(d.next.getD s []).length≤4000:=by
   have:=R.row s hs;have:=R.s2;rw[List.getD_eq_getElem?_getD,List.getElem?_eq_getElem hs,Option.getD_some];omega
  have hra:∀t∈d.next.getD s [],0≤t∧t < c.length:=by
   intro t ht;rw[List.getD_eq_getElem?_getD,List.getElem?_eq_getElem hs,Option.getD_some] at ht;obtain⟨j,hj,rfl⟩:=List.getElem_of_mem ht;rw[hcl];exact R.at_ s hs j hj
  have hz:uU [c.getD s 0]=[]++Lib.itoa (c.getD s 0):=by simp[uU]
  have hvk:uU (uV d c s)=uU (c.getD s 0::((d.next.getD s []).take (d.next.getD s []).length).map fun t=>c.getD t.toNat 0):=by rw[List.take_length];rfl
  generalize hrw:d.next.getD s []=row at *
  generalize hk0:c.getD s 0=k0 at *;simp[ex,au,dM,dX,dV,bW,dJ,dD,fq,bq,aj,lV,WG,yK,zS,Eff.rR,TH,jK,aA,hsc];refine tX.itoa hi hE hB hgs y7 hH fun w9 b9 Ni=>?_
  try simp[kZ,kN,kW,lH,lK,lI,lM,kY,lN,lG,lF,dO,iA,fI,gI,ig,fH,gJ,iq,gX,gT,gY,eY,gN,gZ,gM,eB,eD,gQ,iJ,iG,iI,iH,iK,fV,fK,fG,dY,fZ,gu,gy,fO,fP,iL,iw,gP,iE,iB,iD,iC,iF,iM,gV,fQ,fE,fF,fJ,fU,dx,dL,eZ,gW,iN,ex,au,cu,dM,dX,bM,bU,aG,bB,dV,eX,dR,fM,gL,gK,iy,gU,bL,dw,dz,dZ,d9,gD,dS,bA,bW,dA,dJ,dD,fq,eu,eU,eO,eT,dW,dn,dU,dQ,dP,bq,AV.solid,S0,aj,aH,lV,WG,yK,DJ,zS,Eff.rR,TH,jK,jT,aA,hsc]
  refine tX.str k hE b9 Ni (by have:=ZlL hgs;simp only[List.length_nil];omega) fun w2 b2 hH2=>?_
  rw[←hz] at b2
  try simp[eX,Eff.rR,aA,aX,hrow]
  refine Zgk k hi hgs hc hra hrl (w0:=w0) hE y7 (fun a w' hI Y0=>?_) ⟨Nat.zero_le _,by omega,?_,?_,?_,?_,?_,?_⟩ hH2
  ·have e7:=hI.e7
   simp[yK,DJ,e7];have hbl:=hI.bl;rw[←hvk] at hbl;refine tX.string k hE hbl Y0 fun w2 h2=>?_
   simp[sF,h2]
  ·simp[AF.put,bF,jK,aA]
  ·simp[AF.put,bF]
  ·simp[AF.put,bF,aA]
  ·simp[AF.put,bF,aj]
  ·simp[AF.put,bF,aj]
  ·simpa using b2
theorem ZjB{K:Type}[DecidableEq K][i:BEq K][LawfulBEq K](k:K)(l:List K):@List.idxOf K instBEqOfDecidableEq k l=@List.idxOf K i k l:=by
 have e:∀a b:K,(@BEq.beq K instBEqOfDecidableEq a b)=@BEq.beq K i a b:=fun a b=>by
  by_cases h:a=b
  ·exact(decide_eq_true h).trans (beq_iff_eq.mpr h).symm
  ·exact(decide_eq_false h).trans (beq_eq_false_iff_ne.mpr h).symm
 have e2:@instBEqOfDecidableEq K _=i:=by
  cases i with
  | mk f=>exact congrArg BEq.mk (funext fun a=>funext fun b=>e a b)
 rw[e2]
theorem PW(l:List Int):aY (yQ l):=.v _
theorem Ztm(l:List (List Int)):∀x∈(dh l).2,0≤x∧x < l.length:=by
 have h:=AJ l;intro x hx;obtain⟨i,hi,rfl⟩:=List.getElem_of_mem hx;have hil:i < l.length:=by rw[←h.len];exact hi
 have h1:=h.at_ i hil
 rw[List.getElem?_eq_getElem hi,Option.some.injEq] at h1;have h2:=List.idxOf_lt_length_iff.mpr ((h.mem l[i]).mpr (List.getElem_mem hil));have h3:=ZpR l;rw[h1];omega
theorem Zgj{d:aD}(R:bD d){c:List Int}(hcl:c.length=d.next.length)(hc:∀n∈c,xM n){s:Nat}(hs:s < d.next.length):Ju (uV d c s):=by
 have hg:∀i,i < c.length→xM (c.getD i 0):=fun i hi=>by
  rw[List.getD_eq_getElem?_getD,List.getElem?_eq_getElem hi];exact hc _ (List.getElem_mem hi)
 refine⟨by simp[uV],fun n hn=>?_⟩;simp only[uV,List.mem_cons,List.mem_map] at hn;rcases hn with rfl | ⟨t,ht,rfl⟩
 ·exact hg s (by omega)
 ·rw[List.getD_eq_getElem?_getD,List.getElem?_eq_getElem hs,Option.getD_some] at ht
  obtain⟨j,hj,rfl⟩:=List.getElem_of_mem ht;have:=R.at_ s hs j hj
  exact hg _ (by omega)
abbrev TK:=(List (List Int)×List Int)×Bool
def Nb(d:aD)(c:List Int)(i:Nat)(s:TK):Prop:=s.1=dh ((qB d c).take i)
def Gz(d:aD)(c:List Int)(i:Nat)(s:TK):List (Nat×AV):=[(1,aA c),(2,.ptr 0 0 0),(6,.mp 1),(7,vV s.2 2 (s.1.2.map aj)),(15,aj d.next.length),(16,aj i)]
def GA(d:aD)(i:Nat)(s:TK):List (Nat×Option aF):=[(0,some (.arr 3 [aT d])),(1,some (.map (iW yQ 0 s.1.1))),(2,vB s.2 1 (s.1.2.map aj))]
theorem Zjy{P:Program}{fv:FuncId}{d:aD}(R:bD d){c:List Int}(hcl:c.length=d.next.length)(hc:∀n∈c,xM n)(hv:∀s:Nat,s < d.next.length→aN P fv [aT d,aA c,aj s] (yQ (uV d c s))) :
  bG P 0 (Vk fv) (gG [4,5] (iQ (.aM [aA (l9 d c).2,aj (l9 d c).1.length]))) (bP [aT d,aA c]) S0:=by
 have hn:=R.n2;simp[Vk,FV];refine wG d.next.length (Nb d c) (Gz d c) 10 (GA d) (([],[]),false) (by simp[Nb,dh]) ?_ ?_
 ·refine bR.of [(0,0),(1,3)] [] (by omega) ⟨by simp,by simp⟩ ?_ ?_
  ·simp[GA,iW,iV]
   exact zD (by simp[RO])
  ·simp[Gz]
 ·rintro i ⟨⟨ks,ls⟩,o⟩ hi hx
  simp only[Nb] at hx;have ok:=AJ ((qB d c).take i);rw[←hx] at ok;have hvl:=Fa d c;have hll:=ok.len;simp only[List.length_take] at hll;by_cases hlt:i < d.next.length
  ·have hxi:=hv i hlt
   have Aj:(qB d c)[i]'(by omega)=uV d c i:=by simp[qB]
   have hsn:dh ((qB d c).take (i+1))=wZ (ks,ls) (uV d c i):=by rw[List.take_succ_eq_append_getElem (by omega),E8,←hx,Aj]
   have hkg:Ju (uV d c i):=Zgj R hcl hc hlt
   have hks:∀k∈ks,Ju k:=fun k hk=>by
    have:=(ok.mem k).mp hk;have:=List.mem_of_mem_take this;simp only[qB,List.mem_map,List.mem_range] at this;obtain⟨j,hj,rfl⟩:=this;exact Zgj R hcl hc hj
   have hok:dF 8 ls.length 1:=by unfold dF;omega
   generalize hk:uV d c i=k at *;have Ai:=fun(km aC:Nat) (S:St) (hg:S.g km=some (.map (iW yQ 0 ks)))=>Yh (aC:=aC) Zvd hkg hks hg
   have hlen:=fun(km aC:Nat) (S:St) (hg:S.g km=some (.map (iW yQ 0 ks)))=>Zve (aC:=aC) hg
   by_cases hin:k∈ks
   ·have hst:wZ (ks,ls) k=(ks,ls++[(ks.idxOf k:Int)]):=by simp[wZ,hin]
    simp[Gz,GA,hlt];refine aQ.pure hxi (aK (iV d) (aK (aS _) (aK (aW _) aU))) (PW _) ?_;simp[Ai,hin,hok];rw[bI _ (by omega)];refine⟨hlt,((ks,ls++[(ks.idxOf k:Int)]),true),by rw[Nb,hsn,hst],bR.of [(0,0),(1,1),(2,31)] [] (by omega) ⟨by simp,by simp⟩ ?_ ?_⟩
    ·simp[GA,iV]
     exact⟨zD (zH PW _ _),by rw[ZjB]⟩
    ·simp[Gz]
   ·have hst:wZ (ks,ls) k=(ks++[k],ls++[(ks.length:Int)]):=by simp[wZ,hin]
    have SQ:=fun(km aC:Nat) (S:St) (hg:S.g km=some (.map (iW yQ 0 ks)))=>Ro (aC:=aC) Zvd hkg hks hin hg
    simp[Gz,GA,hlt];refine aQ.pure hxi (aK (iV d) (aK (aS _) (aK (aW _) aU))) (PW _) ?_;simp[Ai,hin,hok,hlen,SQ];rw[bI _ (by omega)];refine⟨hlt,((ks++[k],ls++[(ks.length:Int)]),true),by rw[Nb,hsn,hst],bR.of [(0,0),(1,1),(2,38)] [] (by omega) ⟨by simp,by simp⟩ ?_ ?_⟩
    ·simp[GA,iV]
     exact zD (zH PW _ _)
    ·simp[Gz]
  ·have hie:i=d.next.length:=by omega
   have ht:(ks,ls)=l9 d c:=by rw[hx,List.take_of_length_le (by omega)];rfl
   have hlen:=fun(km aC:Nat) (S:St) (hg:S.g km=some (.map (iW yQ 0 ks)))=>Zve (aC:=aC) hg
   rw[←ht];simp[Gz,GA,hie,hlen];refine .H8 (.cons (Bb ?_ (jr _)) (.cons (.closed _ (.v _)) .nil));simp
def clI(d:aD)(m:Nat)(s:List Int×Nat):Prop:=
 FT d m s.1 s.2=vO d∧(∃j,F8 d j s.1)∧d.next.length < m+s.2∧s.2≤d.next.length∧s.2≤(l9 d s.1).1.length∧∀x∈s.1,xM x
def Sn(s:List Int×Nat):List (Nat×AV):=[(1,.ptr 0 0 0),(3,aA s.1),(4,aj s.2)]
def Sq(d:aD)(_:List Int×Nat):List (Nat×Option aF):=[(0,some (.arr 3 [aT d]))]
theorem Zf5{P:Program}{fc ff:FuncId}{d:aD}(R:bD d)(hc:aN P fc [aT d] (aA (vW d)))
  (hf:∀c:List Int,c.length=d.next.length→(∀n∈c,xM n)→aN P ff [aT d,aA c] (.aM [aA (l9 d c).2,aj (l9 d c).1.length])) :
  bG P 0 (Vd fc ff) (gG [2] (iQ (aA (vO d)))) (bP [aT d]) S0:=by
 have hn:=R.n2;simp[Vd];refine aQ.pure hc (aK (iV d) aU) (aS _) ?_;simp;refine Zk6 (clI d) Sn 10 (Sq d) (d.next.length+1) (vW d,0) ⟨rfl,⟨0,Zd5 R⟩,by simp,by simp,by simp,fun x hx=>?_⟩ ?_ ?_
 ·simp only[vW,List.mem_map] at hx
  obtain⟨b,_,rfl⟩:=hx;unfold xM;split<;>omega
 ·refine bR.of [(0,0)] [] (by omega) ⟨by simp,by simp⟩ ?_ ?_
  ·simp[Sq,iV]
  ·simp[Sn]
 ·rintro m ⟨c,n⟩ ⟨h1,⟨j,h2⟩,h3,h4,h5,h6⟩
  simp only at h1 h2 h3 h4 h5 h6;obtain⟨a1,a2,a3,a4⟩:=PX R h2;obtain⟨m,rfl⟩:∃m',m=m'+1:=⟨m - 1,by omega⟩;rw[FT] at h1;simp[Sn,Sq];refine aQ.pure (hf c h2.len h6) (aK (iV d) (aK (aS _) aU)) (.aM _ (aK (aS _) (aK (aW _) aU))) ?_;by_cases he:(l9 d c).1.length=n
  ·rw[if_pos he] at h1
   simp[he,h1];exact .closed _ (aS _)
  ·rw[if_neg he] at h1
   have he':(((l9 d c).1.length:Int) == (n:Int))=false:=by simp;omega
   simp[he'];refine⟨m,((l9 d c).2,(l9 d c).1.length),by omega,⟨h1,⟨_,PD R h2⟩,by omega,a2,a1,fun x hx=>?_⟩,bR.of [(0,0)] [] (by omega) ⟨by simp,by simp⟩ ?_ ?_⟩
   ·have:=Ztm _ x hx
    rw[Fa] at this;exact⟨this.1,by omega⟩
   ·simp[Sq,iV]
   ·simp[Sn]
def ZhM:AC:= (.block 2 (.loop (sq [ro 48 (.bin .lss (.t 47) (.t 46))] (.seq (.cond (.t 48) .skip (.exit 2)) (.seq (.block 3 (sq [rm 49 47,ro 50 (.aI 1 (.t 45) (.t 47)),rL 51 50,rm 10 49,rm 11 51] (sq [rm 53 5,rm 54 4,rm 55 11,ro 56 (.aI 1 (.t 54) (.t 55)),rL 57 56,ro 58 (.look (.int .i64) (.v (.int .i64 0)) true (.t 53) (.t 57)),rm 52 58,ro 59 (.ext 0 (.t 52)),ro 60 (.ext 1 (.t 52)),rm 12 59,rm 13 60] (.seq (sq [rm 61 13,ro 62 (.un .not (.t 61))] (.cond (.t 62) (sq [rm 63 6,ro 64 (.len (.t 63)),rm 12 64] (sq [rm 65 5,rm 66 4,rm 67 11,ro 68 (.aI 1 (.t 66) (.t 67)),rL 69 68,rm 70 12,rn (.Br (.int .i64) (.t 65) (.t 69) (.t 70))] (.reg none [rm 71 6,rm 72 11,ro 73 (.cO 1 1 (.v (.int .i64 0)) [(0,(.t 72))]),ro 74 (.app 1 8 (.t 71) (.t 73)),rm 6 74]))) .skip)) (.reg none [rm 75 9,rm 76 10,rm 77 12,ro 78 (.aI 1 (.t 75) (.t 76)),rn (.store 1 (.t 78) (.t 77))]))))) (.reg none [ro 79 (.bin .add (.t 47) (ci 1)),rm 47 79]))))))
def ZhJ:AC:= (.reg (some [[],[],[],[],[],[true],[false,true],[false,false,true],[false,false,false,true],[false,false,false,false,true],[false,false,false,false,false,true],[false,false,false,false,false,false,true],[false,false,false,false,false,false,false,true],[false,false,false,false,false,false,false,false,true],[false,false,false,false,false,false,false,false,false,true],[false,false,false,false,false,false,false,false,false,false,true],[],[true]]) [rF 80 1 7,rL 81 80,rm 82 9,ro 83 (.cO 1 1 (.sl true []) [(0,(.t 82))]),ro 84 (.app 1 24 (.t 81) (.t 83)),rF 85 2 7,rL 86 85,rF 87 2 1,rL 88 87,rm 89 6,rm 90 8,ro 91 (.aI 1 (.t 89) (.t 90)),rL 92 91,ro 93 (.aI 1 (.t 88) (.t 92)),rL 94 93,ro 95 (.cO 1 1 (.v (.bool false)) [(0,(.t 94))]),ro 96 (.app 1 1 (.t 86) (.t 95)),rF 97 1 7,rn (.store 1 (.t 97) (.t 84)),rF 98 2 7,rn (.store 1 (.t 98) (.t 96))])
def ZhL:AC:= (.block 0 (.loop (.seq (sq [rm 29 8,rm 30 6,ro 31 (.len (.t 30)),ro 32 (.bin .lss (.t 29) (.t 31))] (.cond (.t 32) .skip (.exit 0))) (.seq (.block 1 (sq [rF 35 0 1,rL 36 35,ro 37 (.wB 1 8 (.v (.int .i64 0)) (.t 36) (.t 36)),rm 9 37] (.seq (.seq (.reg (some []) [rF 38 1 1,rL 39 38,rm 40 6,rm 41 8,ro 42 (.aI 1 (.t 40) (.t 41)),rL 43 42,ro 44 (.aI 1 (.t 39) (.t 43)),rL 45 44,ro 46 (.len (.t 45)),ro 47 (.mv (ci 0))]) ZhM) ZhJ))) (.reg none [rm 33 8,ro 34 (.bin .add (.t 33) (ci 1)),rm 8 34])))))
def ZhK:AC:= (sq [ro 99 (.load (some 3) (.t 7)),rn (.store 3 (.t 2) (.t 99)),ro 3 (.mv (ci 0))] .ret)
def VN(Dj P4k:FuncId):AC:= (sq [ro 1 (.box 3 (.t 0)),ro 2 (.alloc (.agg [(.v (.int .i64 0)),(.sl true []),(.sl true [])]) 3),ro 3 (.mv (ci 0))] (.seq (sq [ro 14 (.load (some 3) (.t 1)),rk 15 Dj [(.t 14)],ro 16 (.un .not (.t 15))] (.cond (.t 16) (sq [ro 17 (.build (.agg [(.v (.int .i64 0)),(.sl true []),(.sl true [])]) [] []),rn (.store 3 (.t 2) (.t 17)),ro 3 (.mv (ci 1))] .ret) .skip)) (sq [ro 18 (.load (some 3) (.t 1)),rk 19 P4k [(.t 18)],rm 4 19] (sq [ro 20 (.Er),rm 21 4,ro 22 (.aI 1 (.t 21) (ci 0)),rL 23 22,rn (.Br (.int .i64) (.t 20) (.t 23) (ci 0)),rm 24 20,rm 5 24] (sq [ro 25 (.cO 1 1 (.v (.int .i64 0)) [(0,(ci 0))]),rm 6 25] (sq [rF 26 0 1,rL 27 26,ro 28 (.build (.agg [(.v (.int .i64 0)),(.sl true []),(.sl true [])]) [(0,1)] [(0,(.t 27))]),ro 7 (.alloc (.agg [(.v (.int .i64 0)),(.sl true []),(.sl true [])]) 3),rn (.store 3 (.t 7) (.t 28))] (.seq (sq [ro 8 (.mv (ci 0))] ZhL) ZhK)))))))
def CB(l:List Nat):List Int:=l.map fun(q:Nat)=>(q:Int)
theorem Ziu(l:List Nat):(CB l).length=l.length:=by simp[CB]
theorem Zm7(l:List Nat)(q:Nat):CB (l++[q])=CB l++[(q:Int)]:=by simp[CB]
theorem Zit{l:List Nat}{i q:Nat}(h:l[i]? = some q):(CB l)[i]? = some (q:Int):=by simp[CB,h]
theorem Yu:AY (.int .i64) (fun _:Int=>True) aj:=
 ⟨fun _=>rfl,fun x y _ _=>by
  have:tu (aj x) (aj y)=(x == y):=rfl;rw[this];by_cases h:x=y
  ·subst h;simp
  ·simp[h]⟩
def wM(d:aD):aD×Int:=if lg d=true then (nU d,0) else (⟨0,[],[]⟩,1)
abbrev TQ:=(List Int×List Int×List (List Int)×List Bool)×(Bool×Bool×Bool)
def loI(d:aD)(c:List Int)(i:Nat)(s:TQ):Prop:=s.1=(CB (jH d c i).1,(jH d c i).1.map (jB c),(jH d c i).2)∧∀m,m < i→m < (jH d c m).1.length
def yT(c:List Int)(i:Nat)(os:List Int)(o:Bool):List (Nat×AV):=[(1,.ptr 0 0 0),(2,.ptr 1 0 0),(4,aA c),(5,.mp 3),(6,vV o 4 (os.map aj)),(7,.ptr 2 0 0),(8,aj i)]
def yU(d:aD)(os ks:List Int)(nx:List (List Int))(en:List Bool)(o oN oE:Bool):List (Nat×Option aF):=
 [(0,some (.arr 3 [aT d])),(1,some (.arr 3 [rQ])),(2,some (.arr 3 [.agg [aj d.signs,vV oN 5 (nx.map aA),vV oE 6 (en.map aH)]])),(3,some (.map (iW aj 0 ks))),(4,vB o 1 (os.map aj)),(5,vB oN 1 (nx.map aA)),(6,vB oE 1 (en.map aH))]
def NG(c:List Int)(i:Nat)(s:TQ):List (Nat×AV):=yT c i s.1.1 s.2.1
def NH(d:aD)(_:Nat)(s:TQ):List (Nat×Option aF):=yU d s.1.1 s.1.2.1 s.1.2.2.1 s.1.2.2.2 s.2.1 s.2.2.1 s.2.2.2
abbrev TS:=(List Int×List Int×List Int)×Bool
def lrI(d:aD)(c:List Int)(q:Nat)(one:List Nat)(k:Nat)(s:TS):Prop:=
 s.1.1=CB (nY c (fun s=>bO d q s) k one).1∧s.1.2.1=(nY c (fun s=>bO d q s) k one).1.map (jB c)∧s.1.2.2.length=d.signs.toNat∧s.1.2.2.take k=(nY c (fun s=>bO d q s) k one).2
def GU(d:aD)(c:List Int)(i:Nat)(row:List Int)(k:Nat)(s:TS):List (Nat×AV):=(9,.own 7 0 d.signs.toNat)::(45,aA row)::(46,aj d.signs)::(47,aj k)::yT c i s.1.1 s.2
def GV(d:aD)(nx:List (List Int))(en:List Bool)(oN oE:Bool)(_:Nat)(s:TS):List (Nat×Option aF):=(7,some (.arr 1 (s.1.2.2.map aj)))::yU d s.1.1 s.1.2.1 nx en s.2 oN oE
theorem ZeS{gF:Nat→Option aF}{R:Nat→Nat→Prop}(uq:List Int)(k:Nat)(v:Int):iZ gF R ((List.map aj uq).set k (.v (.int .i64 v))) ((List.map aj uq).set k (.v (.int .i64 v))):=by
 have:(List.map aj uq).set k (.v (.int .i64 v))=List.map aj (uq.set k v):=by rw[List.map_set];rfl
 rw[this];exact iZ.cl (jr _)
theorem Zgc(l:List Int)(k:Nat)(v:Int)(h:k < l.length):(l.set k v).take (k+1)=l.take k++[v]:=by
 rw[List.take_succ_eq_append_getElem (by simpa using h),List.take_set_of_le (Nat.le_refl _)];simp
theorem Zek{P:Program}{fr fc:FuncId}{d:aD}(hr:aN P fr [aT d] (aH (lg d)))(hc:bD d→aN P fc [aT d] (aA (vO d))) :
  bG P 0 (VN fr fc) (bK [.c 2 (some 3),.t 3] (iQ (jV (wM d)))) (bP [aT d]) S0:=by
 have ed:(aT d).cells=[aj d.signs,aX d.next,iY d.fin]:=rfl;simp[VN];refine aQ.pure hr (aK (iV d) aU) (dN _) ?_;cases hb:lg d with
 | false=>
  have hz:wM d=(⟨0,[],[]⟩,1):=by simp[wM,hb]
  rw[hz];simp[bK,bV,RV.ev,gH,cK,jc,iR];exact vU _ 1
 | true=>
  have R:=(xP d).mp hb;have hz:wM d=(nU d,0):=by simp[wM,hb]
  rw[hz];have C:=Pn R;have hn1:=R.n1;have hn2:=R.n2;have hs1:=R.s1;have hs2:=R.s2;have hcl:=C.len;have hc0:(0:Nat) < (vO d).length:=by omega
  simp;refine aQ.pure (hc R) (aK (iV d) aU) (aS _) ?_;have hspec:=Ik R;have hlD:nU d=⟨d.signs,(mI d).2.1,(mI d).2.2⟩:=rfl;generalize hcc:vO d=c at *;have aah:=fun(km aC:Nat) (S:St) (hg:S.g km=some (.map []))=>Ro (ks:=[]) (x:=c[0]) (aC:=aC) Yu trivial (by simp) (by simp) hg
  simp[iW,aj] at aah;simp[FV,hc0,aah,jc,iR,ZhL];refine wG (d.next.length+1) (loI d c) (NG c) 10 (NH d) (([0],[jB c 0],[],[]),(false,false,false)) ⟨rfl,fun m hm=>by omega⟩ ?_ ?_
  ·refine bR.of [(0,0),(1,1),(2,21),(3,9)] [] (by omega) ⟨by simp,by simp⟩ ?_ ?_
   ·simp[NH,yU,rQ,iV,iW]
    have aaJ:c[0]=jB c 0:=by rw[jB,List.getD_eq_getElem?_getD,List.getElem?_eq_getElem hc0];rfl
    rw[aaJ];exact zD (zH (enc:=aj) aW [jB c 0] 0)
   ·simp[NG,yT]
    exact .cl (.sl _ _ (aK (aW _) aU))
  ·rintro i ⟨⟨os,ks,nx,en⟩,oo,oN,oE⟩ hi ⟨heq,hmin⟩
   simp only[Prod.mk.injEq] at heq;obtain⟨ho,hk,hne⟩:=heq;have ok:=Md R c i hmin;have hle:=ok.le;have hlen:=ok.len;have hnd:=ok.nd;generalize hst:jH d c i=st at *;obtain⟨one,nx',en'⟩:=st;simp only[Prod.mk.injEq] at ho hk hne hle hlen hnd;obtain⟨rfl,rfl⟩:=hne;have hol:os.length=one.length:=by rw[ho,Ziu]
   by_cases hlt:i < one.length
   ·obtain⟨q,hq⟩:∃q,one[i]? = some q:=⟨_,List.getElem?_eq_getElem hlt⟩
    have En:q < d.next.length:=ok.lt q (by obtain⟨h1,h2⟩:=List.getElem?_eq_some_iff.mp hq;rw[←h2];exact List.getElem_mem h1)
    have hoi:i < os.length:=by omega
    have hoq:os[i]? = some (q:Int):=by rw[ho];exact Zit hq
    obtain⟨_,ab6⟩:=List.getElem?_eq_some_iff.mp hoq;have hrl:((d.next[q]).length:Int)=d.signs:=R.row q En;have hsa:=fun(k:Nat) (h:(k:Int) < d.signs)=>Dx R En (s:=(k:Int)) (by omega) h
    have hgq:d.next.getD q []=d.next[q]:=by rw[List.getD_eq_getElem?_getD,List.getElem?_eq_getElem En];rfl
    have hfl:q < d.fin.length:=by have:=R.fin;omega
    have SH:d.fin[q]=jy d q:=by rw[jy,List.getD_eq_getElem?_getD,List.getElem?_eq_getElem hfl];rfl
    have Zc:(i:Int) < os.length:=by omega
    have hm0:(0:Int)≤d.signs:=by omega
    have hmk:8*d.signs≤281474976710656:=by omega
    have Nu:d.signs≤9223372036854775807:=by omega
    have hnx:jH d c (i+1)=((nY c (fun s=>bO d q s) d.signs.toNat one).1,nx++[(nY c (fun s=>bO d q s) d.signs.toNat one).2],en++[jy d q]):=by
     simp only[jH,hst,ND,hq]
    generalize hrow:d.next[q]=row at *
    simp[NG,yT,NH,yU,Zc,DW,hm0,hmk,Nu,hoi,ab6,En,hrl,hrow,ZhM];refine wG d.signs.toNat (lrI d c q one) (GU d c i row) 10 (GV d nx en oN oE) ((os,ks,List.replicate d.signs.toNat 0),oo) ⟨ho,hk,by simp,by simp[nY]⟩ ?_ ?_
    ·refine bR.of [(0,0),(1,1),(2,2),(3,3),(4,4),(5,5),(6,6),(7,16)] [] (by omega) ⟨by simp,by simp⟩ ?_ ?_
     ·simp[GV,yU,rQ,iV]
      exact zD (zH aW _ _)
     ·simp[GU,yT]
    ·rintro k ⟨⟨os1,CU,rw⟩,o1⟩ hkn ⟨h1,h2,h3,h4⟩
     simp only at h1 h2 h3 h4;have hro:=Xm (c:=c) (t:=fun s=>bO d q s) hnd k;have hlr:nY c (fun s=>bO d q s) (k+1) one=((sI c (nY c (fun s=>bO d q s) k one).1 (bO d q k)).1,(nY c (fun s=>bO d q s) k one).2++[((sI c (nY c (fun s=>bO d q s) k one).1 (bO d q k)).2:Int)]):=rfl;generalize hp:nY c (fun s=>bO d q s) k one=p at *;obtain⟨iT,r⟩:=p;simp only at h1 h2 h4 hlr hro;have Zd:os1.length=iT.length:=by rw[h1,Ziu]
     have aaX:CU.length=iT.length:=by rw[h2,List.length_map]
     have hle1:iT.length≤d.next.length:=by
      refine P7 _ _ ((List.pairwise_map.mp hro.nd).imp (fun h e=>h (congrArg _ e))) (fun x hx=>?_);rcases hro.new x hx with h | ⟨s,hs,rfl⟩
      ·exact ok.lt x h
      ·exact xg R En (by omega) (by omega)
     by_cases hkl:(k:Int) < d.signs
     ·obtain⟨hj,hs1,hs2⟩:=hsa k hkl
      have hkn':k < d.signs.toNat:=by omega
      have hkr:k < row.length:=by omega
      have hs3:row[k]=(bO d q k:Int):=hs1;generalize ht:bO d q k=t at *;have htc:t < c.length:=by omega
      have hct:c[t]=jB c t:=by rw[jB,List.getD_eq_getElem?_getD,List.getElem?_eq_getElem htc];rfl
      have Bp:k < rw.length:=by omega
      have hkm:(k:Int) < max d.signs 0:=by omega
      have hrw:d.signs≤rw.length:=by omega
      have Ai:=fun(km aC:Nat) (S:St) (hg:S.g km=some (.map (iW aj 0 CU)))=>Yh (x:=jB c t) (aC:=aC) Yu trivial (fun _ _=>trivial) hg
      simp only[aj] at Ai;have hok:dF 8 os1.length 1:=by unfold dF;omega
      by_cases hin:jB c t∈CU
      ·have hln:sI c iT t=(iT,CU.idxOf (jB c t)):=by rw[sI,←h2,if_pos hin]
       rw[hln] at hlr;simp[GU,yT,GV,yU,hkl,hkr,hs3,htc,hct,Ai,hin,Bp,hkm,hrw];rw[bI _ (by omega)];refine⟨hkn',((os1,CU,rw.set k (CU.idxOf (jB c t))),o1),⟨by rw[hlr];exact h1,by rw[hlr];exact h2,by simpa using h3,?_⟩,bR.of [(0,0),(1,1),(2,2),(3,3),(4,4),(5,5),(6,6),(7,7)] [] (by omega) ⟨by simp,by simp⟩ ?_ ?_⟩
       ·simp only;rw[hlr,Zgc _ _ _ Bp,h4]
       ·simp[GV,yU,rQ,iV]
        exact⟨ZeS _ _ _,zD (zH aW _ _)⟩
       ·simp[GU,yT]
      ·have hln:sI c iT t=(iT++[t],iT.length):=by rw[sI,←h2,if_neg hin]
       rw[hln] at hlr;have SQ:=fun(km aC:Nat) (S:St) (hg:S.g km=some (.map (iW aj 0 CU)))=>Ro (x:=jB c t) (aC:=aC) Yu trivial (fun _ _=>trivial) hin hg
       simp only[aj,aaX,←Zd] at SQ;simp[GU,yT,GV,yU,hkl,hkr,hs3,htc,hct,Ai,hin,Bp,SQ,hok,hkm,hrw];rw[bI _ (by omega)];refine⟨hkn',((os1++[(t:Int)],CU++[jB c t],rw.set k os1.length),true),⟨by rw[hlr];simp only;rw[Zm7,h1],by rw[hlr];simp only;rw[List.map_append,h2];rfl,by simpa using h3,?_⟩,bR.of [(0,0),(1,1),(2,2),(3,3),(4,42),(5,5),(6,6),(7,7)] [] (by omega) ⟨by simp,by simp⟩ ?_ ?_⟩
       ·simp only;rw[hlr,Zgc _ _ _ Bp,h4,Zd]
       ·simp[GV,yU,rQ,iV]
        exact⟨ZeS _ _ _,zD (zH aW _ _)⟩
       ·simp[GU,yT]
     ·have hke:k=d.signs.toNat:=by omega
      have hrr:rw=r:=by rw[←h4,hke,←h3,List.take_length]
      have Ta:dF 24 nx.length 1:=by have:=ok.nx;simp only at this;unfold dF;omega
      have S9:dF 1 en.length 1:=by have:=ok.en;simp only at this;unfold dF;omega
      have hpre:=hro.pre i q hq;have ab4:i < os1.length:=by rw[Zd];exact(List.getElem?_eq_some_iff.mp hpre).1
      have ab5:os1[i]? = some (q:Int):=by rw[h1];exact Zit hpre
      obtain⟨_,ab7⟩:=List.getElem?_eq_some_iff.mp ab5;simp[GU,yT,GV,yU,hkl,ab4,ab7,hfl,SH,Ta,S9,ZhJ];rw[bI _ (by omega)];refine⟨by rintro j (⟨_,rfl⟩ | rfl)<;>simp,by rintro j (⟨_,rfl⟩ | rfl)<;>simp,by rintro j (⟨_,rfl⟩ | rfl)<;>simp,by omega,((os1,CU,nx++[rw],en++[jy d q]),(o1,true,true)),⟨?_,fun m hm=>?_⟩,bR.of [(0,0),(1,1),(2,2),(3,3),(4,4),(5,15),(6,27)] [7] (by omega) ⟨by simp,by simp⟩ ?_ ?_⟩
      ·simp only;rw[hnx,←hke,hp,h1,h2,hrr]
      ·by_cases qN:m=i
       ·subst qN;rw[hst];exact hlt
       ·exact hmin m (by omega)
      ·simp[NH,yU,rQ,iV,h3]
       exact zD (zH aW _ _)
      ·simp[NG,yT]
   ·have hie:i=one.length:=by omega
    have hlast:mI d=(one,nx,en):=by
     obtain⟨k,e1,e2,e3,e4⟩:=hspec
     have hki:k=i:=by
      rcases Nat.lt_trichotomy k i with h | h | h
      ·have:=hmin k h
       rw[←e1] at this;omega
      ·exact h
      ·have:=e3 i h
       rw[hst] at this;simp only at this;omega
     rw[e1,hki,hst]
    rw[hlD,hlast];have Zc:¬(i:Int) < os.length:=by omega
    simp[NG,yT,NH,yU,Zc,ZhK,bK,bV,RV.ev,gH,cK,rQ];refine .H8 (.cons (.K6 (.cons (.closed _ (.v _)) (.cons (Bb ?_ (jw _)) (.cons (Bb ?_ (lu _)) .nil)))) (.cons (.closed _ (.v _)) .nil))
    ·simp
    ·simp
def ZkO:AC:= (.block 2 (.loop (.seq (sq [rm 19 7,rm 20 6,ro 21 (.bin .lss (.t 19) (.t 20)),rm 22 21,rg 23 22 true (.mv (.t 3)),rg 24 22 true (.mv (.t 6)),rg 25 22 true (.aI 1 (.t 23) (.t 24)),rg 26 22 true (.load none (.t 25)),rg 27 22 true (.mv (.t 7)),rg 28 22 true (.aI 1 (.t 26) (.t 27)),rg 29 22 true (.load none (.t 28)),ro 30 (.pick (.t 22) (.t 29) (.c (.v (.bool false))))] (.cond (.t 30) .skip (.exit 2))) (.block 3 (.reg none [rm 31 7,ro 32 (.bin .add (.t 31) (ci 1)),rm 7 32])))))
def ZnL:AC:= (sq [rm 33 7,rm 34 6,ro 35 (.bin .lss (.t 33) (.t 34))] (.cond (.t 35) (.reg none [rm 36 4,rm 37 4,rm 38 7,ro 39 (.aI 1 (.t 37) (.t 38)),rL 40 39,ro 41 (.cO 1 1 (.v (.int .i64 0)) [(0,(.t 40))]),ro 42 (.app 1 8 (.t 36) (.t 41)),rm 4 42]) (sq [rm 43 4,rm 44 5,ro 45 (.cO 1 1 (.v (.int .i64 0)) [(0,(.t 44))]),ro 46 (.app 1 8 (.t 43) (.t 45)),rm 4 46] (.reg none [rm 47 5,ro 48 (.bin .add (.t 47) (ci 1)),rm 5 48]))))
def Z89(Ap P3g:FuncId):AC:= (sq [ro 1 (.box 3 (.t 0)),ro 2 (.mv (.c (.sl true [])))] (.seq (sq [ro 8 (.load (some 3) (.t 1)),rk 9 Ap [(.t 8)],ro 10 (.un .not (.t 9))] (.cond (.t 10) (sq [ro 2 (.mv (.c (.sl true [])))] .ret) .skip)) (sq [ro 11 (.load (some 3) (.t 1)),rk 12 P3g [(.t 11)],rm 3 12] (sq [ro 4 (.mv (.c (.sl true [])))] (sq [ro 5 (.mv (ci 0))] (.seq (sq [ro 6 (.mv (ci 0))] (.block 0 (.loop (.seq (sq [rm 13 6,rm 14 3,ro 15 (.len (.t 14)),ro 16 (.bin .lss (.t 13) (.t 15))] (.cond (.t 16) .skip (.exit 0))) (.seq (.block 1 (sq [ro 7 (.mv (ci 0))] (.seq ZkO ZnL))) (.reg none [rm 17 6,ro 18 (.bin .add (.t 17) (ci 1)),rm 6 18])))))) (sq [rm 49 4,rm 2 49] .ret)))))))
def ZnN:AC:= (.reg (some [[],[],[],[],[],[true],[false,true],[false,false,true],[false,false,false,true],[false,false,false,false,true],[false,false,false,false,false,true],[false,false,false,false,false,false,true],[false,false,false,false,false,false,false,true],[false,false,false,false,false,false,false,false,true],[false,false,false,false,false,false,false,false,false,true],[false,false,false,false,false,false,false,false,false,false,true],[],[true]]) [rF 77 1 6,rL 78 77,rm 79 8,ro 80 (.cO 1 1 (.sl true []) [(0,(.t 79))]),ro 81 (.app 1 24 (.t 78) (.t 80)),rF 82 2 6,rL 83 82,rF 84 2 1,rL 85 84,rm 86 5,rm 87 7,ro 88 (.aI 1 (.t 86) (.t 87)),rL 89 88,ro 90 (.aI 1 (.t 85) (.t 89)),rL 91 90,ro 92 (.cO 1 1 (.v (.bool false)) [(0,(.t 91))]),ro 93 (.app 1 1 (.t 83) (.t 92)),rF 94 1 6,rn (.store 1 (.t 94) (.t 81)),rF 95 2 6,rn (.store 1 (.t 95) (.t 93))])
def ZkQ:AC:= (.block 4 (.loop (.seq (.seq (.reg (some []) [rm 45 11,rm 46 5,ro 47 (.len (.t 46)),ro 48 (.bin .lss (.t 45) (.t 47)),rm 49 48,rg 50 49 true (.mv (.t 4)),rg 51 49 true (.mv (.t 5)),rg 52 49 true (.mv (.t 11)),rg 53 49 true (.aI 1 (.t 51) (.t 52)),rg 54 49 true (.load none (.t 53)),rg 55 49 true (.aI 1 (.t 50) (.t 54)),rg 56 49 true (.load none (.t 55)),rg 57 49 true (.mv (.t 4)),rg 58 49 true (.mv (.t 10)),rg 59 49 true (.aI 1 (.t 57) (.t 58)),rg 60 49 true (.load none (.t 59)),rg 61 49 true (.bin .neq (.t 56) (.t 60)),ro 62 (.pick (.t 49) (.t 61) (.c (.v (.bool false))))]) (.cond (.t 62) .skip (.exit 4))) (.block 5 (.reg none [rm 63 11,ro 64 (.bin .add (.t 63) (ci 1)),rm 11 64])))))
def ZnQ:AC:= (.block 2 (.loop (.seq (sq [rm 28 9,rF 29 0 1,rL 30 29,ro 31 (.bin .lss (.t 28) (.t 30))] (.cond (.t 31) .skip (.exit 2))) (.seq (.block 3 (.seq (.reg (some []) [rF 34 1 1,rL 35 34,rm 36 5,rm 37 7,ro 38 (.aI 1 (.t 36) (.t 37)),rL 39 38,ro 40 (.aI 1 (.t 35) (.t 39)),rL 41 40,rm 42 9,ro 43 (.aI 1 (.t 41) (.t 42)),rL 44 43,rm 10 44]) (sq [ro 11 (.mv (ci 0))] (.seq ZkQ (.seq (sq [rm 65 11,rm 66 5,ro 67 (.len (.t 66)),ro 68 (.bin .eql (.t 65) (.t 67))] (.cond (.t 68) (.reg none [rm 69 5,rm 70 10,ro 71 (.cO 1 1 (.v (.int .i64 0)) [(0,(.t 70))]),ro 72 (.app 1 8 (.t 69) (.t 71)),rm 5 72]) .skip)) (.reg none [rm 73 8,rm 74 11,ro 75 (.cO 1 1 (.v (.int .i64 0)) [(0,(.t 74))]),ro 76 (.app 1 8 (.t 73) (.t 75)),rm 8 76])))))) (.reg none [rm 32 9,ro 33 (.bin .add (.t 32) (ci 1)),rm 9 33])))))
def ZnP:AC:= (.block 0 (.loop (.seq (sq [rm 22 7,rm 23 5,ro 24 (.len (.t 23)),ro 25 (.bin .lss (.t 22) (.t 24))] (.cond (.t 25) .skip (.exit 0))) (.seq (.block 1 (sq [ro 8 (.mv (.c (.sl true [])))] (.seq (sq [ro 9 (.mv (ci 0))] ZnQ) ZnN))) (.reg none [rm 26 7,ro 27 (.bin .add (.t 26) (ci 1)),rm 7 27])))))
def ZnO:AC:= (sq [ro 96 (.load (some 3) (.t 6)),rn (.store 3 (.t 2) (.t 96)),ro 3 (.mv (ci 0))] .ret)
def Zap(Ap P2K:FuncId):AC:= (sq [ro 1 (.box 3 (.t 0)),ro 2 (.alloc (.agg [(.v (.int .i64 0)),(.sl true []),(.sl true [])]) 3),ro 3 (.mv (ci 0))] (.seq (sq [ro 12 (.load (some 3) (.t 1)),rk 13 Ap [(.t 12)],ro 14 (.un .not (.t 13))] (.cond (.t 14) (sq [ro 15 (.build (.agg [(.v (.int .i64 0)),(.sl true []),(.sl true [])]) [] []),rn (.store 3 (.t 2) (.t 15)),ro 3 (.mv (ci 1))] .ret) .skip)) (sq [ro 16 (.load (some 3) (.t 1)),rk 17 P2K [(.t 16)],rm 4 17] (sq [ro 18 (.cO 1 1 (.v (.int .i64 0)) [(0,(ci 0))]),rm 5 18] (sq [rF 19 0 1,rL 20 19,ro 21 (.build (.agg [(.v (.int .i64 0)),(.sl true []),(.sl true [])]) [(0,1)] [(0,(.t 20))]),ro 6 (.alloc (.agg [(.v (.int .i64 0)),(.sl true []),(.sl true [])]) 3),rn (.store 3 (.t 6) (.t 21))] (.seq (sq [ro 7 (.mv (ci 0))] ZnP) ZnO))))))
def O6:AC:= (sq [ro 4 (.mv (ci 0))] (.seq (.reg (some [[],[],[],[],[],[],[],[],[],[false,false,false,false,false,false,false,true,true],[true],[false,true],[false,false,true],[false,false,false,true],[false,false,false,false,true],[false,false,false,false,false,true],[false,false,false,false,false,false,false,false,false,false,false,false,false,false,true,true],[],[],[],[false,false,false,false,false,false,false,false,false,false,false,false,false,false,false,false,false,false,true]]) [rm 5 0,rm 6 0,rm 7 0,ro 8 (.iP (.t 7)),rF 9 0 8,rF 10 1 9,rL 11 10,rm 12 1,ro 13 (.cO 1 1 (.sl true []) [(0,(.t 12))]),ro 14 (.app 1 24 (.t 11) (.t 13)),rm 15 0,ro 16 (.iP (.t 15)),rF 17 0 16,rF 18 2 17,rL 19 18,ro 20 (.cO 1 1 (.sl true []) [(0,(.c (.sl true [])))]),ro 21 (.app 1 24 (.t 19) (.t 20)),ro 22 (.iP (.t 5)),rF 23 0 22,rF 24 1 23,rn (.store 1 (.t 24) (.t 14)),ro 25 (.iP (.t 6)),rF 26 0 25,rF 27 2 26,rn (.store 1 (.t 27) (.t 21))]) (sq [rm 28 0,ro 29 (.iP (.t 28)),rF 30 0 29,rF 31 1 30,rL 32 31,ro 33 (.len (.t 32)),ro 34 (.bin .sub (.t 33) (ci 1)),rm 4 34] .ret)))
def ZkL(uP rZ:FuncId):AC:= (.loop (sq [ro 11 (.bin .lss (.t 10) (.t 9))] (.seq (.cond (.t 11) .skip (.exit 0)) (.seq (.block 1 (sq [ro 12 (.aI 1 (.t 8) (.t 10)),rL 13 12,rm 7 13] (.reg (some []) [rm 14 0,ro 15 (.iP (.t 14)),rF 16 0 15,rF 17 2 16,rL 18 17,rm 19 7,rm 20 0,ro 21 (.iP (.t 20)),rF 22 0 21,rF 23 2 22,rL 24 23,rm 25 7,ro 26 (.aI 1 (.t 24) (.t 25)),rL 27 26,rm 28 2,ro 29 (.cO 1 2 (.sl true []) [(0,(.t 27)),(1,(.t 28))]),rk 30 uP [(.t 29)],rk 31 rZ [(.t 30)],ro 32 (.aI 1 (.t 18) (.t 19)),rn (.store 1 (.t 32) (.t 31))]))) (.reg none [ro 33 (.bin .add (.t 10) (ci 1)),rm 10 33])))))
def O5(uP rZ:FuncId):AC:= (sq [rm 8 1,ro 9 (.len (.t 8)),ro 10 (.mv (ci 0))] (.block 0 (ZkL uP rZ)))
theorem ZiY{P:Program}(hm:P.follows .mixedOrders=true){f:FuncId}(h:Is P f O6 [4] 2)(sg:Int)(o:Bool)(b:List Int)(st:Gs)(hs:st.fo.length=st.aB.length)(hl:st.aB.length≤100000) :
  oM P f [aA b] sg o st ⟨st.aB++[b],st.fo++[[]]⟩ (aj st.aB.length):=by
 refine h.uR hm rfl ?_;have ok1:dF 24 st.aB.length 1:=by unfold dF;omega
 have ok2:dF 24 st.fo.length 1:=by unfold dF;omega
 have hw:=bI (st.aB.length:Int) (by omega);simp[oJ,oH,oD,oI,oF,jU,oP,oL,oK,kL,dO,eY,eB,eD,dY,fZ,gu,gy,fO,fP,fQ,fE,fF,fJ,fU,dx,dL,eZ,ex,au,cu,dM,dX,bM,bU,aG,bB,eX,dR,fM,bL,dw,dz,ow,dA,dJ,oz,dQ,dP,bq,oG,oC,kV,aj,O6,mG,bN,ok1,ok2,jW,hw];refine⟨by rintro j (⟨_,rfl⟩ | rfl)<;>simp,jk [(4,aj st.aB.length)],⟨10,bY (mG sg true ⟨st.aB++[b],st.fo++[[]]⟩ 0 3 4++[])⟩,bR.of [(0,0),(3,13),(4,20)] [] (by omega) ⟨by simp,by simp⟩ ?_ ?_,by simp[jk,aj],.of⟩
 ·simp[aA,mG,bN]
  exact .loose (by simp)
 ·simp
abbrev RQ(P:Program)(f:FuncId):Prop:=∀a b:List Int,a.length+b.length≤1000000→aN P f [.sl true [aA a,aA b]] (aA (a++b))
abbrev Jm(P:Program)(f:FuncId):Prop:=∀l:List Int,l.length≤17592186043904→aN P f [aA l] (aA (je l))
def nfI(ss:List Int)(k:Nat)(_:Unit):Prop:=True
def NP(ss be:List Int)(k:Nat)(_:Unit):List (Nat×AV):=[(0,.ptr 0 0 0),(2,aA be),(8,aA ss),(9,aj ss.length),(10,aj k)]
def NQ(sg:Int)(st:Gs)(ss be:List Int)(k:Nat)(_:Unit):List (Nat×Option aF):=mG sg true ⟨st.aB,jG st.fo (ss.take k) be⟩ 0 1 2
theorem Zfs{P:Program}(hm:P.follows .mixedOrders=true){f fc fs:FuncId}(h:Is P f (O5 fc fs) [] 3)(hc:RQ P fc)(hset:Jm P fs)(sg:Int)(ss be:List Int)(st:Gs)(hst:rT st)
  (hss:jm st.aB.length ss) (hbe:jm st.aB.length be) (hl:st.aB.length≤100000):oM P f [aA ss,aA be] sg true st ⟨st.aB,jG st.fo ss be⟩ (.aM []):=by
 refine h.uR hm rfl ?_;have hsl:=hss.len;have hbl:=hbe.len;simp[O5,mG,bN,ZkL];refine wG ss.length (nfI ss) (NP ss be) 3 (NQ sg st ss be) () trivial ?_ ?_
 ·refine bR.of [(0,0),(1,1),(2,2)] [] (by omega) ⟨by simp,by simp⟩ ?_ ?_
  ·simp[NQ,mG,bN,jG]
  ·simp[NP]
 ·rintro k _ hk _
  by_cases hlt:k < ss.length
  ·have hsk:ss[k]? = some ss[k]:=List.getElem?_eq_getElem hlt
   have hsd:ss.getD k 0=ss[k]:=by rw[List.getD_eq_getElem?_getD,hsk];rfl
   have hs0:=hss.1.2 _ (List.getElem_mem hlt);have hs1:=hss.2 _ (List.getElem_mem hlt);have hfl:=Du (ss.take k) st.fo be;have hlen:=hst.len;have hrow:=Zib (XJ (ss.take k) st.fo be hst.rows hbe) (ss[k]).toNat;have hrl:=hrow.len;have hcc:=hc ((jG st.fo (ss.take k) be).getD (ss[k]).toNat []) be (by omega);have abk:=hset ((jG st.fo (ss.take k) be).getD (ss[k]).toNat []++be) (by rw[List.length_append];omega);have htk:ss.take (k+1)=ss.take k++[ss[k]]:=by rw[List.take_add_one,hsk];rfl
   have hfs:=Zfr (ss.take k) st.fo ss[k] be;rw[←htk] at hfs;have hxl:(ss[k]).toNat < (jG st.fo (ss.take k) be).length:=by omega
   have abn:ss[k] < ((jG st.fo (ss.take k) be).length:Int):=by omega
   have hge:((jG st.fo (ss.take k) be))[(ss[k]).toNat]? = some ((jG st.fo (ss.take k) be).getD (ss[k]).toNat []):=by
    rw[List.getD_eq_getElem?_getD,List.getElem?_eq_getElem hxl];rfl
   have hgl:(jG st.fo (ss.take k) be)[(ss[k]).toNat]=(jG st.fo (ss.take k) be).getD (ss[k]).toNat []:=by
    rw[List.getD_eq_getElem?_getD,List.getElem?_eq_getElem hxl];rfl
   have D1:=fun n' g'=>mo.cd (S:=⟨n',g'⟩) hcc (aK (.sl _ _ (aK (aS _) (aK (aS _) aU))) aU) (aS _)
   have D2:=fun n' g'=>mo.cd (S:=⟨n',g'⟩) abk (aK (aS _) aU) (aS _)
   generalize hro:(jG st.fo (ss.take k) be).getD (ss[k]).toNat []=row at *;generalize hgx:ss[k]=x at *;generalize Nq:jG st.fo (ss.take k) be=fo at *;simp[NP,NQ,mG,bN,hlt,hgx,Nq,jW,hxl,abn,hs0,hgl,bZ,bE];refine⟨_,⟨_,D1 _ _⟩,_,⟨_,D2 _ _⟩,?_⟩;simp[kL];rw[bI _ (by omega)];refine⟨hlt,(),trivial,bR.of [(0,0),(1,1),(2,2)] [] (by omega) ⟨by simp,by simp⟩ ?_ ?_⟩
   ·simp[NQ,mG,bN,hfs]
    rw[←List.map_set];exact .cl (jw _)
   ·simp[NP]
  ·have hke:k=ss.length:=by omega
   subst hke;simp[NP,NQ,mG,bN];refine⟨jk [],⟨10,bY (mG sg true ⟨st.aB,jG st.fo ss be⟩ 0 3 4++[])⟩,bR.of [(0,0),(3,1),(4,2)] [] (by omega) ⟨by simp,by simp⟩ ?_ ?_,.of⟩
   ·simp[mG,bN]
   ·simp
def ZsI:AC:= (.block 10 (.loop (.seq (sq [rm 59 10,rF 60 0 1,rL 61 60,ro 62 (.bin .lss (.t 59) (.t 61)),rm 63 62,rg 64 63 true (.mv (.t 4)),rg 65 63 true (.mv (.t 8)),rg 66 63 true (.aI 1 (.t 64) (.t 65)),rg 67 63 true (.load none (.t 66)),rg 68 63 true (.mv (.t 9)),rg 69 63 true (.aI 1 (.t 67) (.t 68)),rg 70 63 true (.load none (.t 69)),rg 71 63 true (.un .not (.t 70)),ro 72 (.pick (.t 63) (.t 71) (.c (.v (.bool false))))] (.cond (.t 72) .skip (.exit 10))) (.seq (.block 11 (.seq (.reg (some []) [rm 75 4,rF 76 1 1,rL 77 76,rm 78 8,ro 79 (.aI 1 (.t 77) (.t 78)),rL 80 79,rm 81 10,ro 82 (.aI 1 (.t 80) (.t 81)),rL 83 82,ro 84 (.aI 1 (.t 75) (.t 83)),rL 85 84,rF 86 1 1,rL 87 86,rm 88 9,ro 89 (.aI 1 (.t 87) (.t 88)),rL 90 89,rm 91 10,ro 92 (.aI 1 (.t 90) (.t 91)),rL 93 92,ro 94 (.aI 1 (.t 85) (.t 93)),rL 95 94]) (.cond (.t 95) (.seq (.reg (some [[],[],[],[],[],[],[],[],[],[],[],[false,true]]) [rm 96 4,rm 97 8,ro 98 (.aI 1 (.t 96) (.t 97)),rL 99 98,rm 100 9,rm 101 4,rm 102 9,ro 103 (.aI 1 (.t 101) (.t 102)),rL 104 103,rm 105 8,ro 106 (.aI 1 (.t 99) (.t 100)),rn (.store 1 (.t 106) (.c (.v (.bool true)))),ro 107 (.aI 1 (.t 104) (.t 105)),rn (.store 1 (.t 107) (.c (.v (.bool true))))]) (.reg none [ro 7 (.mv (.c (.v (.bool true))))])) .skip))) (.reg none [rm 73 10,ro 74 (.bin .add (.t 73) (ci 1)),rm 10 74])))))
def ZsG:AC:= (.block 8 (.loop (.seq (sq [rm 54 9,rm 55 8,ro 56 (.bin .lss (.t 54) (.t 55))] (.cond (.t 56) .skip (.exit 8))) (.seq (.block 9 (sq [ro 10 (.mv (ci 0))] ZsI)) (.reg none [rm 57 9,ro 58 (.bin .add (.t 57) (ci 1)),rm 9 58])))))
def ZsF:AC:= (.block 6 (.loop (.seq (sq [rm 49 8,rm 50 3,ro 51 (.bin .lss (.t 49) (.t 50))] (.cond (.t 51) .skip (.exit 6))) (.seq (.block 7 (sq [ro 9 (.mv (ci 0))] ZsG)) (.reg none [rm 52 8,ro 53 (.bin .add (.t 52) (ci 1)),rm 8 53])))))
def ZsJ:AC:= (.block 4 (.loop (.seq (sq [rm 48 7] (.cond (.t 48) .skip (.exit 4))) (.block 5 (sq [ro 7 (.mv (.c (.v (.bool false))))] (sq [ro 8 (.mv (ci 0))] ZsF))))))
def ZsE:AC:= (.block 2 (.loop (.seq (sq [rm 26 6,rm 27 3,ro 28 (.bin .lss (.t 26) (.t 27))] (.cond (.t 28) .skip (.exit 2))) (.seq (.block 3 (.reg (some []) [rm 31 4,rm 32 5,ro 33 (.aI 1 (.t 31) (.t 32)),rL 34 33,rm 35 6,rF 36 2 1,rL 37 36,rm 38 5,ro 39 (.aI 1 (.t 37) (.t 38)),rL 40 39,rF 41 2 1,rL 42 41,rm 43 6,ro 44 (.aI 1 (.t 42) (.t 43)),rL 45 44,ro 46 (.beq true (.t 40) (.t 45)),ro 47 (.aI 1 (.t 34) (.t 35)),rn (.store 1 (.t 47) (.t 46))])) (.reg none [rm 29 6,ro 30 (.bin .add (.t 29) (ci 1)),rm 6 30])))))
def ZsH:AC:= (.block 0 (.loop (.seq (sq [rm 16 5,rm 17 3,ro 18 (.bin .lss (.t 16) (.t 17))] (.cond (.t 18) .skip (.exit 0))) (.seq (.block 1 (sq [rm 21 4,rm 22 5,rm 23 3,ro 24 (.wB 1 1 (.v (.bool false)) (.t 23) (.t 23)),ro 25 (.aI 1 (.t 21) (.t 22)),rn (.store 1 (.t 25) (.t 24))] (sq [ro 6 (.mv (ci 0))] ZsE))) (.reg none [rm 19 5,ro 20 (.bin .add (.t 19) (ci 1)),rm 5 20])))))
def ZkB:AC:= (.seq (sq [ro 7 (.mv (.c (.v (.bool true))))] ZsJ) (sq [rm 108 4,rm 2 108] .ret))
def Z92:AC:= (sq [ro 1 (.box 3 (.t 0)),ro 2 (.mv (.c (.sl true [])))] (sq [rF 11 1 1,rL 12 11,ro 13 (.len (.t 12)),rm 3 13] (sq [rm 14 3,ro 15 (.wB 1 24 (.sl true []) (.t 14) (.t 14)),rm 4 15] (.seq (sq [ro 5 (.mv (ci 0))] ZsH) ZkB))))
end Go.Rf
namespace Go.Rf
open Go.RowKit
theorem ZfY{d:aD}(R:bD d):rP d:=by
 have h1:=R.n2;have h2:=R.fin;have h3:=R.s1;have h4:=R.s2;refine⟨by unfold Len;omega,by unfold Len;omega,fun r hr=>?_,by omega⟩;obtain⟨i,hi,rfl⟩:=List.getElem_of_mem hr;have:=R.row i hi;unfold Len;omega
end Go.Rf
namespace Go.Rf
open Go.RowKit
attribute [local simp] oJ oH oD pF pJ pQ pK oI qm pO oF o9 jK jT jU kr pY qM qK qJ qA qL oP oL qp pR qo qG qF qC qx pU qw qI qH oK kL pG pV pW pq o8 dO iA fI gI ig fH gJ iq gX gT gY eY gN gZ gM eB eD gQ iJ iG iI iH iK fV fK fG dY fZ gu gy fO fP iL iw gP iE iB iD iC iF iM gV fQ fE fF fJ fU dx dL eZ gW iN ex au cu dM dX bM bU aG bB dV eX dR fM gL gK iy gU bL dw dz dZ d9 gD dS bA pE ow dA dJ pI oZ pX oz eu eU eO eT dW dn dU dQ dP bq qz oG oC qh o7 qd qg qj kV p9 p8 ql S0 aj aH ru qZ rA q9 qY rz rH q8 rG rO rE rM rD rJ rC mR iZ.cl bQ.cl aW dN aS jo jL mX mV mW jZ mH nu mY nk jr lu jw ny lQ kX mh nA nD nC ni kM kJ nE lZ mZ l6 kK mF jh nG
def ZkK(uP rZ:FuncId):AC:= (.reg (some []) [rF 18 1 2,rL 19 18,rF 20 1 4,rL 21 20,ro 22 (.cO 1 2 (.sl true []) [(0,(.t 19)),(1,(.t 21))]),rk 23 uP [(.t 22)],rk 24 rZ [(.t 23)],rF 25 2 2,rL 26 25,rF 27 2 4,rL 28 27,ro 29 (.cO 1 2 (.sl true []) [(0,(.t 26)),(1,(.t 28))]),rk 30 uP [(.t 29)],rk 31 rZ [(.t 30)],rF 32 1 2,rn (.store 1 (.t 32) (.t 24)),rF 33 2 2,rn (.store 1 (.t 33) (.t 31))])
def ZkJ(uP rZ:FuncId):AC:= (.loop (sq [ro 8 (.bin .lss (.t 7) (.t 6))] (.seq (.cond (.t 8) .skip (.exit 0)) (.seq (.block 1 (sq [ro 9 (.aI 3 (.t 5) (.t 7)),ro 10 (.load (some 3) (.t 9)),ro 4 (.alloc (.agg [(.v (.bool false)),(.sl true []),(.sl true [])]) 3),rn (.store 3 (.t 4) (.t 10))] (sq [rF 11 0 2,rL 12 11,rm 13 12,rg 14 13 false (.cZ 0 (.t 4)),rg 15 13 false (.load none (.t 14)),ro 16 (.pick (.t 13) (.c (.v (.bool true))) (.t 15)),rF 17 0 2,rn (.store 1 (.t 17) (.t 16))] (ZkK uP rZ)))) (.reg none [ro 34 (.bin .add (.t 7) (ci 1)),rm 7 34])))))
def Pf(uP rZ:FuncId):AC:= (sq [ro 2 (.alloc (.agg [(.v (.bool false)),(.sl true []),(.sl true [])]) 3)] (.seq (sq [rm 5 0,ro 6 (.len (.t 5)),ro 7 (.mv (ci 0))] (.block 0 (ZkJ uP rZ))) (sq [ro 35 (.load (some 3) (.t 2)),rn (.store 3 (.t 2) (.t 35))] .ret)))
def ZkM(Kz:FuncId):AC:= (.loop (sq [ro 11 (.bin .lss (.t 10) (.t 9))] (.seq (.cond (.t 11) .skip (.exit 0)) (.seq (.block 1 (sq [ro 12 (.aI 4 (.t 8) (.t 10)),ro 13 (.load (some 4) (.t 12)),ro 7 (.alloc (.agg [(.v (.int .i64 0)),(.sl true []),(.sl true []),(.sl true [])]) 4),rn (.store 4 (.t 7) (.t 13))] (.reg none [rm 14 5,rm 15 0,ro 16 (.load (some 4) (.t 7)),rk 17 Kz [(.t 15),(.t 16)],ro 18 (.cO 3 1 (.agg [(.v (.bool false)),(.sl true []),(.sl true [])]) [(0,(.t 17))]),ro 19 (.app 3 56 (.t 14) (.t 18)),rm 5 19]))) (.reg none [ro 20 (.bin .add (.t 10) (ci 1)),rm 10 20])))))
def O8(Kz:FuncId):AC:= (sq [ro 4 (.mv (.c (.sl true [])))] (sq [ro 5 (.mv (.c (.sl true [])))] (.seq (sq [rm 8 1,ro 9 (.len (.t 8)),ro 10 (.mv (ci 0))] (.block 0 (ZkM Kz))) (sq [rm 21 5,rm 4 21] .ret))))
def ZkN(Kq uP rZ:FuncId):AC:= (.loop (sq [ro 12 (.bin .lss (.t 11) (.t 10))] (.seq (.cond (.t 12) .skip (.exit 0)) (.seq (.block 1 (sq [ro 13 (.aI 3 (.t 9) (.t 11)),ro 14 (.load (some 3) (.t 13)),ro 7 (.alloc (.agg [(.v (.bool false)),(.sl true []),(.sl true [])]) 3),rn (.store 3 (.t 7) (.t 14))] (sq [rm 15 0,rF 16 2 5,rL 17 16,rF 18 1 7,rL 19 18,rk 20 Kq [(.t 15),(.t 17),(.t 19)]] (.seq (sq [rF 21 0 5,rL 22 21] (.cond (.t 22) (.reg none [rF 23 1 5,rL 24 23,rF 25 1 7,rL 26 25,ro 27 (.cO 1 2 (.sl true []) [(0,(.t 24)),(1,(.t 26))]),rk 28 uP [(.t 27)],rk 29 rZ [(.t 28)],rF 30 1 5,rn (.store 1 (.t 30) (.t 29))]) .skip)) (.seq (sq [rF 31 0 7,rL 32 31,ro 33 (.un .not (.t 32))] (.cond (.t 33) (.reg none [rF 34 2 5,rn (.store 1 (.t 34) (.c (.sl true [])))]) .skip)) (sq [rF 35 2 5,rL 36 35,rF 37 2 7,rL 38 37,ro 39 (.cO 1 2 (.sl true []) [(0,(.t 36)),(1,(.t 38))]),rk 40 uP [(.t 39)],rk 41 rZ [(.t 40)],rF 42 2 5,rn (.store 1 (.t 42) (.t 41))] (.reg none [rF 43 0 5,rL 44 43,rm 45 44,rg 46 45 true (.cZ 0 (.t 7)),rg 47 45 true (.load none (.t 46)),ro 48 (.pick (.t 45) (.t 47) (.c (.v (.bool false)))),rF 49 0 5,rn (.store 1 (.t 49) (.t 48))]))))))) (.reg none [ro 50 (.bin .add (.t 11) (ci 1)),rm 11 50])))))
def O9(Kq uP rZ:FuncId):AC:= (sq [ro 4 (.alloc (.agg [(.v (.bool false)),(.sl true []),(.sl true [])]) 3)] (sq [ro 8 (.build (.agg [(.v (.bool false)),(.sl true []),(.sl true [])]) [(0,1)] [(0,(.c (.v (.bool true))))]),ro 5 (.alloc (.agg [(.v (.bool false)),(.sl true []),(.sl true [])]) 3),rn (.store 3 (.t 5) (.t 8))] (.seq (sq [rm 9 1,ro 10 (.len (.t 9)),ro 11 (.mv (ci 0))] (.block 0 (ZkN Kq uP rZ))) (sq [ro 51 (.load (some 3) (.t 5)),rn (.store 3 (.t 4) (.t 51))] .ret))))
def eG(e:Ed):AV:=.agg [aH e.bH,aA e.fst,aA e.aR]
theorem Fe(e:Ed):aY (eG e):=.agg _ (aK (dN _) (aK (aS _) (aK (aS _) aU)))
theorem lX(e:Ed):(eG e).cells=[aH e.bH,aA e.fst,aA e.aR]:=rfl
theorem IW(e:Ed):(eG e).solid=true:=rfl
theorem Qt(e:Ed):AV.agg [.v (.bool e.bH),aA e.fst,aA e.aR]=eG e:=rfl
theorem Zsf(l:List Ed):tN 3 (l.map eG):=LX (enc:=eG) (fun _=>rfl) l
theorem Xw(l:List Ed):Cls (l.map eG):=IZ Fe l
theorem yC(l:List Ed):aY (.sl false (l.map eG)):=.sl _ _ (Xw l)
def nR(b:Bool):Ed:=⟨b,[],[]⟩
def neI(_:Nat)(_:Unit):Prop:=True
def NM(es:List Ed)(k:Nat)(_:Unit):List (Nat×AV):=[(2,.ptr 0 0 0),(5,.sl false (es.map eG)),(6,aj es.length),(7,aj k)]
def NN(es:List Ed)(k:Nat)(_:Unit):List (Nat×Option aF):=[(0,some (.arr 3 [eG (tQ (es.take k) (nR false))]))]
theorem ZgS{P:Program}{fc fs:FuncId}(hc:RQ P fc)(hset:Jm P fs)(es:List Ed)(hl:es.length≤100000)(he:∀e∈es,uw 100000 e) :
  bG P 0 (Pf fc fs) (bK [.c 2 (some 3)] (iQ (eG (tQ es (nR false))))) (bP [.sl false (es.map eG)]) S0:=by
 simp[Pf,ZkJ];refine wG es.length neI (NM es) 5 (NN es) () trivial ?_ ?_
 ·refine bR.of [(0,0)] [] (by omega) ⟨by simp,by simp⟩ ?_ ?_
  ·simp[NN,tQ,nR,eG]
   exact .loose (by simp)
  ·simp[NM,yC]
 ·rintro k _ hk _
  by_cases hlt:k < es.length
  ·have hsk:es[k]? = some es[k]:=List.getElem?_eq_getElem hlt
   have htk:es.take (k+1)=es.take k++[es[k]]:=by rw[List.take_add_one,hsk];rfl
   have hsn:=ZaV (es.take k) es[k] (nR false);rw[←htk] at hsn;have hek:=he _ (List.getElem_mem hlt);have hacc:=Wi (N:=100000) (es.take k) (nR false) ⟨jm.nil,jm.nil⟩ (fun e h=>he e (List.mem_of_mem_take h));generalize hgx:es[k]=e at *;generalize hac:tQ (es.take k) (nR false)=acc at *;have l1:=hek.f.len;have l2:=hek.l.len;have l3:=hacc.f.len;have l4:=hacc.l.len;have D1:=fun n' g'=>mo.cd (S:=⟨n',g'⟩) (hc acc.fst e.fst (by omega)) (aK (.sl _ _ (aK (aS _) (aK (aS _) aU))) aU) (aS _)
   have D2:=fun n' g'=>mo.cd (S:=⟨n',g'⟩) (hset (acc.fst++e.fst) (by rw[List.length_append];omega)) (aK (aS _) aU) (aS _)
   have D3:=fun n' g'=>mo.cd (S:=⟨n',g'⟩) (hc acc.aR e.aR (by omega)) (aK (.sl _ _ (aK (aS _) (aK (aS _) aU))) aU) (aS _)
   have D4:=fun n' g'=>mo.cd (S:=⟨n',g'⟩) (hset (acc.aR++e.aR) (by rw[List.length_append];omega)) (aK (aS _) aU) (aS _)
   cases hn:acc.bH <;>
   ·simp[NM,NN,hlt,hgx,hac,hn,lX,ZkK]
    refine⟨_,⟨_,D1 _ _⟩,_,⟨_,D2 _ _⟩,_,⟨_,D3 _ _⟩,_,⟨_,D4 _ _⟩,?_⟩;simp[kL,kV];rw[bI _ (by omega)];refine⟨hlt,(),trivial,bR.of [(0,0)] [] (by omega) ⟨by simp,by simp⟩ ?_ ?_⟩
    ·simp[NN,hsn,hn,eG]
    ·simp[NM,yC]
  ·have hke:k=es.length:=by omega
   subst hke;simp[NM,NN,lX,IW,bK,bV,RV.ev,gH,cK,Qt];exact .closed _ (Fe _)
def Fv(P:Program)(f:FuncId)(sg:Int)(q:aO):Prop:=∀st:Gs,rT st→st.aB.length+jv q≤10000→oM P f [jM q] sg true st (eP sg q st).2 (eG (eP sg q st).1)
def ngI(_:Nat)(_:Bool):Prop:=True
def NR(sg:Int)(st:Gs)(ks:List aO)(k:Nat)(o:Bool):List (Nat×AV):=[(0,.ptr 0 0 0),(5,vV o 5 ((dG sg (ks.take k) st).1.map eG)),(8,.sl false (ks.map jM)),(9,aj ks.length),(10,aj k)]
def NS(sg:Int)(st:Gs)(ks:List aO)(k:Nat)(o:Bool):List (Nat×Option aF):=(5,vB o 3 ((dG sg (ks.take k) st).1.map eG))::mG sg true (dG sg (ks.take k) st).2 0 3 4
theorem EY(l:List aO):aY (.sl false (l.map jM)):=.sl _ _ (IZ Dl l)
theorem PI(sg:Int):∀(ks:List aO) (st:Gs),(dG sg ks st).1.length=ks.length
 | [],st=>by simp only[dG];rfl
 | q::qs,st=>by simp only[dG,List.length_cons];rw[PI sg qs]
theorem Zs1{g:Nat→Option aF}{R:Nat→Nat→Prop}{F:List Nat}{o:Bool}{id:Nat}{xs:List AV}(hF:id∈F)(hg:g id=vB o 3 xs)(hc:Cls xs):bQ (only F g) R (vV o id xs) (.sl false xs):=by
 cases o with
 | true=>rw[bZ];rw[bE] at hg;exact .sN hF hg rfl hc
 | false=>rw[jO];exact .loose hc
theorem Zoc{P:Program}(hm:P.follows .mixedOrders=true){f ff:FuncId}(h:Is P f (O8 ff) [4] 2){sg:Int}{ks:List aO}(hl:ks.length≤100000)(hq:∀q∈ks,Fv P ff sg q)
  (st:Gs) (hst:rT st) (hb:st.aB.length+jR ks≤10000):oM P f [.sl false (ks.map jM)] sg true st (dG sg ks st).2 (.sl false ((dG sg ks st).1.map eG)):=by
 refine h.uR hm rfl ?_;simp[O8,mG,bN,ZkM];refine wG ks.length ngI (NR sg st ks) 10 (NS sg st ks) false trivial ?_ ?_
 ·refine bR.of [(0,0),(3,1),(4,2)] [] (by omega) ⟨by simp,by simp⟩ ?_ ?_
  ·simp[bZ,bE,kQ,NS,mG,bN,dG]
  ·simp[bZ,jO,bE,NR,dG,EY]
 ·rintro k o hk _
  by_cases hlt:k < ks.length
  ·have hsk:ks[k]? = some ks[k]:=List.getElem?_eq_getElem hlt
   have htk:ks.take (k+1)=ks.take k++[ks[k]]:=by rw[List.take_add_one,hsk];rfl
   have hsn:=Zdi sg (ks.take k) ks[k] st;rw[←htk] at hsn;obtain⟨n1,n2,n3⟩:=Qn sg (ks.take k) st hst
   have hcl:jR (ks.take k)+jv ks[k]≤jR ks:=by
    have h1:jR (ks.take (k+1))≤jR ks:=by
     have:=Vz (ks.take (k+1)) (ks.drop (k+1));rw[List.take_append_drop] at this;omega
    rw[htk,Vz] at h1;simp only[jR] at h1;omega
   have hqk:=hq _ (List.getElem_mem hlt) (dG sg (ks.take k) st).2 n1 (by omega);have hle:=PI sg (ks.take k) st;rw[List.length_take] at hle;rcases hpq:ks[k] with⟨pk,ps,pg,Ew⟩
   have hok:dF 56 (dG sg (ks.take k) st).1.length 1:=by unfold dF;omega
   generalize hge:dG sg (ks.take k) st=ge at *;obtain⟨es,st1⟩:=ge;simp only at hqk hsn n1 n2 n3 hok hle;rw[hpq] at hqk hsn;simp only[rV,aj] at hqk;have hcp:=Dl (.mk pk ps pg Ew);simp only[rV,aj] at hcp;have hok2:dF 56 (es.map eG).length 1:=by simpa using hok
   have hol:es.length≤100000:=by omega
   simp[NR,NS,mG,bN,hge,hlt,hpq,rV];refine oM.use hqk (fun _=>.cl (aK hcp aU)) (Fe _) (id:=0) (b:=3) (c:=4) ?_ ?_ ?_ (by simp) (by simp) ?_
   ·simp[bN]
   ·simp
   ·simp
   simp[nJ,hok,lX,Zsf,IW];rw[bI _ (by omega)];refine⟨hlt,true,trivial,bR.of [(0,0),(3,22),(4,23),(5,20)] [] (by omega) ⟨by simp,by simp⟩ ?_ ?_⟩
   ·simp[bZ,bE,NS,mG,bN,hsn,Xw,Fe]
   ·simp[bZ,bE,NR,hsn,EY]
  ·have hke:k=ks.length:=by omega
   subst hke;simp[NR,NS,mG,bN];refine⟨jk [(4,.sl false ((dG sg ks st).1.map eG))],⟨10,bY (mG sg true (dG sg ks st).2 0 3 4++[])⟩,bR.of [(0,0),(3,3),(4,4)] [5] (by omega) ⟨by simp,by simp⟩ ?_ ?_,by simp[jk],.of⟩
   ·simp[bZ,bE,mG,bN]
   ·simp[bZ,bE]
    exact Zs1 (by simp) (by simp[bY]) (Xw _)
abbrev Zsl(P:Program)(f:FuncId):Prop:=∀b:List Int,b.length≤1000000→aN P f [.sl true [.sl true [],aA b]] (aA b)
def njI(_:Nat)(_:Unit):Prop:=True
def Et(es:List Ed)(k:Nat)(_:Unit):List (Nat×AV):=[(0,.ptr 0 0 0),(4,.ptr 5 0 0),(5,.ptr 6 0 0),(9,.sl false (es.map eG)),(10,aj es.length),(11,aj k)]
def Eu(sg:Int)(st:Gs)(es:List Ed)(k:Nat)(_:Unit):List (Nat×Option aF):=(5,some (.arr 3 [eG (nR false)]))::(6,some (.arr 3 [eG (ku (es.take k) (nR true) st).1]))::mG sg true (ku (es.take k) (nR true) st).2 0 3 4
theorem Zov{P:Program}(hm:P.follows .mixedOrders=true){f ff fc fs:FuncId}(h:jS P f (O9 ff fc fs) [.c 4 (some 3)] 2)(hc:RQ P fc)(hc0:Zsl P fc)(hset:Jm P fs){sg:Int}
  (hf:∀(ss be:List Int) (st:Gs),rT st→jm st.aB.length ss→jm st.aB.length be→st.aB.length≤100000→oM P ff [aA ss,aA be] sg true st ⟨st.aB,jG st.fo ss be⟩ (.aM []))
  (es:List Ed) (hl:es.length≤100000) (st:Gs) (hst:rT st) (he:∀e∈es,uw st.aB.length e) (hb:st.aB.length≤10000):oM P f [.sl false (es.map eG)] sg true st (ku es (nR true) st).2 (eG (ku es (nR true) st).1):=by
 refine h.uR hm rfl ?_;simp[O9,mG,bN,ZkN,bA,jc,iR];refine wG es.length njI (Et es) 10 (Eu sg st es) () trivial ?_ ?_
 ·refine bR.of [(0,0),(3,1),(4,2),(5,3),(6,5)] [] (by omega) ⟨by simp,by simp⟩ ?_ ?_
  ·simp[bZ,bE,Eu,mG,bN,ku,nR,eG]
   exact .loose (by simp)
  ·simp[bZ,bE,Et,yC]
 ·rintro k _ hk _
  by_cases hlt:k < es.length
  ·have hsk:es[k]? = some es[k]:=List.getElem?_eq_getElem hlt
   have htk:es.take (k+1)=es.take k++[es[k]]:=by rw[List.take_add_one,hsk];rfl
   have hsn:=Zdk (es.take k) es[k] (nR true) st;rw[←htk] at hsn;have hek:=he _ (List.getElem_mem hlt);obtain⟨n1,n2⟩:=Xl (es.take k) (nR true) st hst ⟨jm.nil,jm.nil⟩ (fun e h=>he e (List.mem_of_mem_take h));have n3:=(P5 (es.take k) (nR true) st).1;generalize hgx:es[k]=e at *;generalize hac:ku (es.take k) (nR true) st=ac at *;obtain⟨acc,st1⟩:=ac;simp only at n1 n2 n3 hsn;have l1:=hek.f.len;have l2:=hek.l.len;have l3:=n2.f.len;have l4:=n2.l.len;have h1:=hf acc.aR e.fst st1 n1 (by rw[n3];exact n2.l) (by rw[n3];exact hek.f) (by rw[n3];omega);have D1:=hc acc.fst e.fst (by omega);have D2:=hset (acc.fst++e.fst) (by rw[List.length_append];omega);have D3:=hc acc.aR e.aR (by omega);have D4:=hset (acc.aR++e.aR) (by rw[List.length_append];omega);have D5:=hc0 e.aR (by omega);have D6:=hset e.aR (by omega);simp[Et,Eu,mG,bN,hlt,hgx,hac,bA,lX];refine oM.use h1 (fun _=>.cl (aK (aS _) (aK (aS _) aU))) (.aM _ (by simp)) (id:=0) (b:=3) (c:=4) ?_ ?_ ?_ (by simp) (by simp) ?_
   ·simp[bN]
   ·simp
   ·simp
   cases hn1:acc.bH<;>cases hn2:e.bH
   ·simp[nJ,lX,hn1]
    refine aQ.pure D5 (aK (.sl _ _ (aK (jZ _) (aK (aS _) aU))) aU) (aS _) ?_;simp;refine aQ.pure D6 (aK (aS _) aU) (aS _) ?_;simp[kL,kV];rw[bI _ (by omega)];refine⟨hlt,(),trivial,bR.of [(0,0),(3,21),(4,22),(5,5),(6,6)] [] (by omega) ⟨by simp,by simp⟩ ?_ ?_⟩
    ·simp[bZ,bE,Eu,mG,bN,hsn,hn1,hn2,eG]
    ·simp[bZ,bE,Et,yC]
   ·simp[nJ,lX,hn1]
    refine aQ.pure D3 (aK (.sl _ _ (aK (aS _) (aK (aS _) aU))) aU) (aS _) ?_;simp;refine aQ.pure D4 (aK (aS _) aU) (aS _) ?_;simp[lX,kL,kV,hn1];rw[bI _ (by omega)];refine⟨hlt,(),trivial,bR.of [(0,0),(3,21),(4,22),(5,5),(6,6)] [] (by omega) ⟨by simp,by simp⟩ ?_ ?_⟩
    ·simp[bZ,bE,Eu,mG,bN,hsn,hn1,hn2,eG]
    ·simp[bZ,bE,Et,yC]
   ·simp[nJ,lX,hn1]
    refine aQ.pure D1 (aK (.sl _ _ (aK (aS _) (aK (aS _) aU))) aU) (aS _) ?_;simp;refine aQ.pure D2 (aK (aS _) aU) (aS _) ?_;simp[lX,kL,kV,hn1];refine aQ.pure D5 (aK (.sl _ _ (aK (jZ _) (aK (aS _) aU))) aU) (aS _) ?_;simp;refine aQ.pure D6 (aK (aS _) aU) (aS _) ?_;simp[kL,kV];rw[bI _ (by omega)];refine⟨hlt,(),trivial,bR.of [(0,0),(3,21),(4,22),(5,5),(6,6)] [] (by omega) ⟨by simp,by simp⟩ ?_ ?_⟩
    ·simp[bZ,bE,Eu,mG,bN,hsn,hn1,hn2,eG]
    ·simp[bZ,bE,Et,yC]
   ·simp[nJ,lX,hn1]
    refine aQ.pure D1 (aK (.sl _ _ (aK (aS _) (aK (aS _) aU))) aU) (aS _) ?_;simp;refine aQ.pure D2 (aK (aS _) aU) (aS _) ?_;simp[lX,kL,kV,hn1];refine aQ.pure D3 (aK (.sl _ _ (aK (aS _) (aK (aS _) aU))) aU) (aS _) ?_;simp;refine aQ.pure D4 (aK (aS _) aU) (aS _) ?_;simp[kL,kV];rw[bI _ (by omega)];refine⟨hlt,(),trivial,bR.of [(0,0),(3,21),(4,22),(5,5),(6,6)] [] (by omega) ⟨by simp,by simp⟩ ?_ ?_⟩
    ·simp[bZ,bE,Eu,mG,bN,hsn,hn1,hn2,eG]
    ·simp[bZ,bE,Et,yC]
  ·have hke:k=es.length:=by omega
   subst hke;simp[Et,Eu,mG,bN,lX,Js];refine⟨jk [(4,.ptr 5 0 0)],⟨10,bY (mG sg true (ku es (nR true) st).2 0 3 4++[(5,some (.arr 3 [eG (ku es (nR true) st).1]))])⟩,bR.of [(0,0),(3,3),(4,4),(5,5)] [] (by omega) ⟨by simp,by simp⟩ ?_ ?_,?_⟩
   ·simp[bZ,bE,mG,bN,eG]
   ·simp[bZ,bE]
   ·simp[bK,bV,RV.ev,gH,cK,mG,lX,Qt]
    exact .of
end Go.Rf
namespace Go.Rf
open Go.RowKit
attribute [local simp] oJ oH oD pF pJ pQ pK oI qm pO oF o9 jK jT jU kr pY qM qK qJ qA qL oP oL qp pR qo qG qF qC qx pU qw qI qH oK kL pG pV pW pq o8 dO iA fI gI ig fH gJ iq gX gT gY eY gN gZ gM eB eD gQ iJ iG iI iH iK fV fK fG dY fZ gu gy fO fP iL iw gP iE iB iD iC iF iM gV fQ fE fF fJ fU dx dL eZ gW iN ex au cu dM dX bM bU aG bB dV eX dR fM gL gK iy gU bL dw dz dZ d9 gD dS bA pE ow dA dJ pI oZ pX oz eu eU eO eT dW dn dU dQ dP bq qz oG oC qh o7 qd qg qj kV p9 p8 ql S0 aj aH ru qZ rA q9 qY rz rH q8 rG rO rE rM rD rJ rC mR iZ.cl bQ.cl aW dN aS jo jL mX mV mW jZ mH nu mY nk jr lu jw ny lQ kX mh nA nD nC ni kM kJ nE lZ mZ l6 kK mF jh nG bZ jO bE kQ
def Ia:AC:= (sq [ro 3 (.mv (.c (.v (.bool false))))] (sq [rm 4 0,ro 5 (.bin .lss (.t 4) (ci 0)),rm 6 5,rg 7 6 false (.mv (.t 0)),rg 8 6 false (.load none (.t 1)),rg 9 6 false (.iP (.t 8)),rg 10 6 false (.cZ 0 (.t 9)),rg 11 6 false (.cZ 0 (.t 10)),rg 12 6 false (.load none (.t 11)),rg 13 6 false (.bin .geq (.t 7) (.t 12)),ro 14 (.pick (.t 6) (.c (.v (.bool true))) (.t 13)),rm 3 14] .ret))
def ZkC:AC:= (.loop (.seq (sq [rm 16 6,rm 17 0,ro 18 (.len (.t 17)),ro 19 (.bin .lss (.t 16) (.t 18))] (.cond (.t 19) .skip (.exit 0))) (.seq (.block 1 (sq [rm 22 0,rm 23 6,ro 24 (.aI 1 (.t 22) (.t 23)),rL 25 24,rm 7 25] (sq [rm 26 1,rm 27 7,⟨(some 28),.mv (.c .junk),none,(some ((.t 26),[(.t 27)]))⟩,ro 29 (.un .not (.t 28))] (.cond (.t 29) (sq [rm 30 0,rm 31 5,rm 32 7,ro 33 (.aI 1 (.t 30) (.t 31)),rn (.store 1 (.t 33) (.t 32))] (.reg none [rm 34 5,ro 35 (.bin .add (.t 34) (ci 1)),rm 5 35])) .skip)))) (.reg none [rm 20 6,ro 21 (.bin .add (.t 20) (ci 1)),rm 6 21]))))
def O0(P1Y:FuncId):AC:= (sq [ro 4 (.mv (.c (.sl true [])))] (sq [rm 8 0,rm 9 1,rk 10 P1Y [(.t 8),(.t 9)],rm 5 10] (.seq (sq [rm 11 5,ro 12 (.bin .eql (.t 11) (ci (-1)))] (.cond (.t 12) (sq [rm 13 0,rm 4 13] .ret) .skip)) (.seq (sq [rm 14 5,ro 15 (.bin .add (.t 14) (ci 1)),rm 6 15] (.block 0 ZkC)) (sq [rm 36 0,rm 37 5,ro 38 (.slc 1 (.t 36) (some (.t 37)) none),rn (.JO 1 (.v (.int .i64 0)) (.t 38))] (sq [rm 39 0,rm 40 5,ro 41 (.slc 1 (.t 39) none (some (.t 40))),rm 4 41] .ret))))))
def kE(sg n:Int):Bool:=decide (0≤n) && decide (n < sg)
def J7(sg:Int):AV:=.bJ (.bJ (.agg [aj sg]) 0) 0
theorem Zjo(sg:Int):aY (J7 sg):=.bJ _ _ (.bJ _ _ (.agg _ (aK (aW _) aU)))
theorem Zdf{P:Program}(sg n:Int):bG P 0 Ia (gG [3] (iQ (aH (!kE sg n)))) (bP [aj n,J7 sg]) S0:=by
 unfold J7 kE;by_cases h1:n < 0
 ·have h2:¬(0≤n):=by omega
  simp[Ia,h1,h2];exact jF _ _
 ·have h2:0≤n:=by omega
  by_cases h3:n < sg
  ·have h4:¬(sg≤n):=by omega
   simp[Ia,h1,h2,h3,h4,jW];exact jF _ _
  ·have h4:sg≤n:=by omega
   simp[Ia,h1,h2,h3,h4,jW];exact jF _ _
def nQ(sg:Int)(o:Bool)(st:Gs)(l:List Int):List (Nat×Option aF):=(4,vB o 1 (l.map aj))::(3,some (.arr 1 [.ptr 0 0 0]))::mG sg true st 0 1 2
def Xz(sg:Int)(o:Bool)(st:Gs)(l:List Int)(r:AV)(S':St):Prop:=
 ∃xs:List Int,(r=if o=true then .own 4 0 (l.filter (kE sg)).length else .sl true [])∧xs.take (l.filter (kE sg)).length=l.filter (kE sg)∧xs.length=l.length∧S'=⟨10,bY (nQ sg o st xs)⟩
def dfI(sg:Int)(l:List Int)(i0 k:Nat)(s:List Int×Nat):Prop:=
 s.2=((l.take (i0+1+k)).filter (kE sg)).length∧s.1.take s.2=(l.take (i0+1+k)).filter (kE sg)∧s.1.drop (i0+1+k)=l.drop (i0+1+k)∧s.2 < i0+1+k∧s.1.length=l.length
def Gw(f1:FuncId)(i0:Nat)(l:List Int)(k:Nat)(s:List Int×Nat):List (Nat×AV):=[(0,.own 4 0 l.length),(1,.aP f1 [] [.ptr 3 0 0]),(5,aj s.2),(6,aj ((i0+1+k:Nat):Int))]
def Ad(sg:Int)(st:Gs)(_:Nat)(s:List Int×Nat):List (Nat×Option aF):=nQ sg true st s.1
theorem XK{g:Nat→Option aF}{sg:Int}{v w:AV}(h0:g 0=some (.arr 4 [bN sg v w]))(h3:g 3=some (.arr 1 [.ptr 0 0 0])):Fz g (.ptr 3 0 0) (J7 sg):=
 .box 3 0 1 _ _ h3 (.pre 0 4 [aj sg] [v,w,.sl true []] h0 (aK (aW _) aU))
theorem ZuG{g:Nat→Option aF}{o:Bool}{id:Nat}{l:List Int}(hg:g id=vB o 1 (l.map aj)):Fz g (vV o id (l.map aj)) (aA l):=Bb hg (jr l)
theorem ZlK{X:Type}{p:X→Bool}{l:List X}(h:l.any p=false):sH p l = -1:=by simp[sH,h]
theorem QK{gF:Nat→Option aF}{R:Nat→Nat→Prop}{f:FuncId}{i j:Nat}(h:R j i):bQ gF R (.aP f [] [.ptr i 0 0]) (.aP f [] [.ptr j 0 0]):=
 .aP f [] [.ptr i 0 0] [] [.ptr j 0 0] rfl rfl (fun k h1=>by simp at h1) (fun k h1 h2=>by simp at h1;subst h1;exact .ptr _ _ _ _ h)
theorem Zgd{xs:List Int}{i:Nat}{v:Int}(h:i < xs.length):(xs.set i v).take (i+1)=xs.take i++[v]:=by
 rw[List.take_add_one,List.take_set_of_le (Nat.le_refl i),List.getElem?_set_self h];rfl
theorem ZqM{P:Program}(hm:P.follows .mixedOrders=true){f fi f1:FuncId}(h:Is P f (O0 fi) [4] 2){sg:Int}(l:List Int)(hl:l.length≤17592186043904)(o:Bool)(ho:o=true∨l=[])
  (hi:aN P fi [aA l,.aP f1 [] [J7 sg]] (aj (sH (fun n=>!kE sg n) l))) (hf:∀n,aN P f1 [aj n,J7 sg] (aH (!kE sg n))) (st:Gs) :
  aQ P f [vV o 4 (l.map aj),.aP f1 [] [.ptr 3 0 0]] ⟨5,bY (nQ sg o st l)⟩ (Xz sg o st l):=by
 refine h.uR hm rfl ?_;have g0:bY (nQ sg o st l) 0=some (.arr 4 [bN sg (vV true 1 (st.aB.map aA)) (vV true 2 (st.fo.map aA))]):=by simp[nQ,mG,bY]
 have g3:bY (nQ sg o st l) 3=some (.arr 1 [.ptr 0 0 0]):=by simp[nQ,mG,bY]
 have g4:bY (nQ sg o st l) 4=vB o 1 (l.map aj):=by simp[nQ,mG]
 simp[O0];refine aQ.looks hi (fC.cons (ZuG g4) (fC.cons (.OU (fC.cons (XK g0 g3) fC.nil)) fC.nil)) (.v _) ?_;cases hany:l.any (fun n=>!kE sg n) with
 | false=>
  have hfl:l.filter (kE sg)=l:=by
   rw[List.filter_eq_self];intro x hx;have:=List.any_eq_false.mp hany x hx;simpa using this
  rw[ZlK hany];simp;refine⟨jk [(4,vV o 4 (l.map aj))],⟨10,bY (nQ sg o st l)⟩,bR.of [(0,0),(1,1),(2,2),(3,3),(4,4)] [] (by omega) ⟨by simp,by simp⟩ ?_ ?_,?_⟩
  ·simp[nQ,mG,bN]
  ·simp
  ·refine⟨l,?_,?_,rfl,rfl⟩
   ·rw[hfl]
    rcases ho with rfl | rfl
    ·simp[jk,bZ]
    ·cases o<;>simp[jk,bZ,jO]
   ·rw[hfl,List.take_length]
 | true=>
  have ho':o=true:=by
   rcases ho with h | h
   ·exact h
   ·rw[h] at hany;simp at hany
  subst ho';have hix:sH (fun n=>!kE sg n) l=(l.findIdx (fun n=>!kE sg n):Nat):=by simp only[sH];rw[if_pos hany]
  have hfi:l.findIdx (fun n=>!kE sg n) < l.length:=List.findIdx_lt_length.mpr (by simpa using hany)
  have hlow:∀i,i < l.findIdx (fun n=>!kE sg n)→∀(hi:i < l.length),kE sg l[i]=true:=fun i h1 h2=>by
   have:=List.not_of_lt_findIdx h1;simpa using this
  have hat:kE sg (l[l.findIdx (fun n=>!kE sg n)])=false:=by
   have:=List.findIdx_getElem (p:=fun n=>!kE sg n) (xs:=l) (w:=hfi);simpa using this
  rw[hix];generalize l.findIdx (fun n=>!kE sg n)=i0 at *;have hne:¬((i0:Int) = -1):=by omega
  have hne2:((i0:Int) == -1)=false:=by simp
  have hw:IntKind.i64.wrap ((i0:Int)+1)=(i0:Int)+1:=bI _ (by omega)
  have Nw:(l.take i0).filter (kE sg)=l.take i0:=by
   rw[List.filter_eq_self];intro x hx;obtain⟨i,hi1,rfl⟩:=List.mem_iff_getElem.mp hx;rw[List.length_take] at hi1;rw[List.getElem_take];exact hlow i (by omega) (by omega)
  have hts:l.take (i0+1)=l.take i0++[l[i0]]:=by rw[List.take_add_one,List.getElem?_eq_getElem hfi];rfl
  simp[hne2,hw,bZ,ZkC];refine wG (l.length - (i0+1)) (dfI sg l i0) (Gw f1 i0 l) 5 (Ad sg st) (l,i0) ?_ ?_ ?_
  ·refine⟨?_,?_,rfl,by simp,rfl⟩
   ·simp only[Nat.add_zero]
    rw[hts,List.filter_append,Nw];simp[hat];omega
   ·simp only[Nat.add_zero]
    rw[hts,List.filter_append,Nw];simp[hat]
  ·refine bR.of [(0,0),(1,1),(2,2),(3,3),(4,4)] [] (by omega) ⟨by simp,by simp⟩ ?_ ?_
   ·simp[Ad,nQ,mG,bN]
   ·simp[Gw]
    exact QK (.inl (by simp))
  ·rintro k ⟨xs,i⟩ hk ⟨e1,e2,e3,e4,e5⟩
   simp only at e1 e2 e3 e4 e5;have g0:bY (Ad sg st k (xs,i)) 0=some (.arr 4 [bN sg (vV true 1 (st.aB.map aA)) (vV true 2 (st.fo.map aA))]):=by simp[Ad,nQ,mG,bY]
   have g3:bY (Ad sg st k (xs,i)) 3=some (.arr 1 [.ptr 0 0 0]):=by simp[Ad,nQ,mG,bY]
   have g4:bY (Ad sg st k (xs,i)) 4=some (.arr 1 (xs.map aj)):=by simp[Ad,nQ,mG,bE]
   by_cases hlt:i0+1+k < l.length
   ·have vD:(i0:Int)+1+k < (l.length:Int):=by omega
    have hj0:(0:Int)≤(i0:Int)+1+k:=by omega
    have hjn:((i0:Int)+1+k).toNat=i0+1+k:=by omega
    have hxl:i0+1+k < xs.length:=by omega
    have hxk:xs[i0+1+k]? = some l[i0+1+k]:=by
     have:=congrArg (fun y=>y[0]?) e3;simp only[List.getElem?_drop,Nat.add_zero] at this;rw[this,List.getElem?_eq_getElem hlt]
    have abJ:xs[i0+1+k]=l[i0+1+k]:=by
     have:=List.getElem?_eq_getElem hxl;rw[hxk] at this;exact(Option.some.inj this).symm
    have htk:l.take (i0+1+(k+1))=l.take (i0+1+k)++[l[i0+1+k]]:=by
     rw[show i0+1+(k+1)=i0+1+k+1 by omega,List.take_add_one,List.getElem?_eq_getElem hlt];rfl
    have hx:=hf l[i0+1+k];generalize hgv:l[i0+1+k]=v at *;cases hkv:kE sg v with
    | false=>
     rw[hkv] at hx;simp[Gw,vD,hj0,hjn,hxk,e5,g4];refine aQ.looks hx (fC.cons (.closed _ (aW _)) (fC.cons (XK g0 g3) fC.nil)) (.v _) ?_;simp;rw[bI _ (by omega)];refine⟨by omega,(xs,i),⟨?_,?_,?_,by simp only;omega,e5⟩,bR.of [(0,0),(1,1),(2,2),(3,3),(4,4)] [] (by omega) ⟨by simp,by simp⟩ ?_ ?_⟩
     ·simp only
      rw[htk,List.filter_append];simp[hkv,e1]
     ·simp only
      rw[htk,List.filter_append];simp[hkv,e2]
     ·simp only
      have:=congrArg (fun y=>y.drop 1) e3;simpa[List.drop_drop,Nat.add_assoc] using this
     ·simp[Ad,nQ,mG,bN]
     ·simp[Gw]
      exact⟨QK (.inl (by simp)),by omega⟩
    | true=>
     rw[hkv] at hx;have hi0:(0:Int)≤(i:Int):=by omega
     have Y6:i < l.length:=by omega
     have hiX:i < xs.length:=by omega
     have hwi:IntKind.i64.wrap ((i:Int)+1)=(i:Int)+1:=bI _ (by omega);have hwj:IntKind.i64.wrap ((i0:Int)+1+k+1)=(i0:Int)+1+k+1:=bI _ (by omega);simp[Gw,vD,hj0,hjn,hxk,e5,g4];refine aQ.looks hx (fC.cons (.closed _ (aW _)) (fC.cons (XK g0 g3) fC.nil)) (.v _) ?_;simp[g4,Y6,e5,hwi,hwj];refine⟨by omega,(xs.set i v,i+1),⟨?_,?_,?_,by simp only;omega,by simp[e5]⟩,bR.of [(0,0),(1,1),(2,2),(3,3),(4,4)] [] (by omega) ⟨by simp,by simp⟩ ?_ ?_⟩
     ·simp only
      rw[htk,List.filter_append];simp[hkv,e1]
     ·simp only
      rw[htk,List.filter_append,Zgd hiX,e2];simp[hkv]
     ·simp only
      have:=congrArg (fun y=>y.drop 1) e3;rw[List.drop_set_of_lt (by omega)];simpa[List.drop_drop,Nat.add_assoc] using this
     ·simp[Ad,nQ,mG,bN]
      rw[show AV.v (.int .i64 v)=aj v from rfl,←List.map_set];exact .cl (jr _)
     ·simp[Gw]
      exact⟨QK (.inl (by simp)),by omega⟩
   ·have hke:k=l.length - (i0+1):=by omega
    have hj:i0+1+k=l.length:=by omega
    have vD:¬((i0:Int)+1+k < (l.length:Int)):=by omega
    have Y6:i≤l.length:=by omega
    have hiX:i+(l.length - i)≤xs.length:=by omega
    have hXl:l.length≤xs.length:=by omega
    have hdr:(xs.map aj).drop l.length=[]:=by rw[List.drop_eq_nil_iff,List.length_map];omega
    simp[Gw,vD,g4,xD,bnd,Rv,Y6,hXl,hdr];rw[hj,List.take_length] at e1 e2;refine⟨jk [(4,.own 4 0 i)],⟨10,bY (nQ sg true st (xs.take i++List.replicate (l.length - i) 0))⟩,bR.of [(0,0),(1,1),(2,2),(3,3),(4,4)] [] (by omega) ⟨by simp,by simp⟩ ?_ ?_,?_⟩
    ·simp[Ad,nQ,mG,bN]
     rw[show(List.take i (List.map aj xs)++List.replicate (l.length - i) (AV.v (.int .i64 0)))=(xs.take i++List.replicate (l.length - i) 0).map aj by simp[aj]];exact .cl (jr _)
    ·simp
    ·refine⟨xs.take i++List.replicate (l.length - i) 0,?_,?_,?_,rfl⟩
     ·rw[←e1];simp[jk]
     ·rw[←e1,List.take_append_of_le_length (by rw[List.length_take];omega),List.take_take,Nat.min_self];exact e2
     ·rw[List.length_append,List.length_take,List.length_replicate];omega
end Go.Rf
namespace Go.Rf
open Go.RowKit
attribute [local simp] oJ oH oD pF pJ pQ pK oI qm pO oF o9 jK jT jU kr pY qM qK qJ qA qL oP oL qp pR qo qG qF qC qx pU qw qI qH oK kL pG pV pW pq o8 dO iA fI gI ig fH gJ iq gX gT gY eY gN gZ gM eB eD gQ iJ iG iI iH iK fV fK fG dY fZ gu gy fO fP iL iw gP iE iB iD iC iF iM gV fQ fE fF fJ fU dx dL eZ gW iN ex au cu dM dX bM bU aG bB dV eX dR fM gL gK iy gU bL dw dz dZ d9 gD dS bA pE ow dA dJ pI oZ pX oz eu eU eO eT dW dn dU dQ dP bq qz oG oC qh o7 qd qg qj kV p9 p8 ql S0 aj aH ru qZ rA q9 qY rz rH q8 rG rO rE rM rD rJ rC
def VO(EK EI:FuncId):AC:= (sq [ro 3 (.box 3 (.t 0)),ro 6 (.mv (.c (.v (.bool false))))] (sq [rm 8 1,rm 9 2,rk 10 EK [(.t 8),(.t 9)],rm 7 10] (sq [rm 11 7,ro 12 (.len (.t 11)),ro 13 (.bin .gtr (.t 12) (ci 0)),rm 14 13,rg 15 14 true (.load (some 3) (.t 3)),rg 16 14 true (.mv (.t 7)),rl 17 14 true EI [(.t 15),(.t 16)],ro 18 (.pick (.t 14) (.t 17) (.c (.v (.bool false)))),rm 6 18] .ret)))
def atF(d:aD)(l:List Int)(p:Int):Bool:=decide (0 < (jd l p).length) && mM d (jd l p)
theorem Zqs{P:Program}{fw fa:FuncId}(d:aD)(l:List Int)(p:Int)(hw:aN P fw [aA l,aj p] (aA (jd l p)))(ha:aN P fa [aT d,aA (jd l p)] (aH (mM d (jd l p)))) :
  bG P 0 (VO fw fa) (gG [6] (iQ (aH (atF d l p)))) (bP [aT d,aA l,aj p]) S0:=by
 unfold atF;generalize jd l p=w at *;generalize mM d w=ac at *;have hd:=iV d;simp[VO];refine aQ.pure hw (aK (aS _) (aK (aW _) aU)) (aS _) ?_;by_cases h0:0 < w.length
 ·simp[h0]
  refine aQ.pure ha (aK hd (aK (aS _) aU)) (dN _) ?_;simp;exact jF _ _
 ·simp[h0]
  exact jF false _
end Go.Rf
namespace Go.Rf
open Go.RowKit
attribute [local simp] oJ oH oD pF pJ pQ pK oI qm pO oF o9 jK jT jU kr pY qM qK qJ qA qL oP oL qp pR qo qG qF qC qx pU qw qI qH oK kL pG pV pW pq o8 dO iA fI gI ig fH gJ iq gX gT gY eY gN gZ gM eB eD gQ iJ iG iI iH iK fV fK fG dY fZ gu gy fO fP iL iw gP iE iB iD iC iF iM gV fQ fE fF fJ fU dx dL eZ gW iN ex au cu dM dX bM bU aG bB dV eX dR fM gL gK iy gU bL dw dz dZ d9 gD dS bA pE ow dA dJ pI oZ pX oz eu eU eO eT dW dn dU dQ dP bq qz oG oC qh o7 qd qg qj kV p9 p8 ql S0 aj aH
def Z91(Ut:FuncId):AC:= (sq [ro 2 (.box 4 (.t 0)),ro 4 (.alloc (.agg [(.v (.int .i64 0)),(.sl true []),(.sl true [])]) 3),ro 5 (.mv (ci 0))] (sq [ro 6 (.load (some 4) (.t 2)),rm 7 1,rk 8 Ut [(.t 6),(.t 7),(ci 1)],ro 9 (.ext 0 (.t 8)),ro 10 (.ext 1 (.t 8)),rn (.store 3 (.t 4) (.t 9)),rm 5 10] .ret))
def Z8Z(Ut:FuncId):AC:= (sq [ro 2 (.box 4 (.t 0)),ro 4 (.alloc (.agg [(.v (.int .i64 0)),(.sl true []),(.sl true [])]) 3),ro 5 (.mv (ci 0))] (sq [ro 6 (.load (some 4) (.t 2)),rm 7 1,rk 8 Ut [(.t 6),(.t 7),(ci 2)],ro 9 (.ext 0 (.t 8)),ro 10 (.ext 1 (.t 8)),rn (.store 3 (.t 4) (.t 9)),rm 5 10] .ret))
theorem Zie{kd:Kd}{n:Net}{most:Int}:∀(f i:Nat) {st st':qX},om kd n most i=some st→Bn kd n most f i st=some st'→∃j,i≤j∧om kd n most j=some st'∧j=st'.1.length
 | 0,i,st,st',h,e=>by cases e
 | f+1,i,st,st',h,e=>by
  simp only[Bn] at e;split at e
  ·rename_i hi;cases e;exact⟨i,Nat.le_refl _,h,hi⟩
  ·cases hn:uN kd n most i st with
   | none=>rw[hn] at e;cases e
   | some s2=>
    rw[hn] at e;obtain⟨j,h1,h2,h3⟩:=Zie f (i+1) (st:=s2) (by simp only[om,h,hn]) e;exact⟨j,by omega,h2,h3⟩
theorem Zd9{kd:Kd}{n:Net}{most:Int}{st:qX}(h:yG kd n most=some st):om kd n most st.1.length=some st:=by
 obtain⟨j,_,h2,h3⟩:=Zie _ 0 (st:=([[0]],[],[])) rfl h;rwa[h3] at h2
theorem ZrL(kd:Kd)(n:Net)(most:Int):rP (uj kd n most).1:=by
 unfold uj;split
 ·rename_i h
  have R:=(BG n).mp h.1;cases hm:yG kd n most with
  | none=>exact⟨by simp[Len],by simp[Len],by simp,by simp⟩
  | some st=>
   have ok:=I9 R h.2.1 _ (Zd9 hm);have h1:=ok.ss.l;have h2:=ok.nx;have h3:=ok.en;have h4:=R.s1;have h5:=R.s2;refine⟨by unfold Len;simp only;omega,by unfold Len;simp only;omega,fun r hr=>?_,by simp only;omega⟩;have:=ok.row r hr;unfold Len;omega
 ·exact⟨by simp[Len],by simp[Len],by simp,by simp⟩
end Go.Rf
namespace Go.Rf
open Go.RowKit
theorem ZmW{X:Type}{p:List X→Prop}(h0:p [])(h1:∀l x,p l→p (l++[x]))(l:List X):p l:=by
 have:∀r:List X,p r.reverse:=by
  intro r;induction r with
  | nil=>exact h0
  | cons x r ih=>rw[List.reverse_cons];exact h1 _ _ ih
 rw[←List.reverse_reverse l];exact this _
theorem Zm9{most:Int}{ss ss':List (List Int)}{x:List Int}{j:Int}(h:xY most ss x=some (ss',j)):(∀(i:Nat) (y:List Int),ss[i]? = some y→ss'[i]? = some y)∧∃k:Nat,j=k∧ss'[k]? = some x:=by
 unfold xY at h;split at h
 ·rename_i hin
  cases h;have hlt:=List.idxOf_lt_length_of_mem hin;exact⟨fun i y hy=>hy,_,rfl,by rw[List.getElem?_eq_getElem hlt,List.getElem_idxOf hlt]⟩
 ·split at h
  ·cases h
  ·cases h
   refine⟨fun i y hy=>?_,ss.length,rfl,by simp⟩;have hl:=(List.getElem?_eq_some_iff.mp hy).1;rw[List.getElem?_append_left hl];exact hy
theorem Zg0{most:Int}{b:Int→List Int}{ss:List (List Int)}:∀(k:Nat) {ss':List (List Int)} {r:List Int},ug most b k ss=some (ss',r)→
  (∀(i:Nat) (y:List Int),ss[i]? = some y→ss'[i]? = some y)∧r.length=k∧∀s:Nat,s < k→∃j:Nat,r[s]? = some (j:Int)∧ss'[j]? = some (b s)
 | 0,ss',r,h=>by
  simp only[ug,Option.some.injEq,Prod.mk.injEq] at h;obtain⟨rfl,rfl⟩:=h;exact⟨fun _ _ h=>h,rfl,fun s hs=>by omega⟩
 | k+1,ss',r,h=>by
  simp only[ug] at h;split at h
  ·cases h
  ·rename_i s1 r1 h1
   obtain⟨i1,i2,i3⟩:=Zg0 k h1;split at h
   ·cases h
   ·rename_i s2 j h2
    cases h;obtain⟨j1,q,rfl,j2⟩:=Zm9 h2;refine⟨fun i y hy=>j1 i y (i1 i y hy),by simp[i2],fun s hs=>?_⟩;by_cases hsk:s=k
    ·subst hsk
     refine⟨q,?_,j2⟩;rw[List.getElem?_append_right (by omega),i2];simp
    ·obtain⟨j,a1,a2⟩:=i3 s (by omega)
     refine⟨j,?_,j1 _ _ a2⟩;rw[List.getElem?_append_left (by omega)];exact a1
structure Zvp(kd:Kd)(n:Net)(i:Nat)(st:qX):Prop where
 zero:st.1[0]? = some [0]
 row:∀k < i,∃set r,st.1[k]? = some set∧st.2.2[k]? = some (lC n set)∧st.2.1[k]? = some r∧∀s:Nat,s < n.signs.toNat→∃j:Nat,r[s]? = some (j:Int)∧st.1[j]? = some (kD kd n set s)
theorem ZiW{kd:Kd}{n:Net}(R:nT n){most:Int}(hm:1≤most):∀(i:Nat) {st:qX},om kd n most i=some st→Zvp kd n i st
 | 0,st,e=>by
  simp only[om,Option.some.injEq] at e;subst e;exact⟨rfl,fun k hk=>by omega⟩
 | i+1,st,e=>by
  simp only[om] at e;split at e
  ·cases e
  ·rename_i st0 h0
   have ih:=ZiW R hm i h0;have ok:=I9 R hm i h0;unfold uN at e;split at e
   ·cases e
   ·rename_i set hset
    split at e
    ·cases e
    ·rename_i s2 r hr
     cases e;obtain⟨a1,a2,a3⟩:=Zg0 _ hr;refine⟨a1 _ _ ih.zero,fun k hk=>?_⟩;by_cases hki:k=i
     ·subst hki
      refine⟨set,r,a1 _ _ hset,?_,?_,a3⟩
      ·simp only;rw[List.getElem?_append_right (by have:=ok.en;omega)];simp[ok.en]
      ·simp only;rw[List.getElem?_append_right (by have:=ok.nx;omega)];simp[ok.nx]
     ·obtain⟨set',r',b1,b2,b3,b4⟩:=ih.row k (by omega)
      refine⟨set',r',a1 _ _ b1,?_,?_,fun s hs=>?_⟩
      ·have:=(List.getElem?_eq_some_iff.mp b2).1
       simp only;rw[List.getElem?_append_left this];exact b2
      ·have:=(List.getElem?_eq_some_iff.mp b3).1
       simp only;rw[List.getElem?_append_left this];exact b3
      ·obtain⟨j,c1,c2⟩:=b4 s hs
       exact⟨j,c1,a1 _ _ c2⟩
def setAt(kd:Kd)(n:Net)(set l:List Int):List Int:=l.foldl (kD kd n) set
theorem Zfg{kd:Kd}{n:Net}(R:nT n){most:Int}(hm:1≤most)(h3:most≤3000){st:qX}(h:yG kd n most=some st) :
  bD ⟨n.signs,st.2.1,st.2.2⟩∧∀l:List Int,(∀s∈l,0≤s∧s < n.signs)→mM ⟨n.signs,st.2.1,st.2.2⟩ l=lC n (setAt kd n [0] l):=by
 have hst:=Zd9 h;have ok:=I9 R hm _ hst;have sp:=ZiW R hm _ hst;have hl:=ok.ss.l;have hnx:=ok.nx;have hen:=ok.en;have h0:=(List.getElem?_eq_some_iff.mp sp.zero).1
 have D:bD ⟨n.signs,st.2.1,st.2.2⟩:=by
  refine⟨R.s1,R.s2,by simp only;omega,by simp only;omega,by simp only;omega,fun i hi=>?_,fun i hi j hj=>?_⟩
  ·simp only at hi ⊢
   have h7:(st.2.1[i]).length=n.signs.toNat:=ok.row _ (List.getElem_mem hi);have:=R.s1;omega
  ·simp only at hi hj ⊢
   obtain⟨set,r,b1,b2,b3,b4⟩:=sp.row i (by omega);rw[List.getElem?_eq_getElem hi] at b3;cases b3;have hrl:=ok.row _ (List.getElem_mem hi);obtain⟨q,c1,c2⟩:=b4 j (by omega);obtain⟨_,c3⟩:=List.getElem?_eq_some_iff.mp c1;have:=(List.getElem?_eq_some_iff.mp c2).1;rw[c3];omega
 refine⟨D,fun l hls=>?_⟩
 have key:∀(l:List Int) (a:Nat) (set:List Int),(∀s∈l,0≤s∧s < n.signs)→st.1[a]? = some set→∃a',sj ⟨n.signs,st.2.1,st.2.2⟩ a l=some a'∧st.1[a']? = some (setAt kd n set l):=by
  intro l;induction l with
  | nil=>intro a set _ ha;exact⟨a,rfl,ha⟩
  | cons s l ih=>
   intro a set hs ha;have hs0:=hs s (by simp);have hal:=(List.getElem?_eq_some_iff.mp ha).1;obtain⟨set',r,b1,b2,b3,b4⟩:=sp.row a hal;rw[ha] at b1;cases b1;obtain⟨j,c1,c2⟩:=b4 s.toNat (by omega);have hst:((s.toNat:Nat):Int)=s:=by omega
   rw[hst] at c2
   have AZ:bO ⟨n.signs,st.2.1,st.2.2⟩ a s=j:=by
    simp[bO,List.getD_eq_getElem?_getD,b3,c1]
   obtain⟨a',d1,d2⟩:=ih j _ (fun x hx=>hs x (by simp[hx])) c2;exact⟨a',by rw[sj,if_pos hs0,AZ];exact d1,d2⟩
 obtain⟨a',e1,e2⟩:=key l 0 [0] hls sp.zero;have hal:=(List.getElem?_eq_some_iff.mp e2).1;obtain⟨set',r,b1,b2,b3,b4⟩:=sp.row a' hal;rw[e2] at b1;cases b1;have hrun:xH ⟨n.signs,st.2.1,st.2.2⟩ l=some a':=by rw[xH,if_pos ((xP _).mpr D)];exact e1
 simp[mM,hrun,List.getD_eq_getElem?_getD,b2]
theorem V9{n:Net}{set:List Int}:lC n set=true↔∃x∈set,x∈n.last:=by simp[lC]
theorem Iw{n:Net}(h:qQ n=true)(l:List Int):yO n l=lC n (vo n l):=by simp[yO,h,lC]
theorem ZdA(kd:Kd)(n:Net)(set l:List Int)(s:Int):setAt kd n set (l++[s])=kD kd n (setAt kd n set l) s:=by simp[setAt]
theorem Zgb{n:Net}(l:List Int):∀q:Int,q∈setAt .tails n [0] l↔∃i≤l.length,q∈vo n (l.drop i):=by
 refine ZmW (p:=fun l=>∀q:Int,q∈setAt .tails n [0] l↔∃i≤l.length,q∈vo n (l.drop i)) ?_ ?_ l
 ·intro q;simp[setAt,vo]
 ·intro l s ih q
  rw[ZdA];simp only[kD,List.mem_cons];constructor
  ·rintro(rfl | hq)
   ·exact⟨(l++[s]).length,Nat.le_refl _,by rw[List.drop_length];simp[vo]⟩
   ·rw[IG] at hq
    obtain⟨p,hp,he⟩:=hq;obtain⟨i,hi,hpi⟩:=(ih p).mp hp;refine⟨i,by simp;omega,?_⟩;rw[List.drop_append_of_le_length hi,Ws,IG];exact⟨p,hpi,he⟩
  ·rintro⟨i,hi,hq⟩
   simp only[List.length_append,List.length_cons,List.length_nil] at hi;by_cases hil:i≤l.length
   ·right
    rw[List.drop_append_of_le_length hil,Ws,IG] at hq;obtain⟨p,hp,he⟩:=hq;rw[IG];exact⟨p,(ih p).mpr ⟨i,hil,hp⟩,he⟩
   ·left
    have:(l++[s]).drop i=[]:=List.drop_eq_nil_of_le (by simp;omega);rw[this] at hq;simpa[vo] using hq
theorem Lx{p:Nat→Bool}{i:Nat}:0 < (MC p i).length↔∃k < i,p k=true:=by
 simp only[MC,List.length_map,List.length_pos_iff_exists_mem,List.mem_filter,List.mem_range]
theorem Zn1{n:Net}(h:qQ n=true)(l:List Int):lC n (setAt .tails n [0] l)=decide (0 < (MC (TD n l) (l.length+1)).length):=by
 rw[Bool.eq_iff_iff,V9,decide_eq_true_iff,Lx];constructor
 ·rintro⟨q,hq,hl⟩
  obtain⟨i,hi,hqi⟩:=(Zgb l q).mp hq;refine⟨l.length - i,by omega,?_⟩;have e:l.length - (l.length - i)=i:=by omega
  rw[TD,e,Iw h,V9];exact⟨q,hqi,hl⟩
 ·rintro⟨k,hk,hp⟩
  rw[TD,Iw h,V9] at hp;obtain⟨q,hq,hl⟩:=hp;exact⟨q,(Zgb l q).mpr ⟨l.length - k,by omega,hq⟩,hl⟩
theorem ZlG{n:Net}(h:qQ n=true)(l:List Int):if ∃k < l.length+1,xK n l k=true then lC n (setAt .heads n [0] l)=true else setAt .heads n [0] l=vo n l:=by
 refine ZmW (p:=fun l=>if ∃k < l.length+1,xK n l k=true then lC n (setAt .heads n [0] l)=true else setAt .heads n [0] l=vo n l) ?_ ?_ l
 ·split
  ·rename_i hk
   obtain⟨k,hk,hp⟩:=hk;simp only[xK,List.take_nil] at hp;rw[Iw h] at hp;exact hp
  ·rfl
 ·intro l s ih
  rw[ZdA];have htk:∀k,k≤l.length→xK n (l++[s]) k=xK n l k:=fun k hk=>by simp only[xK];rw[List.take_append_of_le_length hk]
  by_cases hex:∃k < l.length+1,xK n l k=true
  ·rw[if_pos hex] at ih
   obtain⟨k,hk,hp⟩:=hex;rw[if_pos ⟨k,by simp;omega,by rw[htk k (by omega)];exact hp⟩];simp only[kD,ih,if_true]
  ·rw[if_neg hex] at ih
   have hno:lC n (vo n l)=false:=by
    cases hb:lC n (vo n l) with
    | false=>rfl
    | true=>exact(hex ⟨l.length,by omega,by rw[xK,List.take_length,Iw h];exact hb⟩).elim
   have hst:kD .heads n (setAt .heads n [0] l) s=vo n (l++[s]):=by simp only[kD,ih,hno,Bool.false_eq_true,if_false];rw[Ws]
   rw[hst];split
   ·rename_i hk
    obtain⟨k,hk,hp⟩:=hk;simp only[List.length_append,List.length_cons,List.length_nil] at hk;by_cases hkl:k≤l.length
    ·rw[htk k hkl] at hp
     exact(hex ⟨k,by omega,hp⟩).elim
    ·rw[xK,List.take_of_length_le (by simp;omega),Iw h] at hp
     exact hp
   ·rfl
theorem ZlF{n:Net}(h:qQ n=true)(l:List Int):lC n (setAt .heads n [0] l)=decide (0 < (MC (xK n l) (l.length+1)).length):=by
 have:=ZlG h l;by_cases hex:∃k < l.length+1,xK n l k=true
 ·rw[if_pos hex] at this
  rw[this];exact(decide_eq_true (Lx.mpr hex)).symm
 ·rw[if_neg hex] at this
  rw[this];have hd:decide (0 < (MC (xK n l) (l.length+1)).length)=false:=decide_eq_false (fun hp=>hex (Lx.mp hp));rw[hd];cases hb:lC n (vo n l) with
  | false=>rfl
  | true=>exact(hex ⟨l.length,by omega,by rw[xK,List.take_length,Iw h];exact hb⟩).elim
end Go.Rf
namespace Go.Rf
open Go.RowKit
attribute [local simp] oJ oH oD pF pJ pQ pK oI qm pO oF o9 jK jT jU kr pY qM qK qJ qA qL oP oL qp pR qo qG qF qC qx pU qw qI qH oK kL pG pV pW pq o8 dO iA fI gI ig fH gJ iq gX gT gY eY gN gZ gM eB eD gQ iJ iG iI iH iK fV fK fG dY fZ gu gy fO fP iL iw gP iE iB iD iC iF iM gV fQ fE fF fJ fU dx dL eZ gW iN ex au cu dM dX bM bU aG bB dV eX dR fM gL gK iy gU bL dw dz dZ d9 dS bA pE ow dA dJ pI oZ pX oz eu eU eO eT dU dQ dP bq qz oG oC qh o7 qd qg qj kV p9 p8 ql S0 aj aH ru qZ rA q9 qY rz rH q8 rG rO rE rM rD rJ rC QB RL TF TG Sk Sl Sm RN MF QN Qb yE
def Z9p:AC:= (sq [ro 4 (.box 3 (.t 0)),ro 5 (.box 3 (.t 1)),ro 6 (.box 2 (.t 2)),ro 8 (.alloc (.agg [(.v (.int .i64 0)),(.v (.int .i64 0))]) 2)] (sq [rm 11 3,ro 12 (.bin .quo (.t 11) (ci 2)),rm 13 3,ro 14 (.bin .rem (.t 13) (ci 2)),ro 15 (.bin .eql (.t 14) (ci 1)),rm 9 12,rm 10 15] (.seq (.block 0 (sq [rF 17 0 6,rL 18 17,ro 19 (.bin .leq (.t 18) (ci 1)),rm 20 19,rg 21 20 true (.mv (.t 10)),rg 22 20 true (.un .not (.t 21)),ro 23 (.pick (.t 20) (.t 22) (.c (.v (.bool false)))),rm 16 23] (.cond (.t 16) (sq [rF 24 1 4,rL 25 24,rF 26 1 6,rL 27 26,ro 28 (.aI 1 (.t 25) (.t 27)),rL 29 28,rm 30 9,ro 31 (.aI 1 (.t 29) (.t 30)),rL 32 31,ro 33 (.build (.agg [(.v (.int .i64 0)),(.v (.int .i64 0))]) [(0,1),(1,1)] [(0,(ci 1)),(1,(.t 32))]),rn (.store 2 (.t 8) (.t 33))] .ret) (sq [rF 35 0 6,rL 36 35,ro 37 (.bin .eql (.t 36) (ci 1)),rm 38 37,rg 39 38 true (.cZ 2 (.t 4)),rg 40 38 true (.load none (.t 39)),rg 41 38 true (.cZ 1 (.t 6)),rg 42 38 true (.load none (.t 41)),rg 43 38 true (.aI 1 (.t 40) (.t 42)),rg 44 38 true (.load none (.t 43)),ro 45 (.pick (.t 38) (.t 44) (.c (.v (.bool false)))),rm 34 45] (.cond (.t 34) (sq [rF 46 1 5,rL 47 46,ro 48 (.aI 1 (.t 47) (ci 0)),rL 49 48,rm 50 9,ro 51 (.aI 1 (.t 49) (.t 50)),rL 52 51,ro 53 (.build (.agg [(.v (.int .i64 0)),(.v (.int .i64 0))]) [(0,1),(1,1)] [(0,(ci 2)),(1,(.t 52))]),rn (.store 2 (.t 8) (.t 53))] .ret) (sq [rF 55 0 6,rL 56 55,ro 57 (.bin .eql (.t 56) (ci 2)),rm 58 57,rg 59 58 true (.mv (.t 10)),rg 60 58 true (.un .not (.t 59)),ro 61 (.pick (.t 58) (.t 60) (.c (.v (.bool false)))),rm 54 61] (.cond (.t 54) (sq [rF 62 1 5,rL 63 62,rF 64 1 6,rL 65 64,ro 66 (.aI 1 (.t 63) (.t 65)),rL 67 66,rm 68 9,ro 69 (.aI 1 (.t 67) (.t 68)),rL 70 69,ro 71 (.build (.agg [(.v (.int .i64 0)),(.v (.int .i64 0))]) [(0,1),(1,1)] [(0,(ci 2)),(1,(.t 70))]),rn (.store 2 (.t 8) (.t 71))] .ret) .skip))))))) (sq [ro 72 (.build (.agg [(.v (.int .i64 0)),(.v (.int .i64 0))]) [(0,1),(1,1)] [(0,(ci 3)),(1,(ci 0))]),rn (.store 2 (.t 8) (.t 72))] .ret))))
def zu:AC:= (sq [ro 5 (.box 2 (.t 1)),ro 8 (.alloc (.agg [(.v (.int .i64 0)),(.v (.int .i64 0))]) 2)] (.seq (sq [rm 9 3] (.cond (.t 9) (.seq (.seq (.reg (some []) [rF 10 0 5,rL 11 10,ro 12 (.bin .eql (.t 11) (ci 1)),rm 13 12,rg 14 13 true (.mv (.t 0)),rg 15 13 true (.iP (.t 14)),rg 16 13 true (.cZ 0 (.t 15)),rg 17 13 true (.cZ 2 (.t 16)),rg 18 13 true (.load none (.t 17)),rg 19 13 true (.cZ 1 (.t 5)),rg 20 13 true (.load none (.t 19)),rg 21 13 true (.aI 1 (.t 18) (.t 20)),rg 22 13 true (.load none (.t 21)),ro 23 (.pick (.t 13) (.t 22) (.c (.v (.bool false))))]) (.cond (.t 23) (sq [rm 24 0,ro 25 (.iP (.t 24)),rF 26 3 25,rF 27 1 26,rL 28 27,ro 29 (.aI 1 (.t 28) (ci 0)),rL 30 29,rm 31 2,ro 32 (.aI 1 (.t 30) (.t 31)),rL 33 32,ro 34 (.build (.agg [(.v (.int .i64 0)),(.v (.int .i64 0))]) [(0,1),(1,1)] [(0,(ci 2)),(1,(.t 33))]),rn (.store 2 (.t 8) (.t 34))] .ret) .skip)) (sq [ro 35 (.build (.agg [(.v (.int .i64 0)),(.v (.int .i64 0))]) [(0,1)] [(0,(ci 3))]),rn (.store 2 (.t 8) (.t 35))] .ret)) .skip)) (.seq (sq [rF 36 0 5,rL 37 36] (.block 0 (.seq (sq [ro 39 (.bin .eql (.t 37) (ci 0)),rm 38 39] (.cond (.t 38) .skip (.reg none [ro 40 (.bin .eql (.t 37) (ci 1)),rm 38 40]))) (.cond (.t 38) (.seq (.reg (some []) [rm 41 0,ro 42 (.iP (.t 41)),rF 43 0 42,rF 44 1 43,rL 45 44,rF 46 1 5,rL 47 46,ro 48 (.aI 1 (.t 45) (.t 47)),rL 49 48,rm 50 2,ro 51 (.aI 1 (.t 49) (.t 50)),rL 52 51,ro 53 (.build (.agg [(.v (.int .i64 0)),(.v (.int .i64 0))]) [(0,1),(1,1)] [(0,(ci 1)),(1,(.t 52))]),rn (.store 2 (.t 8) (.t 53))]) .ret) (sq [ro 55 (.bin .eql (.t 37) (ci 2)),rm 54 55] (.cond (.t 54) (.seq (.reg (some []) [rm 56 0,ro 57 (.iP (.t 56)),rF 58 3 57,rF 59 1 58,rL 60 59,rF 61 1 5,rL 62 61,ro 63 (.aI 1 (.t 60) (.t 62)),rL 64 63,rm 65 2,ro 66 (.aI 1 (.t 64) (.t 65)),rL 67 66,ro 68 (.build (.agg [(.v (.int .i64 0)),(.v (.int .i64 0))]) [(0,1),(1,1)] [(0,(ci 2)),(1,(.t 67))]),rn (.store 2 (.t 8) (.t 68))]) .ret) .skip)))))) (sq [ro 69 (.load (some 2) (.t 5)),rn (.store 2 (.t 8) (.t 69))] .ret))))
theorem BX(x y:Int)(S:St):iQ (.agg [.v (.int .i64 x),.v (.int .i64 y)]) (.agg [.v (.int .i64 x),.v (.int .i64 y)]) S:=.closed _ (yD (x,y))
theorem QL{d:aD}(R:bD d){q:Int}(h0:0≤q)(h1:q < d.next.length){h:Nat}(hs:(h:Int) < d.signs) :
  ∃row,d.next[q.toNat]?.getD []=row∧(∀hh:q.toNat < d.next.length,d.next[q.toNat]=row)∧h < row.length∧row[h]?.getD 0=((bO d q.toNat h:Nat):Int)∧∀hh:h < row.length,row[h]=((bO d q.toNat h:Nat):Int):=by
 have hq:q.toNat < d.next.length:=by omega
 have hr:=R.row _ hq;have hh:h < (d.next[q.toNat]).length:=by omega
 have ha:=R.at_ _ hq h hh
 have e1:d.next[q.toNat]? = some d.next[q.toNat]:=List.getElem?_eq_getElem hq
 have e2:(d.next[q.toNat])[h]? = some (d.next[q.toNat])[h]:=List.getElem?_eq_getElem hh
 have e:(d.next[q.toNat])[h]=((bO d q.toNat h:Nat):Int):=by
  unfold bO;simp only[List.getD_eq_getElem?_getD,e1,Option.getD_some,Int.toNat_natCast,e2];omega
 exact⟨d.next[q.toNat],by rw[e1];rfl,fun _=>rfl,hh,by rw[e2];exact e,fun _=>e⟩
theorem ZpG{d:aD}(i:Nat):d.fin[i]?.getD false=jy d i∧∀h:i < d.fin.length,d.fin[i]=jy d i:=⟨by simp[jy,List.getD_eq_getElem?_getD],fun h=>by simp[jy,List.getD_eq_getElem?_getD,h]⟩
def zf(b a:aD):AV:=.bJ (.agg [aj b.signs,aX b.next,iY b.fin,aj a.signs,aX a.next,iY a.fin]) 0
theorem Zgw{P:Program}{b a:aD}(Rb:bD b)(Ra:bD a)(hs:b.signs=a.signs)(x:Int×Int)(hx:vM b a x)(s:Nat)(hlt:s < (2*b.signs).toNat) :
  bG P 0 zu (bK [.c 8 (some 2)] (iQ (cB (nX b a x s)))) (bP [zf b a,cB x,aj (s / 2:Nat),aH (decide (s % 2=1))]) S0:=by
 obtain⟨v0,v1,v2,v3,v4,v5⟩:=hx;have hsb:=Rb.s2;have hbf:=Rb.fin;have hbn:=Rb.n1;have han:=Ra.n1;have aa3:0 < a.next.length:=by omega
 have abv:a.next≠[]:=List.length_pos_iff.mp aa3
 obtain⟨p,q⟩:=x;simp only at v0 v1 v2 v3 v4 v5;unfold nX;have hhs:((s / 2:Nat):Int) < b.signs:=by omega
 have aae:((s / 2:Nat):Int) < a.signs:=by omega
 generalize s / 2=h at *;by_cases hodd:s % 2=1
 ·rw[if_pos hodd,decide_eq_true hodd]
  obtain rfl | rfl | rfl | rfl:p=0∨p=1∨p=2∨p=3:=by omega
  ·simp[zu,zf,bK,bV,RV.ev,gH,cK,jc,iR,cB]
   exact BX _ _ _
  ·have Tc:q < (b.fin.length:Int):=by rw[hbf];exact v3 (by omega)
   obtain⟨row,r1,r1',r2,r3,r3'⟩:=QL Ra (q:=0) (by omega) (by omega) aae;simp only[Int.toNat_zero] at r1 r1' r3 r3';obtain⟨hfi,JY⟩:=ZpG (d:=b) q.toNat;cases SH:jy b q.toNat with
   | true=>
    rw[SH] at hfi JY;simp[zu,zf,jW,v2,Tc,JY,r1',r2,r3',aa3,bK,bV,RV.ev,gH,cK,jc,iR,cB];exact BX _ _ _
   | false=>
    rw[SH] at hfi JY;simp[zu,zf,jW,v2,Tc,JY,bK,bV,RV.ev,gH,cK,jc,iR,cB];exact BX _ _ _
  ·simp[zu,zf,bK,bV,RV.ev,gH,cK,jc,iR,cB]
   exact BX _ _ _
  ·simp[zu,zf,bK,bV,RV.ev,gH,cK,jc,iR,cB]
   exact BX _ _ _
 ·rw[if_neg hodd,decide_eq_false hodd]
  obtain rfl | rfl | rfl | rfl:p=0∨p=1∨p=2∨p=3:=by omega
  ·obtain⟨row,r1,r1',r2,r3,r3'⟩:=QL Rb v2 (v3 (by omega)) hhs
   have J2:=v3 (by omega);simp[zu,zf,jW,v2,J2,r1',r2,r3',bK,bV,RV.ev,gH,cK,jc,iR,cB];exact BX _ _ _
  ·obtain⟨row,r1,r1',r2,r3,r3'⟩:=QL Rb v2 (v3 (by omega)) hhs
   have J2:=v3 (by omega);simp[zu,zf,jW,v2,J2,r1',r2,r3',bK,bV,RV.ev,gH,cK,jc,iR,cB];exact BX _ _ _
  ·obtain⟨row,r1,r1',r2,r3,r3'⟩:=QL Ra v2 (v4 (by omega)) aae
   have J2:=v4 (by omega);simp[zu,zf,jW,v2,J2,r1',r2,r3',bK,bV,RV.ev,gH,cK,jc,iR,cB];exact BX _ _ _
  ·have h0:=v5 rfl
   subst h0;simp[zu,zf,bK,bV,RV.ev,gH,cK,cB];exact BX _ _ _
end Go.Rf
namespace Go.Rf
open Go.RowKit
attribute [local simp] oJ oH oD pF pJ pQ pK oI qm pO oF o9 jK jT jU kr pY qM qK qJ qA qL oP oL qp pR qo qG qF qC qx pU qw qI qH oK kL pG pV pW pq o8 dO iA fI gI ig fH gJ iq gX gT gY eY gN gZ gM eB eD gQ iJ iG iI iH iK fV fK fG dY fZ gu gy fO fP iL iw gP iE iB iD iC iF iM gV fQ fE fF fJ fU dx dL eZ gW iN ex au cu dM dX bM bU aG bB dV eX dR fM gL gK iy gU bL dw dz dZ d9 dS bA pE ow dA dJ pI oZ pX oz eu eU eO eT dU dQ dP bq qz oG oC qh o7 qd qg qj kV p9 p8 ql S0 aj aH ru qZ rA q9 qY rz rH q8 rG rO rE rM rD rJ rC QB RL TF TG Sk Sl Sm RN MF QN Qb yE mR iZ.cl bQ.cl aW dN aS jo jL mX mV mW jZ mH nu mY nk jr lu jw ny lQ kX mh nA nD nC ni kM kJ nE lZ mZ l6 kK mF jh nG bZ jO bE kQ
def ZkT:AC:= (.block 4 (.loop (.seq (.seq (.reg (some []) [rm 70 14,rm 71 8,ro 72 (.len (.t 71)),ro 73 (.bin .lss (.t 70) (.t 72)),rm 74 73,rg 75 74 true (.mv (.t 8)),rg 76 74 true (.mv (.t 14)),rg 77 74 true (.aI 2 (.t 75) (.t 76)),rg 78 74 true (.load (some 2) (.t 77)),rg 79 74 true (.load (some 2) (.t 13)),rg 80 74 true (.seq true [0,1] (.t 78) (.t 79)),ro 81 (.pick (.t 74) (.t 80) (.c (.v (.bool false))))]) (.cond (.t 81) .skip (.exit 4))) (.block 5 (.reg none [rm 82 14,ro 83 (.bin .add (.t 82) (ci 1)),rm 14 83])))))
def ZnU(Km:FuncId):AC:= (.block 2 (.loop (.seq (sq [rm 56 12,rF 57 0 9,rL 58 57,ro 59 (.bin .lss (.t 56) (.t 58))] (.cond (.t 59) .skip (.exit 2))) (.seq (.block 3 (.seq (.reg (some [[],[],[],[],[],[],[],[],[true,true,true,true,true,true,true,true]]) [ro 62 (.load (some 3) (.t 3)),ro 63 (.load (some 3) (.t 4)),rm 64 8,rm 65 10,ro 66 (.aI 2 (.t 64) (.t 65)),ro 67 (.load (some 2) (.t 66)),rm 68 12,rk 69 Km [(.t 62),(.t 63),(.t 67),(.t 68)],ro 13 (.alloc (.agg [(.v (.int .i64 0)),(.v (.int .i64 0))]) 2),rn (.store 2 (.t 13) (.t 69))]) (sq [ro 14 (.mv (ci 0))] (.seq ZkT (.seq (sq [rm 84 14,rm 85 8,ro 86 (.len (.t 85)),ro 87 (.bin .eql (.t 84) (.t 86))] (.cond (.t 87) (.seq (sq [rm 88 14,rm 89 2,ro 90 (.bin .eql (.t 88) (.t 89))] (.cond (.t 90) (sq [ro 91 (.build (.agg [(.v (.int .i64 0)),(.sl true []),(.sl true [])]) [] []),rn (.store 3 (.t 6) (.t 91)),ro 7 (.mv (ci 13))] .ret) .skip)) (.reg none [rm 92 8,ro 93 (.load (some 2) (.t 13)),ro 94 (.cO 2 1 (.agg [(.v (.int .i64 0)),(.v (.int .i64 0))]) [(0,(.t 93))]),ro 95 (.app 2 16 (.t 92) (.t 94)),rm 8 95])) .skip)) (.reg none [rm 96 11,rm 97 14,ro 98 (.cO 1 1 (.v (.int .i64 0)) [(0,(.t 97))]),ro 99 (.app 1 8 (.t 96) (.t 98)),rm 11 99])))))) (.reg none [rm 60 12,ro 61 (.bin .add (.t 60) (ci 1)),rm 12 61])))))
def ZkU:AC:= (.reg (some [[],[],[],[],[],[true],[false,true],[false,false,true],[false,false,false,true],[false,false,false,false,true],[false,false,false,false,false,true],[false,false,false,false,false,false,true],[false,false,false,false,false,false,false,true],[],[],[],[],[],[],[],[],[],[],[],[],[],[true]]) [rF 100 1 9,rL 101 100,rm 102 11,ro 103 (.cO 1 1 (.sl true []) [(0,(.t 102))]),ro 104 (.app 1 24 (.t 101) (.t 103)),rF 105 2 9,rL 106 105,rm 107 8,rm 108 10,ro 109 (.aI 2 (.t 107) (.t 108)),rF 110 0 109,rL 111 110,ro 112 (.bin .eql (.t 111) (ci 2)),rm 113 112,rg 114 113 true (.cZ 2 (.t 4)),rg 115 113 true (.load none (.t 114)),rg 116 113 true (.mv (.t 8)),rg 117 113 true (.mv (.t 10)),rg 118 113 true (.aI 2 (.t 116) (.t 117)),rg 119 113 true (.cZ 1 (.t 118)),rg 120 113 true (.load none (.t 119)),rg 121 113 true (.aI 1 (.t 115) (.t 120)),rg 122 113 true (.load none (.t 121)),ro 123 (.pick (.t 113) (.t 122) (.c (.v (.bool false)))),ro 124 (.cO 1 1 (.v (.bool false)) [(0,(.t 123))]),ro 125 (.app 1 1 (.t 106) (.t 124)),rF 126 1 9,rn (.store 1 (.t 126) (.t 104)),rF 127 2 9,rn (.store 1 (.t 127) (.t 125))])
def ZnT(Km:FuncId):AC:= (.block 0 (.loop (.seq (sq [rm 50 10,rm 51 8,ro 52 (.len (.t 51)),ro 53 (.bin .lss (.t 50) (.t 52))] (.cond (.t 53) .skip (.exit 0))) (.seq (.block 1 (sq [ro 11 (.mv (.c (.sl true [])))] (.seq (sq [ro 12 (.mv (ci 0))] (ZnU Km)) ZkU))) (.reg none [rm 54 10,ro 55 (.bin .add (.t 54) (ci 1)),rm 10 55])))))
def ZnS:AC:= (sq [ro 128 (.load (some 3) (.t 9)),rn (.store 3 (.t 6) (.t 128)),ro 7 (.mv (ci 0))] .ret)
def Zaq(Ap Km:FuncId):AC:= (sq [ro 3 (.box 3 (.t 0)),ro 4 (.box 3 (.t 1)),ro 6 (.alloc (.agg [(.v (.int .i64 0)),(.sl true []),(.sl true [])]) 3),ro 7 (.mv (ci 0))] (.seq (sq [ro 15 (.load (some 3) (.t 3)),rk 16 Ap [(.t 15)],ro 17 (.un .not (.t 16)),rm 18 17,rg 19 18 false (.load (some 3) (.t 4)),rl 20 18 false Ap [(.t 19)],rg 21 18 false (.un .not (.t 20)),ro 22 (.pick (.t 18) (.c (.v (.bool true))) (.t 21)),rm 23 22,rg 24 23 false (.cZ 0 (.t 3)),rg 25 23 false (.load none (.t 24)),rg 26 23 false (.cZ 0 (.t 4)),rg 27 23 false (.load none (.t 26)),rg 28 23 false (.bin .neq (.t 25) (.t 27)),ro 29 (.pick (.t 23) (.c (.v (.bool true))) (.t 28)),rm 30 29,rg 31 30 false (.cZ 0 (.t 3)),rg 32 30 false (.load none (.t 31)),rg 33 30 false (.bin .gtr (.t 32) (ci 200)),ro 34 (.pick (.t 30) (.c (.v (.bool true))) (.t 33)),rm 35 34,rg 36 35 false (.mv (.t 2)),rg 37 35 false (.bin .lss (.t 36) (ci 1)),ro 38 (.pick (.t 35) (.c (.v (.bool true))) (.t 37)),rm 39 38,rg 40 39 false (.mv (.t 2)),rg 41 39 false (.bin .gtr (.t 40) (ci 3000)),ro 42 (.pick (.t 39) (.c (.v (.bool true))) (.t 41))] (.cond (.t 42) (sq [ro 43 (.build (.agg [(.v (.int .i64 0)),(.sl true []),(.sl true [])]) [] []),rn (.store 3 (.t 6) (.t 43)),ro 7 (.mv (ci 1))] .ret) .skip)) (sq [ro 44 (.build (.agg [(.v (.int .i64 0)),(.v (.int .i64 0))]) [(0,1),(1,1)] [(0,(ci 0)),(1,(ci 0))]),ro 45 (.cO 2 1 (.agg [(.v (.int .i64 0)),(.v (.int .i64 0))]) [(0,(.t 44))]),rm 8 45] (sq [rF 46 0 3,rL 47 46,ro 48 (.bin .mul (ci 2) (.t 47)),ro 49 (.build (.agg [(.v (.int .i64 0)),(.sl true []),(.sl true [])]) [(0,1)] [(0,(.t 48))]),ro 9 (.alloc (.agg [(.v (.int .i64 0)),(.sl true []),(.sl true [])]) 3),rn (.store 3 (.t 9) (.t 49))] (.seq (sq [ro 10 (.mv (ci 0))] (ZnT Km)) ZnS)))))
section
variable(b a:aD)(most:Int)
end
def O7:AC:= (sq [ro 3 (.box 2 (.t 1)),ro 4 (.mv (ci 0))] (.seq (.reg (some []) [rm 8 0,ro 9 (.iP (.t 8)),rF 10 6 9,rL 11 10,ro 12 (.load (some 2) (.t 3)),ro 13 (.look (.ints 2) (.v (.int .i64 0)) true (.t 11) (.t 12)),rm 7 13,ro 14 (.ext 0 (.t 7)),ro 15 (.ext 1 (.t 7)),rm 5 14,rm 6 15]) (.seq (sq [rm 16 6,ro 17 (.un .not (.t 16))] (.cond (.t 17) (sq [rm 18 0,ro 19 (.iP (.t 18)),rF 20 7 19,rL 21 20,ro 22 (.len (.t 21)),rm 5 22] (.seq (.reg (some []) [rm 23 0,ro 24 (.iP (.t 23)),rF 25 6 24,rL 26 25,ro 27 (.load (some 2) (.t 3)),rm 28 5,rn (.Br (.ints 2) (.t 26) (.t 27) (.t 28))]) (.reg (some [[],[],[],[],[],[],[],[false,false,false,false,false,false,true]]) [rm 29 0,rm 30 0,ro 31 (.iP (.t 30)),rF 32 7 31,rL 33 32,ro 34 (.load (some 2) (.t 3)),ro 35 (.cO 2 1 (.agg [(.v (.int .i64 0)),(.v (.int .i64 0))]) [(0,(.t 34))]),ro 36 (.app 2 16 (.t 33) (.t 35)),ro 37 (.iP (.t 29)),rF 38 7 37,rn (.store 1 (.t 38) (.t 36))]))) .skip)) (sq [rm 39 5,rm 4 39] .ret))))
theorem RB:AY (.ints 2) (fun _:Int×Int=>True) cB:=⟨fun _=>rfl,fun x y _ _=>by
 obtain⟨a,b⟩:=x;obtain⟨c,d⟩:=y;by_cases h1:a=c<;>by_cases h2:b=d<;>simp[tu,cB,Bh,h1,h2]⟩
section
variable{K:Type}[DecidableEq K]{d:KK}{good:K→Prop}{enc:K→AV}
theorem Ztc(h:AY d good enc){ks:List K}{x:K}(hx:good x)(hs:∀s∈ks,good s){km aC:Nat}{S:St}(hg:S.g km=some (.map (iW enc 0 ks))) :
  (AU d (.v (.int .i64 0)) true (.mp km) (enc x)).runT S aC=some (.aM [.v (.int .i64 (if x∈ks then (ks.idxOf x:Int) else 0)),.v (.bool (decide (x∈ks)))],S,[km],[]):=by
 have hk:=Lu h ks 0;simp only[AU,dL,hg,Option.bind_some,if_pos (show isK d (enc x)=true∧∀e∈iW enc 0 ks,isK d e.1=true from⟨h.k x,hk⟩),X7 h hx ks 0 hs];by_cases hin:x∈ks
 ·simp[hin,aj]
 ·simp[hin]
theorem Ztj(h:AY d good enc){ks:List K}{x:K}(hx:good x)(hs:∀s∈ks,good s)(hn:x∉ks){km aC:Nat}{S:St}(hg:S.g km=some (.map (iW enc 0 ks))) :
  (Ch d (.mp km) (enc x) (.v (.int .i64 ks.length))).runT S aC=some (.junk,S.set km (some (.map (iW enc 0 (ks++[x])))),[km],[km]):=by
 have hk:=Lu h ks 0;have h2:=Yx h hx ks 0 hs hn;rw[Nat.zero_add] at h2;have h':oV (enc x) (.v (.int .i64 ks.length)) (iW enc 0 ks)=iW enc 0 (ks++[x]):=h2;simp only[Ch,eZ,hg,Option.bind_some,if_pos (show isK d (enc x)=true∧∀e∈iW enc 0 ks,isK d e.1=true from⟨h.k x,hk⟩),h',Option.map_some]
end
theorem Dp{gF:Nat→Option aF}{R:Nat→Nat→Prop}(ss:List (Int×Int)):Bf gF R (some (.map (iW cB 0 ss))) (some (.map (iW cB 0 ss))):=zD (zH yD _ _)
def nH(b a:aD)(km:Nat)(lv:AV):AV:=.agg [aj b.signs,aX b.next,iY b.fin,aj a.signs,aX a.next,iY a.fin,.mp km,lv]
def kG(b a:aD)(o:Bool)(ss:List (Int×Int))(id il km:Nat):List (Nat×Option aF):=
 [(id,some (.arr 8 [nH b a km (vV o il (ss.map cB))])),(il,vB o 2 (ss.map cB)),(km,some (.map (iW cB 0 ss)))]
def YB(b a:aD)(ss:List (Int×Int))(S:St):Prop:=S.n=10∧S.g 0=some (.arr 8 [nH b a 2 (.own 3 0 ss.length)])∧S.g 3=some (.arr 2 (ss.map cB))∧S.g 2=some (.map (iW cB 0 ss))
theorem YB.of{b a:aD}{ss:List (Int×Int)}{G:List (Nat×Option aF)}:YB b a ss ⟨10,bY (kG b a true ss 0 3 2++G)⟩:=⟨rfl,by simp[kG,bZ],by simp[kG,bY,bE],by simp[kG,bY]⟩
def CF(ss:List (Int×Int))(x:Int×Int):List (Int×Int):=if x∈ss then ss else ss++[x]
def D8(ss:List (Int×Int))(x:Int×Int):Int:=if x∈ss then (@List.idxOf _ instBEqOfDecidableEq x ss:Int) else ss.length
def Jl(P:Program)(f:FuncId)(b a:aD)(o:Bool)(ss:List (Int×Int))(x:Int×Int):Prop:=
 aQ P f [.ptr 0 0 0,cB x] ⟨3,bY (kG b a o ss 0 1 2)⟩ fun r' S'=>r'=aj (D8 ss x)∧YB b a (CF ss x) S'
def Gg(b a:aD)(ss:List (Int×Int))(id il km:Nat)(S:St):St:=
 (((((St.mk (S.n+7) S.g).set id (some (.arr 8 [nH b a km (.own S.n 0 ss.length)]))).set il none).set km (some (.map (iW cB 0 ss)))).set S.n (some (.arr 2 (ss.map cB))))
theorem Jl.use{P:Program}{f:FuncId}{b a:aD}{o:Bool}{ss:List (Int×Int)}{x:Int×Int}(h:Jl P f b a o ss x){S:St}{K:AV→St→Prop}{id il km:Nat}
  (h1:S.g id=some (.arr 8 [nH b a km (vV o il (ss.map cB))])) (h2:S.g il=vB o 2 (ss.map cB)) (h3:S.g km=some (.map (iW cB 0 ss)))
  (hd:id≠il∧id≠km∧il≠km) (hl:id < S.n∧il < S.n∧km < S.n) (hk:K (aj (D8 ss x)) (Gg b a (CF ss x) id il km S)):aQ P f [.ptr id 0 0,cB x] S K:=by
 refine aQ.frame 3 [(0,id),(1,il),(2,km)] (kG b a o ss 0 1 2) [.ptr 0 0 0,cB x] _ (by simp;omega) (by simp;omega) ?_ ?_ h ?_
 ·intro p hp
  simp only[kG,List.mem_cons,List.not_mem_nil,or_false] at hp;rcases hp with rfl | rfl | rfl
  ·refine .inr ⟨id,by simp,?_⟩
   rw[h1,jh];refine⟨rfl,?_⟩;simp only[nH,kM,kJ,and_true,kK,l6];exact⟨.cl (aW _),.cl (jo _),.cl (jL _),.cl (aW _),.cl (jo _),.cl (jL _),by simp,lQ (by simp) (AQ _)⟩
  ·exact .inr ⟨il,by simp,by rw[h2];exact kX (AQ _)⟩
  ·exact .inr ⟨km,by simp,by rw[h3];exact zD (zH yD _ _)⟩
 ·exact .cons (.ptr _ _ _ _ (by simp)) (.cons (.cl (yD _)) .nil)
 ·rintro r1 S1 hn ⟨rfl,q1,q2,q3,q4⟩
  refine⟨_,_,hk,.cl (aW _),by simp[Gg,bB,q1],fun i k hi=>?_⟩;simp only[Gg,aG] at hi;by_cases e4:i=S.n
  ·rw[if_pos e4] at hi
   refine .inr ⟨3,.inr ⟨by omega,by omega⟩,?_⟩;rw[←hi,q3,jh];exact⟨rfl,.cl (AQ _)⟩
  rw[if_neg e4] at hi;by_cases ec:i=km
  ·rw[if_pos ec] at hi
   refine .inr ⟨2,.inl ⟨by omega,by simp[ec]⟩,?_⟩;rw[←hi,q4];exact zD (zH yD _ _)
  rw[if_neg ec] at hi;by_cases eb:i=il
  ·rw[if_pos eb] at hi;cases hi
  rw[if_neg eb] at hi;by_cases ea:i=id
  ·rw[if_pos ea] at hi
   refine .inr ⟨0,.inl ⟨by omega,by simp[ea]⟩,?_⟩;rw[←hi,q2,jh];refine⟨rfl,?_⟩;simp only[nH,kM,kJ,and_true,kK,lZ,l6];exact⟨.cl (aW _),.cl (jo _),.cl (jL _),.cl (aW _),.cl (jo _),.cl (jL _),.inl ⟨by omega,by simp⟩,.inr ⟨by omega,by omega⟩⟩
  ·rw[if_neg ea] at hi
   refine .inl ⟨?_,hi⟩;simp;omega
theorem Zmd{P:Program}(hm:P.follows .mixedOrders=true){f:FuncId}(h:Is P f O7 [4] 2)(b a:aD)(o:Bool)(ss:List (Int×Int))(ho:o=true∨ss=[])(hl:ss.length≤100000)(x:Int×Int):Jl P f b a o ss x:=by
 refine h.uR hm rfl ?_;have ok1:dF 16 ss.length 1:=by unfold dF;omega
 have aag:=fun(aC:Nat) (S:St) (hg:S.g 2=some (.map (iW cB 0 ss)))=>Ztc (x:=x) (aC:=aC) RB trivial (fun _ _=>trivial) hg
 have Ai:=fun(aC:Nat) (S:St) (hg:S.g 2=some (.map (iW cB 0 ss)))=>Yh (x:=x) (aC:=aC) RB trivial (fun _ _=>trivial) hg
 have hax:AV.agg [.v (.int .i64 x.1),.v (.int .i64 x.2)]=cB x:=rfl;by_cases hin:x∈ss
 ·have ho':o=true:=by
   rcases ho with h | h
   ·exact h
   ·subst h;simp at hin
  subst ho';simp only[hin,if_true,decide_true] at aag Ai;rw[CF,D8,if_pos hin,if_pos hin];simp[O7,kG,nH,jW,hax,Ai];refine⟨jk [(4,.v (.int .i64 (@List.idxOf _ instBEqOfDecidableEq x ss:Int)))],⟨10,bY (kG b a true ss 0 3 2++[])⟩,bR.of [(0,0),(2,2),(3,1)] [] (by omega) ⟨by simp,by simp⟩ ?_ ?_,by simp[jk],.of⟩
  ·simp[kG,nH,Dp,AQ]
  ·simp
 ·have hmT:=fun(aC:Nat) (S:St) (hg:S.g 2=some (.map (iW cB 0 ss)))=>Ztj (x:=x) (aC:=aC) RB trivial (fun _ _=>trivial) hin hg
  simp only[hin,if_false,decide_false] at aag Ai;have hm0:=fun(aC:Nat) (S:St) (hg:S.g 2=some (.map (iW cB 0 ss)))=>Ro (x:=x) (aC:=aC) RB trivial (fun _ _=>trivial) hin hg
  rw[CF,D8,if_neg hin,if_neg hin];simp[O7,kG,nH,ok1,jW,hax,Ai,hm0];refine⟨jk [(4,aj ss.length)],⟨10,bY (kG b a true (ss++[x]) 0 3 2++[])⟩,bR.of [(0,0),(2,2),(3,38)] [] (by omega) ⟨by simp,by simp⟩ ?_ ?_,by simp[jk,aj],.of⟩
  ·simp[kG,nH,Dp,AQ,yD]
  ·simp
def ZhQ(HV Kn:FuncId):AC:= (.block 2 (.loop (sq [ro 77 (.bin .lss (.t 76) (.t 75))] (.seq (.cond (.t 77) .skip (.exit 2)) (.seq (.block 3 (sq [rm 78 76,rm 13 78] (sq [rm 79 12,rm 80 13,rm 81 8,rm 82 8,ro 83 (.load (some 2) (.t 11)),rm 84 13,ro 85 (.bin .quo (.t 84) (ci 2)),rm 86 13,ro 87 (.bin .and (.t 86) (ci 1)),ro 88 (.bin .eql (.t 87) (ci 1)),rk 89 Kn [(.t 82),(.t 83),(.t 85),(.t 88)],rk 90 HV [(.t 81),(.t 89)],ro 91 (.aI 1 (.t 79) (.t 80)),rn (.store 1 (.t 91) (.t 90))] (sq [rm 92 8,ro 93 (.iP (.t 92)),rF 94 7 93,rL 95 94,ro 96 (.len (.t 95)),rm 97 2,ro 98 (.bin .gtr (.t 96) (.t 97))] (.cond (.t 98) (sq [ro 99 (.build (.agg [(.v (.int .i64 0)),(.sl true []),(.sl true [])]) [] []),rn (.store 3 (.t 6) (.t 99)),ro 7 (.mv (ci 13))] .ret) .skip))))) (.reg none [ro 100 (.bin .add (.t 76) (ci 1)),rm 76 100]))))))
def V8:AC:= (.reg (some [[],[],[],[],[],[true],[false,true],[false,false,true],[false,false,false,true],[false,false,false,false,true],[],[],[],[],[],[],[],[],[],[],[true]]) [rF 101 1 9,rL 102 101,rm 103 12,ro 104 (.cO 1 1 (.sl true []) [(0,(.t 103))]),ro 105 (.app 1 24 (.t 102) (.t 104)),rF 106 2 9,rL 107 106,rF 108 0 11,rL 109 108,ro 110 (.bin .eql (.t 109) (ci 2)),rm 111 110,rg 112 111 true (.cZ 2 (.t 4)),rg 113 111 true (.load none (.t 112)),rg 114 111 true (.cZ 1 (.t 11)),rg 115 111 true (.load none (.t 114)),rg 116 111 true (.aI 1 (.t 113) (.t 115)),rg 117 111 true (.load none (.t 116)),ro 118 (.pick (.t 111) (.t 117) (.c (.v (.bool false)))),ro 119 (.cO 1 1 (.v (.bool false)) [(0,(.t 118))]),ro 120 (.app 1 1 (.t 107) (.t 119)),rF 121 1 9,rn (.store 1 (.t 121) (.t 105)),rF 122 2 9,rn (.store 1 (.t 122) (.t 120))])
def ZhP(HV Kn:FuncId):AC:= (.block 0 (.loop (.seq (sq [rm 55 10,rm 56 8,ro 57 (.iP (.t 56)),rF 58 7 57,rL 59 58,ro 60 (.len (.t 59)),ro 61 (.bin .lss (.t 55) (.t 60))] (.cond (.t 61) .skip (.exit 0))) (.seq (.block 1 (sq [rm 64 8,ro 65 (.iP (.t 64)),rF 66 7 65,rL 67 66,rm 68 10,ro 69 (.aI 2 (.t 67) (.t 68)),ro 70 (.load (some 2) (.t 69)),ro 11 (.alloc (.agg [(.v (.int .i64 0)),(.v (.int .i64 0))]) 2),rn (.store 2 (.t 11) (.t 70))] (sq [rF 71 0 9,rL 72 71,ro 73 (.wB 1 8 (.v (.int .i64 0)) (.t 72) (.t 72)),rm 12 73] (.seq (sq [rm 74 12,ro 75 (.len (.t 74)),ro 76 (.mv (ci 0))] (ZhQ HV Kn)) V8)))) (.reg none [rm 62 10,ro 63 (.bin .add (.t 62) (ci 1)),rm 10 63])))))
def ZhO:AC:= (sq [ro 123 (.load (some 3) (.t 9)),rn (.store 3 (.t 6) (.t 123)),ro 7 (.mv (ci 0))] .ret)
def V3(Dj HV Kn:FuncId):AC:= (sq [ro 3 (.box 3 (.t 0)),ro 4 (.box 3 (.t 1)),ro 6 (.alloc (.agg [(.v (.int .i64 0)),(.sl true []),(.sl true [])]) 3),ro 7 (.mv (ci 0))] (.seq (sq [ro 14 (.load (some 3) (.t 3)),rk 15 Dj [(.t 14)],ro 16 (.un .not (.t 15)),rm 17 16,rg 18 17 false (.load (some 3) (.t 4)),rl 19 17 false Dj [(.t 18)],rg 20 17 false (.un .not (.t 19)),ro 21 (.pick (.t 17) (.c (.v (.bool true))) (.t 20)),rm 22 21,rg 23 22 false (.cZ 0 (.t 3)),rg 24 22 false (.load none (.t 23)),rg 25 22 false (.cZ 0 (.t 4)),rg 26 22 false (.load none (.t 25)),rg 27 22 false (.bin .neq (.t 24) (.t 26)),ro 28 (.pick (.t 22) (.c (.v (.bool true))) (.t 27)),rm 29 28,rg 30 29 false (.cZ 0 (.t 3)),rg 31 29 false (.load none (.t 30)),rg 32 29 false (.bin .gtr (.t 31) (ci 200)),ro 33 (.pick (.t 29) (.c (.v (.bool true))) (.t 32)),rm 34 33,rg 35 34 false (.mv (.t 2)),rg 36 34 false (.bin .lss (.t 35) (ci 1)),ro 37 (.pick (.t 34) (.c (.v (.bool true))) (.t 36)),rm 38 37,rg 39 38 false (.mv (.t 2)),rg 40 38 false (.bin .gtr (.t 39) (ci 3000)),ro 41 (.pick (.t 38) (.c (.v (.bool true))) (.t 40))] (.cond (.t 41) (sq [ro 42 (.build (.agg [(.v (.int .i64 0)),(.sl true []),(.sl true [])]) [] []),rn (.store 3 (.t 6) (.t 42)),ro 7 (.mv (ci 1))] .ret) .skip)) (sq [ro 43 (.load (some 3) (.t 3)),ro 44 (.load (some 3) (.t 4)),ro 45 (.Er),ro 46 (.build (.agg [(.v (.int .i64 0)),(.sl true []),(.sl true []),(.v (.int .i64 0)),(.sl true []),(.sl true []),(.v (.map none)),(.sl true [])]) [(0,3),(3,3),(6,1)] [(0,(.t 43)),(1,(.t 44)),(2,(.t 45))]),ro 47 (.box 8 (.t 46)),rm 8 47] (sq [rm 48 8,ro 49 (.build (.agg [(.v (.int .i64 0)),(.v (.int .i64 0))]) [] []),rk 50 HV [(.t 48),(.t 49)]] (sq [rF 51 0 3,rL 52 51,ro 53 (.bin .mul (ci 2) (.t 52)),ro 54 (.build (.agg [(.v (.int .i64 0)),(.sl true []),(.sl true [])]) [(0,1)] [(0,(.t 53))]),ro 9 (.alloc (.agg [(.v (.int .i64 0)),(.sl true []),(.sl true [])]) 3),rn (.store 3 (.t 9) (.t 54))] (.seq (sq [ro 10 (.mv (ci 0))] (ZhP HV Kn)) ZhO))))))
abbrev Ya:=uS (Int×Int)×(Bool×Bool)
section
variable(b a:aD)(most:Int)(n:Nat)
def xU(i:Nat):List (Nat×AV):=[(2,aj most),(3,.ptr 0 0 0),(4,.ptr 1 0 0),(6,.ptr 2 0 0),(8,.ptr 3 0 0),(9,.ptr 6 0 0),(10,aj i)]
def xV(ss:List (Int×Int))(nx:List (List Int))(en:List Bool)(oN oE:Bool):List (Nat×Option aF):=
 [(0,some (.arr 3 [aT b])),(1,some (.arr 3 [aT a])),(2,some (.arr 3 [rQ])),(3,some (.arr 8 [nH b a 5 (.own 4 0 ss.length)])),(4,some (.arr 2 (ss.map cB))),(5,some (.map (iW cB 0 ss))),
  (6,some (.arr 3 [.agg [.v (.int .i64 n),vV oN 7 (nx.map aA),vV oE 8 (en.map aH)]])),(7,vB oN 1 (nx.map aA)),(8,vB oE 1 (en.map aH))]
def Zv1(i:Nat)(s:Ya):Prop:=oW (qW b a) most i=some s.1∧∀m,m < i→∀oq,oW (qW b a) most m=some oq→m≠oq.1.length
def Jb(i:Nat)(s:Ya):List (Nat×AV):=xU most i
def Jc(_:Nat)(s:Ya):List (Nat×Option aF):=xV b a n s.1.1 s.1.2.1 s.1.2.2 s.2.1 s.2.2
def Zv2(x:Int×Int)(sQ:List (Int×Int))(k:Nat)(s:List (Int×Int)×List Int):Prop:=
 wo most (nX b a x) k sQ=some (s.1,s.2.take k)∧s.2.length=n∧∀j (h:j < sQ.length),s.1[j]? = some sQ[j]
def F6(i:Nat)(k:Nat)(s:List (Int×Int)×List Int):List (Nat×AV):=(11,.ptr 9 0 0)::(12,.own 10 0 n)::(75,aj n)::(76,aj k)::xU most i
def F7(x:Int×Int)(nx:List (List Int))(en:List Bool)(oN oE:Bool)(_:Nat)(s:List (Int×Int)×List Int):List (Nat×Option aF):=
 (9,some (.arr 2 [cB x]))::(10,some (.arr 1 (s.2.map aj)))::xV b a n s.1 nx en oN oE
theorem ZcX{gF:Nat→Option aF}{R:Nat→Nat→Prop}(uq:List Int)(k:Nat)(v:Int):iZ gF R ((List.map aj uq).set k (.v (.int .i64 v))) ((List.map aj uq).set k (.v (.int .i64 v))):=by
 have:(List.map aj uq).set k (.v (.int .i64 v))=List.map aj (uq.set k v):=by rw[List.map_set];rfl
 rw[this];exact iZ.cl (jr _)
theorem ZdF(l:List Int)(k:Nat)(v:Int)(h:k < l.length):(l.set k v).take (k+1)=l.take k++[v]:=by
 rw[List.take_succ_eq_append_getElem (by simpa using h),List.take_set_of_le (Nat.le_refl _)];simp
theorem Zt3{g:Nat→Option aF}{b a:aD}{km:Nat}{lv:AV}(h:g 3=some (.arr 8 [nH b a km lv])):Fz g (.ptr 3 0 0) (zf b a):=
 .pre 3 8 [aj b.signs,aX b.next,iY b.fin,aj a.signs,aX a.next,iY a.fin] [.mp km,lv] h (aK (aW _) (aK (jo _) (aK (jL _) (aK (aW _) (aK (jo _) (aK (jL _) aU))))))
end
theorem ZoV(p:Int×Int):xB (cB p):=.agg _ fun y hy=>by simp at hy;rcases hy with rfl | rfl<;>exact .v _
theorem Zqo{k:Nat}(h:k≤1000):(IntKind.i64.wrap ((k % 2 ^ IntKind.i64.bits &&& 1 % 2 ^ IntKind.i64.bits:Nat):Int) == 1)=decide (k % 2=1):=by
 have e1:k % 2 ^ IntKind.i64.bits=k:=Nat.mod_eq_of_lt (by show k < 2 ^ 64;omega);have e2:1 % 2 ^ IntKind.i64.bits=1:=rfl;rw[e1,e2,Nat.and_one_is_mod,bI _ (by omega)];by_cases h:k % 2=1
 ·simp[h]
 ·have h0:k % 2=0:=by omega
  simp[h0]
theorem Zhb{P:Program}{fr um fb:FuncId}(b a:aD)(most:Int)(hrb:aN P fr [aT b] (aH (lg b)))(hra:aN P fr [aT a] (aH (lg a)))
  (hn:∀o ss x,(o=true∨ss=[])→ss.length≤100000→Jl P um b a o ss x)
  (hb:bD b→bD a→b.signs=a.signs→∀x (s:Nat),vM b a x→s < (2*b.signs).toNat→aN P fb [zf b a,cB x,aj (s / 2:Nat),aH (decide (s % 2=1))] (cB (nX b a x s))) :
  bG P 0 (V3 fr um fb) (bK [.c 6 (some 3),.t 7] (iQ (jV (lY b a most)))) (bP [aT b,aT a,aj most]) S0:=by
 simp[V3];refine aQ.pure hrb (aK (iV b) aU) (dN _) ?_;cases hRb:lg b with
 | false=>
  have hres:lY b a most=(⟨0,[],[]⟩,1):=by simp[lY,hRb]
  rw[hres];simp[bK,bV,RV.ev,gH,cK,jc,iR];exact vU _ 1
 | true=>
 simp;refine aQ.pure hra (aK (iV a) aU) (dN _) ?_;cases Y2:lg a with
 | false=>
  have hres:lY b a most=(⟨0,[],[]⟩,1):=by simp[lY,Y2]
  rw[hres];simp[bK,bV,RV.ev,gH,cK,jc,iR];exact vU _ 1
 | true=>
 have Rb:=(xP b).mp hRb;have Ra:=(xP a).mp Y2;by_cases hsg:b.signs=a.signs;rotate_left
 ·have hres:lY b a most=(⟨0,[],[]⟩,1):=by rw[lY,if_neg (by simp[hsg])]
  have hne:(b.signs != a.signs)=true:=by simp[hsg]
  rw[hres];simp[hne,bK,bV,RV.ev,gH,cK,jc,iR];exact vU _ 1
 have hne:(b.signs != a.signs)=false:=by simp[hsg]
 by_cases h2:200 < b.signs
 ·have hres:lY b a most=(⟨0,[],[]⟩,1):=by rw[lY,if_neg (by omega)]
  rw[hres];simp[hne,h2,bK,bV,RV.ev,gH,cK,jc,iR];exact vU _ 1
 by_cases h1:most < 1
 ·have hres:lY b a most=(⟨0,[],[]⟩,1):=by rw[lY,if_neg (by omega)]
  rw[hres];simp[hne,h2,h1,bK,bV,RV.ev,gH,cK,jc,iR];exact vU _ 1
 by_cases h3:3000 < most
 ·have hres:lY b a most=(⟨0,[],[]⟩,1):=by rw[lY,if_neg (by omega)]
  rw[hres];simp[hne,h2,h1,h3,bK,bV,RV.ev,gH,cK,jc,iR];exact vU _ 1
 have hres:lY b a most=(match F3 (qW b a) most with | some st=>(⟨2*b.signs,st.2.1,st.2.2⟩,0) | none=>(⟨0,[],[]⟩,13)):=by rw[lY,if_pos ⟨hRb,Y2,hsg,by omega,by omega,by omega⟩];cases F3 (qW b a) most<;>rfl
 have hs1:=Rb.s1;obtain⟨n,hn2⟩:∃n:Nat,2*b.signs=(n:Int):=⟨(2*b.signs).toNat,by omega⟩;have Zj:IntKind.i64.wrap (2*b.signs)=(n:Int):=by rw[hn2];exact bI _ (by omega)
 have I:=Zvh Rb Ra hsg;have hb':=hb Rb Ra hsg;have aa2:(qW b a).sg=n:=by show(2*b.signs).toNat=n;omega
 have Y1:(qW b a).b=nX b a:=rfl;simp[hne,h2,h1,h3,jc,iR,FV];refine Jl.use (hn false [] (0,0) (.inr rfl) (by simp)) (id:=36) (il:=3) (km:=34) (by simp[nH,jO]) (by simp[kQ]) (by simp[iW]) (by simp) (by simp) ?_;have hn0:CF [] (0,0)=[(0,0)]:=rfl;simp[Gg,hn0,Zj,jc,iR,ZhO,ZhP];refine wG most.toNat (Zv1 b a most) (Jb most) 10 (Jc b a n) (([(0,0)],[],[]),false,false) ⟨rfl,fun m hm=>by omega⟩ ?_ ?_
 ·refine bR.of [(0,0),(1,1),(2,2),(3,36),(4,41),(5,34),(6,52)] [] (by omega) ⟨by simp,by simp⟩ ?_ ?_
  ·simp[Jc,xV,rQ,iV,nH,Dp,yD]
  ·simp[Jb,xU,cB]
 ·rintro i ⟨⟨ss,nx,fin⟩,oN,oE⟩ hi' ⟨heq,hmin⟩
  simp only at heq hmin;have ok:=Mj I (by omega) i heq;have hle:=ok.le;have hsl:=ok.ss.l;simp only at hle hsl;by_cases hlt:i < ss.length
  ·obtain⟨x,hx⟩:∃x,ss[i]? = some x:=⟨_,List.getElem?_eq_getElem hlt⟩
   have hxe:ss[i]=x:=by rw[List.getElem?_eq_getElem hlt] at hx;exact Option.some.inj hx
   have Tf:vM b a x:=ok.ss.v x (by rw[←hxe];exact List.getElem_mem hlt);have JZ:oW (qW b a) most (i+1)=yj (qW b a) most i (ss,nx,fin):=by simp only[oW,heq]
   have hax:AV.agg [.v (.int .i64 x.1),.v (.int .i64 x.2)]=cB x:=rfl;have vD:(i:Int) < (ss.length:Int):=by omega
   have hmk:8*(n:Int)≤281474976710656:=by omega
   have Nu:(n:Int)≤9223372036854775807:=by omega
   have abC:8*n≤281474976710656:=by omega
   have abD:n≤9223372036854775807:=by omega
   simp[Jb,xU,Jc,xV,nH,hlt,vD,hxe,ZhQ,jW,DW,hmk,Nu];refine wG n (Zv2 b a most n x ss) (F6 most n i) 11 (F7 b a n x nx fin oN oE) (ss,List.replicate n 0) ⟨rfl,by simp,fun j hj=>List.getElem?_eq_getElem hj⟩ ?_ ?_
   ·refine bR.of [(0,0),(1,1),(2,2),(3,3),(4,4),(5,5),(6,6),(7,7),(8,8),(9,24),(10,28)] [] (by omega) ⟨by simp,by simp⟩ ?_ ?_
    ·simp[F7,xV,rQ,iV,nH,Dp,AQ,yD,hax]
    ·simp[F6,xU]
   ·rintro k ⟨ss1,uq⟩ hk ⟨hrow,J3,hpre⟩
    simp only at hrow J3 hpre;have hsx:∀s,s < n→s < (qW b a).sg:=fun s hs=>by omega
    obtain⟨hok,hlen1,hrl⟩:=Xp (V:=vM b a) (n:=n) (fun s hs=>I.next x s Tf (hsx s hs)) ok.ss k hk hrow;simp only at hok hlen1 hrl;have hl1:=hok.l;have hi1:i < ss1.length:=by omega
    by_cases hkl:k < n
    ·have Ej:(k:Int) < (n:Int):=by omega
     have hxn:=hb' x k Tf (by omega);have hvb:=I.next x k Tf (hsx k hkl)
     have hcn:=hn true ss1 (nX b a x k) (.inl rfl) (by omega);rw[Y1] at hvb;generalize hto:nX b a x k=to at *;have hqq:((k / 2:Nat):Int)=(k:Int) / 2:=by omega
     have hq:IntKind.i64.wrap ((k:Int) / 2)=(k:Int) / 2:=by rw[←hqq];exact bI _ (by omega)
     have hand:=Zqo (k:=k) (by omega);rw[hqq] at hxn;simp[F6,xU,F7,xV,nH,Ej,hax,hq,hand];refine aQ.looks hxn (fC.cons (Zt3 (km:=5) (lv:=.own 4 0 ss1.length) (by simp[nH])) (fC.cons (.closed _ (yD x)) (fC.cons (.closed _ (aW _)) (fC.cons (.closed _ (dN _)) fC.nil)))) (ZoV _) ?_;simp;refine Jl.use hcn (id:=3) (il:=4) (km:=5) (by simp[nH,bZ]) (by simp[bE]) (by simp) (by simp) (by simp) ?_;have Bp:k < uq.length:=by omega
     have hrwn:n≤uq.length:=by omega
     by_cases hin:to∈ss1
     ·have hnl:CF ss1 to=ss1:=by rw[CF,if_pos hin]
      have SV:D8 ss1 to=(@List.idxOf _ instBEqOfDecidableEq to ss1:Int):=by rw[D8,if_pos hin]
      have hnf:zY most ss1 (nX b a x k)=some (ss1,(@List.idxOf _ instBEqOfDecidableEq to ss1:Int)):=by unfold zY;rw[hto,if_pos hin]
      have hle2:¬most < (ss1.length:Int):=by omega
      simp[Gg,hnl,SV,nH,jW,Ej,Bp,hrwn,hle2];rw[bI ((k:Int)+1) (by omega)];refine⟨hkl,(ss1,uq.set k (@List.idxOf _ instBEqOfDecidableEq to ss1:Int)),⟨by rw[ZdF _ _ _ Bp];simp only[wo,hrow,hnf],by simpa using J3,hpre⟩,bR.of [(0,0),(1,1),(2,2),(3,3),(4,28),(5,5),(6,6),(7,7),(8,8),(9,9),(10,10)] [] (by omega) ⟨by simp,by simp⟩ ?_ ?_⟩
      ·simp[F7,xV,rQ,iV,nH,Dp,AQ,yD,ZcX]
      ·simp[F6,xU]
     ·have hnl:CF ss1 to=ss1++[to]:=by rw[CF,if_neg hin]
      have SV:D8 ss1 to=(ss1.length:Int):=by rw[D8,if_neg hin]
      by_cases hfull:(ss1.length:Int)=most
      ·have hnf:zY most ss1 (nX b a x k)=none:=by unfold zY;rw[hto,if_neg hin,if_pos hfull]
       have hgt:most < (ss1.length:Int)+1:=by omega
       have hrn:wo most (nX b a x) n ss=none:=Zg1 (k:=k+1) (by simp only[wo,hrow,hnf]) _ (by omega)
       have hnone:F3 (qW b a) most=none:=by
        refine Zif (most.toNat+1) 0 rfl i (Nat.zero_le _) (by rw[JZ];simp only[yj,hx,aa2,Y1,hrn]) (fun m _ h2 oq uo=>?_);by_cases qN:m=i
        ·subst qN
         rw[heq] at uo;cases uo;simp only;omega
        ·exact hmin m (by omega) oq uo
       rw[hnone] at hres;simp only at hres;rw[hres];simp[Gg,hnl,SV,nH,jW,Ej,Bp,hrwn,hgt,bK,bV,RV.ev,gH,cK,jc,iR,rQ];exact vU _ 13
      ·have hnf:zY most ss1 (nX b a x k)=some (ss1++[to],(ss1.length:Int)):=by unfold zY;rw[hto,if_neg hin,if_neg hfull]
       have hgt:¬most < (ss1.length:Int)+1:=by omega
       simp[Gg,hnl,SV,nH,jW,Ej,Bp,hrwn,hgt];rw[bI ((k:Int)+1) (by omega)];refine⟨hkl,(ss1++[to],uq.set k ss1.length),⟨by rw[ZdF _ _ _ Bp];simp only[wo,hrow,hnf],by simpa using J3,fun a ha=>?_⟩,bR.of [(0,0),(1,1),(2,2),(3,3),(4,28),(5,5),(6,6),(7,7),(8,8),(9,9),(10,10)] [] (by omega) ⟨by simp,by simp⟩ ?_ ?_⟩
       ·have:=hpre a ha
        have hal:=(List.getElem?_eq_some_iff.mp this).1;simp only;rw[List.getElem?_append_left hal];exact this
       ·simp[F7,xV,rQ,iV,nH,Dp,AQ,yD,ZcX]
       ·simp[F6,xU]
    ·have hke:k=n:=by omega
     subst hke;have hrt:uq.take k=uq:=by rw[←J3,List.take_length]
     rw[hrt] at hrow;have hnx:=ok.nx;have hfn:=ok.en;simp only at hnx hfn;have Ta:dF 24 nx.length 1:=by unfold dF;omega
     have S9:dF 1 fin.length 1:=by unfold dF;omega
     have hsr:yj (qW b a) most i (ss,nx,fin)=some (ss1,nx++[uq],fin++[wh a x]):=by simp only[yj,hx,aa2,Y1,hrow];rfl
     obtain⟨v0,v1,v2,v3,v4,v5⟩:=Tf;by_cases h2x:x.1=2
     ·have hme:wh a x=jy a x.2.toNat:=by simp[wh,h2x]
      have haf:=Ra.fin;have Tc:x.2 < (a.fin.length:Int):=by have:=v4 h2x;omega
      obtain⟨hfi,JY⟩:=ZpG (d:=a) x.2.toNat;simp[F6,xU,F7,xV,nH,V8,Ta,S9,h2x,v2,Tc,JY];refine⟨by rintro j (⟨_,rfl⟩ | rfl)<;>simp,by rintro j (⟨_,rfl⟩ | rfl)<;>simp,?_⟩;rw[bI ((i:Int)+1) (by omega)];refine⟨by omega,((ss1,nx++[uq],fin++[wh a x]),true,true),⟨by rw[JZ,hsr],fun m hm oq uo=>?_⟩,bR.of [(0,0),(1,1),(2,2),(3,3),(4,4),(5,5),(6,6),(7,16),(8,31)] [10] (by omega) ⟨by simp,by simp⟩ ?_ ?_⟩
      ·by_cases qN:m=i
       ·subst qN
        rw[heq] at uo;cases uo;simp only;omega
       ·exact hmin m (by omega) oq uo
      ·simp[Jc,xV,rQ,iV,nH,Dp,AQ,hme,J3]
      ·simp[Jb,xU]
     ·have hme:wh a x=false:=by simp[wh,h2x]
      have aav:(x.1 == 2)=false:=by simp[h2x]
      simp[F6,xU,F7,xV,nH,V8,Ta,S9,aav];refine⟨by rintro j (⟨_,rfl⟩ | rfl)<;>simp,by rintro j (⟨_,rfl⟩ | rfl)<;>simp,?_⟩;rw[bI ((i:Int)+1) (by omega)];refine⟨by omega,((ss1,nx++[uq],fin++[wh a x]),true,true),⟨by rw[JZ,hsr],fun m hm oq uo=>?_⟩,bR.of [(0,0),(1,1),(2,2),(3,3),(4,4),(5,5),(6,6),(7,16),(8,31)] [10] (by omega) ⟨by simp,by simp⟩ ?_ ?_⟩
      ·by_cases qN:m=i
       ·subst qN
        rw[heq] at uo;cases uo;simp only;omega
       ·exact hmin m (by omega) oq uo
      ·simp[Jc,xV,rQ,iV,nH,Dp,AQ,hme,J3]
      ·simp[Jb,xU]
  ·have hie:i=ss.length:=by omega
   subst hie;have CR:F3 (qW b a) most=some (ss,nx,fin):=ZlC I (by omega) (most.toNat+1) 0 rfl (by omega) ss.length (ss,nx,fin) (Nat.zero_le _) heq rfl (fun m _ h2=>hmin m h2);rw[CR] at hres;simp only at hres;rw[hres,hn2];simp[Jb,xU,Jc,xV,nH,jW,bK,bV,RV.ev,gH,cK,rQ];refine .H8 (.cons (.K6 (.cons (.closed _ (.v _)) (.cons (Bb ?_ (jw _)) (.cons (Bb ?_ (lu _)) .nil)))) (.cons (.closed _ (.v _)) .nil))
   ·simp
   ·simp
end Go.Rf
