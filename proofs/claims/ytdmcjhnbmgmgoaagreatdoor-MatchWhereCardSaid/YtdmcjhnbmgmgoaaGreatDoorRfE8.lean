import Derived.Test.YtdmcjhnbmgmgoaaGreatDoorRfE7
set_option linter.unusedVariables false
set_option linter.unusedSimpArgs false
set_option linter.unusedSectionVars false
namespace Go.Rf
open Go.RowKit
def PS(P52 KY:FuncId):AC:= (sq [ro 2 (.box 4 (.t 0)),ro 4 (.alloc (.agg [(.v (.int .i64 0)),(.sl true []),(.sl true [])]) 3),ro 5 (.mv (ci 0))] (sq [ro 6 (.load (some 4) (.t 2)),rm 7 1,rk 8 P52 [(.t 6),(.t 7),(.c (.aP KY [] []))],ro 9 (.ext 0 (.t 8)),ro 10 (.ext 1 (.t 8)),rn (.store 3 (.t 4) (.t 9)),rm 5 10] .ret))
theorem Ak.pure{P:Program}{f:FuncId}{args:List AV}{r:AV}(h:Ak P f args r)(ha:∀x∈args,aY x)(hr:aY r):aJ P f args r:=
 .xC (aN.U5 h (fun _=>none) (fun _ _ e=>by cases e) rfl (fun j h1 h2=>.closed _ (ha _ (List.getElem_mem h1))) hr (.closed _ hr))
theorem ZgI(d:aC):aY (aR d):=.agg _ (by
 intro y hy;simp only[List.mem_cons,List.not_mem_nil,or_false] at hy;rcases hy with rfl | rfl | rfl
 ·exact aW _
 ·exact jR _
 ·exact .sl _ _ (by intro y hy;obtain⟨b,_,rfl⟩:=List.mem_map.mp hy;exact dY _))
def lK(kd:Kd)(n:Net)(most:Int):aC×Int:=
 if qC n=true∧1≤most∧most≤3000 then (match y8 kd n most with
  | some st=>(⟨n.signs,st.2.1,st.2.2⟩,0)
  | none=>(⟨0,[],[]⟩,13))
 else (⟨0,[],[]⟩,1)
def jQ(p:aC×Int):AV:=.aO [aR p.1,ah p.2]
theorem Zlm(kd:Kd)(n:Net)(most:Int):CO kd n most=jQ (lK kd n most):=by
 unfold CO lK;split
 ·cases y8 kd n most<;>rfl
 ·rfl
theorem Bn(p:aC×Int):aY (jQ p):=.aO _ (by
 intro y hy;simp only[List.mem_cons,List.not_mem_nil,or_false] at hy;rcases hy with rfl | rfl
 ·exact ZgI _
 ·exact aW _)
theorem Z99{P:Program}{f1 fb:FuncId}{n:Net}{most:Int}{p:aC×Int}(h:aJ P f1 [jA n,ah most,.aP fb [] []] (jQ p)):AW P (PS f1 fb) (bL [.c 4 (some 3),.t 5] (dM (jQ p))) (bF [jA n,ah most]) S0:=by
 have ec:(jA n).cells=[ah n.signs,aU n.au,aU n.follow,aj n.last]:=rfl;have es:(jA n).solid=true:=rfl;simp only[AV.solid] at es;simp[mh,lW,eG,eT,eU,fU,fQ,eO,ex,aH,dF,eY,cK,dn,aL,bT,fu,bD,bX,bB,AV.solid,S0,ah,PS,ec,es];refine aN.pure h (aG (Cm n) (aG (aW _) (aG (.aP _ _ _ aQ aQ) aQ))) (Bn p) ?_;simp[l9,eG,eT,eU,fE,eO,ex,aH,fF,dF,aL,eZ,bS,dL,eX,bB,AV.solid,ah,jQ,aR,bL,bP,RV.ev,eF,bV];exact .closed _ (Bn p)
end Go.Rf
