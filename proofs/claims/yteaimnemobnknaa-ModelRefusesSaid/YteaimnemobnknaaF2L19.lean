/- How the arguments of layers 18 and 19 look: lists of nodes. -/
import Derived.Test.YteaimnemobnknaaF3
import Derived.Test.YteaimnemobnknaaD5L19
import Derived.Deep.Slices
set_option maxRecDepth 100000
set_option linter.unusedSimpArgs false
set_option linter.unusedVariables false
namespace Go.Proofs.Yteaimnemobnknaa
open Go.ChangeShapes Go.WideShapes Go.ChangeAt Go.RowKit
theorem cells_node:Try.prog.cellsOf 105=4:=by kernel_rfl
theorem bytes_node:Try.prog.bytesOf 105=32:=by kernel_rfl
theorem trod_node{H:Type}{enc:TypeId×Value->H}{W:World}{base n:Nat}{sp:Nat->Bool}{hd:Bool}{cs:List Value}{x:DataW H×List MemPlace}(hl:cs.length=4)(h:DataW.trod enc Try.prog W base sp hd n 105 cs=some x):∃q:Nat->Int,cs=[.int .i64 (q 0),.int .i64 (q 1),.int .i64 (q 2),.int .i64 (q 3)]:=by
 obtain⟨c0,c1,c2,c3,rfl⟩:∃a b c d,cs=[a,b,c,d]:=by
  match cs,hl with
  |[a,b,c,d],_=>exact⟨a,b,c,d,rfl⟩
 obtain⟨xs,m,rfl,hx,_,hn,hel⟩:=DataW.trod_struct Try.underlying105 h
 have h0:DataW.trod enc Try.prog W base sp hd m 3 ((List.drop 0 [c0,c1,c2,c3]).take (Try.prog.cellsOf 3))=xs[0]?:=hel 0 _ rfl
 have h1:DataW.trod enc Try.prog W base sp hd m 3 ((List.drop 1 [c0,c1,c2,c3]).take (Try.prog.cellsOf 3))=xs[1]?:=hel 1 _ rfl
 have h2:DataW.trod enc Try.prog W base sp hd m 3 ((List.drop 2 [c0,c1,c2,c3]).take (Try.prog.cellsOf 3))=xs[2]?:=hel 2 _ rfl
 have h3:DataW.trod enc Try.prog W base sp hd m 3 ((List.drop 3 [c0,c1,c2,c3]).take (Try.prog.cellsOf 3))=xs[3]?:=hel 3 _ rfl
 rw[cells_int] at h0 h1 h2 h3
 obtain⟨y0,y1,y2,y3,rfl⟩:∃a b c d,xs=[a,b,c,d]:=by
  match xs,hn with
  |[a,b,c,d],_=>exact⟨a,b,c,d,rfl⟩
 obtain⟨x0,e0,_,_⟩:=DataW.trod_int Try.underlying3 h0
 obtain⟨x1,e1,_,_⟩:=DataW.trod_int Try.underlying3 h1
 obtain⟨x2,e2,_,_⟩:=DataW.trod_int Try.underlying3 h2
 obtain⟨x3,e3,_,_⟩:=DataW.trod_int Try.underlying3 h3
 simp at e0 e1 e2 e3
 subst e0 e1 e2 e3
 exact⟨λi=>if i=0 then x0 else if i=1 then x1 else if i=2 then x2 else x3,rfl⟩
theorem shape_nodes{H:Type}{enc:TypeId×Value->H}{W:World}{base:Nat}{v:Value}{d:DataW H}{p:List MemPlace}{ts:List TypeId}{ds:List (DataW H)}{j:Nat}(hval:Value.okWide Try.prog W .any base 65 v)(h:DataW.Trod enc Try.prog W 0 (λ_=>true) true 65 v d p)(hsz:(DataW.weightsEach Try.prog ts ds).all (·<=reachBytes)=true)(ht:ts[j]?=some 65)(hd:ds[j]?=some d):
  ∃A n c f,v=.slice A n c/\NodesAt W A n f/\n<=1125899906842624:=by
 obtain⟨a0,len,cap,rfl⟩:=okWide_slice Try.underlying65 hval
 obtain⟨fuel,hf⟩:=h
 rcases Deep.open_slice Try.underlying65 hf with⟨hcs,hx⟩|⟨a,len',cap',m,n,D,Pl,hcs,_,hl,hm,hmm,hx,hel⟩
 ·simp[Value.cells] at hcs
  obtain⟨rfl,rfl,rfl⟩:=hcs
  exact⟨_,_,_,λ_ _=>0,rfl,λi hi=>by omega,by omega⟩
 ·simp[Value.cells] at hcs
  obtain⟨rfl,rfl,rfl⟩:=hcs
  have hlm:len<=m:=by rw[hmm];split<;>omega
  have each:∀i,i<len->∃q:Nat->Int,W.cell? (a.add (i*4))=some (.int .i64 (q 0))/\W.cell? (a.add (i*4+1))=some (.int .i64 (q 1))/\W.cell? (a.add (i*4+2))=some (.int .i64 (q 2))/\W.cell? (a.add (i*4+3))=some (.int .i64 (q 3)):=by
   intro i hi
   obtain⟨cs',h1,h2⟩:=hel i (by omega)
   rw[cells_node] at h1
   obtain⟨_,hlen,hcell⟩:=World.cells?_some h1
   obtain⟨q,rfl⟩:=trod_node hlen h2
   have e0:=hcell 0 (by omega)
   have e1:=hcell 1 (by omega)
   have e2:=hcell 2 (by omega)
   have e3:=hcell 3 (by omega)
   rw[Deep.add_add] at e0 e1 e2 e3
   exact⟨q,by simpa using e0,by simpa using e1,by simpa using e2,by simpa using e3⟩
  obtain⟨q,hq⟩:=Deep.choose_lt each
  refine⟨_,_,_,q,rfl,?_,?_⟩
  ·intro i hi
   obtain⟨b,off,spot⟩:=a
   have hspot:spot=none:=by simpa[Addr.add] using World.cell?_spot (hq 0 (by omega)).1
   subst hspot
   refine⟨b,off,rfl,?_⟩
   have:=hq i hi
   rw[add_plain,add_plain,add_plain,add_plain] at this
   exact this
  ·simp only[Prod.mk.injEq] at hx
   obtain⟨rfl,rfl⟩:=hx
   have:=sized_slice hsz (j:=j) (t:=65) (e:=105) ht hd Try.underlying65
   rw[bytes_node] at this
   simp only[List.length_map,List.length_range,reachBytes] at this
   omega
end Go.Proofs.Yteaimnemobnknaa
