/- How an argument of layer 21 looks: pairs of 64 bits. -/
import Derived.Test.YtfedabinindpbaaGreatMF1
import Derived.Deep.Slices
set_option maxRecDepth 100000
set_option linter.unusedSimpArgs false
set_option linter.unusedVariables false
namespace Go.Proofs.YtfedabinindpbaaGreat
open Go.ChangeShapes Go.WideShapes Go.ChangeAt Go.RowKit
def BitsAt(w:World)(A:Option Addr)(n:Nat)(f:Nat->Int×Int):Prop:=∀i,i<n->∃b o,A=some ⟨b,o,none⟩/\w.cell? ⟨b,o+i*2,none⟩=some (.int .i64 (f i).1)/\w.cell? ⟨b,o+i*2+1,none⟩=some (.int .i64 (f i).2)
theorem BitsAt.keep{W w1:World}{A:Option Addr}{n:Nat}{f:Nat->Int×Int}(hb:Below W.heap.size W w1)(h:BitsAt W A n f):BitsAt w1 A n f:=λi hi=>by
 obtain⟨b,o,e,h1,h2⟩:=h i hi
 exact⟨b,o,e,keep_cell hb h1,keep_cell hb h2⟩
theorem cells_two64:Tryz.prog.cellsOf 25=2:=by kernel_rfl
theorem trod_two64{H:Type}{enc:TypeId×Value->H}{W:World}{base n:Nat}{sp:Nat->Bool}{hd:Bool}{cs:List Value}{x:DataW H×List MemPlace}(hl:cs.length=2)(h:DataW.trod enc Tryz.prog W base sp hd n 25 cs=some x):∃a b:Int,cs=[.int .i64 a,.int .i64 b]:=by
 obtain⟨c0,c1,rfl⟩:∃a b,cs=[a,b]:=by
  match cs,hl with
  |[a,b],_=>exact⟨a,b,rfl⟩
 obtain⟨xs,m,rfl,hx,_,hn,hel⟩:=DataW.trod_array Tryz.underlying25 h
 have h0:=hel 0 (by omega)
 have h1:=hel 1 (by omega)
 rw[cells_int64] at h0 h1
 obtain⟨y0,y1,rfl⟩:∃a b,xs=[a,b]:=by
  match xs,hn with
  |[a,b],_=>exact⟨a,b,rfl⟩
 obtain⟨x0,e0,_,_⟩:=DataW.trod_int Tryz.underlying2 h0
 obtain⟨x1,e1,_,_⟩:=DataW.trod_int Tryz.underlying2 h1
 simp at e0 e1
 subst e0 e1
 exact⟨x0,x1,rfl⟩
theorem shape_bits{H:Type}{enc:TypeId×Value->H}{W:World}{base:Nat}{v:Value}{d:DataW H}{p:List MemPlace}(hval:Value.okWide Tryz.prog W .any base 22 v)(h:DataW.Trod enc Tryz.prog W 0 (λ_=>true) true 22 v d p):∃A n c f,v=.slice A n c/\BitsAt W A n f/\n<=9223372036854775807/\(A=none->c=0)/\n<=c/\c<=9223372036854775807:=by
 obtain⟨a0,len,cap,rfl⟩:=okWide_slice Tryz.underlying22 hval
 obtain⟨fuel,hf⟩:=h
 rcases Deep.open_slice Tryz.underlying22 hf with⟨hcs,hx⟩|⟨a,len',cap',m,n,D,Pl,hcs,_,hl,hm,hmm,hx,hel⟩
 ·simp[Value.cells] at hcs
  obtain⟨rfl,rfl,rfl⟩:=hcs
  exact⟨_,_,_,λ_=>(0,0),rfl,λi hi=>by omega,by omega,λ_=>rfl,by omega,by omega⟩
 ·simp[Value.cells] at hcs
  obtain⟨rfl,rfl,rfl⟩:=hcs
  have hlm:len<=m:=by rw[hmm];split<;>omega
  have each:∀i,i<len->∃q:Int×Int,W.cell? (a.add (i*2))=some (.int .i64 q.1)/\W.cell? (a.add (i*2+1))=some (.int .i64 q.2):=by
   intro i hi
   obtain⟨cs',h1,h2⟩:=hel i (by omega)
   rw[cells_two64] at h1
   obtain⟨_,hlen,hcell⟩:=World.cells?_some h1
   obtain⟨x,y,rfl⟩:=trod_two64 hlen h2
   have e0:=hcell 0 (by omega)
   have e1:=hcell 1 (by omega)
   rw[Deep.add_add] at e0 e1
   exact⟨(x,y),by simpa using e0,by simpa using e1⟩
  obtain⟨q,hq⟩:=Deep.choose_lt each
  refine⟨_,_,_,q,rfl,?_,by unfold maxLen at hm;omega,(λe=>by cases e),by omega,by unfold maxLen at hm;omega⟩
  intro i hi
  obtain⟨b,off,spot⟩:=a
  have hspot:spot=none:=by simpa[Addr.add] using World.cell?_spot (hq 0 (by omega)).1
  subst hspot
  refine⟨b,off,rfl,?_⟩
  have:=hq i hi
  rw[add_plain,add_plain] at this
  exact this
end Go.Proofs.YtfedabinindpbaaGreat
