/- How the arguments of layers 18 and 19 look: pairs of lists. -/
import Derived.Test.YteaimnemobnknaaF1
import Derived.Deep.Slices
set_option maxRecDepth 100000
set_option linter.unusedSimpArgs false
set_option linter.unusedVariables false
namespace Go.Proofs.Yteaimnemobnknaa
open Go.ChangeShapes Go.WideShapes Go.ChangeAt Go.RowKit
theorem weights_all{H:Type}{P:Program}{e:TypeId}:∀{l:List (DataW H)} {d:DataW H},d∈l->∀n∈d.weights P e,n∈DataW.weightsAll P e l
 |d'::r,d,hd,n,hn=>by
   simp only[DataW.weightsAll,List.mem_append]
   rcases List.mem_cons.1 hd with rfl|h
   ·exact Or.inl hn
   ·exact Or.inr (weights_all h n hn)
theorem reach8{k:Nat}(h:k*8<=reachBytes):k<=1125899906842624:=by
 unfold reachBytes at h;omega
theorem cells_ints:Try.prog.cellsOf 43=1:=by kernel_rfl
theorem cells_twoInts:Try.prog.cellsOf 53=2:=by kernel_rfl
theorem row_ints{H:Type}{enc:TypeId×Value->H}{W:World}{fuel:Nat}{cs:List Value}{x:DataW H×List MemPlace}(hf:DataW.trod enc Try.prog W 0 (λ_=>true) true fuel 43 cs=some x):∃A n c f,cs=[.slice A n c]/\IntsAt W A n f/\Rng f/\(n=0\/∃k,n<=k/\k*8∈x.1.weights Try.prog 43):=by
 rcases open_ints Try.underlying43 Try.underlying3 cells_int hf with⟨hcs,hx⟩|⟨a,len',cap',zs,hcs,_,hl,hm,hz,hx,hcell,hwz⟩
 ·exact⟨_,_,_,λ_=>0,hcs,IntsAt.nil _ _ _,λ_=>zero_rng,.inl rfl⟩
 ·subst hx
  simp only[if_true] at hz
  refine⟨_,_,_,λi=>zs.getD i 0,hcs,?_,rng_zs hwz,.inr ⟨zs.length,by omega,?_⟩⟩
  ·intro i hi
   obtain⟨b,off,spot⟩:=a
   have hspot:spot=none:=by simpa[Addr.add] using World.cell?_spot (hcell 0 (by omega))
   subst hspot
   refine⟨b,off,rfl,?_⟩
   have:=hcell i (by omega)
   rwa [add_plain] at this
  ·have e:(lits .i64 (zs.take len'):List (DataW H)).length+(lits .i64 (zs.drop len'):List (DataW H)).length=zs.length:=by
     simp only[lits,List.length_map,List.length_take,List.length_drop];omega
   simp only[DataW.weights,Try.underlying43,e,bytes_int,List.mem_cons,true_or]
theorem shape_pair{H:Type}{enc:TypeId×Value->H}{W:World}{base:Nat}{v:Value}{d:DataW H}{p:List MemPlace}{ts:List TypeId}{ds:List (DataW H)}{j:Nat}(hval:Value.okWide Try.prog W .any base 53 v)(h:DataW.Trod enc Try.prog W 0 (λ_=>true) true 53 v d p)(hsz:(DataW.weightsEach Try.prog ts ds).all (·<=reachBytes)=true)(ht:ts[j]?=some 53)(hd:ds[j]?=some d):
  ∃A n c f B m e g,v=.agg #[.slice A n c,.slice B m e]/\IntsAt W A n f/\n<=1125899906842624/\Rng f/\IntsAt W B m g/\m<=1125899906842624/\Rng g:=by
 obtain⟨cs,rfl,hsize,_⟩:∃cs,v=.agg cs/\cs.size=Try.prog.cellsOf 53/\Row.okWide Try.prog W .any base 53 cs:=by
  simpa[Value.okWide,Try.underlying53] using hval
 rw[cells_twoInts] at hsize
 obtain⟨l⟩:=cs
 obtain⟨u0,u1,rfl⟩:∃a b,l=[a,b]:=by
  match l,hsize with
  |[a,b],_=>exact⟨a,b,rfl⟩
 obtain⟨fuel,hf⟩:=h
 obtain⟨xs,m,rfl,hx,_,hn,hel⟩:=DataW.trod_array Try.underlying53 hf
 have h0:=hel 0 (by omega)
 have h1:=hel 1 (by omega)
 rw[cells_ints] at h0 h1
 simp only[Value.cells] at h0 h1
 obtain⟨y0,y1,rfl⟩:∃a b,xs=[a,b]:=by
  match xs,hn with
  |[a,b],_=>exact⟨a,b,rfl⟩
 obtain⟨A,n,c,f,e0,hA,hR,hw⟩:=row_ints h0
 obtain⟨B,m',e,g,e1,hB,hS,hw'⟩:=row_ints h1
 simp at e0 e1
 subst e0 e1
 simp only[Prod.mk.injEq] at hx
 obtain⟨rfl,rfl⟩:=hx
 have far:∀y∈[y0,y1],∀k,k*8∈y.1.weights Try.prog 43->k<=1125899906842624:=by
  intro y hy k hk
  refine reach8 (of_decide_eq_true (List.all_eq_true.1 hsz _ (DataW.weights_mem_each ht hd _ ?_)))
  simp only[DataW.weights,Try.underlying53]
  exact weights_all (List.mem_map.2 ⟨y,hy,rfl⟩) _ hk
 refine⟨A,n,c,f,B,m',e,g,rfl,hA,?_,hR,hB,?_,hS⟩
 ·rcases hw with h|⟨k,hk,hm⟩
  ·omega
  ·have:=far y0 (by simp) k hm;omega
 ·rcases hw' with h|⟨k,hk,hm⟩
  ·omega
  ·have:=far y1 (by simp) k hm;omega
end Go.Proofs.Yteaimnemobnknaa
