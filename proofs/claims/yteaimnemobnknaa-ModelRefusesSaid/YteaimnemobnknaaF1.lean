/- How the arguments of layers 18 and 19 look: lists of integers. -/
import Derived.Test.YteaimnemobnknaaMD2
import Derived.ProofKit
import Derived.OpenShut
import Derived.SizedLaws
set_option maxRecDepth 100000
set_option linter.unusedSimpArgs false
set_option linter.unusedVariables false
namespace Go.Proofs.Yteaimnemobnknaa
open Go.ChangeShapes Go.WideShapes Go.ChangeAt Go.RowKit
theorem cells_int:Try.prog.cellsOf 3=1:=by kernel_rfl
theorem bytes_int:Try.prog.bytesOf 3=8:=by kernel_rfl
theorem cells_int64:Try.prog.cellsOf 2=1:=by kernel_rfl
theorem bytes_int64:Try.prog.bytesOf 2=8:=by kernel_rfl
def dlen{H:Type}:DataW H->Nat
 |.slice xs ys=>xs.length+ys.length
 |_=>0
theorem wf_rng{x:Int}(hx:(Lit.int .i64 x).wf=true):-9223372036854775808<=x/\x<=9223372036854775807:=by
 have m1:IntKind.i64.min=-9223372036854775808:=rfl
 have m2:IntKind.i64.max=9223372036854775807:=rfl
 simp only[Lit.wf,Bool.and_eq_true,decide_eq_true_eq] at hx
 omega
theorem zero_rng:(-9223372036854775808:Int)<=0/\(0:Int)<=9223372036854775807:=⟨by decide,by decide⟩
theorem rng_zs{zs:List Int}(h:∀n∈zs,(Lit.int .i64 n).wf=true):Rng (λi=>zs.getD i 0):=λi=>by
 show _<=zs.getD i 0/\zs.getD i 0<=_
 rw[List.getD_eq_getElem?_getD]
 rcases hz:zs[i]? with _|x
 ·exact⟨by decide,by decide⟩
 ·exact wf_rng (h x (List.mem_of_getElem? hz))
theorem shape_ints{H:Type}{enc:TypeId×Value->H}{W:World}{base:Nat}{v:Value}{d:DataW H}{p:List MemPlace}(hval:Value.okWide Try.prog W .any base 43 v)(h:DataW.Trod enc Try.prog W 0 (λ_=>true) true 43 v d p):∃A n c f,v=.slice A n c/\IntsAt W A n f/\n<=dlen d/\Rng f:=by
 obtain⟨a0,len,cap,rfl⟩:=okWide_slice Try.underlying43 hval
 obtain⟨fuel,hf⟩:=h
 rcases open_ints Try.underlying43 Try.underlying3 cells_int hf with⟨hcs,hx⟩|⟨a,len',cap',zs,hcs,_,hl,hm,hz,hx,hcell,hwz⟩
 ·simp[Value.cells] at hcs
  obtain⟨rfl,rfl,rfl⟩:=hcs
  exact⟨_,_,_,λ_=>0,rfl,IntsAt.nil _ _ _,by omega,λ_=>zero_rng⟩
 ·simp[Value.cells] at hcs
  obtain⟨rfl,rfl,rfl⟩:=hcs
  simp only[Prod.mk.injEq] at hx
  obtain⟨rfl,rfl⟩:=hx
  simp only[if_true] at hz
  refine⟨_,_,_,λi=>zs.getD i 0,rfl,?_,?_,rng_zs hwz⟩
  ·intro i hi
   obtain⟨b,off,spot⟩:=a
   have hspot:spot=none:=by simpa[Addr.add] using World.cell?_spot (hcell 0 (by omega))
   subst hspot
   refine⟨b,off,rfl,?_⟩
   have:=hcell i (by omega)
   rwa [add_plain] at this
  ·simp only[dlen,lits,List.length_map,List.length_take,List.length_drop]
   omega
theorem sized_ints{H:Type}{enc:TypeId×Value->H}{W:World}{A:Option Addr}{n c:Nat}{d:DataW H}{p:List MemPlace}{ts:List TypeId}{ds:List (DataW H)}{j:Nat}(h:DataW.Trod enc Try.prog W 0 (λ_=>true) true 43 (.slice A n c) d p)(hsz:(DataW.weightsEach Try.prog ts ds).all (·<=reachBytes)=true)(ht:ts[j]?=some 43)(hd:ds[j]?=some d)(hn:n<=dlen d):n<=1125899906842624:=by
 obtain⟨fuel,hf⟩:=h
 rcases open_ints Try.underlying43 Try.underlying3 cells_int hf with⟨hcs,hx⟩|⟨a,len',cap',zs,hcs,_,hl,hm,hz,hx,hcell,hwz⟩
 ·simp[Value.cells] at hcs
  omega
 ·simp[Value.cells] at hcs
  obtain⟨rfl,rfl,rfl⟩:=hcs
  simp only[Prod.mk.injEq] at hx
  obtain⟨rfl,rfl⟩:=hx
  have:=sized_slice hsz (j:=j) (t:=43) (e:=3) ht hd Try.underlying43
  rw[bytes_int] at this
  simp only[dlen,lits,List.length_map,List.length_take,List.length_drop,reachBytes] at this hn
  omega
theorem shape_longs{H:Type}{enc:TypeId×Value->H}{W:World}{base:Nat}{v:Value}{d:DataW H}{p:List MemPlace}(hval:Value.okWide Try.prog W .any base 38 v)(h:DataW.Trod enc Try.prog W 0 (λ_=>true) true 38 v d p):∃A n c f,v=.slice A n c/\IntsAt W A n f/\n<=dlen d/\Rng f:=by
 obtain⟨a0,len,cap,rfl⟩:=okWide_slice Try.underlying38 hval
 obtain⟨fuel,hf⟩:=h
 rcases open_ints Try.underlying38 Try.underlying2 cells_int64 hf with⟨hcs,hx⟩|⟨a,len',cap',zs,hcs,_,hl,hm,hz,hx,hcell,hwz⟩
 ·simp[Value.cells] at hcs
  obtain⟨rfl,rfl,rfl⟩:=hcs
  exact⟨_,_,_,λ_=>0,rfl,IntsAt.nil _ _ _,by omega,λ_=>zero_rng⟩
 ·simp[Value.cells] at hcs
  obtain⟨rfl,rfl,rfl⟩:=hcs
  simp only[Prod.mk.injEq] at hx
  obtain⟨rfl,rfl⟩:=hx
  simp only[if_true] at hz
  refine⟨_,_,_,λi=>zs.getD i 0,rfl,?_,?_,rng_zs hwz⟩
  ·intro i hi
   obtain⟨b,off,spot⟩:=a
   have hspot:spot=none:=by simpa[Addr.add] using World.cell?_spot (hcell 0 (by omega))
   subst hspot
   refine⟨b,off,rfl,?_⟩
   have:=hcell i (by omega)
   rwa [add_plain] at this
  ·simp only[dlen,lits,List.length_map,List.length_take,List.length_drop]
   omega
theorem sized_longs{H:Type}{enc:TypeId×Value->H}{W:World}{A:Option Addr}{n c:Nat}{d:DataW H}{p:List MemPlace}{ts:List TypeId}{ds:List (DataW H)}{j:Nat}(h:DataW.Trod enc Try.prog W 0 (λ_=>true) true 38 (.slice A n c) d p)(hsz:(DataW.weightsEach Try.prog ts ds).all (·<=reachBytes)=true)(ht:ts[j]?=some 38)(hd:ds[j]?=some d)(hn:n<=dlen d):n<=1125899906842624:=by
 obtain⟨fuel,hf⟩:=h
 rcases open_ints Try.underlying38 Try.underlying2 cells_int64 hf with⟨hcs,hx⟩|⟨a,len',cap',zs,hcs,_,hl,hm,hz,hx,hcell,hwz⟩
 ·simp[Value.cells] at hcs
  omega
 ·simp[Value.cells] at hcs
  obtain⟨rfl,rfl,rfl⟩:=hcs
  simp only[Prod.mk.injEq] at hx
  obtain⟨rfl,rfl⟩:=hx
  have:=sized_slice hsz (j:=j) (t:=38) (e:=2) ht hd Try.underlying38
  rw[bytes_int64] at this
  simp only[dlen,lits,List.length_map,List.length_take,List.length_drop,reachBytes] at this hn
  omega
end Go.Proofs.Yteaimnemobnknaa
