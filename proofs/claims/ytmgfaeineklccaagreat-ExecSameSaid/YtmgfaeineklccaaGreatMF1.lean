/- How the arguments of layers 18 and 19 look: lists of integers. -/
import Derived.Test.YtmgfaeineklccaaGreatMV1
import Derived.ProofKit
import Derived.OpenShut
import Derived.SizedLaws
import Derived.Deep.Slices
set_option maxRecDepth 100000
set_option linter.unusedSimpArgs false
set_option linter.unusedVariables false
namespace Go.Proofs.YtmgfaeineklccaaGreat
open Go.ChangeShapes Go.WideShapes Go.ChangeAt Go.RowKit
def Rng (f:Nat->Int):Prop:=∀i,-9223372036854775808<=f i/\f i<=9223372036854775807
theorem cells_int:Tryz.prog.cellsOf 3=1:=by kernel_rfl
theorem bytes_int:Tryz.prog.bytesOf 3=8:=by kernel_rfl
theorem cells_int64:Tryz.prog.cellsOf 2=1:=by kernel_rfl
theorem bytes_int64:Tryz.prog.bytesOf 2=8:=by kernel_rfl
def dlen {H:Type}:DataW H->Nat
 |.slice xs ys=>xs.length+ys.length
 |_=>0
theorem wf_rng {x:Int} (hx:(Lit.int .i64 x).wf=true):-9223372036854775808<=x/\x<=9223372036854775807:=by
 have m1:IntKind.i64.min=-9223372036854775808:=rfl
 have m2:IntKind.i64.max=9223372036854775807:=rfl
 simp only[Lit.wf,Bool.and_eq_true,decide_eq_true_eq] at hx
 omega
theorem zero_rng:(-9223372036854775808:Int)<=0/\(0:Int)<=9223372036854775807:=⟨by decide,by decide⟩
theorem rng_zs {zs:List Int} (h:∀n∈zs,(Lit.int .i64 n).wf=true):Rng (fun i=>zs.getD i 0):=fun i=>by
 show _<=zs.getD i 0/\zs.getD i 0<=_
 rw[List.getD_eq_getElem?_getD]
 rcases hz:zs[i]? with _|x
 ·exact⟨by decide,by decide⟩
 ·exact wf_rng (h x (List.mem_of_getElem? hz))
theorem shape_ints {H:Type} {enc:TypeId×Value->H} {W:World} {base:Nat} {v:Value} {d:DataW H} {p:List MemPlace} (hval:Value.okWide Tryz.prog W .any base 23 v)
  (h:DataW.Trod enc Tryz.prog W 0 (fun _=>true) true 23 v d p):∃A n c f,v=.slice A n c/\IntsAt W A n f/\n<=dlen d/\Rng f:=by
 obtain⟨a0,len,cap,rfl⟩:=okWide_slice Tryz.underlying23 hval
 obtain⟨fuel,hf⟩:=h
 rcases open_ints Tryz.underlying23 Tryz.underlying3 cells_int hf with⟨hcs,hx⟩|⟨a,len',cap',zs,hcs,_,hl,hm,hz,hx,hcell,hwz⟩
 ·simp[Value.cells] at hcs
  obtain⟨rfl,rfl,rfl⟩:=hcs
  exact⟨_,_,_,fun _=>0,rfl,IntsAt.nil _ _ _,by omega,fun _=>zero_rng⟩
 ·simp[Value.cells] at hcs
  obtain⟨rfl,rfl,rfl⟩:=hcs
  simp only[Prod.mk.injEq] at hx
  obtain⟨rfl,rfl⟩:=hx
  simp only[if_true] at hz
  refine⟨_,_,_,fun i=>zs.getD i 0,rfl,?_,?_,rng_zs hwz⟩
  ·intro i hi
   obtain⟨b,off,spot⟩:=a
   have hspot:spot=none:=by simpa[Addr.add] using World.cell?_spot (hcell 0 (by omega))
   subst hspot
   refine⟨b,off,rfl,?_⟩
   have:=hcell i (by omega)
   rwa [add_plain] at this
  ·simp only[dlen,lits,List.length_map,List.length_take,List.length_drop]
   omega
theorem sized_ints {H:Type} {enc:TypeId×Value->H} {W:World} {A:Option Addr} {n c:Nat} {d:DataW H} {p:List MemPlace} {ts:List TypeId} {ds:List (DataW H)} {j:Nat}
  (h:DataW.Trod enc Tryz.prog W 0 (fun _=>true) true 23 (.slice A n c) d p) (hsz:(DataW.weightsEach Tryz.prog ts ds).all (·<=reachBytes)=true) (ht:ts[j]?=some 23) (hd:ds[j]?=some d) (hn:n<=dlen d):n<=1125899906842624:=by
 obtain⟨fuel,hf⟩:=h
 rcases open_ints Tryz.underlying23 Tryz.underlying3 cells_int hf with⟨hcs,hx⟩|⟨a,len',cap',zs,hcs,_,hl,hm,hz,hx,hcell,hwz⟩
 ·simp[Value.cells] at hcs
  omega
 ·simp[Value.cells] at hcs
  obtain⟨rfl,rfl,rfl⟩:=hcs
  simp only[Prod.mk.injEq] at hx
  obtain⟨rfl,rfl⟩:=hx
  have:=sized_slice hsz (j:=j) (t:=23) (e:=3) ht hd Tryz.underlying23
  rw[bytes_int] at this
  simp only[dlen,lits,List.length_map,List.length_take,List.length_drop,reachBytes] at this hn
  omega
theorem shape_longs {H:Type} {enc:TypeId×Value->H} {W:World} {base:Nat} {v:Value} {d:DataW H} {p:List MemPlace} (hval:Value.okWide Tryz.prog W .any base 126 v)
  (h:DataW.Trod enc Tryz.prog W 0 (fun _=>true) true 126 v d p):∃A n c f,v=.slice A n c/\IntsAt W A n f/\n<=dlen d/\Rng f:=by
 obtain⟨a0,len,cap,rfl⟩:=okWide_slice Tryz.underlying126 hval
 obtain⟨fuel,hf⟩:=h
 rcases open_ints Tryz.underlying126 Tryz.underlying2 cells_int64 hf with⟨hcs,hx⟩|⟨a,len',cap',zs,hcs,_,hl,hm,hz,hx,hcell,hwz⟩
 ·simp[Value.cells] at hcs
  obtain⟨rfl,rfl,rfl⟩:=hcs
  exact⟨_,_,_,fun _=>0,rfl,IntsAt.nil _ _ _,by omega,fun _=>zero_rng⟩
 ·simp[Value.cells] at hcs
  obtain⟨rfl,rfl,rfl⟩:=hcs
  simp only[Prod.mk.injEq] at hx
  obtain⟨rfl,rfl⟩:=hx
  simp only[if_true] at hz
  refine⟨_,_,_,fun i=>zs.getD i 0,rfl,?_,?_,rng_zs hwz⟩
  ·intro i hi
   obtain⟨b,off,spot⟩:=a
   have hspot:spot=none:=by simpa[Addr.add] using World.cell?_spot (hcell 0 (by omega))
   subst hspot
   refine⟨b,off,rfl,?_⟩
   have:=hcell i (by omega)
   rwa [add_plain] at this
  ·simp only[dlen,lits,List.length_map,List.length_take,List.length_drop]
   omega
theorem sized_longs {H:Type} {enc:TypeId×Value->H} {W:World} {A:Option Addr} {n c:Nat} {d:DataW H} {p:List MemPlace} {ts:List TypeId} {ds:List (DataW H)} {j:Nat}
  (h:DataW.Trod enc Tryz.prog W 0 (fun _=>true) true 126 (.slice A n c) d p) (hsz:(DataW.weightsEach Tryz.prog ts ds).all (·<=reachBytes)=true) (ht:ts[j]?=some 126) (hd:ds[j]?=some d) (hn:n<=dlen d):n<=1125899906842624:=by
 obtain⟨fuel,hf⟩:=h
 rcases open_ints Tryz.underlying126 Tryz.underlying2 cells_int64 hf with⟨hcs,hx⟩|⟨a,len',cap',zs,hcs,_,hl,hm,hz,hx,hcell,hwz⟩
 ·simp[Value.cells] at hcs
  omega
 ·simp[Value.cells] at hcs
  obtain⟨rfl,rfl,rfl⟩:=hcs
  simp only[Prod.mk.injEq] at hx
  obtain⟨rfl,rfl⟩:=hx
  have:=sized_slice hsz (j:=j) (t:=126) (e:=2) ht hd Tryz.underlying126
  rw[bytes_int64] at this
  simp only[dlen,lits,List.length_map,List.length_take,List.length_drop,reachBytes] at this hn
  omega
end Go.Proofs.YtmgfaeineklccaaGreat
/- How the arguments of layers 18 and 19 look: pairs of lists. -/
set_option maxRecDepth 100000
set_option linter.unusedSimpArgs false
set_option linter.unusedVariables false
namespace Go.Proofs.YtmgfaeineklccaaGreat
open Go.ChangeShapes Go.WideShapes Go.ChangeAt Go.RowKit
theorem weights_all {H:Type} {P:Program} {e:TypeId}:∀{l:List (DataW H)} {d:DataW H},d∈l->∀n∈d.weights P e,n∈DataW.weightsAll P e l
 |d'::r,d,hd,n,hn=>by
   simp only[DataW.weightsAll,List.mem_append]
   rcases List.mem_cons.1 hd with rfl|h
   ·exact Or.inl hn
   ·exact Or.inr (weights_all h n hn)
theorem reach8 {k:Nat} (h:k*8<=reachBytes):k<=1125899906842624:=by
 unfold reachBytes at h;omega
theorem cells_ints:Tryz.prog.cellsOf 23=1:=by kernel_rfl
theorem cells_twoInts:Tryz.prog.cellsOf 61=2:=by kernel_rfl
theorem row_ints {H:Type} {enc:TypeId×Value->H} {W:World} {fuel:Nat} {cs:List Value} {x:DataW H×List MemPlace}
  (hf:DataW.trod enc Tryz.prog W 0 (fun _=>true) true fuel 23 cs=some x):∃A n c f,cs=[.slice A n c]/\IntsAt W A n f/\Rng f/\(n=0\/∃k,n<=k/\k*8∈x.1.weights Tryz.prog 23):=by
 rcases open_ints Tryz.underlying23 Tryz.underlying3 cells_int hf with⟨hcs,hx⟩|⟨a,len',cap',zs,hcs,_,hl,hm,hz,hx,hcell,hwz⟩
 ·exact⟨_,_,_,fun _=>0,hcs,IntsAt.nil _ _ _,fun _=>zero_rng,.inl rfl⟩
 ·subst hx
  simp only[if_true] at hz
  refine⟨_,_,_,fun i=>zs.getD i 0,hcs,?_,rng_zs hwz,.inr ⟨zs.length,by omega,?_⟩⟩
  ·intro i hi
   obtain⟨b,off,spot⟩:=a
   have hspot:spot=none:=by simpa[Addr.add] using World.cell?_spot (hcell 0 (by omega))
   subst hspot
   refine⟨b,off,rfl,?_⟩
   have:=hcell i (by omega)
   rwa [add_plain] at this
  ·have e:(lits .i64 (zs.take len'):List (DataW H)).length+(lits .i64 (zs.drop len'):List (DataW H)).length=zs.length:=by
     simp only[lits,List.length_map,List.length_take,List.length_drop];omega
   simp only[DataW.weights,Tryz.underlying23,e,bytes_int,List.mem_cons,true_or]
theorem shape_pair {H:Type} {enc:TypeId×Value->H} {W:World} {base:Nat} {v:Value} {d:DataW H} {p:List MemPlace} {ts:List TypeId} {ds:List (DataW H)} {j:Nat} (hval:Value.okWide Tryz.prog W .any base 61 v)
  (h:DataW.Trod enc Tryz.prog W 0 (fun _=>true) true 61 v d p) (hsz:(DataW.weightsEach Tryz.prog ts ds).all (·<=reachBytes)=true) (ht:ts[j]?=some 61) (hd:ds[j]?=some d):
  ∃A n c f B m e g,v=.agg #[.slice A n c,.slice B m e]/\IntsAt W A n f/\n<=1125899906842624/\Rng f/\IntsAt W B m g/\m<=1125899906842624/\Rng g:=by
 obtain⟨cs,rfl,hsize,_⟩:∃cs,v=.agg cs/\cs.size=Tryz.prog.cellsOf 61/\Row.okWide Tryz.prog W .any base 61 cs:=by
  simpa[Value.okWide,Tryz.underlying61] using hval
 rw[cells_twoInts] at hsize
 obtain⟨l⟩:=cs
 obtain⟨u0,u1,rfl⟩:∃a b,l=[a,b]:=by
  match l,hsize with
  |[a,b],_=>exact⟨a,b,rfl⟩
 obtain⟨fuel,hf⟩:=h
 obtain⟨xs,m,rfl,hx,_,hn,hel⟩:=DataW.trod_array Tryz.underlying61 hf
 have h0:=hel 0 (by omega)
 have h1:=hel 1 (by omega)
 rw[cells_ints] at h0 h1
 simp only[Value.cells] at h0 h1
 obtain⟨y0,y1,rfl⟩:∃a b,xs=[a,b]:=by
  match xs,hn with
  |[a,b],_=>exact⟨a,b,rfl⟩
 obtain⟨A,n,c,f,e0,hA,hR,hw⟩:=row_ints h0
 obtain⟨B,m',e,g,e1,hB,hS,hw'⟩:=row_ints h1
 simp at e0 e1
 subst e0 e1
 simp only[Prod.mk.injEq] at hx
 obtain⟨rfl,rfl⟩:=hx
 have far:∀y∈[y0,y1],∀k,k*8∈y.1.weights Tryz.prog 23->k<=1125899906842624:=by
  intro y hy k hk
  refine reach8 (of_decide_eq_true (List.all_eq_true.1 hsz _ (DataW.weights_mem_each ht hd _ ?_)))
  simp only[DataW.weights,Tryz.underlying61]
  exact weights_all (List.mem_map.2 ⟨y,hy,rfl⟩) _ hk
 refine⟨A,n,c,f,B,m',e,g,rfl,hA,?_,hR,hB,?_,hS⟩
 ·rcases hw with h|⟨k,hk,hm⟩
  ·omega
  ·have:=far y0 (by simp) k hm;omega
 ·rcases hw' with h|⟨k,hk,hm⟩
  ·omega
  ·have:=far y1 (by simp) k hm;omega
end Go.Proofs.YtmgfaeineklccaaGreat
