/- slices.Clone of complex floats. -/
import Derived.Test.YtmgfaeineklccaaGreatX0
import Derived.Test.YtmgfaeineklccaaGreatMQ1
import Derived.MapKept
import Derived.Deep.AppendSrc
import Derived.Lib.SliceRun
import Derived.Lib.AppendZerosOnto
set_option maxRecDepth 100000
set_option maxHeartbeats 2000000
set_option linter.unusedSimpArgs false
set_option linter.unusedVariables false
namespace Go.Proofs.YtmgfaeineklccaaGreat
open Go.RowKit Go.Lib
theorem CsAt.raw{w:World}{X:Option Addr}{n:Nat}{f:Nat->Cx}(h:CsAt w X n f)(hn:0<n):∃(b o:Nat) (g:Nat->Rx),X=some ⟨b,o,none⟩/\∀i,i<n->w.cell? ⟨b,o+i*2,none⟩=some (.float .f64 (g i).1)/\w.cell? ⟨b,o+i*2+1,none⟩=some (.float .f64 (g i).2)/\nC (g i)=f i:=by
 obtain⟨b,o,u0,rfl,-⟩:=h 0 hn
 have h':∀i,∃u:Rx,i<n->w.cell? ⟨b,o+i*2,none⟩=some (.float .f64 u.1)/\w.cell? ⟨b,o+i*2+1,none⟩=some (.float .f64 u.2)/\nC u=f i:=λi=>by
  by_cases hi:i<n
  ·obtain⟨b',o',u,e,h1,h2,h3⟩:=h i hi
   cases e
   exact⟨u,λ_=>⟨h1,h2,h3⟩⟩
  ·exact⟨u0,λh=>absurd h hi⟩
 exact⟨b,o,λi=>Classical.choose (h' i),rfl,λi hi=>Classical.choose_spec (h' i) hi⟩
def word2(g:Nat->Rx)(j:Nat):Nat:=if j%2=0 then(g (j/2)).1 else(g (j/2)).2
def kC(g:Nat->Rx)(n:Nat):List Value:=(List.range (n*2)).map λj=>.float .f64 (word2 g j)
theorem kC_len(g:Nat->Rx)(n:Nat):(kC g n).length=n*2:=by simp[kC]
theorem kC_get(g:Nat->Rx)(n j:Nat)(v:Value)(h:(kC g n)[j]?=some v):j<n*2/\v=.float .f64 (word2 g j):=by
 unfold kC at h
 rw[List.getElem?_map] at h
 by_cases hj:j<n*2
 ·rw[List.getElem?_range hj] at h
  simp at h
  exact⟨hj,h.symm⟩
 ·rw[List.getElem?_eq_none (by simpa using hj)] at h
  cases h
theorem kC_at(g:Nat->Rx)(n j:Nat)(hj:j<n*2):(kC g n)[j]?=some (.float .f64 (word2 g j)):=by
 unfold kC
 rw[List.getElem?_map,List.getElem?_range hj];rfl
theorem CloneC_any(X:Option Addr)(n c:Nat)(f:Nat->Cx)(w:World)(hX:CsAt w X n f)(h1:0<n)(h2:n<=1000000):
  Calls Tryz.prog 85 #[.slice X n c] w λz w'=>∃g c',z=.returned (.slice (some ⟨g,0,none⟩) n c')/\n<=c'/\w.heap.size<=g/\g<w'.heap.size/\RowC w' g n f/\Below w.heap.size w w':=by
 have q36:∀(w:World) (a:Option Addr) (n c n' c':Nat),(binOp .eql 47 (.slice a n c) (.slice none n' c')).run Tryz.prog w=.ok (.bool a.isNone) w:=λw a n c n' c'=>Lib.run_eql_slice_nil w _ _ a n c n' c' Tryz.underlying47
 obtain⟨b,o,g,rfl,hg⟩:=hX.raw h1
 obtain⟨i0,hi0,hz0,hzs,hzb⟩:=info_parts info_C
 obtain⟨w0,hw0⟩:∃w0,w0=w.alloc (.cells #[] 52):=⟨_,rfl⟩
 have hb0:Below w.heap.size w w0:=by rw[hw0];exact(Below.refl _ w).alloc (Nat.le_refl _) _
 have hsrc:Src Tryz.prog i0.size 47 (.slice (some ⟨b,o,none⟩) n c) n (kC g n) w0:=by
  rw[hzs]
  refine Src.ofSlice w0 Tryz.underlying47 ⟨b,o,none⟩ n c _ (kC_len g n) (λj u hu=>?_) (λu hu=>?_)
  ·obtain⟨hj,rfl⟩:=kC_get g n j u hu
   obtain⟨a1,a2,-⟩:=hg (j/2) (by omega)
   have ea:(⟨b,o,none⟩:Addr).add j=⟨b,o+j,none⟩:=by simp[Addr.add]
   rw[ea]
   unfold word2
   by_cases e:j%2=0
   ·rw[if_pos e,show o+j=o+j/2*2 from by omega];exact keep_cell hb0 a1
   ·rw[if_neg e,show o+j=o+j/2*2+1 from by omega];exact keep_cell hb0 a2
  ·obtain⟨j,-,rfl⟩:=List.mem_map.1 hu
   rfl
 have hold:(Builtin.firstCells i0.size 0 (.slice (some ⟨w.heap.size,0,none⟩) 0 0)).run Tryz.prog w0.drew=.ok ([]:List Value).toArray w0.drew:=by
  rw[hzs];exact run_firstCells_some w0.drew 2 0 ⟨w.heap.size,0,none⟩ 0 0 [] rfl (λj v hj=>by simp at hj)
 obtain⟨G,hG⟩:∃G,G=grownCap w0 n 0 52:=⟨_,rfl⟩
 have hge:n<=G:=by rw[hG];exact grownCap_ge _ _ _ _
 obtain⟨cur,hcur⟩:∃cur:Array Value,cur=([]++kC g n:List Value).toArray++Builtin.zeroCells (Value.agg #[.float .f64 0,.float .f64 0]).cells (G-n):=⟨_,rfl⟩
 obtain⟨W1,hW1⟩:∃W1,W1=w0.drew.alloc (.cells cur 52):=⟨_,rfl⟩
 have hs0:w0.heap.size=w.heap.size+1:=by rw[hw0];simp
 have hrun:∀ty,(Builtin.append_ #[47,47] ty #[.slice (some ⟨w.heap.size,0,none⟩) 0 0,.slice (some ⟨b,o,none⟩) n c]).run Tryz.prog w0=.ok (.slice (some ⟨w.heap.size+1,0,none⟩) n G) W1:=λty=>by
  have h:=run_append_grow_src w0 47 47 ty 52 i0 _ Tryz.underlying47 hi0 hz0 (some ⟨w.heap.size,0,none⟩) 0 0 [] hold _ n (kC g n) hsrc (by omega) (by omega) (by rw[hzb];exact growslice_fits (by omega) (by omega))
  simp only[Nat.zero_add] at h
  rw[h,hW1,hcur,hG,hs0]
 have hobj:W1.heap[w.heap.size+1]?=some (.cells cur 52 (0,0)):=by
  rw[hW1,<-hs0];exact(MapKept.heap_alloc w0.drew _).1
 have hsz:w.heap.size+1<W1.heap.size:=(Array.getElem?_eq_some_iff.1 hobj).1
 have hrow:RowC W1 (w.heap.size+1) n f:=λi hi=>by
  have hcell:∀j,j<n*2->W1.cell? ⟨w.heap.size+1,j,none⟩=some (.float .f64 (word2 g j)):=λj hj=>by
   have:cur[j]?=some (.float .f64 (word2 g j)):=by
    rw[hcur,List.nil_append,Array.getElem?_append_left (by simp[kC_len];exact hj),List.getElem?_toArray]
    exact kC_at g n j hj
   unfold World.cell?
   rw[hobj]
   simpa using this
  have hfr:∀j,W1.frozen? ⟨w.heap.size+1,j,none⟩=false:=λj=>by rw[hW1,<-hs0];exact World.frozen?_alloc_new _ _ _ _
  refine⟨g i,?_,?_,hfr _,hfr _,(hg i hi).2.2⟩
  ·rw[hcell _ (by omega)];unfold word2;rw[if_pos (by omega),show i*2/2=i from by omega]
  ·rw[hcell _ (by omega)];unfold word2;rw[if_neg (by omega),show(i*2+1)/2=i from by omega]
 have hB:Below w.heap.size w W1:=by rw[hW1,hw0];exact((((Below.refl _ w).alloc (Nat.le_refl _) _).drew).alloc (by simp[World.drew]) _)
 have HGE:=aZ hge
 have HE:=aZ (⟨hsz,hrow,hB⟩:w.heap.size+1<W1.heap.size/\RowC W1 (w.heap.size+1) n f/\Below w.heap.size w W1)
 rw[hw0] at hrun
 clear hge hobj hW1 hcur hG hold hsrc hs0 hw0 hg hsz hrow hB hb0 hX
 go_enter Tryz.func85,Tryz.ntmps85
 go_wp2_with (at_builtin;refine Lib.wpList_append_run _ rfl _ _ _ _ rfl _ _ rfl rfl _ _ (hrun _) ?_)
 go_ret
 exact⟨_,_,rfl,HGE.out,by omega,HE.out.1,HE.out.2.1,HE.out.2.2⟩
end Go.Proofs.YtmgfaeineklccaaGreat
