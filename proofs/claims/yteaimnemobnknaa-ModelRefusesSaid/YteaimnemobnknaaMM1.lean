/- The law's same, list, small. -/
import Derived.Test.YteaimnemobnknaaX0
import Derived.Test.YteaimnemobnknaaZ3
import Derived.Test.YteaimnemobnknaaMD3
import Derived.Test.YteaimnemobnknaaMD2
import Derived.Test.YteaimnemobnknaaML2
import Derived.Test.YteaimnemobnknaaMR1
import Derived.Test.YteaimnemobnknaaMJ2
import Derived.Laws.CopyOwn
set_option maxRecDepth 100000
set_option maxHeartbeats 8000000
set_option linter.unusedSimpArgs false
set_option linter.unusedVariables false
namespace Go.Proofs.Yteaimnemobnknaa
open Go.RowKit Go.Lib
theorem same19(A A':Option Addr)(n c m c':Nat)(f g:Nat->Int)(w:World)(hA:IntsAt w A n f)(hA':IntsAt w A' m g)(hn:n<=1125899906842624)(hm:m<=1125899906842624):
  Calls Try.prog 35 #[.slice A n c,.slice A' m c'] w λz w'=>z=.returned (.bool (sameB2 n m f g))/\Qt w w':=by
 have HA:=aZ hA
 have HA':=aZ hA'
 clear hA hA'
 by_cases hnm:n=m
 ·subst hnm
  go_enter Try.func35,Try.ntmps35
  go_wp2
  go_loopw [5,13] (λ_ vi wr=>∃k:Nat,k<=n/\vi=.int .i64 k/\Hid (∀i,i<k->f i=g i)/\Hid (Qt w wr)) (λ_ vi _=>n-(intOf vi).toNat)
  case atStart=>exact⟨0,Nat.zero_le _,rfl,aZ (λi hi=>by omega),aZ (Qt.refl w)⟩
  case round=>
   obtain⟨k,hk,rfl,he,hq⟩:=hrel
   by_cases hlt:k<n
   ·have hki:(k:Int)<n:=by omega
    obtain⟨b1,o1,rfl,c1⟩:=HA.out.keep hq.out.below k hlt
    obtain⟨b2,o2,rfl,c2⟩:=HA'.out.keep hq.out.below k hlt
    go_upto_region 6 with fail
    refine wp_region_T (λw'=>w'.cell? ⟨b1,o1+k,none⟩=some (.int .i64 (f k))/\w'.cell? ⟨b2,o2+k,none⟩=some (.int .i64 (g k))) 8 ⟨c1,c2⟩ (λhS0=>?_)
    refine Takes.intro [0,1,2,3,4,5,6,7] ?_
    repeat(refine Takes.go (v:=?_) hS0 ?_;try simp only[nrm,Act.put])
    refine Takes.nil ?_
    refine wpAnyS_fin 1 8 ?_
    simp only[nrd]
    clear hS0
    have HQ:Hid (Qt w wr.drew):=aZ (hq.out.trans ⟨1,rfl⟩)
    by_cases hfg:f k=g k
    ·have hb:(f k != g k)=false:=by simp[hfg]
     have HE:Hid (∀i,i<k+1->f i=g i):=aZ (λi hi=>by
      by_cases h:i=k
      ·rw[h];exact hfg
      ·exact he.out i (by omega))
     clear c1 c2 hfg
     go_wp2
     exact⟨⟨k+1,by omega,by go_num,HE,HQ⟩,by simp[intOf];omega⟩
    ·have hb:(f k != g k)=true:=by simp[hfg]
     have hs:sameB2 n n f g=false:=by
      unfold sameB2
      exact decide_eq_false (λh=>hfg (h.2 k hlt))
     clear c1 c2
     go_wp2
     go_ret
     exact⟨by rw[hs];rfl,HQ.out⟩
   ·obtain rfl:k=n:=by omega
    have hs:sameB2 k k f g=true:=by
     unfold sameB2
     exact decide_eq_true ⟨rfl,he.out⟩
    go_wp2
    go_ret
    exact⟨by rw[hs];rfl,hq.out⟩
 ·have hnb:¬(n:Int)=m:=by omega
  have hs:sameB2 n m f g=false:=by
   unfold sameB2
   exact decide_eq_false (λh=>hnm h.1)
  rw[hs]
  go_enter Try.func35,Try.ntmps35
  go_wp2
  go_ret
  exact⟨rfl,Qt.refl w⟩
def listF(m:Nat)(f:Nat->Int):Nat->Int:=λi=>if i<m then f i else 0
theorem listF_rng{m:Nat}{f:Nat->Int}(h:Rng f):Rng (listF m f):=λi=>by
 unfold listF
 split
 ·exact h i
 ·omega
theorem list19(A:Option Addr)(m c n:Nat)(f:Nat->Int)(w:World)(hI:IntsAt w A m f)(hm:m<=1125899906842624)(hn:n<=1048576):
  Calls Try.prog 31 #[.slice A m c,.int .i64 n] w λz w'=>∃g,z=.returned (.slice (some ⟨g,0,none⟩) n n)/\w.heap.size<=g/\IntsAt w' (some ⟨g,0,none⟩) n (listF m f)/\Below w.heap.size w w':=by
 have HI:=aZ hI
 have hmk:=mk_int64 n (by omega)
 obtain⟨W1,hW1⟩:∃W1,W1=w.alloc (.cells (zs n) 2):=⟨_,rfl⟩
 have hb1:Below w.heap.size w W1:=by rw[hW1];exact(Below.refl _ w).alloc (Nat.le_refl _) _
 have hg1:W1.heap[w.heap.size]?=some (.cells (zs n).toList.toArray 2 (0,0)):=by rw[hW1];simpa using World.alloc_heap_new w (.cells (zs n) 2)
 have hlen:(zs n).toList.length=n:=by simp[zs,madeCells]
 have hzi:∀i,i<n->(zs n).toList[i]?=some (.int .i64 0):=λi hi=>by simp[zs,madeCells,hi,Nat.mod_one]
 have HZI:=aZ hzi
 have HB1:=aZ hb1
 have HG1:=aZ hg1
 have HSRC:Hid (0<(intsV (Nat.min m n) f).length->(some (⟨w.heap.size,0,none⟩:Addr))=some ⟨w.heap.size,0,none⟩/\∃ad,A=some ad/\∀j v,(intsV (Nat.min m n) f)[j]?=some v->W1.cell? (ad.add j)=some v):=aZ (λh0=>by
  rw[intsV_len] at h0
  have hmn:Nat.min m n<=m:=Nat.min_le_left _ _
  obtain⟨b,o,hA,-⟩:=HI.out 0 (by omega)
  refine⟨rfl,⟨b,o,none⟩,hA,λj v hj=>?_⟩
  have hjl:j<Nat.min m n:=by
   have:=(List.getElem?_eq_some_iff.1 hj).1
   rwa [intsV_len] at this
  rw[intsV_at _ _ _ hjl] at hj
  injection hj with hj
  subst hj
  obtain⟨b',o',hA',hc⟩:=HI.out.keep HB1.out j (by omega)
  rw[hA] at hA'
  injection hA' with e
  injection e with e1 e2
  subst e1 e2
  rw[Addr.add]
  split
  ·rename_i e;subst e;exact hc
  ·exact hc)
 have HLN:Hid ((intsV (Nat.min m n) f).length=Nat.min m n):=aZ (intsV_len _ _)
 have HFT:Hid (0+(intsV (Nat.min m n) f).length<=(zs n).toList.length):=aZ (by rw[hlen,intsV_len,Nat.zero_add];exact Nat.min_le_right m n)
 have HON:Hid (∀v∈intsV (Nat.min m n) f,v.oneCell'=true):=aZ (λv hv=>by
  unfold intsV at hv
  obtain⟨i,-,rfl⟩:=List.mem_map.1 hv
  rfl)
 clear hI hb1 hg1 hzi
 go_enter Try.func31,Try.ntmps31
 go_upto_region 2 with fail
 rw[<-hW1]
 go_wp2_with (with_reducible refine wpList_copy_splice rfl (.tmp 8) (.tmp 9) 38 38 rfl 2 Try.underlying38 (by kernel_rfl) (some ⟨w.heap.size,0,none⟩) A n n m c rfl rfl w.heap.size 0 (zs n).toList 2 HG1.out (intsV (Nat.min m n) f) HLN.out HSRC.out HFT.out HON.out w.heap.size w HB1.out (Nat.le_refl _) ?_;intro w2 hg2 hb2)
 have HG2:=hg2
 have HB2:=aZ hb2
 clear hg2 hb2 hmk hW1
 go_wp2
 go_ret
 refine⟨w.heap.size,rfl,Nat.le_refl _,λi hi=>⟨w.heap.size,0,rfl,?_⟩,HB2.out⟩
 rw[World.cell?,show w2.heap[(⟨w.heap.size,0+i,none⟩:Addr).block]?=_ from HG2.out]
 show(if _ then _ else(splice (zs n).toList 0 (intsV (Nat.min m n) f)).toArray[0+i]?)=_
 rw[if_neg (by simp),Nat.zero_add,List.getElem?_toArray,splice,List.take_zero,List.nil_append,Nat.zero_add]
 have hml:Nat.min m n=min m n:=rfl
 by_cases him:i<m
 ·have h1:i<Nat.min m n:=by rw[hml];omega
  rw[List.getElem?_append_left (by rw[intsV_len];exact h1),intsV_at _ _ _ h1]
  unfold listF
  rw[if_pos him]
 ·have h1:¬i<Nat.min m n:=by rw[hml];omega
  rw[List.getElem?_append_right (by rw[intsV_len];omega),intsV_len,List.getElem?_drop,show Nat.min m n+(i-Nat.min m n)=i from by omega,HZI.out i hi]
  unfold listF
  rw[if_neg him]
theorem small19(kind n r:Int)(q:Fo)(hN:q.count<=549755813888)(w:World)(A:Option Addr)(c:Nat)(hk:Kids w A 0 q):
  Calls Try.prog 30 #[plV kind n r A q.len c] w (Ret w (.bool (decide ((ordR kind n r q).2=0/\(ordR kind n r q).1<=4294967296)))):=by
 have HO:=aZ (λw A c h=>ROrder_any kind n r q hN w A c h)
 have HPR:=aZ (λw h=>(planRef_all19 (.cons kind n r q .nil)).1 hN w A c h)
 have HK:=aZ hk
 obtain⟨⟨o,e⟩,hO⟩:∃R,ordR kind n r q=R:=⟨_,rfl⟩
 rw[hO] at HO|-
 dsimp only at HO|-
 obtain⟨R,hR⟩:∃R,decide (e=0/\o<=4294967296)=R:=⟨_,rfl⟩
 rw[hR]
 have HRR:=aZ hR
 obtain⟨W0,hW0⟩:∃W0,W0=w.alloc (.cells #[.int .i64 kind,.int .i64 n,.int .i64 r,.slice A q.len c] 26):=⟨_,rfl⟩
 have hb0:Below w.heap.size w W0:=by rw[hW0];exact(Below.refl _ w).alloc (Nat.le_refl _) _
 have hp0:PlBox W0 w.heap.size kind n r A q.len c:=by rw[hW0];exact PlBox.new w _ _ _ _ _ _ _
 have HB0:=aZ hb0
 obtain⟨p0,p1,p2,p3⟩:=hp0
 clear hO hR hk hb0 hN
 go_enter Try.func30,Try.ntmps30
 go_wp2_with fail
 try rw[<-hW0]
 refine(HPR.out W0 (HK.out.below HB0.out)).mono ?_
 rintro z w1 ⟨B1,c1,rfl,hky,hb1⟩
 have HB1:=aZ (HB0.out.trans (hb1.mono HB0.out.size))
 have HC:=aZ (HO.out w1 B1 c1 hky.kids)
 clear hb1 hky hW0 HPR HO p0 p1 p2 p3
 go_wp2_with fail
 refine HC.out.mono ?_
 rintro z w2 ⟨rfl,hb2⟩
 have HB2:=aZ (HB1.out.trans (hb2.mono HB1.out.size))
 clear hb2 HC
 by_cases he:e=0
 ·subst he
  by_cases ho:o<=4294967296
  ·have hRt:R=true:=by rw[<-HRR.out];exact decide_eq_true ⟨rfl,ho⟩
   have hoi:(o:Int)<=4294967296:=by omega
   subst hRt
   go_wp2
   go_ret
   exact⟨rfl,HB2.out⟩
  ·have hRt:R=false:=by rw[<-HRR.out];exact decide_eq_false (λh=>ho h.2)
   have hoi:¬(o:Int)<=4294967296:=by omega
   subst hRt
   go_wp2
   go_ret
   exact⟨congrArg (λb=>Ending.returned (Value.bool b)) (decide_eq_false (by omega)),HB2.out⟩
 ·have hRt:R=false:=by rw[<-HRR.out];exact decide_eq_false (λh=>he h.1)
  have heb:(e==0)=false:=by simpa using he
  subst hRt
  go_wp2
  go_ret
  exact⟨rfl,HB2.out⟩
section
variable {q : Nat} [NeZero q]
theorem hq_sum{v o:Nat}(f:Nat->Int):∀n,hq q (sumT (lawRg q v o) n f)=sumF n λi=>hq q (f i)
 |0=>by rw[sumF_nil];exact hq_zero
 |n+1=>by
   rw[sumF_succ,<-hq_sum (v:=v) (o:=o) f n]
   show hq q ((sumT (lawRg q v o) n f+f n)%q)=_
   rw[hq_mod,hq_add]
theorem dft_parseval{v o:Nat}(hp:Prm q)(O:Ord v o q){n:Nat}(n1:1<=n)(hn:n∣o)(x y:Nat->Fin q):
  (sumF n λk=>dft (rtF q v o) n 1 x k*dft (rtF q v o) n (-1) y k)=sumF n (λ_=>1)*sumF n λi=>x i*y i:=by
 have hb:=dft_back hp O n1 hn 1 (.inl rfl) x
 have e:∀k,dft (rtF q v o) n 1 x k*dft (rtF q v o) n (-1) y k=sumF n λi=>y i*(dft (rtF q v o) n 1 x k*rtF q v o (-1*((k:Int)*(i:Nat))) n):=λk=>by
  unfold dft
  rw[<-sumF_left]
  refine sumF_congr λi _=>?_
  grind
 rw[sumF_congr (λk _=>e k),sumF_comm]
 have e2:∀i,i<n->sumF n (λk=>y i*(dft (rtF q v o) n 1 x k*rtF q v o (-1*((k:Int)*(i:Nat))) n))=y i*(sumF n (λ_=>1)*x i):=λi hi=>by
  rw[sumF_left]
  congr 1
  rw[<-hb i hi]
  show _=sumF n λk=>dft (rtF q v o) n 1 x k*rtF q v o (-1*((i:Int)*(k:Nat))) n
  refine sumF_congr λk _=>?_
  rw[Int.mul_comm (k:Int)]
 rw[sumF_congr e2,<-sumF_left]
 refine sumF_congr λi _=>?_
 grind
end
def dot19(q:Nat)(f g:Nat->Int):Nat->Nat
 |0=>0
 |k+1=>(dot19 q f g k+((f k*g k)%(q:Int)).toNat)%q
theorem dot19_lt{q:Nat}(q1:1<=q)(f g:Nat->Int)(n:Nat):dot19 q f g n<q:=by
 cases n with
 |zero=>show 0<q;omega
 |succ n=>exact Nat.mod_lt _ q1
theorem hq_dot{q:Nat}[NeZero q](f g:Nat->Int):∀n,hq q ((dot19 q f g n:Nat):Int)=sumF n λi=>hq q (f i)*hq q (g i)
 |0=>by rw[sumF_nil];exact hq_zero
 |n+1=>by
   rw[sumF_succ,<-hq_dot f g n]
   show hq q (((dot19 q f g n+((f n*g n)%(q:Int)).toNat)%q:Nat):Int)=_
   rw[Int.natCast_emod,hq_mod,Int.natCast_add,hq_add,Int.toNat_of_nonneg (Int.emod_nonneg _ (by have:=NeZero.ne q;omega)),hq_mod,hq_mul]
theorem sumT_in{q v o:Nat}(q1:1<=q){f:Nat->Int}(n:Nat):0<=sumT (lawRg q v o) n f/\sumT (lawRg q v o) n f<q:=by
 cases n with
 |zero=>exact⟨Int.le_refl _,by show(0:Int)<q;omega⟩
 |succ n=>exact⟨Int.emod_nonneg _ (by omega),Int.emod_lt_of_pos _ (by omega)⟩
theorem parseval_plain{Q V O N:Nat}(G:FieldG Q V O)(n1:1<=N)(hN:N∣O)(f g:Nat->Int):
  overN Q (sumT (lawRg Q V O) N (timesF (lawRg Q V O) (λj=>((rdF Q V O N 1 (remF Q f) j:Nat):Int)) (λj=>((rdF Q V O N (-1) (remF Q g) j:Nat):Int)))) N=dot19 Q f g N:=by
 have hp:=G.pr
 have h2:=hp.1
 have hlo:=G.lo
 have hnq:=G.nq
 have hq0:NeZero Q:=⟨by omega⟩
 have H:=hom_law hp G.od G.nq
 have hle:=Nat.le_of_dvd G.n1 hN
 have hlt:=overN_lt Q (by omega) (sumT (lawRg Q V O) N (timesF (lawRg Q V O) (λj=>((rdF Q V O N 1 (remF Q f) j:Nat):Int)) (λj=>((rdF Q V O N (-1) (remF Q g) j:Nat):Int)))) N
 have hdl:=dot19_lt (q:=Q) (by omega) f g N
 have key:=H.over (sumT (lawRg Q V O) N (timesF (lawRg Q V O) (λj=>((rdF Q V O N 1 (remF Q f) j:Nat):Int)) (λj=>((rdF Q V O N (-1) (remF Q g) j:Nat):Int)))) N n1 hN
 have hfin:hq Q ((overN Q (sumT (lawRg Q V O) N (timesF (lawRg Q V O) (λj=>((rdF Q V O N 1 (remF Q f) j:Nat):Int)) (λj=>((rdF Q V O N (-1) (remF Q g) j:Nat):Int)))) N:Nat):Int)=hq Q ((dot19 Q f g N:Nat):Int):=by
  refine mul_cancel hp (hq_ne hp n1 (by omega)) ?_
  refine Eq.trans key ?_
  rw[hq_sum,hq_dot]
  have e1:∀k,hq Q (timesF (lawRg Q V O) (λj=>((rdF Q V O N 1 (remF Q f) j:Nat):Int)) (λj=>((rdF Q V O N (-1) (remF Q g) j:Nat):Int)) k)=dft (rtF Q V O) N 1 (λi=>hq Q (remF Q f i)) k*dft (rtF Q V O) N (-1) (λi=>hq Q (remF Q g i)) k:=λk=>by
   rw[<-rdF_dft hp G.od G.nq n1 hN (.inl rfl) (remF Q f) k,<-rdF_dft hp G.od G.nq n1 hN (.inr rfl) (remF Q g) k,<-hq_mul]
   exact hq_mod _
  rw[sumF_congr (λk _=>e1 k),dft_parseval hp G.od n1 hN,<-hq_many]
  have e2:∀i,hq Q (remF Q f i)*hq Q (remF Q g i)=hq Q (f i)*hq Q (g i):=λi=>by
   unfold remF
   rw[hq_mod,hq_mod]
  rw[sumF_congr (λi _=>e2 i)]
  grind
 have:=hq_inj (by omega) (by omega) (by omega) (by omega) hfin
 omega
theorem wofA_eq{o q v v':Nat}(h:WofA o q v)(h':WofA o q v'):v=v':=by
 obtain⟨a,a2,aq,rfl,hg,hn⟩:=h
 obtain⟨b,b2,bq,rfl,hg',hn'⟩:=h'
 rcases Nat.lt_trichotomy a b with hl|hl|hl
 ·have:=hn' a a2 hl;rw[hg] at this;cases this
 ·rw[hl]
 ·have:=hn b b2 hl;rw[hg'] at this;cases this
section
variable {Q V O : Nat} {kind : Int} {N : Nat} {r : Int} {q : Fo}
theorem times_g(P:PlanG Q V O kind N r q)(A B:Option Addr)(c c':Nat)(f h:Nat->Int)(w:World)(hA:IntsAt w A N f)(hB:IntsAt w B N h)(hf:InQ Q f)(hh:InQ Q h):
  Calls Try.prog 68 #[.iface 60 (rgV Q V O),.slice A N c,.slice B N c'] w λz w'=>∃g,z=.returned (.slice (some ⟨g,0,none⟩) N N)/\IntsAt w' (some ⟨g,0,none⟩) N (timesF (lawRg Q V O) f h)/\Below w.heap.size w w':=by
 refine(Times_r P.lawOk A B N c c' f h w hA hB hf hh (by have:=P.le;omega) trivial).mono ?_
 rintro z w' ⟨rfl,ho,hon⟩
 exact⟨_,rfl,ho.ints,hon.fr⟩
theorem sum_g(P:PlanG Q V O kind N r q)(A:Option Addr)(c:Nat)(f:Nat->Int)(w:World)(hA:IntsAt w A N f)(hf:InQ Q f):
  Calls Try.prog 67 #[.iface 60 (rgV Q V O),.slice A N c] w λz w'=>z=.returned (.int .i64 (sumT (lawRg Q V O) N f))/\Below w.heap.size w w':=by
 refine(Sum_r P.lawOk A N c f w hA hf (by have:=P.le;omega) trivial).mono ?_
 rintro z w' ⟨rfl,hon⟩
 exact⟨rfl,hon.fr⟩
end
theorem Parseval_any(kind:Int)(N:Nat)(r:Int)(q:Fo)(hc:q.count<=549755813888)(o Q:Nat)(F:FieldQ o Q)(ho:ordR kind N r q=(o,0))(hN:N<=512)(w:World)(B:Option Addr)(c:Nat)(hk:Kids w B 0 q)(A1 A2:Option Addr)(c1 c2:Nat)(f g:Nat->Int)(hI1:IntsAt w A1 N f)(hI2:IntsAt w A2 N g)(hR1:Rng f)(hR2:Rng g):
  Calls Try.prog 39 #[plV kind N r B q.len c,.slice A1 N c1,.slice A2 N c2] w λz w'=>∃v:Nat,WofA o Q v/\z=.returned (.tuple #[.int .i64 ((dot19 Q f g N:Nat):Int),rgV Q v o,.int .i64 0])/\Below w.heap.size w w':=by
 have HE1:=aZ (λ(w:World) (h:Kids w B 0 q) (hI:IntsAt w A1 N f)=>Exact_any kind N r q 1 (.inl rfl) hc o Q F ho hN w B c h A1 c1 f hI hR1)
 have HE2:=aZ (λ(w:World) (h:Kids w B 0 q) (hI:IntsAt w A2 N g)=>Exact_any kind N r q (-1) (.inr rfl) hc o Q F ho hN w B c h A2 c2 g hI hR2)
 have HPG:=aZ (λ(v:Nat) (W:WofA o Q v)=>planG F W ho hN)
 have hlo:=F.lo
 have hhi:=F.hi
 have HK:=aZ hk
 have HI1:=aZ hI1
 have HI2:=aZ hI2
 obtain⟨W0,hW0⟩:∃W0,W0=(w.alloc (.cells #[.int .i64 kind,.int .i64 N,.int .i64 r,.slice B q.len c] 26)).alloc (.cells #[.int .i64 0,.int .i64 0,.int .i64 0] 60):=⟨_,rfl⟩
 have hb0:Below w.heap.size w W0:=by rw[hW0];exact((Below.refl _ w).alloc (Nat.le_refl _) _).alloc (by simp) _
 have hp0:PlBox W0 w.heap.size kind N r B q.len c:=by
  rw[hW0]
  exact(PlBox.new w _ _ _ _ _ _ _).below ((Below.refl _ _).alloc (Nat.le_refl _) _)
 have hr0:RB W0 (w.heap.size+1):=by
  rw[hW0]
  have:=RB.new (w.alloc (.cells #[.int .i64 kind,.int .i64 N,.int .i64 r,.slice B q.len c] 26)) 60
  simp only[World.size_alloc] at this
  exact this
 have HB0:=aZ hb0
 have HP0:=aZ hp0
 have HR0:=aZ hr0
 obtain⟨p0,p1,p2,p3⟩:=hp0
 obtain⟨D,hD⟩:∃D,dot19 Q f g N=D:=⟨_,rfl⟩
 rw[hD]
 have HD:=aZ hD
 clear hI1 hI2 hR1 hR2 hk hb0 hr0 hc ho F hD
 go_enter Try.func39,Try.ntmps39
 go_wp2_with fail
 try rw[<-hW0]
 refine(HE1.out W0 (HK.out.below HB0.out) (HI1.out.keep HB0.out)).mono ?_
 rintro z w1 ⟨v,g1,hv,rfl,hi1,hb1⟩
 have HV:=aZ hv
 have HX1:=aZ hi1
 have HB1:=aZ (HB0.out.trans (hb1.mono HB0.out.size))
 have HP1:=aZ (HP0.out.below hb1)
 have HR1:=aZ (HR0.out.below hb1)
 have HPv:=aZ (HPG.out v hv)
 clear hv hi1 hb1 hW0 HE1 HPG HP0 HR0 p0 p1 p2 p3
 go_upto_region 2 with(fail)
 obtain⟨w2,hw2⟩:∃w2,w2=w1.alloc (.cells #[.int .i64 Q,.int .i64 v,.int .i64 o] 60):=⟨_,rfl⟩
 have hb2:Below w1.heap.size w1 w2:=by rw[hw2];exact(Below.refl _ w1).alloc (Nat.le_refl _) _
 have hT2:=Tri.new w1 (Q:Int) v o 60
 rw[<-hw2] at hT2|-
 obtain⟨bF,hbF⟩:∃bF,w1.heap.size=bF:=⟨_,rfl⟩
 rw[hbF] at hT2|-
 have HT2:=aZ hT2
 have HB2:=aZ (HB1.out.trans (hb2.mono HB1.out.size))
 have hp2:=HP1.out.below hb2
 have HP2:=aZ hp2
 have HR2:=aZ (HR1.out.below hb2)
 have HX2:=aZ (HX1.out.keep hb2)
 obtain⟨p0,p1,p2,p3⟩:=hp2
 clear hw2 hb2 hT2 hbF HB1 HP1 HR1 HX1
 go_wp2_with fail
 refine(HE2.out w2 (HK.out.below HB2.out) (HI2.out.keep HB2.out)).mono ?_
 rintro z w3 ⟨v',g2,hv',rfl,hi2,hb3⟩
 obtain rfl:=wofA_eq HV.out hv'
 have HY3:=aZ hi2
 have HB3:=aZ (HB2.out.trans (hb3.mono HB2.out.size))
 have HP3:=aZ (HP2.out.below hb3)
 have HR3:=aZ (HR2.out.below hb3)
 have HT3:=aZ (HT2.out.below hb3)
 have HX3:=aZ (HX2.out.keep hb3)
 clear hv' hi2 hb3 HE2 HB2 HP2 HR2 HT2 HX2 p0 p1 p2 p3
 go_upto_region 5 with(fail)
 obtain⟨w4,hw4⟩:∃w4,w4=w3.alloc (.cells #[.int .i64 Q,.int .i64 v,.int .i64 o] 60):=⟨_,rfl⟩
 have hb4:Below w3.heap.size w3 w4:=by rw[hw4];exact(Below.refl _ w3).alloc (Nat.le_refl _) _
 rw[<-hw4]
 have HB4:=aZ (HB3.out.trans (hb4.mono HB3.out.size))
 have HP4:=aZ (HP3.out.below hb4)
 have HR4:=aZ (HR3.out.below hb4)
 have HT4:=aZ (HT3.out.below hb4)
 have HX4:=aZ (HX3.out.keep hb4)
 have HY4:=aZ (HY3.out.keep hb4)
 clear hw4 hb4 HB3 HP3 HR3 HT3 HX3 HY3
 go_upto_region 7 with(fail)
 obtain⟨t0,t1,t2⟩:=HT4.out
 obtain⟨p0,p1,p2,p3⟩:=HP4.out
 have hn1:=HPv.out.n1
 have hTI:InQ Q (timesF (lawRg Q v o) (λj=>((rdF Q v o N 1 (remF Q f) j:Nat):Int)) (λj=>((rdF Q v o N (-1) (remF Q g) j:Nat):Int))):=times_in HPv.out.lawOk (HPv.out.rd_in 1 (remF Q f)) (HPv.out.rd_in (-1) (remF Q g))
 have hSI:=sumT_in (q:=Q) (v:=v) (o:=o) (by omega) (f:=timesF (lawRg Q v o) (λj=>((rdF Q v o N 1 (remF Q f) j:Nat):Int)) (λj=>((rdF Q v o N (-1) (remF Q g) j:Nat):Int))) N
 have HTM:=aZ (λw h1 h2=>times_g HPv.out (some ⟨g1,0,none⟩) (some ⟨g2,0,none⟩) N N (λj=>((rdF Q v o N 1 (remF Q f) j:Nat):Int)) (λj=>((rdF Q v o N (-1) (remF Q g) j:Nat):Int)) w h1 h2 (HPv.out.rd_in 1 (remF Q f)) (HPv.out.rd_in (-1) (remF Q g)))
 have HSM:=aZ (λ(g5:Nat) w h=>sum_g HPv.out (some ⟨g5,0,none⟩) N (timesF (lawRg Q v o) (λj=>((rdF Q v o N 1 (remF Q f) j:Nat):Int)) (λj=>((rdF Q v o N (-1) (remF Q g) j:Nat):Int))) w h hTI)
 have hPP:=parseval_plain HPv.out.fo hn1 HPv.out.dvd f g
 obtain⟨TM,hTM⟩:∃TM,timesF (lawRg Q v o) (λj=>((rdF Q v o N 1 (remF Q f) j:Nat):Int)) (λj=>((rdF Q v o N (-1) (remF Q g) j:Nat):Int))=TM:=⟨_,rfl⟩
 rw[hTM] at HTM HSM hPP hSI
 obtain⟨SM,hSM⟩:∃SM,sumT (lawRg Q v o) N TM=SM:=⟨_,rfl⟩
 rw[hSM] at HSM hPP hSI
 have hOV:=λw=>fover_any Q v o SM N HPv.out.fo.pr (by omega) (by omega) (by omega) hn1 (by omega) w
 rw[hPP] at hOV
 have HOV:=aZ hOV
 rw[HD.out] at HOV
 clear hTI hSI hPP hOV hTM hSM
 refine wp_region_T (λw'=>w'.cell? ⟨bF,0,none⟩=some (.int .i64 Q)/\w'.cell? ⟨bF,1,none⟩=some (.int .i64 v)/\w'.cell? ⟨bF,2,none⟩=some (.int .i64 o)/\w'.cell? ⟨w.heap.size,0,none⟩=some (.int .i64 kind)/\w'.cell? ⟨w.heap.size,1,none⟩=some (.int .i64 N)/\w'.cell? ⟨w.heap.size,2,none⟩=some (.int .i64 r)/\w'.cell? ⟨w.heap.size,3,none⟩=some (.slice B q.len c)) 14 ⟨t0,t1,t2,p0,p1,p2,p3⟩ (λhS0=>?_)
 refine Takes.intro [0,1,2,3,4,5,6,9,10,12] ?_
 repeat(refine Takes.go (v:=?_) hS0 ?_;try simp only[nrm,Act.put])
 refine Takes.nil ?_
 refine wpAnyS_1 7 (λK hK=>?_)
 go_simp
 refine(HTM.out _ (HX4.out.keep (Below.refl _ w4).drew) (HY4.out.keep (Below.refl _ w4).drew)).mono ?_
 rintro z w5 ⟨g5,rfl,hi5,hb5⟩
 have hb45:Below w4.heap.size w4 w5:=(Below.refl _ w4).drew.trans hb5
 have HI5:=aZ hi5
 have hS1:(λw'=>w'.cell? ⟨bF,0,none⟩=some (.int .i64 Q)/\w'.cell? ⟨bF,1,none⟩=some (.int .i64 v)/\w'.cell? ⟨bF,2,none⟩=some (.int .i64 o)/\w'.cell? ⟨w.heap.size,0,none⟩=some (.int .i64 kind)/\w'.cell? ⟨w.heap.size,1,none⟩=some (.int .i64 N)/\w'.cell? ⟨w.heap.size,2,none⟩=some (.int .i64 r)/\w'.cell? ⟨w.heap.size,3,none⟩=some (.slice B q.len c)) w5:=⟨keep_cell hb45 t0,keep_cell hb45 t1,keep_cell hb45 t2,keep_cell hb45 p0,keep_cell hb45 p1,keep_cell hb45 p2,keep_cell hb45 p3⟩
 refine hK.out _ _ (λ_=>hS1) ?_
 clear hK K
 try simp only[nrm,Act.put]
 refine wpAnyS_1 8 (λK hK=>?_)
 go_simp
 refine(HSM.out g5 w5 HI5.out).mono ?_
 rintro z w6 ⟨rfl,hb6⟩
 have hb46:Below w4.heap.size w4 w6:=hb45.trans (hb6.mono hb45.size)
 have hS2:(λw'=>w'.cell? ⟨bF,0,none⟩=some (.int .i64 Q)/\w'.cell? ⟨bF,1,none⟩=some (.int .i64 v)/\w'.cell? ⟨bF,2,none⟩=some (.int .i64 o)/\w'.cell? ⟨w.heap.size,0,none⟩=some (.int .i64 kind)/\w'.cell? ⟨w.heap.size,1,none⟩=some (.int .i64 N)/\w'.cell? ⟨w.heap.size,2,none⟩=some (.int .i64 r)/\w'.cell? ⟨w.heap.size,3,none⟩=some (.slice B q.len c)) w6:=⟨keep_cell hb46 t0,keep_cell hb46 t1,keep_cell hb46 t2,keep_cell hb46 p0,keep_cell hb46 p1,keep_cell hb46 p2,keep_cell hb46 p3⟩
 refine hK.out _ _ (λ_=>hS2) ?_
 clear hK K
 try simp only[nrm,Act.put]
 refine wpAnyS_1 11 (λK hK=>?_)
 go_simp
 refine(HOV.out w6).mono ?_
 rintro z w7 ⟨rfl,hb7⟩
 have hb47:Below w4.heap.size w4 w7:=hb46.trans (hb7.mono hb46.size)
 have hS3:(λw'=>w'.cell? ⟨bF,0,none⟩=some (.int .i64 Q)/\w'.cell? ⟨bF,1,none⟩=some (.int .i64 v)/\w'.cell? ⟨bF,2,none⟩=some (.int .i64 o)/\w'.cell? ⟨w.heap.size,0,none⟩=some (.int .i64 kind)/\w'.cell? ⟨w.heap.size,1,none⟩=some (.int .i64 N)/\w'.cell? ⟨w.heap.size,2,none⟩=some (.int .i64 r)/\w'.cell? ⟨w.heap.size,3,none⟩=some (.slice B q.len c)) w7:=⟨keep_cell hb47 t0,keep_cell hb47 t1,keep_cell hb47 t2,keep_cell hb47 p0,keep_cell hb47 p1,keep_cell hb47 p2,keep_cell hb47 p3⟩
 refine hK.out _ _ (λ_=>hS3) ?_
 clear hK K
 try simp only[nrm,Act.put]
 refine Takes.intro [13] ?_
 repeat(refine Takes.go (v:=?_) hS3 ?_;try simp only[nrm,Act.put])
 refine Takes.nil ?_
 refine wpAnyS_fin 2 14 ?_
 simp only[nrd]
 have HB7:=aZ (HB4.out.trans (hb47.mono HB4.out.size))
 have HR7:=aZ (HR4.out.below hb47)
 clear hS0 hS1 hS2 hS3 hb45 hb46 hb47 hb5 hb6 hb7 hi5 HTM HSM HOV t0 t1 t2 p0 p1 p2 p3
 obtain⟨⟨r0,r1,r2⟩,hz,hlb⟩:=HR7.out
 have hz0:=hz 0 (by omega)
 have hz1:=hz 1 (by omega)
 have hz2:=hz 2 (by omega)
 clear hz hlb
 have HBF:=aZ (below_three HB7.out (b:=w.heap.size+1) (by omega) (.int .i64 Q) (.int .i64 v) (.int .i64 o))
 have HTF:=aZ (tri_set HR7.out.t Q v o)
 clear HB7 HR7
 go_wp2
 obtain⟨u0,u1,u2⟩:=HTF.out
 exact bodyPost_ret (v:=.tuple #[.int .i64 ((D:Nat):Int),rgV Q v o,.int .i64 0]) (by simp[results,Try.results39,go_sem,u0,u1,u2]) rfl ⟨v,HV.out,rfl,HBF.out⟩
theorem Parseval_no(kind:Int)(N:Nat)(r:Int)(q:Fo)(hc:q.count<=549755813888)(o Q:Nat)(F:FieldQ o Q)(ho:ordR kind N r q=(o,0))(hN:N<=512)(w:World)(B:Option Addr)(c:Nat)(hk:Kids w B 0 q)(A1 A2:Option Addr)(c1 m c2:Nat)(hm:m<=1048576)(hne:runE kind N r q m (-1)≠0)(f g:Nat->Int)(hI1:IntsAt w A1 N f)(hI2:IntsAt w A2 m g)(hR1:Rng f)(hR2:Rng g):
  Calls Try.prog 39 #[plV kind N r B q.len c,.slice A1 N c1,.slice A2 m c2] w λz w'=>z=.returned (.tuple #[.int .i64 0,rgV 0 0 0,.int .i64 (runE kind N r q m (-1))])/\Below w.heap.size w w':=by
 have HE1:=aZ (λ(w:World) (h:Kids w B 0 q) (hI:IntsAt w A1 N f)=>Exact_any kind N r q 1 (.inl rfl) hc o Q F ho hN w B c h A1 c1 f hI hR1)
 have HE2:=aZ (λ(w:World) (h:Kids w B 0 q) (hI:IntsAt w A2 m g)=>Exact_no kind N r q (-1) hc o Q F ho m hm hne w B c h A2 c2 g hI hR2)
 obtain⟨E,hE⟩:∃E,runE kind N r q m (-1)=E:=⟨_,rfl⟩
 rw[hE] at HE2 hne|-
 have heb:(E==0)=false:=by simpa using hne
 have HPG:=aZ (λ(v:Nat) (W:WofA o Q v)=>planG F W ho hN)
 have hlo:=F.lo
 have hhi:=F.hi
 have HK:=aZ hk
 have HI1:=aZ hI1
 have HI2:=aZ hI2
 obtain⟨W0,hW0⟩:∃W0,W0=(w.alloc (.cells #[.int .i64 kind,.int .i64 N,.int .i64 r,.slice B q.len c] 26)).alloc (.cells #[.int .i64 0,.int .i64 0,.int .i64 0] 60):=⟨_,rfl⟩
 have hb0:Below w.heap.size w W0:=by rw[hW0];exact((Below.refl _ w).alloc (Nat.le_refl _) _).alloc (by simp) _
 have hp0:PlBox W0 w.heap.size kind N r B q.len c:=by
  rw[hW0]
  exact(PlBox.new w _ _ _ _ _ _ _).below ((Below.refl _ _).alloc (Nat.le_refl _) _)
 have hr0:RB W0 (w.heap.size+1):=by
  rw[hW0]
  have:=RB.new (w.alloc (.cells #[.int .i64 kind,.int .i64 N,.int .i64 r,.slice B q.len c] 26)) 60
  simp only[World.size_alloc] at this
  exact this
 have HB0:=aZ hb0
 have HP0:=aZ hp0
 have HR0:=aZ hr0
 obtain⟨p0,p1,p2,p3⟩:=hp0
 clear hI1 hI2 hR1 hR2 hk hb0 hr0 hc ho F hE hne
 go_enter Try.func39,Try.ntmps39
 go_wp2_with fail
 try rw[<-hW0]
 refine(HE1.out W0 (HK.out.below HB0.out) (HI1.out.keep HB0.out)).mono ?_
 rintro z w1 ⟨v,g1,hv,rfl,hi1,hb1⟩
 have HV:=aZ hv
 have HX1:=aZ hi1
 have HB1:=aZ (HB0.out.trans (hb1.mono HB0.out.size))
 have HP1:=aZ (HP0.out.below hb1)
 have HR1:=aZ (HR0.out.below hb1)
 have HPv:=aZ (HPG.out v hv)
 clear hv hi1 hb1 hW0 HE1 HPG HP0 HR0 p0 p1 p2 p3
 go_upto_region 2 with(fail)
 obtain⟨w2,hw2⟩:∃w2,w2=w1.alloc (.cells #[.int .i64 Q,.int .i64 v,.int .i64 o] 60):=⟨_,rfl⟩
 have hb2:Below w1.heap.size w1 w2:=by rw[hw2];exact(Below.refl _ w1).alloc (Nat.le_refl _) _
 have hT2:=Tri.new w1 (Q:Int) v o 60
 rw[<-hw2] at hT2|-
 obtain⟨bF,hbF⟩:∃bF,w1.heap.size=bF:=⟨_,rfl⟩
 rw[hbF] at hT2|-
 have HT2:=aZ hT2
 have HB2:=aZ (HB1.out.trans (hb2.mono HB1.out.size))
 have hp2:=HP1.out.below hb2
 have HP2:=aZ hp2
 have HR2:=aZ (HR1.out.below hb2)
 have HX2:=aZ (HX1.out.keep hb2)
 obtain⟨p0,p1,p2,p3⟩:=hp2
 clear hw2 hb2 hT2 hbF HB1 HP1 HR1 HX1
 go_wp2_with fail
 refine(HE2.out w2 (HK.out.below HB2.out) (HI2.out.keep HB2.out)).mono ?_
 rintro z w3 ⟨rfl,hb3⟩
 have HB3:=aZ (HB2.out.trans (hb3.mono HB2.out.size))
 have HP3:=aZ (HP2.out.below hb3)
 have HR3:=aZ (HR2.out.below hb3)
 have HT3:=aZ (HT2.out.below hb3)
 have HX3:=aZ (HX2.out.keep hb3)
 clear hb3 HE2 HB2 HP2 HR2 HT2 HX2 p0 p1 p2 p3
 go_upto_region 5 with(fail)
 obtain⟨w4,hw4⟩:∃w4,w4=w3.alloc (.cells #[.int .i64 0,.int .i64 0,.int .i64 0] 60):=⟨_,rfl⟩
 have hb4:Below w3.heap.size w3 w4:=by rw[hw4];exact(Below.refl _ w3).alloc (Nat.le_refl _) _
 rw[<-hw4]
 have HB4:=aZ (HB3.out.trans (hb4.mono HB3.out.size))
 have HR4:=aZ (HR3.out.below hb4)
 clear hw4 hb4 HB3 HP3 HR3 HT3 HX3
 obtain⟨⟨r0,r1,r2⟩,hz,hlb⟩:=HR4.out
 have hz0:=hz 0 (by omega)
 have hz1:=hz 1 (by omega)
 have hz2:=hz 2 (by omega)
 clear hz hlb
 have HBF:=aZ (below_three HB4.out (b:=w.heap.size+1) (by omega) (.int .i64 0) (.int .i64 0) (.int .i64 0))
 have HTF:=aZ (tri_set HR4.out.t 0 0 0)
 clear HB4 HR4
 go_wp2
 obtain⟨u0,u1,u2⟩:=HTF.out
 exact bodyPost_ret (v:=.tuple #[.int .i64 0,rgV 0 0 0,.int .i64 E]) (by simp[results,Try.results39,go_sem,u0,u1,u2]) rfl ⟨rfl,HBF.out⟩
theorem bs64_two(a b:Int)(w:World):(Instr.buildSlice 38 2 #[(0,.int .i64 a),(1,.int .i64 b)]).run Try.prog w=.ok (.slice (some ⟨w.heap.size,0,none⟩) 2 2) (w.alloc (.cells #[.int .i64 a,.int .i64 b] 2)):=by
 obtain⟨i0,hi,hz0,hz1,hz2⟩:=info_parts info_int64
 refine run_buildSlice w 38 2 2 _ #[.int .i64 a,.int .i64 b] i0 _ Try.underlying38 hi hz0 (by rw[hz1];decide) (by rw[hz1];decide) ?_
 rw[hz1]
 have hr:Array.range 1=#[0]:=by decide
 have hr2:Array.range 2=#[0,1]:=by decide
 simp[Instr.fill,Value.cells,hr,hr2]
theorem bs64_three(a b c:Int)(w:World):(Instr.buildSlice 38 3 #[(0,.int .i64 a),(1,.int .i64 b),(2,.int .i64 c)]).run Try.prog w=.ok (.slice (some ⟨w.heap.size,0,none⟩) 3 3) (w.alloc (.cells #[.int .i64 a,.int .i64 b,.int .i64 c] 2)):=by
 obtain⟨i0,hi,hz0,hz1,hz2⟩:=info_parts info_int64
 refine run_buildSlice w 38 2 3 _ #[.int .i64 a,.int .i64 b,.int .i64 c] i0 _ Try.underlying38 hi hz0 (by rw[hz1];decide) (by rw[hz1];decide) ?_
 rw[hz1]
 have hr:Array.range 1=#[0]:=by decide
 have hr3:Array.range 3=#[0,1,2]:=by decide
 simp[Instr.fill,Value.cells,hr,hr3]
theorem ints64_two(w:World)(a b:Int)(t:TypeId)(n:Nat)(hn:n=w.heap.size):IntsAt (w.alloc (.cells #[.int .i64 a,.int .i64 b] t)) (some ⟨n,0,none⟩) 2 (λi=>[a,b].getD i 0):=λi hi=>by
 subst hn
 refine⟨_,_,rfl,?_⟩
 rcases(show i=0\/i=1 by omega) with rfl|rfl<;>simp[go_sem]
theorem ints64_three(w:World)(a b c:Int)(t:TypeId)(n:Nat)(hn:n=w.heap.size):IntsAt (w.alloc (.cells #[.int .i64 a,.int .i64 b,.int .i64 c] t)) (some ⟨n,0,none⟩) 3 (λi=>[a,b,c].getD i 0):=λi hi=>by
 subst hn
 refine⟨_,_,rfl,?_⟩
 rcases(show i=0\/i=1\/i=2 by omega) with rfl|rfl|rfl<;>simp[go_sem]
theorem dft_two{q:Nat}[NeZero q]{V:Nat}(hp:Prm q)(O:Ord V 2 q)(x:Nat->Fin q)(x0:x 0=1)(x1:x 1=-1):dft (rtF q V 2) 2 1 x 0=0/\dft (rtF q V 2) 2 1 x 1=1+1:=by
 have d2:(2:Nat)∣2:=Nat.dvd_refl 2
 have hb:=dft_back hp O (n:=2) (by omega) d2 1 (.inl rfl) x 0 (by omega)
 have ez:=(O.rts hp).zero 2 (by omega) d2
 have s2:∀f:Nat->Fin q,sumF 2 f=f 0+f 1:=λf=>by rw[sumF_succ,sumF_succ,sumF_nil];grind
 have d:∀(s:Int) (y:Nat->Fin q) (j:Nat),dft (rtF q V 2) 2 s y j=y 0*rtF q V 2 (s*((j:Int)*((0:Nat):Int))) 2+y 1*rtF q V 2 (s*((j:Int)*((1:Nat):Int))) 2:=λs y j=>s2 _
 have e0:dft (rtF q V 2) 2 1 x 0=0:=by
  rw[d,x0,x1]
  simp only[Int.natCast_zero,Int.zero_mul,Int.mul_zero,ez]
  grind
 refine⟨e0,?_⟩
 rw[d,e0,s2,x0] at hb
 simp only[Int.natCast_zero,Int.zero_mul,Int.mul_zero,ez] at hb
 grind
theorem wk_two{Q V:Nat}(G:FieldG Q V 2):rdF Q V 2 2 1 (remF Q (λi=>[1,-1].getD i 0)) 0=0/\rdF Q V 2 2 1 (remF Q (λi=>[1,-1].getD i 0)) 1=2:=by
 have hp:=G.pr
 have hlo:=G.lo
 have hq0:NeZero Q:=⟨by omega⟩
 have d2:(2:Nat)∣2:=Nat.dvd_refl 2
 have h0:=rdF_dft hp G.od G.nq (by omega) d2 (s:=1) (.inl rfl) (remF Q (λi=>[1,-1].getD i 0)) 0
 have h1:=rdF_dft hp G.od G.nq (by omega) d2 (s:=1) (.inl rfl) (remF Q (λi=>[1,-1].getD i 0)) 1
 have x0:hq Q (remF Q (λi=>[1,-1].getD i 0) 0)=1:=by unfold remF;rw[hq_mod];exact hq_one
 have x1:hq Q (remF Q (λi=>[1,-1].getD i 0) 1)=-1:=by
  unfold remF
  rw[hq_mod]
  show hq Q (0-1)=_
  rw[hq_sub,hq_zero,hq_one]
  grind
 obtain⟨e0,e1⟩:=dft_two hp G.od (λk=>hq Q (remF Q (λi=>[1,-1].getD i 0) k)) x0 x1
 rw[e0] at h0
 rw[e1] at h1
 have l0:=rdF_lt (v:=V) (o:=2) (n:=2) hp.1 1 (remF Q (λi=>[1,-1].getD i 0)) 0
 have l1:=rdF_lt (v:=V) (o:=2) (n:=2) hp.1 1 (remF Q (λi=>[1,-1].getD i 0)) 1
 have k0:hq Q ((rdF Q V 2 2 1 (remF Q (λi=>[1,-1].getD i 0)) 0:Nat):Int)=hq Q 0:=by rw[h0,hq_zero]
 have k1:hq Q ((rdF Q V 2 2 1 (remF Q (λi=>[1,-1].getD i 0)) 1:Nat):Int)=hq Q 2:=by rw[h1,show(2:Int)=1+1 from rfl,hq_add,hq_one]
 generalize rdF Q V 2 2 1 (remF Q (λi=>[1,-1].getD i 0)) 0=a at*
 generalize rdF Q V 2 2 1 (remF Q (λi=>[1,-1].getD i 0)) 1=b at*
 have r0:=hq_inj (q:=Q) (Int.natCast_nonneg a) (by omega) (Int.le_refl 0) (by omega) k0
 have r1:=hq_inj (q:=Q) (Int.natCast_nonneg b) (by omega) (by decide) (by omega) k1
 constructor<;>omega
theorem wk_dot{Q:Nat}(h:1099511627776<Q):dot19 Q (λi=>[1,2,3].getD i 0) (λi=>[4,5,6].getD i 0) 3=32:=by
 have e:∀x:Int,0<=x->x<100->(x%(Q:Int)).toNat=x.toNat:=λx h0 h1=>by rw[Int.emod_eq_of_lt h0 (by omega)]
 have m:∀x:Nat,x<100->x%Q=x:=λx h1=>Nat.mod_eq_of_lt (by omega)
 show((((0+((1*4:Int)%(Q:Int)).toNat)%Q)+((2*5:Int)%(Q:Int)).toNat)%Q+((3*6:Int)%(Q:Int)).toNat)%Q=32
 rw[e _ (by decide) (by decide),e _ (by decide) (by decide),e _ (by decide) (by decide)]
 rw[show(0+(1*4:Int).toNat)=4 from rfl,m 4 (by omega),show(4+(2*5:Int).toNat)=14 from rfl,m 14 (by omega),show(14+(3*6:Int).toNat)=32 from rfl,m 32 (by omega)]
theorem wk_o2:ordR 0 (2:Nat) 0 .nil=(2,0):=by decide+kernel
theorem wk_o3:ordR 0 (3:Nat) 0 .nil=(3,0):=by decide+kernel
theorem wakes19(w:World):Calls Try.prog 29 #[] w (Ret w (.bool true)):=by
 obtain⟨Q2,F2⟩:=one_field (n:=2) (by omega) (ord_in (by omega) wk_o2) (by omega)
 obtain⟨Q3,F3⟩:=one_field (n:=3) (by omega) (ord_in (by omega) wk_o3) (by omega)
 have hlo3:=F3.lo
 have HE:=aZ (λ(w:World) (A:Option Addr) (hI:IntsAt w A 2 (λi=>[1,-1].getD i 0))=>Exact_any 0 2 0 .nil 1 (.inl rfl) (by decide) 2 Q2 F2 wk_o2 (by omega) w none 0 trivial A 2 _ hI (λi=>by
  match i with
  |0=>decide
  |1=>decide
  |n+2=>exact⟨by show(-9223372036854775808:Int)<=0;decide,by show(0:Int)<=9223372036854775807;decide⟩))
 have HP:=aZ (λ(w:World) (A B:Option Addr) (hI:IntsAt w A 3 (λi=>[1,2,3].getD i 0)) (hJ:IntsAt w B 3 (λi=>[4,5,6].getD i 0))=>Parseval_any 0 3 0 .nil (by decide) 3 Q3 F3 wk_o3 (by omega) w none 0 trivial A B 3 3 _ _ hI hJ (λi=>by
  match i with
  |0=>decide
  |1=>decide
  |2=>decide
  |n+3=>exact⟨by show(-9223372036854775808:Int)<=0;decide,by show(0:Int)<=9223372036854775807;decide⟩) (λi=>by
  match i with
  |0=>decide
  |1=>decide
  |2=>decide
  |n+3=>exact⟨by show(-9223372036854775808:Int)<=0;decide,by show(0:Int)<=9223372036854775807;decide⟩))
 have hdt:=wk_dot hlo3
 have HP2:Hid (∀(w:World) (A B:Option Addr),IntsAt w A 3 (λi=>[1,2,3].getD i 0)->IntsAt w B 3 (λi=>[4,5,6].getD i 0)->Calls Try.prog 39 #[plV 0 (3:Nat) 0 none 0 0,.slice A 3 3,.slice B 3 3] w λz w'=>∃v:Nat,z=.returned (.tuple #[.int .i64 32,rgV Q3 v 3,.int .i64 0])/\Below w.heap.size w w'):=aZ (λw A B hI hJ=>by
  have h:=HP.out w A B hI hJ
  rw[hdt] at h
  exact h.mono λz w' ⟨v,hv,hz,hb⟩=>⟨v,hz,hb⟩)
 have HE2:Hid (∀(w:World) (A:Option Addr),IntsAt w A 2 (λi=>[1,-1].getD i 0)->Calls Try.prog 32 #[plV 0 (2:Nat) 0 none 0 0,.slice A 2 2,.int .i64 1] w λz w'=>∃(v g:Nat),z=.returned (.tuple #[.slice (some ⟨g,0,none⟩) 2 2,rgV Q2 v 2,.int .i64 0])/\IntsAt w' (some ⟨g,0,none⟩) 2 (λi=>[0,2].getD i 0)/\Below w.heap.size w w'):=aZ (λw A hI=>by
  refine(HE.out w A hI).mono λz w' ⟨v,g,hv,hz,hi,hb⟩=>⟨v,g,hz,hi.congr λj hj=>?_,hb⟩
  obtain⟨k0,k1⟩:=wk_two (fieldG F2 hv)
  rcases(show j=0\/j=1 by omega) with rfl|rfl
  ·exact congrArg Int.ofNat k0
  ·exact congrArg Int.ofNat k1)
 have bs2:=bs64_two
 have bs3:=bs64_three
 clear HE HP hdt hlo3 F2 F3
 obtain⟨W0,hW0⟩:∃W0,W0=w.alloc (.cells #[.int .i64 1,.int .i64 (-1)] 2):=⟨_,rfl⟩
 have hb0:Below w.heap.size w W0:=by rw[hW0];exact(Below.refl _ w).alloc (Nat.le_refl _) _
 have hi0:=ints64_two w 1 (-1) 2 w.heap.size rfl
 rw[<-hW0] at hi0
 have HB0:=aZ hb0
 have HI0:=aZ hi0
 clear hb0 hi0
 go_enter Try.func29,Try.ntmps29
 go_wp2_with fail
 try rw[<-hW0]
 refine(HE2.out W0 _ HI0.out).mono ?_
 rintro z w1 ⟨v,g,rfl,hi1,hb1⟩
 have HB1:=aZ (HB0.out.trans (hb1.mono HB0.out.size))
 have HI1:=aZ hi1
 clear hi1 hb1 hW0 HE2
 go_upto_region 2 with(fail)
 obtain⟨w2,hw2⟩:∃w2,w2=w1.alloc (.cells #[.int .i64 Q2,.int .i64 v,.int .i64 2] 60):=⟨_,rfl⟩
 have hb2:Below w1.heap.size w1 w2:=by rw[hw2];exact(Below.refl _ w1).alloc (Nat.le_refl _) _
 have hT2:=Tri.new w1 (Q2:Int) v 2 60
 rw[<-hw2] at hT2|-
 obtain⟨bF,hbF⟩:∃bF,w1.heap.size=bF:=⟨_,rfl⟩
 rw[hbF] at hT2|-
 have HT2:=aZ hT2
 have HB2:=aZ (HB1.out.trans (hb2.mono HB1.out.size))
 have HI2:=aZ (HI1.out.keep hb2)
 obtain⟨W3,hW3⟩:∃W3,W3=(w2.alloc (.cells #[.int .i64 1,.int .i64 2,.int .i64 3] 2)).alloc (.cells #[.int .i64 4,.int .i64 5,.int .i64 6] 2):=⟨_,rfl⟩
 have hb3:Below w2.heap.size w2 W3:=by rw[hW3];exact((Below.refl _ w2).alloc (Nat.le_refl _) _).alloc (by simp) _
 have hj3:IntsAt W3 (some ⟨w2.heap.size,0,none⟩) 3 (λi=>[1,2,3].getD i 0):=by
  rw[hW3]
  exact(ints64_three w2 1 2 3 2 w2.heap.size rfl).keep ((Below.refl _ _).alloc (Nat.le_refl _) _)
 have hk3:IntsAt W3 (some ⟨w2.heap.size+1,0,none⟩) 3 (λi=>[4,5,6].getD i 0):=by
  rw[hW3]
  exact ints64_three _ 4 5 6 2 (w2.heap.size+1) (by simp)
 have HB3:=aZ (HB2.out.trans (hb3.mono HB2.out.size))
 have HI3:=aZ (HI2.out.keep hb3)
 have HT3:=aZ (HT2.out.below hb3)
 have HJ3:=aZ hj3
 have HK3:=aZ hk3
 clear hw2 hb2 hT2 hbF hb3 hj3 hk3 HB2 HI2 HT2 HB1 HI1
 go_wp2_with fail
 try rw[<-hW3]
 refine(HP2.out W3 _ _ HJ3.out HK3.out).mono ?_
 rintro z w4 ⟨v3,rfl,hb4⟩
 have HB4:=aZ (HB3.out.trans (hb4.mono HB3.out.size))
 have HI4:=aZ (HI3.out.keep hb4)
 have HT4:=aZ (HT3.out.below hb4)
 clear hb4 hW3 HP2 HJ3 HK3 HB3 HI3 HT3
 go_upto_region 3 with(fail)
 obtain⟨w5,hw5⟩:∃w5,w5=w4.alloc (.cells #[.int .i64 Q3,.int .i64 v3,.int .i64 3] 60):=⟨_,rfl⟩
 have hb5:Below w4.heap.size w4 w5:=by rw[hw5];exact(Below.refl _ w4).alloc (Nat.le_refl _) _
 rw[<-hw5]
 obtain⟨W6,hW6⟩:∃W6,W6=w5.alloc (.cells #[.int .i64 0,.int .i64 2] 2):=⟨_,rfl⟩
 have hb6:Below w5.heap.size w5 W6:=by rw[hW6];exact(Below.refl _ w5).alloc (Nat.le_refl _) _
 have hl6:=ints64_two w5 0 2 2 w5.heap.size rfl
 rw[<-hW6] at hl6
 have HB6:=aZ (HB4.out.trans ((hb5.trans (hb6.mono hb5.size)).mono HB4.out.size))
 have HT6:=aZ ((HT4.out.below hb5).below hb6)
 have hsm:=same19 (some ⟨g,0,none⟩) (some ⟨w5.heap.size,0,none⟩) 2 2 2 2 (λi=>[0,2].getD i 0) (λi=>[0,2].getD i 0) W6 ((HI4.out.keep hb5).keep hb6) hl6 (by omega) (by omega)
 rw[show sameB2 2 2 (λi=>[0,2].getD i 0) (λi=>[0,2].getD i 0)=true from decide_eq_true ⟨rfl,λ_ _=>rfl⟩] at hsm
 have HSM:=aZ hsm
 clear hw5 hb5 hb6 hl6 hsm HB4 HI4 HT4
 go_wp2_with fail
 try rw[<-hW6]
 refine HSM.out.mono ?_
 rintro z w7 ⟨rfl,hq7⟩
 have HB7:=aZ (HB6.out.trans (hq7.below.mono HB6.out.size))
 obtain⟨t0,t1,t2⟩:=HT6.out.below hq7.below
 clear hq7 hW6 HSM HB6 HT6
 go_wp2
 go_ret
 exact⟨rfl,HB7.out⟩
end Go.Proofs.Yteaimnemobnknaa
