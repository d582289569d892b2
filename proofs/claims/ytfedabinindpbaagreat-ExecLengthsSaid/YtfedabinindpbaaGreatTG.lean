/- Floats, sums of two floats, parts of a turn: what the contract of Turn wants (TG). -/
import Derived.Test.YtfedabinindpbaaGreatX0
import Derived.Test.YtfedabinindpbaaGreatTB
import Derived.Deep.CutRange
set_option maxRecDepth 100000
set_option maxHeartbeats 4000000
set_option linter.unusedSimpArgs false
set_option linter.unusedVariables false
namespace Go.Proofs.YtfedabinindpbaaGreat.T
open Go.RowKit Fl
abbrev wholeF(m:Int):Nat:=floatOfInt .f64 m
def negP(a:Nat×Nat):Nat×Nat:=(fneg a.1,fneg a.2)
abbrev oneW:Nat:=4607182418800017408
def serStep(sq:Nat×Nat)(i:Int)(t:(Nat×Nat)×(Nat×Nat)):Option ((Nat×Nat)×(Nat×Nat)):=
 (mulF t.1 sq).bind λu=>(quoF u (wholeF (i*(i+1)),0)).bind λv=>(addF t.2 v).bind λs=>some (v,s)
theorem serStep_parts{a b c d g h g' h' m i:Nat}{sq:Nat×Nat}{j:Int}(hq:serStep sq j ((a,b),(c,d))=some ((g,h),(g',h'))):
  ∃u1 u2,mulF (a,b) sq=some (u1,u2)/\quoF (u1,u2) (wholeF (j*(j+1)),0)=some (g,h)/\addF (c,d) (g,h)=some (g',h'):=by
 simp only[serStep,Option.bind_eq_some_iff,Option.some.injEq,Prod.mk.injEq] at hq
 obtain⟨⟨u1,u2⟩,h1,⟨v1,v2⟩,h2,⟨s1,s2⟩,h3,⟨rfl,rfl⟩,rfl,rfl⟩:=hq
 exact⟨u1,u2,h1,h2,h3⟩
theorem quoF_any(a b c d e f:Nat)(w:World)(h:quoF (a,b) (c,d)=some (e,f)):
  Calls Tryz.prog 171 #[num a b,num c d] w λz w'=>z=.returned (num e f)/\Below w.heap.size w w':=by
 simp only[quoF,Option.bind_eq_some_iff] at h
 obtain⟨z,h1,⟨q1,q2⟩,h2,h3⟩:=h
 have:=quo_any a b c d (λk=>if k=0 then(z,0) else if k=1 then(q1,q2) else(e,f)) w h1 rfl (λk hk=>by
  rcases(show k=0\/k=1 by omega) with rfl|rfl
  ·exact h2
  ·exact h3)
 exact this
theorem series_any(x y p q:Nat)(f:Int)(R:Nat)(T:Nat->(Nat×Nat)×(Nat×Nat))(w:World)(hR:(f=0/\R=15)\/(f=1/\R=14))(h1:mulF (x,y) (x,y)=some (p,q))(h0:T 0=((oneW,0),(oneW,0)))(hT:∀k,k<R->serStep (fneg p,fneg q) (f+1+2*k) (T k)=some (T (k+1))):
  Calls Tryz.prog 172 #[num x y,.int .i64 f] w λz w'=>z=.returned (num (T R).2.1 (T R).2.2)/\Below w.heap.size w w':=by
 have H1:=aZ h1
 have H0:=aZ h0
 have HT:=aZ hT
 have HR:=aZ hR
 have hf:0<=f/\f<=1:=by omega
 have hRl:R<=15:=by omega
 clear h1 h0 hT hR
 go_enter Tryz.func172,Tryz.ntmps172
 go_wp2_with fail
 refine(mul_any _ _ _ _ _ _ _ H1.out).mono ?_
 rintro z w1 ⟨rfl,hb1⟩
 have T0:Two ((w.alloc (.cells #[.float .f64 x,.float .f64 y] 188)).alloc (.cells #[.float .f64 0,.float .f64 0] 188)) (w.heap.size+1) (.float .f64 0) (.float .f64 0):=Two.new' (by simp) _ _ _
 have T1:=aZ (T0.keep hb1)
 have B1:Hid (Below w.heap.size w w1):=aZ ((((Below.refl _ w).alloc (Nat.le_refl _) _).alloc (by simp) _).trans (hb1.mono (by simp;omega)))
 clear hb1 T0
 go_wp2_with fail
 refine(neg_any _ _ _).mono ?_
 rintro z w2 ⟨rfl,hb2⟩
 have T2:=aZ (T1.out.keep hb2)
 have B2:Hid (Below w.heap.size w w2):=aZ (B1.out.trans (hb2.mono B1.out.size))
 clear hb2 T1 B1
 have z1:=T2.out.lt
 have z2:=B2.out.size
 have T3:=aZ (((T2.out.alloc (.cells #[.float .f64 (fneg p),.float .f64 (fneg q)] 188)).alloc (.cells #[.float .f64 oneW,.float .f64 0] 188)).alloc (.cells #[.float .f64 oneW,.float .f64 0] 188))
 have T4:Hid (Two _ w2.heap.size (.float .f64 (fneg p)) (.float .f64 (fneg q))):=aZ (((Two.new' (w:=w2) (b:=w2.heap.size) rfl (.float .f64 (fneg p)) (.float .f64 (fneg q)) 188).alloc (.cells #[.float .f64 oneW,.float .f64 0] 188)).alloc (.cells #[.float .f64 oneW,.float .f64 0] 188))
 have T5:Hid (Two _ (w2.heap.size+1) (.float .f64 oneW) (.float .f64 0)):=aZ ((Two.new' (w:=w2.alloc (.cells #[.float .f64 (fneg p),.float .f64 (fneg q)] 188)) (b:=w2.heap.size+1) (by simp) (.float .f64 oneW) (.float .f64 0) 188).alloc (.cells #[.float .f64 oneW,.float .f64 0] 188))
 have T6:Hid (Two _ (w2.heap.size+1+1) (.float .f64 oneW) (.float .f64 0)):=aZ (Two.new' (w:=(w2.alloc (.cells #[.float .f64 (fneg p),.float .f64 (fneg q)] 188)).alloc (.cells #[.float .f64 oneW,.float .f64 0] 188)) (b:=w2.heap.size+1+1) (by simp) (.float .f64 oneW) (.float .f64 0) 188)
 have B3:Hid (Below w.heap.size w (((w2.alloc (.cells #[.float .f64 (fneg p),.float .f64 (fneg q)] 188)).alloc (.cells #[.float .f64 oneW,.float .f64 0] 188)).alloc (.cells #[.float .f64 oneW,.float .f64 0] 188))):=
  aZ (((B2.out.alloc B2.out.size _).alloc (by simp;omega) _).alloc (by simp;omega) _)
 clear T2 B2
 have wf:wrap64 (f+1)=f+1:=by unfold wrap64;omega
 go_wp2_with (first|simp only[wf]|fail)
 go_loopw [8] (λi wr=>∃k:Nat,k<=R/\i=.int .i64 (f+1+2*k)/\Hid (Two wr (w.heap.size+1) (.float .f64 0) (.float .f64 0))/\Hid (Two wr w2.heap.size (.float .f64 (fneg p)) (.float .f64 (fneg q)))/\Hid (Two wr (w2.heap.size+1) (.float .f64 (T k).1.1) (.float .f64 (T k).1.2))/\Hid (Two wr (w2.heap.size+1+1) (.float .f64 (T k).2.1) (.float .f64 (T k).2.2))/\Hid (Below w.heap.size w wr)) (λi _=>(60-intOf i).toNat)
 case atStart=>
  refine⟨0,by omega,by simp,T3,T4,by rw[H0.out];exact T5,by rw[H0.out];exact T6,B3⟩
 case round=>
  obtain⟨k,hk,rfl,t0,t1,t2,t3,hb⟩:=hrel
  have hk30:(k<R↔f+1+2*(k:Int)<30):=by have:=HR.out;omega
  have hz:=hb.out.size
  by_cases hlt:k<R
  ·have hki:=hk30.1 hlt
   obtain⟨⟨⟨g,h⟩,g',h'⟩,hgh⟩:∃gh,gh=T (k+1):=⟨_,rfl⟩
   obtain⟨⟨⟨a,b⟩,c,d⟩,hef⟩:∃ef,ef=T k:=⟨_,rfl⟩
   obtain⟨u1,u2,hm,hq,hs⟩:=serStep_parts (m:=0) (i:=0) (a:=a) (b:=b) (c:=c) (d:=d) (g:=g) (h:=h) (g':=g') (h':=h') (sq:=(fneg p,fneg q)) (j:=f+1+2*k) (by rw[hgh,hef];exact HT.out k hlt)
   have HM:=aZ hm
   have HQ:=aZ hq
   have HS:=aZ hs
   have HGH:=aZ hgh
   rw[<-hef] at t2 t3
   have jj:∀j:Int,0<=j->j<30->wrap64 (j+1)=j+1/\wrap64 (j*(j+1))=j*(j+1)/\wrap64 (j+2)=j+2:=λj j0 j1=>by
    have hmul:0<=j*(j+1)/\j*(j+1)<=30*30:=⟨Int.mul_nonneg (by omega) (by omega),Int.mul_le_mul (by omega) (by omega) (by omega) (by omega)⟩
    refine⟨by unfold wrap64;omega,?_,by unfold wrap64;omega⟩
    generalize j*(j+1)=m at*
    unfold wrap64;omega
   obtain⟨w1',w2',w3'⟩:=jj (f+1+2*(k:Int)) (by omega) hki
   clear hm hq hs hgh hef jj
   obtain⟨r0,r1,f0,f1⟩:=t1.out
   obtain⟨r2,r3,f2,f3⟩:=t2.out
   have l2:=t2.out.lt
   have l3:=t3.out.lt
   go_wp2_with fail
   refine(mul_any _ _ _ _ _ _ _ HM.out).mono ?_
   rintro z w5 ⟨rfl,hb5⟩
   have N0:=aZ (t0.out.keep hb5)
   have N1:=aZ (t1.out.keep hb5)
   have N2:=aZ (t2.out.keep hb5)
   have N3:=aZ (t3.out.keep hb5)
   have B5:Hid (Below w.heap.size w w5):=aZ (hb.out.trans (hb5.mono hz))
   clear hb5 t0 t1 t2 t3 hb r0 r1 f0 f1 r2 r3 f2 f3
   go_wp2_with (first|simp only[w1',w2']|fail)
   refine(quoF_any _ _ _ _ _ _ _ HQ.out).mono ?_
   rintro z w6 ⟨rfl,hb6⟩
   have z5:=B5.out.size
   have M0:=N0.out.keep hb6
   have M1:=N1.out.keep hb6
   have M2:=N2.out.keep hb6
   have M3:=N3.out.keep hb6
   have B6:Below w.heap.size w w6:=B5.out.trans (hb6.mono z5)
   have L0:=aZ ((M0.setOther ⟨w2.heap.size+1,0,none⟩ (by show w2.heap.size+1≠_;omega) (.float .f64 g)).setOther ⟨w2.heap.size+1,1,none⟩ (by show w2.heap.size+1≠_;omega) (.float .f64 h))
   have L1:=aZ ((M1.setOther ⟨w2.heap.size+1,0,none⟩ (by show w2.heap.size+1≠_;omega) (.float .f64 g)).setOther ⟨w2.heap.size+1,1,none⟩ (by show w2.heap.size+1≠_;omega) (.float .f64 h))
   have L2:=aZ (M2.setBoth (.float .f64 g) (.float .f64 h))
   have L3:=aZ ((M3.setOther ⟨w2.heap.size+1,0,none⟩ (by show w2.heap.size+1≠_;omega) (.float .f64 g)).setOther ⟨w2.heap.size+1,1,none⟩ (by show w2.heap.size+1≠_;omega) (.float .f64 h))
   have B7:Hid (Below w.heap.size w ((w6.setCell ⟨w2.heap.size+1,0,none⟩ (.float .f64 g)).setCell ⟨w2.heap.size+1,1,none⟩ (.float .f64 h))):=aZ ((B6.setCell (p:=⟨_,_,_⟩) (by show w.heap.size<=w2.heap.size+1;omega) _).setCell (p:=⟨_,_,_⟩) (by show w.heap.size<=w2.heap.size+1;omega) _)
   obtain⟨r2,r3,f2,f3⟩:=M2
   have l6:=World.block_lt_of_cell? _ _ r2
   clear hb6 N0 N1 N2 N3 M0 M1 M3 B5 B6
   go_upto_region 7 with fail
   obtain⟨W,hW⟩:∃W,W=((w6.setCell ⟨w2.heap.size+1,0,none⟩ (.float .f64 g)).setCell ⟨w2.heap.size+1,1,none⟩ (.float .f64 h)):=⟨_,rfl⟩
   rw[<-hW] at L0 L1 L2 L3 B7|-
   clear hW r2 r3 f2 f3 l6
   obtain⟨r0,r1,f0,f1⟩:=L2.out
   obtain⟨r2,r3,f2,f3⟩:=L3.out
   go_wp2_with fail
   refine(add_any _ _ _ _ _ _ _ HS.out).mono ?_
   rintro z w8 ⟨rfl,hb8⟩
   have M0:=L0.out.keep hb8
   have M1:=L1.out.keep hb8
   have M2:=L2.out.keep hb8
   have M3:=L3.out.keep hb8
   have z7:=B7.out.size
   have B8:Below w.heap.size w w8:=B7.out.trans (hb8.mono z7)
   have K0:=aZ ((M0.setOther ⟨w2.heap.size+1+1,0,none⟩ (by show w2.heap.size+1+1≠_;omega) (.float .f64 g')).setOther ⟨w2.heap.size+1+1,1,none⟩ (by show w2.heap.size+1+1≠_;omega) (.float .f64 h'))
   have K1:=aZ ((M1.setOther ⟨w2.heap.size+1+1,0,none⟩ (by show w2.heap.size+1+1≠_;omega) (.float .f64 g')).setOther ⟨w2.heap.size+1+1,1,none⟩ (by show w2.heap.size+1+1≠_;omega) (.float .f64 h'))
   have K2:=aZ ((M2.setOther ⟨w2.heap.size+1+1,0,none⟩ (by show w2.heap.size+1+1≠_;omega) (.float .f64 g')).setOther ⟨w2.heap.size+1+1,1,none⟩ (by show w2.heap.size+1+1≠_;omega) (.float .f64 h'))
   have K3:=aZ (M3.setBoth (.float .f64 g') (.float .f64 h'))
   have B9:Hid (Below w.heap.size w ((w8.setCell ⟨w2.heap.size+1+1,0,none⟩ (.float .f64 g')).setCell ⟨w2.heap.size+1+1,1,none⟩ (.float .f64 h'))):=aZ ((B8.setCell (p:=⟨_,_,_⟩) (by show w.heap.size<=w2.heap.size+1+1;omega) _).setCell (p:=⟨_,_,_⟩) (by show w.heap.size<=w2.heap.size+1+1;omega) _)
   have eT:((g,h),g',h')=T (k+1):=HGH.out
   clear hb8 L0 L1 L2 L3 M0 M1 M2 B7 B8 r0 r1 f0 f1 r2 r3 f2 f3
   obtain⟨r2,r3,f2,f3⟩:=M3
   have l6:=World.block_lt_of_cell? _ _ r2
   go_wp2_with (first|simp only[w3']|fail)
   refine⟨⟨k+1,by omega,by congr 1;omega,K0,K1,?_,?_,B9⟩,by simp[intOf];omega⟩
   ·rw[<-eT];exact K2
   ·rw[<-eT];exact K3
  ·have hkR:k=R:=by omega
   have hki:¬f+1+2*(k:Int)<30:=λh=>hlt (hk30.2 h)
   obtain⟨r0,r1,f0,f1⟩:=t0.out
   obtain⟨r2,r3,f2,f3⟩:=t3.out
   have l0:=t0.out.lt
   clear hk30
   go_wp2_with fail
   rw[hkR] at r2 r3
   refine bodyPost_ret (v:=num (T R).2.1 (T R).2.2) (by simp[results,Tryz.results172,go_sem,r0,r1,hkR]) rfl ⟨rfl,?_⟩
   exact(hb.out.setCell (p:=⟨_,_,_⟩) (by show w.heap.size<=w.heap.size+1;omega) _).setCell (p:=⟨_,_,_⟩) (by show w.heap.size<=w.heap.size+1;omega) _
def octO(k n:Int):Int:=8*(k%n)/n
def octR(k n:Int):Int:=if octO k n%2=1 then(octO k n+1)*n-8*(k%n) else 8*(k%n)-octO k n*n
theorem rem_fix(k n:Int)(hn:0<n):(k.tmod n<0->k.tmod n+n=k%n)/\(0<=k.tmod n->k.tmod n=k%n):=by
 have h:=Int.tmod_eq_emod (a:=k) (b:=n)
 have h1:=Int.emod_nonneg k (show n≠0 by omega)
 have h2:=Int.emod_lt_of_pos k hn
 have h3:(n.natAbs:Int)=n:=by omega
 by_cases hc:0<=k\/n∣k
 ·rw[if_pos hc] at h
  omega
 ·rw[if_neg hc,h3] at h
  omega
theorem octO_spec(k n:Int)(hn:0<n):0<=octO k n/\octO k n<=7/\octO k n*n<=8*(k%n)/\8*(k%n)<octO k n*n+n:=by
 have h1:=Int.emod_nonneg k (show n≠0 by omega)
 have h2:=Int.emod_lt_of_pos k hn
 have h3:=Int.ediv_mul_le (8*(k%n)) (show n≠0 by omega)
 have h4:=Int.lt_ediv_add_one_mul_self (8*(k%n)) hn
 have h5:0<=8*(k%n)/n:=Int.ediv_nonneg (by omega) (by omega)
 have h6:8*(k%n)/n<8:=Int.ediv_lt_of_lt_mul hn (by omega)
 unfold octO
 rw[Int.add_mul,Int.one_mul] at h4
 exact⟨h5,by omega,h3,h4⟩
theorem wrapIn{x:Int}(h1:-9223372036854775808<=x)(h2:x<=9223372036854775807):wrap64 x=x:=by
 unfold wrap64;omega
theorem oct_steps(k n:Int)(h1:1<=n)(h2:n<=1099511627776):
  wrap64 (8*(k%n))=8*(k%n)/\(8*(k%n)).tdiv n=octO k n/\wrap64 (octO k n)=octO k n/\(octO k n).tmod 2=octO k n%2/\wrap64 (octO k n+1)=octO k n+1/\
  wrap64 (octO k n*n)=octO k n*n/\wrap64 ((octO k n+1)*n)=(octO k n+1)*n/\wrap64 (8*(k%n)-octO k n*n)=8*(k%n)-octO k n*n/\
  wrap64 ((octO k n+1)*n-8*(k%n))=(octO k n+1)*n-8*(k%n):=by
 obtain⟨s1,s2,s3,s4⟩:=octO_spec k n (by omega)
 have q1:=Int.emod_nonneg k (show n≠0 by omega)
 have q2:=Int.emod_lt_of_pos k (show 0<n by omega)
 have e:(octO k n+1)*n=octO k n*n+n:=by rw[Int.add_mul,Int.one_mul]
 have e0:0<=octO k n*n:=Int.mul_nonneg s1 (by omega)
 rw[e]
 refine⟨wrapIn (by omega) (by omega),?_,wrapIn (by omega) (by omega),Int.tmod_eq_emod_of_nonneg s1,wrapIn (by omega) (by omega),wrapIn (by omega) (by omega),wrapIn (by omega) (by omega),wrapIn (by omega) (by omega),wrapIn (by omega) (by omega)⟩
 rw[Int.tdiv_eq_ediv_of_nonneg (by omega)];rfl
theorem octant_any(k n:Int)(w:World)(h1:1<=n)(h2:n<=1099511627776):
  Calls Tryz.prog 161 #[.int .i64 k,.int .i64 n] w λz w'=>z=.returned (.tuple #[.int .i64 (octO k n),.int .i64 (octR k n)])/\w=w':=by
 obtain⟨r1,r2⟩:=rem_fix k n (by omega)
 have hw:wrap64 (k%n)=k%n:=wrapIn (by have:=Int.emod_nonneg k (show n≠0 by omega);omega) (by have:=Int.emod_lt_of_pos k (show 0<n by omega);omega)
 obtain⟨e1,e2,e3,e4,e5,e6,e7,e8,e9⟩:=oct_steps k n h1 h2
 go_enter Tryz.func161,Tryz.ntmps161
 by_cases hneg:k.tmod n<0
 ·have e0:=r1 hneg
  clear r1 r2
  by_cases ho:octO k n%2=1
  ·go_wp2_with (first|simp only[e0,hw,e1,e2,e3,e4,e5,e6,e7,e8,e9,ho]|fail)
   go_ret2
   exact⟨by unfold octR;rw[if_pos ho];rfl,rfl⟩
  ·have ho2:octO k n%2=0:=by omega
   go_wp2_with (first|simp only[e0,hw,e1,e2,e3,e4,e5,e6,e7,e8,e9,ho2]|fail)
   go_ret2
   exact⟨by unfold octR;rw[if_neg ho];rfl,rfl⟩
 ·have e0:=r2 (by omega)
  clear r1 r2
  by_cases ho:octO k n%2=1
  ·go_wp2_with (first|simp only[e0,hw,e1,e2,e3,e4,e5,e6,e7,e8,e9,ho]|fail)
   go_ret2
   exact⟨by unfold octR;rw[if_pos ho];rfl,rfl⟩
  ·have ho2:octO k n%2=0:=by omega
   go_wp2_with (first|simp only[e0,hw,e1,e2,e3,e4,e5,e6,e7,e8,e9,ho2]|fail)
   go_ret2
   exact⟨by unfold octR;rw[if_neg ho];rfl,rfl⟩
def serTo(sq:Nat×Nat)(f:Int):Nat->Option ((Nat×Nat)×(Nat×Nat))
 |0=>some ((oneW,0),(oneW,0))
 |k+1=>(serTo sq f k).bind (serStep sq (f+1+2*k))
def serO(x:Nat×Nat)(f:Int)(R:Nat):Option (Nat×Nat):=(mulF x x).bind λp=>(serTo (negP p) f R).bind λt=>some t.2
theorem serTo_all{sq:Nat×Nat}{f:Int}{R:Nat}{t:(Nat×Nat)×(Nat×Nat)}(h:serTo sq f R=some t):∀k,k<=R->∃u,serTo sq f k=some u:=by
 intro k hk
 induction R generalizing t with
 |zero=>obtain rfl:k=0:=by omega
        exact⟨t,h⟩
 |succ R ih=>
   rcases(show k=R+1\/k<=R by omega) with rfl|hk
   ·exact⟨t,h⟩
   ·simp only[serTo,Option.bind_eq_some_iff] at h
    obtain⟨u,h1,h2⟩:=h
    exact ih h1 hk
theorem ser_any(x y c d:Nat)(f:Int)(R:Nat)(w:World)(hR:(f=0/\R=15)\/(f=1/\R=14))(h:serO (x,y) f R=some (c,d)):
  Calls Tryz.prog 172 #[num x y,.int .i64 f] w λz w'=>z=.returned (num c d)/\Below w.heap.size w w':=by
 simp only[serO,Option.bind_eq_some_iff,Option.some.injEq] at h
 obtain⟨⟨p,q⟩,h1,t,h2,h3⟩:=h
 have hall:=serTo_all h2
 have hT:∀k,k<=R->serTo (negP (p,q)) f k=some ((serTo (negP (p,q)) f k).getD default):=λk hk=>by
  obtain⟨u,hu⟩:=hall k hk
  rw[hu];rfl
 have:=series_any x y p q f R (λk=>(serTo (negP (p,q)) f k).getD default) w hR h1 rfl (λk hk=>by
  have a:=hT k (by omega)
  have b:=hT (k+1) (by omega)
  rw[<-b]
  show _=(serTo (negP (p,q)) f k).bind _
  rw[a];rfl)
 have e:(serTo (negP (p,q)) f R).getD default=t:=by rw[h2];rfl
 simp only[e,h3] at this
 exact this
theorem quarter_any(w:World):Calls Tryz.prog 169 #[] w λz w'=>z=.returned (num 4605249457297304856 4359948597267291143)/\Below w.heap.size w w':=by
 go_enter Tryz.func169,Tryz.ntmps169
 go_wp2
 refine bodyPost_ret (v:=num 4605249457297304856 4359948597267291143) (by simp[results,Tryz.results169,go_sem]) rfl ⟨rfl,?_⟩
 exact(Below.refl _ _).alloc (Nat.le_refl _) _
def plainF(a:Nat×Nat):Nat×Nat:=if iv a.1=0 then(0,0) else a
theorem plain_any(x y:Nat)(w:World)(fx:Fnt x):Calls Tryz.prog 164 #[num x y] w λz w'=>z=.returned (num (plainF (x,y)).1 (plainF (x,y)).2)/\Below w.heap.size w w':=by
 have hz:=order_spec fx (show Fnt 0 by decide)
 rw[iv_zero] at hz
 unfold plainF
 by_cases h:iv x=0
 ·have h1:(FloatKind.f64.format.order x 0==some Ordering.eq)=true:=by
    show(D.order x 0==some .eq)=true
    rw[hz,h];rfl
  rw[if_pos h]
  clear hz h
  go_enter Tryz.func164,Tryz.ntmps164
  go_wp2
  refine bodyPost_ret (v:=num 0 0) (by simp[results,Tryz.results164,go_sem]) rfl ⟨rfl,?_⟩
  exact((Below.refl _ _).alloc (Nat.le_refl _) _).alloc (by simp) _
 ·have h1:(FloatKind.f64.format.order x 0==some Ordering.eq)=false:=by
    show(D.order x 0==some .eq)=false
    rw[hz]
    rcases Int.lt_trichotomy (iv x) 0 with g|g|g
    ·rw[show compare (iv x) 0=.lt from Int.compare_eq_lt.2 g];rfl
    ·exact absurd g h
    ·rw[show compare (iv x) 0=.gt from Int.compare_eq_gt.2 g];rfl
  rw[if_neg h]
  clear hz h
  go_enter Tryz.func164,Tryz.ntmps164
  go_wp2
  refine bodyPost_ret (v:=num x y) (by simp[results,Tryz.results164,go_sem]) rfl ⟨rfl,?_⟩
  exact((Below.refl _ _).alloc (Nat.le_refl _) _).alloc (by simp) _
abbrev quarterP:Nat×Nat:=(4605249457297304856,4359948597267291143)
def nearF(r n:Int):Option ((Nat×Nat)×(Nat×Nat)):=
 if r=0 then some ((oneW,0),(0,0)) else
 (mulF quarterP (wholeF r,0)).bind λm=>(quoF m (wholeF n,0)).bind λx=>(serO x 0 15).bind λc=>(serO x 1 14).bind λs0=>(mulF s0 x).bind λs=>some (c,if r=n then c else s)
@[irreducible] def was(w:World)(b o:Nat):Value:=(w.cell? ⟨b,o,none⟩).getD undef
theorem cell_was{w:World}{b o:Nat}{v:Value}(h:w.cell? ⟨b,o,none⟩=some v):w.cell? ⟨b,o,none⟩=some (was w b o):=by
 unfold was;rw[h];rfl
structure RW(b4 b5 b6:Nat)(x y:Value)(w w1:World):Prop where
 r:Two w1 b6 x y
 p:∃s t,Two w1 b4 s t
 q:∃s t,Two w1 b5 s t
 b:Below w.heap.size w w1
 l4:w.heap.size<=b4
 l5:w.heap.size<=b5
 n46:b4≠b6
 n56:b5≠b6
 n45:b4≠b5
theorem skN{b4 b5 b6:Nat}{x y:Value}{w w1:World}(h:Hid (RW b4 b5 b6 x y w w1)):
  w1.cell? ⟨b6,0,none⟩=some x/\w1.cell? ⟨b6,1,none⟩=some y/\w1.cell? ⟨b4,0,none⟩=some (was w1 b4 0)/\w1.cell? ⟨b4,1,none⟩=some (was w1 b4 1)/\w1.frozen? ⟨b4,0,none⟩=false/\w1.frozen? ⟨b4,1,none⟩=false/\
   w1.cell? ⟨b5,0,none⟩=some (was w1 b5 0)/\w1.cell? ⟨b5,1,none⟩=some (was w1 b5 1)/\w1.frozen? ⟨b5,0,none⟩=false/\w1.frozen? ⟨b5,1,none⟩=false/\Hid (RW b4 b5 b6 x y w w1):=by
 obtain⟨p0,p1,_,_⟩:=h.out.r
 obtain⟨s,t,q0,q1,q2,q3⟩:=h.out.p
 obtain⟨u,v,r0,r1,r2,r3⟩:=h.out.q
 exact⟨p0,p1,cell_was q0,cell_was q1,q2,q3,cell_was r0,cell_was r1,r2,r3,h⟩
theorem rw_drew{b4 b5 b6:Nat}{x y:Value}{w w1:World}(h:Hid (RW b4 b5 b6 x y w w1)):Hid (RW b4 b5 b6 x y w w1.drew):=
 aZ ⟨h.out.r,h.out.p,h.out.q,h.out.b.drew,h.out.l4,h.out.l5,h.out.n46,h.out.n56,h.out.n45⟩
theorem rw_keep{b4 b5 b6:Nat}{x y:Value}{w w1 w2:World}(h:Hid (RW b4 b5 b6 x y w w1))(hb:Below w1.heap.size w1 w2):Hid (RW b4 b5 b6 x y w w2):=by
 obtain⟨s,t,h4⟩:=h.out.p
 obtain⟨u,v,h5⟩:=h.out.q
 exact aZ ⟨h.out.r.keep hb,⟨s,t,h4.keep hb⟩,⟨u,v,h5.keep hb⟩,h.out.b.trans (hb.mono h.out.b.size),h.out.l4,h.out.l5,h.out.n46,h.out.n56,h.out.n45⟩
theorem sBN{A1 A2 A3 A4 A5 A6 A7 A8 A9 A10:Prop}{b4 b5 b6:Nat}{x y:Value}{w w1 w2:World}(hb:Below w1.heap.size w1 w2)(h:A1/\A2/\A3/\A4/\A5/\A6/\A7/\A8/\A9/\A10/\Hid (RW b4 b5 b6 x y w w1)):Hid (RW b4 b5 b6 x y w w2):=
 rw_keep h.2.2.2.2.2.2.2.2.2.2 hb
theorem rw_set4{b4 b5 b6:Nat}{x y s t:Value}{w w1:World}(h:Hid (RW b4 b5 b6 x y w w1)):Hid (RW b4 b5 b6 x y w ((w1.setCell ⟨b4,0,none⟩ s).setCell ⟨b4,1,none⟩ t)):=by
 obtain⟨u,v,h4⟩:=h.out.p
 obtain⟨u',v',h5⟩:=h.out.q
 exact aZ ⟨(h.out.r.setOther ⟨b4,0,none⟩ h.out.n46 s).setOther ⟨b4,1,none⟩ h.out.n46 t,⟨s,t,h4.setBoth s t⟩,⟨u',v',(h5.setOther ⟨b4,0,none⟩ h.out.n45 s).setOther ⟨b4,1,none⟩ h.out.n45 t⟩,
  (h.out.b.setCell (p:=⟨b4,0,none⟩) h.out.l4 s).setCell (p:=⟨b4,1,none⟩) h.out.l4 t,h.out.l4,h.out.l5,h.out.n46,h.out.n56,h.out.n45⟩
theorem rw_set5{b4 b5 b6:Nat}{x y s t:Value}{w w1:World}(h:Hid (RW b4 b5 b6 x y w w1)):Hid (RW b4 b5 b6 x y w ((w1.setCell ⟨b5,0,none⟩ s).setCell ⟨b5,1,none⟩ t)):=by
 obtain⟨u,v,h4⟩:=h.out.p
 obtain⟨u',v',h5⟩:=h.out.q
 exact aZ ⟨(h.out.r.setOther ⟨b5,0,none⟩ h.out.n56 s).setOther ⟨b5,1,none⟩ h.out.n56 t,⟨u,v,(h4.setOther ⟨b5,0,none⟩ (λe=>h.out.n45 e.symm) s).setOther ⟨b5,1,none⟩ (λe=>h.out.n45 e.symm) t⟩,⟨s,t,h5.setBoth s t⟩,
  (h.out.b.setCell (p:=⟨b5,0,none⟩) h.out.l5 s).setCell (p:=⟨b5,1,none⟩) h.out.l5 t,h.out.l4,h.out.l5,h.out.n46,h.out.n56,h.out.n45⟩
theorem rw_both{b4 b5 b6:Nat}{x y s t s' t':Value}{w w1:World}(h:Hid (RW b4 b5 b6 x y w w1)):
  Two ((((w1.setCell ⟨b4,0,none⟩ s).setCell ⟨b4,1,none⟩ t).setCell ⟨b5,0,none⟩ s').setCell ⟨b5,1,none⟩ t') b4 s t/\Two ((((w1.setCell ⟨b4,0,none⟩ s).setCell ⟨b4,1,none⟩ t).setCell ⟨b5,0,none⟩ s').setCell ⟨b5,1,none⟩ t') b5 s' t'/\
   Below w.heap.size w ((((w1.setCell ⟨b4,0,none⟩ s).setCell ⟨b4,1,none⟩ t).setCell ⟨b5,0,none⟩ s').setCell ⟨b5,1,none⟩ t'):=by
 obtain⟨u,v,h4⟩:=h.out.p
 obtain⟨u',v',h5⟩:=h.out.q
 have k:=rw_set5 (s:=s') (t:=t') (rw_set4 (s:=s) (t:=t) h)
 refine⟨((h4.setBoth s t).setOther ⟨b5,0,none⟩ (λe=>h.out.n45 e.symm) s').setOther ⟨b5,1,none⟩ (λe=>h.out.n45 e.symm) t',?_,k.out.b⟩
 exact(((h5.setOther ⟨b4,0,none⟩ h.out.n45 s).setOther ⟨b4,1,none⟩ h.out.n45 t).setBoth s' t')
theorem rw_both'{b4 b5 b6:Nat}{x y s t s' t':Value}{w w1:World}(h:Hid (RW b4 b5 b6 x y w w1)):
  Two ((((w1.setCell ⟨b5,0,none⟩ s').setCell ⟨b5,1,none⟩ t').setCell ⟨b4,0,none⟩ s).setCell ⟨b4,1,none⟩ t) b4 s t/\Two ((((w1.setCell ⟨b5,0,none⟩ s').setCell ⟨b5,1,none⟩ t').setCell ⟨b4,0,none⟩ s).setCell ⟨b4,1,none⟩ t) b5 s' t'/\
   Below w.heap.size w ((((w1.setCell ⟨b5,0,none⟩ s').setCell ⟨b5,1,none⟩ t').setCell ⟨b4,0,none⟩ s).setCell ⟨b4,1,none⟩ t):=by
 obtain⟨u,v,h4⟩:=h.out.p
 obtain⟨u',v',h5⟩:=h.out.q
 have k:=rw_set4 (s:=s) (t:=t) (rw_set5 (s:=s') (t:=t') h)
 refine⟨((h4.setOther ⟨b5,0,none⟩ (λe=>h.out.n45 e.symm) s').setOther ⟨b5,1,none⟩ (λe=>h.out.n45 e.symm) t').setBoth s t,?_,k.out.b⟩
 exact(((h5.setBoth s' t').setOther ⟨b4,0,none⟩ h.out.n45 s).setOther ⟨b4,1,none⟩ h.out.n45 t)
theorem near_zero(n:Int)(w:World):
  Calls Tryz.prog 162 #[.int .i64 0,.int .i64 n] w λz w'=>z=.returned (.tuple #[num oneW 0,num 0 0])/\Below w.heap.size w w':=by
 go_enter Tryz.func162,Tryz.ntmps162
 go_wp2
 refine bodyPost_ret (v:=.tuple #[num oneW 0,num 0 0]) (by simp[results,Tryz.results162,go_sem]) rfl ⟨rfl,?_⟩
 exact((Below.refl _ _).alloc (Nat.le_refl _) _).alloc (by simp) _
theorem near_not(r n:Int)(m1 m2 x y:Nat)(F G:Int->Nat)(s1 s2:Nat)(w:World)(h0:r≠0)(hm:mulF quarterP (wholeF r,0)=some (m1,m2))(hq:quoF (m1,m2) (wholeF n,0)=some (x,y))(hs:∀f w,f=0\/f=1->Calls Tryz.prog 172 #[num x y,.int .i64 f] w λz w'=>z=.returned (num (F f) (G f))/\Below w.heap.size w w')(hp:mulF (F 1,G 1) (x,y)=some (s1,s2))(e1 e2:Nat)(he:(r=n/\e1=F 0/\e2=G 0)\/(r≠n/\e1=s1/\e2=s2)):
  Calls Tryz.prog 162 #[.int .i64 r,.int .i64 n] w λz w'=>z=.returned (.tuple #[num (F 0) (G 0),num e1 e2])/\Below w.heap.size w w':=by
 have HM:=aZ hm
 have HQ:=aZ hq
 have HS:=aZ hs
 have HP:=aZ hp
 clear hm hq hs hp
 go_enter Tryz.func162,Tryz.ntmps162
 go_wp2_with fail
 refine(quarter_any _).mono ?_
 rintro z w1 ⟨rfl,hb1⟩
 have A4:=aZ (((Two.new w (.float .f64 0) (.float .f64 0) 188).alloc (.cells #[.float .f64 0,.float .f64 0] 188)).keep hb1)
 have A5:=aZ ((Two.new' (w:=w.alloc (.cells #[.float .f64 0,.float .f64 0] 188)) (b:=w.heap.size+1) (by simp) (.float .f64 0) (.float .f64 0) 188).keep hb1)
 have B1:Hid (Below w.heap.size w w1):=aZ ((((Below.refl _ w).alloc (Nat.le_refl _) _).alloc (by simp) _).trans (hb1.mono (by simp;omega)))
 clear hb1
 go_wp2_with fail
 refine(mul_any _ _ _ _ _ _ _ HM.out).mono ?_
 rintro z w2 ⟨rfl,hb2⟩
 have C4:=aZ (A4.out.keep hb2)
 have C5:=aZ (A5.out.keep hb2)
 have B2:Hid (Below w.heap.size w w2):=aZ (B1.out.trans (hb2.mono B1.out.size))
 clear hb2 A4 A5 B1
 go_wp2_with fail
 refine(quoF_any _ _ _ _ _ _ _ HQ.out).mono ?_
 rintro z w3 ⟨rfl,hb3⟩
 have A4:=aZ ((C4.out.keep hb3).alloc (.cells #[.float .f64 x,.float .f64 y] 188))
 have A5:=aZ ((C5.out.keep hb3).alloc (.cells #[.float .f64 x,.float .f64 y] 188))
 have B3:Hid (Below w.heap.size w w3):=aZ (B2.out.trans (hb3.mono B2.out.size))
 have B4:Hid (Below w.heap.size w (w3.alloc (.cells #[.float .f64 x,.float .f64 y] 188))):=aZ (B3.out.alloc B3.out.size _)
 have A6:=aZ (Two.new w3 (.float .f64 x) (.float .f64 y) 188)
 have z5:=(C5.out.keep hb3).lt
 clear hb3 B2 C4 C5 B3
 go_upto_region 4 with fail
 obtain⟨D,hD⟩:∃D,D=w3.alloc (.cells #[.float .f64 x,.float .f64 y] 188):=⟨_,rfl⟩
 rw[<-hD] at A4 A5 A6 B4|-
 clear hD
 have z4:=B4.out.size
 have z6:=A6.out.lt
 have lw:w.heap.size+1<w3.heap.size:=z5
 have HRW:Hid (RW w.heap.size (w.heap.size+1) w3.heap.size (.float .f64 x) (.float .f64 y) w D):=aZ ⟨A6.out,⟨_,_,A4.out⟩,⟨_,_,A5.out⟩,B4.out,by omega,by omega,by omega,by omega,by omega⟩
 clear A4 A5 A6 B4
 go_cut [] from 20 to 188 (λwx=>Two wx w.heap.size (.float .f64 (F 0)) (.float .f64 (G 0))/\Two wx (w.heap.size+1) (.float .f64 s1) (.float .f64 s2)/\Below w.heap.size w wx)
 case first=>
  go_region_held3 (λw1=>w1.cell? ⟨w3.heap.size,0,none⟩=some (.float .f64 x)/\w1.cell? ⟨w3.heap.size,1,none⟩=some (.float .f64 y)/\w1.cell? ⟨w.heap.size,0,none⟩=some (was w1 w.heap.size 0)/\w1.cell? ⟨w.heap.size,1,none⟩=some (was w1 w.heap.size 1)/\w1.frozen? ⟨w.heap.size,0,none⟩=false/\w1.frozen? ⟨w.heap.size,1,none⟩=false/\
   w1.cell? ⟨w.heap.size+1,0,none⟩=some (was w1 (w.heap.size+1) 0)/\w1.cell? ⟨w.heap.size+1,1,none⟩=some (was w1 (w.heap.size+1) 1)/\w1.frozen? ⟨w.heap.size+1,0,none⟩=false/\w1.frozen? ⟨w.heap.size+1,1,none⟩=false/\Hid (RW w.heap.size (w.heap.size+1) w3.heap.size (.float .f64 x) (.float .f64 y) w w1))
   (first
    |with_reducible exact skN (by assumption)
    |with_reducible exact skN (rw_drew (by assumption))
    |with_reducible exact skN (rw_set4 (by assumption))
    |with_reducible exact skN (rw_set5 (by assumption))
    |with_reducible exact skN (rw_set5 (rw_set4 (by assumption)))
    |with_reducible exact skN (rw_set4 (rw_set5 (by assumption)))
    |fail)
   (first
    |((first|(go_at_call 172;refine(HS.out _ _ (by first|exact Or.inl rfl|exact Or.inr rfl)).mono ?_)|(go_at_call 170;refine(mul_any _ _ _ _ _ _ _ HP.out).mono ?_));
      rintro z w' ⟨rfl,hbb⟩;have hbw:=(by with_reducible exact sBN hbb (by assumption):Hid (RW w.heap.size (w.heap.size+1) w3.heap.size (.float .f64 x) (.float .f64 y) w w'))))
  all_goals(go_wp2_with fail;go_meet)
  all_goals first
   |with_reducible exact rw_both (by assumption)
   |with_reducible exact rw_both' (by assumption)
   |fail
 case rest=>
  obtain⟨p0,q0,bw⟩:=hcut
  have P0:=aZ p0
  have Q0:=aZ q0
  have BW:=aZ bw
  obtain⟨a0,a1,a2,a3⟩:=p0
  obtain⟨c0,c1,c2,c3⟩:=q0
  clear bw
  have lw0:=World.block_lt_of_cell? _ _ a0
  have lw1:=World.block_lt_of_cell? _ _ c0
  rcases he with⟨hrn,rfl,rfl⟩|⟨hrn,rfl,rfl⟩
  ·have hrb:(r==n)=true:=by simpa using hrn
   go_wp2_with fail
   refine bodyPost_ret (v:=.tuple #[num (F 0) (G 0),num (F 0) (G 0)]) (by simp[results,Tryz.results162,go_sem,a0,a1,c0,c1,lw0,lw1]) rfl ⟨rfl,?_⟩
   exact(((BW.out.setCell (p:=⟨_,_,_⟩) (by show w.heap.size<=w.heap.size;omega) _).setCell (p:=⟨_,_,_⟩) (by show w.heap.size<=w.heap.size;omega) _).setCell (p:=⟨_,_,_⟩) (by show w.heap.size<=w.heap.size+1;omega) _).setCell (p:=⟨_,_,_⟩) (by show w.heap.size<=w.heap.size+1;omega) _
  ·have hrb:(r==n)=false:=by simpa using hrn
   go_wp2_with fail
   go_region
   go_wp2_with fail
   refine bodyPost_ret (v:=.tuple #[num (F 0) (G 0),num e1 e2]) (by simp[results,Tryz.results162,go_sem,a0,a1,c0,c1,lw0,lw1]) rfl ⟨rfl,?_⟩
   exact((((BW.out.setCell (p:=⟨_,_,_⟩) (by show w.heap.size<=w.heap.size;omega) _).setCell (p:=⟨_,_,_⟩) (by show w.heap.size<=w.heap.size;omega) _).setCell (p:=⟨_,_,_⟩) (by show w.heap.size<=w.heap.size+1;omega) _).setCell (p:=⟨_,_,_⟩) (by show w.heap.size<=w.heap.size+1;omega) _).drew
theorem near_any(r n:Int)(a b c d:Nat)(w:World)(h:nearF r n=some ((a,b),(c,d))):
  Calls Tryz.prog 162 #[.int .i64 r,.int .i64 n] w λz w'=>z=.returned (.tuple #[num a b,num c d])/\Below w.heap.size w w':=by
 unfold nearF at h
 by_cases h0:r=0
 ·rw[if_pos h0] at h
  simp only[Option.some.injEq,Prod.mk.injEq] at h
  obtain⟨⟨rfl,rfl⟩,rfl,rfl⟩:=h
  subst h0
  exact near_zero n w
 ·rw[if_neg h0] at h
  simp only[Option.bind_eq_some_iff,Option.some.injEq,Prod.mk.injEq] at h
  obtain⟨⟨m1,m2⟩,hm,⟨x,y⟩,hq,⟨c1,c2⟩,hc,⟨t1,t2⟩,ht,⟨s1,s2⟩,hs,⟨rfl,rfl⟩,he⟩:=h
  refine near_not r n m1 m2 x y (λf=>if f=0 then a else t1) (λf=>if f=0 then b else t2) s1 s2 w h0 hm hq (λf w hf=>?_) hs c d ?_
  ·rcases hf with rfl|rfl
   ·exact ser_any x y a b 0 15 w (.inl ⟨rfl,rfl⟩) hc
   ·exact ser_any x y t1 t2 1 14 w (.inr ⟨rfl,rfl⟩) ht
  ·by_cases hrn:r=n
   ·rw[if_pos hrn] at he
    simp only[Prod.mk.injEq] at he
    exact .inl ⟨hrn,he.1.symm,he.2.symm⟩
   ·rw[if_neg hrn] at he
    simp only[Prod.mk.injEq] at he
    exact .inr ⟨hrn,he.1.symm,he.2.symm⟩
end Go.Proofs.YtfedabinindpbaaGreat.T
namespace Go.Proofs.YtfedabinindpbaaGreat.T
open Fl
theorem splitH_le(A:Int):(splitH A).natAbs<=2*A.natAbs/\(splitL A).natAbs<=6*A.natAbs:=by
 have e53:(2:Int)^53=9007199254740992:=by decide
 have h1:=rnd_rel (134217729*A)
 have h2:=rnd_rel (rnd (134217729*A)-A)
 have h3:=rnd_rel (rnd (134217729*A)-rnd (rnd (134217729*A)-A))
 have hH:splitH A=rnd (rnd (134217729*A)-rnd (rnd (134217729*A)-A)):=rfl
 have hL:splitL A=rnd (A-splitH A):=rfl
 have h4:=rnd_rel (A-splitH A)
 rw[<-hH] at h3
 rw[<-hL] at h4
 rw[e53] at h1 h2 h3 h4
 clear hH hL
 generalize splitL A=l at*
 generalize splitH A=h at*
 generalize rnd (rnd (134217729*A)-A)=d at*
 generalize rnd (134217729*A)=c at*
 obtain⟨u,hu⟩:∃u:Int,u=A.natAbs:=⟨_,rfl⟩
 have a1:A<=u/\-u<=A/\0<=u:=by omega
 have c1:33554432*(c-134217729*A)<=u/\-u<=33554432*(c-134217729*A):=by omega
 clear h1
 have d1:33554432*(d-(c-A))<=u/\-u<=33554432*(d-(c-A)):=by omega
 clear h2
 have b1:h<=2*u/\-(2*u)<=h:=by omega
 clear h3 c1 d1
 have b2:l<=6*u/\-(6*u)<=l:=by omega
 omega
theorem fmul_rough{x y:Nat}{K S:Int}(hS:S=((2^U:Nat):Int))(hx:Fnt x)(hy:Fnt y)(h1:((iv x*iv y).natAbs:Int)<=K*S)(hK:16384*K<=((2^Bt:Nat):Int))(hK0:1<=K):
  ∃z,fmul x y=some z/\Fnt z/\-(3*K+16)<=iv z/\iv z<=3*K+16:=by
 have hSp:0<S:=by rw[hS];have:=Nat.two_pow_pos U;omega
 have hb:(iv x*iv y).natAbs<2^(Bt+U):=by
  have h2:K*S<((2^(Bt+U):Nat):Int):=by
   rw[Nat.pow_add,Int.natCast_mul,<-hS]
   exact Int.mul_lt_mul_of_pos_right (by omega) hSp
  omega
 obtain⟨z,Q,h2,fz,q1,q2,z1,z2⟩:=fmul_near hx hy hb
 rw[<-hS] at q1 q2
 have k1:Q<=K:=by
  refine Int.le_of_mul_le_mul_right ?_ hSp
  omega
 have k2:-(K+1)<=Q:=by
  refine Int.le_of_mul_le_mul_right ?_ hSp
  rw[Int.neg_mul,Int.add_mul,Int.one_mul]
  omega
 refine⟨z,h2,fz,?_,?_⟩<;>omega
theorem mul_nat_le{a b A B:Nat}{p q:Nat}(h1:a<=p*A)(h2:b<=q*B):a*b<=(p*q)*(A*B):=by
 have:=Nat.mul_le_mul h1 h2
 calc a*b<=p*A*(q*B):=this
  _=p*q*(A*B):=by rw[Nat.mul_mul_mul_comm]
theorem prodF_rough{x y:Nat}{K S:Int}(hS:S=((2^U:Nat):Int))(hx:Fnt x)(hy:Fnt y)(lx:(iv x).natAbs<2^(U+61))(ly:(iv y).natAbs<2^(U+61))(h1:((iv x*iv y).natAbs:Int)<=K*S)(hK:K<=1393796574908163946345982392040522594123776)(hK0:1<=K):
  ∃p e,prodF x y=some (p,e)/\Fnt p/\Fnt e/\-(3*K+16)<=iv p/\iv p<=3*K+16/\-(8192*K+8192)<=iv e/\iv e<=8192*K+8192:=by
 have hBt:=Bt_eq
 have hU:=U_eq
 have hbig:(1393796574908163946345982392040522594123776*1393796574908163946345982392040522594123776:Int)<=((2^Bt:Nat):Int):=by
  obtain⟨m,hm⟩:∃m:Nat,m=140:=⟨_,rfl⟩
  have h9:2^m*2^m<=2^Bt:=by rw[<-Nat.pow_add];exact pow_mono (by omega)
  have e:(2:Nat)^m=1393796574908163946345982392040522594123776:=by rw[hm]
  rw[e] at h9
  exact Int.ofNat_le.2 h9
 have hKB:16384*16384*16384*K<=((2^Bt:Nat):Int):=by omega
 have sc:∀{u v:Nat} {p q:Nat},(iv u).natAbs<=p*(iv x).natAbs->(iv v).natAbs<=q*(iv y).natAbs->p*q<=36->((iv u*iv v).natAbs:Int)<=(36*K)*S:=by
  intro u v p q a b c
  have h9:=mul_nat_le a b
  rw[<-Int.natAbs_mul,<-Int.natAbs_mul] at h9
  have h10:(iv u*iv v).natAbs<=36*(iv x*iv y).natAbs:=Nat.le_trans h9 (Nat.mul_le_mul_right _ c)
  rw[Int.mul_assoc]
  omega
 have mk:∀{z:Nat},Fnt z->(iv z).natAbs<2^(U+61)->∃(A:Int) (k:Nat),iv z=A*2^k/\A.natAbs<=2^53/\k<=1800:=by
  intro z fz lz
  have e:=iv_parts fz
  have h9:=pe_hi fz lz
  refine⟨pm z,(pe z+1074).toNat,e.1,by have e53:(2:Nat)^53=9007199254740992:=by decide
                                       omega,by omega⟩
 obtain⟨A,k,ex,hA,hk⟩:=mk hx lx
 obtain⟨B,l,ey,hB,hl⟩:=mk hy ly
 obtain⟨a1,a2,s1,f1,f2,v1,v2,_,_⟩:=splitF_spec hx ex hA hk
 obtain⟨b1,b2,s2,g1,g2,u1,u2,_,_⟩:=splitF_spec hy ey hB hl
 obtain⟨hA1,hA2⟩:=splitH_le A
 obtain⟨hB1,hB2⟩:=splitH_le B
 have up:∀{z w:Nat} {C D:Int} {j p:Nat},iv z=C*2^j->iv w=D*2^j->D.natAbs<=p*C.natAbs->(iv w).natAbs<=p*(iv z).natAbs:=by
  intro z w C D j p e1 e2 h
  rw[e1,e2,Int.natAbs_mul,Int.natAbs_mul,<-Nat.mul_assoc]
  exact Nat.mul_le_mul_right _ h
 have x1:=up ex v1 hA1
 have x2:=up ex v2 hA2
 have y1:=up ey u1 hB1
 have y2:=up ey u2 hB2
 obtain⟨p,hp,fp,p1,p2⟩:=fmul_rough hS hx hy h1 (by omega) hK0
 obtain⟨q1,hq1,fq1,c1,d1⟩:=fmul_rough (K:=36*K) hS f1 g1 (sc x1 y1 (by decide)) (by omega) (by omega)
 obtain⟨q2,hq2,fq2,c2,d2⟩:=fmul_rough (K:=36*K) hS f1 g2 (sc x1 y2 (by decide)) (by omega) (by omega)
 obtain⟨q3,hq3,fq3,c3,d3⟩:=fmul_rough (K:=36*K) hS f2 g1 (sc x2 y1 (by decide)) (by omega) (by omega)
 obtain⟨q4,hq4,fq4,c4,d4⟩:=fmul_rough (K:=36*K) hS f2 g2 (sc x2 y2 (by decide)) (by omega) (by omega)
 clear sc mk up x1 x2 y1 y2
 obtain⟨e1,he1,fe1,ve1⟩:=fsub_spec fq1 fp (by omega)
 have r1:=rnd_bd (n:=iv q1-iv p) (K:=111*K+32) (by omega) (by omega)
 rw[<-ve1] at r1
 obtain⟨e2,he2,fe2,ve2⟩:=fadd_spec fe1 fq2 (by omega)
 have r2:=rnd_bd (n:=iv e1+iv q2) (K:=330*K+80) (by omega) (by omega)
 rw[<-ve2] at r2
 obtain⟨e3,he3,fe3,ve3⟩:=fadd_spec fe2 fq3 (by omega)
 have r3:=rnd_bd (n:=iv e2+iv q3) (K:=768*K+176) (by omega) (by omega)
 rw[<-ve3] at r3
 obtain⟨e4,he4,fe4,ve4⟩:=fadd_spec fe3 fq4 (by omega)
 have r4:=rnd_bd (n:=iv e3+iv q4) (K:=1644*K+368) (by omega) (by omega)
 rw[<-ve4] at r4
 refine⟨p,e4,?_,fp,fe4,p1,p2,by omega,by omega⟩
 simp only[prodF,hp,s1,s2,hq1,hq2,hq3,hq4,he1,he2,he3,he4,Option.bind_some]
theorem mulF_tiny{a b c d:Nat}{K S:Int}(hS:S=((2^U:Nat):Int))(fa:Fnt a)(fb:Fnt b)(fc:Fnt c)(fd:Fnt d)(na:rnd (iv a+iv b)=iv a)(nc:rnd (iv c+iv d)=iv c)(lx:(iv a).natAbs<2^(U+61))(ly:(iv c).natAbs<2^(U+61))(h1:((iv a*iv c).natAbs:Int)<=K*S)(hK:K<=1393796574908163946345982392040522594123776)(hK0:1<=K):
  ∃x y,mulF (a,b) (c,d)=some (x,y)/\Fnt x/\Fnt y/\iv x=rnd (iv x+iv y)/\Sm (iv x)/\Sm (iv y)/\-(20000*K+20000)<=iv x+iv y/\iv x+iv y<=20000*K+20000:=by
 have hBt:=Bt_eq
 have hbig:(1393796574908163946345982392040522594123776*1393796574908163946345982392040522594123776:Int)<=((2^Bt:Nat):Int):=by
  obtain⟨m,hm⟩:∃m:Nat,m=140:=⟨_,rfl⟩
  have h9:2^m*2^m<=2^Bt:=by rw[<-Nat.pow_add];exact pow_mono (by omega)
  have e:(2:Nat)^m=1393796574908163946345982392040522594123776:=by rw[hm]
  rw[e] at h9
  exact Int.ofNat_le.2 h9
 have hKB:16384*16384*16384*K<=((2^Bt:Nat):Int):=by omega
 have tb:9007199254740990*(iv b).natAbs<=(iv a).natAbs:=by have:=tame_second na;omega
 have td:9007199254740990*(iv d).natAbs<=(iv c).natAbs:=by have:=tame_second nc;omega
 obtain⟨w1,w2,_⟩:=parts4 (c:=iv a) (d:=iv b) (e:=iv c) (f:=iv d) tb td
 obtain⟨p,e,hp,fp,fe,p1,p2,e1,e2⟩:=prodF_rough hS fa fc lx ly h1 hK hK0
 have hKS:∀{n:Int},9007199254740990*n.natAbs<=(iv a*iv c).natAbs->((n.natAbs:Nat):Int)<=K*S:=λ{n} h=>by omega
 obtain⟨q,hq,fq,q1,q2⟩:=fmul_rough hS fa fd (hKS w1) (by omega) hK0
 obtain⟨r,hr,fr,r1,r2⟩:=fmul_rough hS fb fc (hKS w2) (by omega) hK0
 clear hKS w1 w2
 obtain⟨t,ht,ft,vt⟩:=fadd_spec fq fr (by omega)
 have t1:=rnd_bd (n:=iv q+iv r) (K:=6*K+32) (by omega) (by omega)
 rw[<-vt] at t1
 obtain⟨g,hg,fg,vg⟩:=fadd_spec fe ft (by omega)
 have g1:=rnd_bd (n:=iv e+iv t) (K:=8204*K+8256) (by omega) (by omega)
 rw[<-vg] at g1
 have sml:∀n:Int,-(100000*K+100000)<=n->n<=100000*K+100000->Sm n:=λn h1 h2=>sm_of_le (K:=100000*K+100000) h1 h2 (by omega)
 obtain⟨x,y,hs,fx,fy,vx,vy⟩:=sumF_spec fp fg (sml _ (by omega) (by omega)) (sml _ (by omega) (by omega))
 have x1:=rnd_bd (n:=iv p+iv g) (K:=16412*K+16528) (by omega) (by omega)
 rw[<-vx] at x1
 refine⟨x,y,?_,fx,fy,?_,sml _ (by omega) (by omega),sml _ (by omega) (by omega),by omega,by omega⟩
 ·simp only[mulF,hp,hq,hr,ht,hg,hs,Option.bind_some]
 ·rw[vy,vx];congr 1;omega
theorem mulF_abs{a b c d:Nat}{M S:Int}(hS:S=((2^U:Nat):Int))(fa:Fnt a)(fb:Fnt b)(fc:Fnt c)(fd:Fnt d)(na:rnd (iv a+iv b)=iv a)(nc:rnd (iv c+iv d)=iv c)(lx:(iv a).natAbs<2^(U+61))(ly:(iv c).natAbs<2^(U+61))(hM:((iv a*iv c).natAbs:Int)<=M*S)(hM1:1725436586697640946858688965569256363112777243042596638790631055949824<=M)(hM2:16384*M<=((2^Bt:Nat):Int)):
  ∃x y,mulF (a,b) (c,d)=some (x,y)/\Fnt x/\Fnt y/\iv x=rnd (iv x+iv y)/\Sm (iv x)/\Sm (iv y)/\
   79228162514264337593543950336*((iv x+iv y)*S-(iv a+iv b)*(iv c+iv d))<=M*S/\-(M*S)<=79228162514264337593543950336*((iv x+iv y)*S-(iv a+iv b)*(iv c+iv d)):=by
 have hBt:=Bt_eq
 have hU:=U_eq
 have hSp:0<S:=by rw[hS];have:=Nat.two_pow_pos U;omega
 have eS:(2:Int)^U=S:=by rw[hS];exact(Int.natCast_pow _ _).symm
 have tb:9007199254740990*(iv b).natAbs<=(iv a).natAbs:=by have:=tame_second na;omega
 have td:9007199254740990*(iv d).natAbs<=(iv c).natAbs:=by have:=tame_second nc;omega
 obtain⟨p1,p2,p3⟩:=parts4 (c:=iv a) (d:=iv b) (e:=iv c) (f:=iv d) tb td
 have ex:=prod_expand (iv a) (iv b) (iv c) (iv d)
 have e114:(2:Nat)^114=20769187434139310514121985316880384:=by decide
 have MS:1725436586697640946858688965569256363112777243042596638790631055949824*S<=M*S:=scale_le hSp hM1
 by_cases ht:(iv a*iv c).natAbs<2^(U+114)
 ·
  have hK:((iv a*iv c).natAbs:Int)<=20769187434139310514121985316880384*S:=by
   rw[Nat.pow_add,e114] at ht
   rw[hS]
   omega
  obtain⟨x,y,h1,fx,fy,vx,sx,sy,k1,k2⟩:=mulF_tiny hS fa fb fc fd na nc lx ly hK (by omega) (by omega)
  have s1:=scale_le hSp k1
  have s2:=scale_le hSp k2
  rw[Int.neg_mul] at s1
  refine⟨x,y,h1,fx,fy,vx,sx,sy,?_,?_⟩
  ·rw[ex]
   generalize (iv x+iv y)*S=w at*
   generalize iv a*iv c=q0 at*
   generalize iv a*iv d=q1 at*
   generalize iv b*iv c=q2 at*
   generalize iv b*iv d=q3 at*
   generalize M*S=m at*
   clear hS eS ht hM
   omega
  ·rw[ex]
   generalize (iv x+iv y)*S=w at*
   generalize iv a*iv c=q0 at*
   generalize iv a*iv d=q1 at*
   generalize iv b*iv c=q2 at*
   generalize iv b*iv d=q3 at*
   generalize M*S=m at*
   clear hS eS ht hM
   omega
 ·
  have big:∀{u v:Int},u.natAbs<2^(U+61)->2^(U+114)<=(v*u).natAbs->2^53<=v.natAbs:=by
   intro u v hu hv
   apply Decidable.byContradiction
   intro hc
   have h9:=abs_lt_mul (x:=v) (y:=u) (Nat.lt_of_not_le hc) hu
   rw[show 53+(U+61)=U+114 by omega] at h9
   omega
  obtain⟨A,k,ma,ka1,ka2⟩:=mk_of fa (big ly (Nat.le_of_not_lt ht)) lx (by omega)
  obtain⟨C,l,mc,kc1,kc2⟩:=mk_of fc (big lx (by rw[Int.mul_comm];exact Nat.le_of_not_lt ht)) ly (by omega)
  have hkl:U<=k+l:=by
   apply Decidable.byContradiction
   intro hc
   have h9:(iv a).natAbs<2^(53+k):=by rw[ma.abs,Nat.pow_add];exact Nat.mul_lt_mul_of_pos_right ma.lt (Nat.two_pow_pos _)
   have h10:(iv c).natAbs<2^(53+l):=by rw[mc.abs,Nat.pow_add];exact Nat.mul_lt_mul_of_pos_right mc.lt (Nat.two_pow_pos _)
   exact ht (Nat.lt_of_lt_of_le (abs_lt_mul h9 h10) (pow_mono (by omega)))
  have hP:=mk_prod ma mc (by omega)
  obtain⟨p,e,hpr,_,fp,fe,vp,ve⟩:=prodF_spec (j:=k+l-U) ma mc (by omega) (by omega) (by omega) (by omega)
  obtain⟨P,eP⟩:∃P,P=A*C*2^(k+l-U):=⟨_,rfl⟩
  rw[<-eP,eS] at hP
  rw[<-rnd_scale,<-eP] at vp
  rw[Int.sub_mul,<-rnd_scale,<-eP] at ve
  clear eP
  have pM:(P.natAbs:Int)<=M:=by
   refine Int.le_of_mul_le_mul_right ?_ hSp
   rw[<-abs_mul_pos hSp,<-hP]
   exact hM
  obtain⟨q1,q2⟩:=two_sided p1 hM
  obtain⟨q3,q4⟩:=two_sided p2 hM
  obtain⟨q5,q6⟩:=two_sided2 p3 hM
  have bigM:M*S<((2^(Bt+U):Nat):Int):=by
   rw[Nat.pow_add,Int.natCast_mul,<-hS]
   exact Int.mul_lt_mul_of_pos_right (by omega) hSp
  obtain⟨x,y,Nn,hmul,fx,fy,vx,sx,sy,L1,L2,e1,e2⟩:=mulF_gen hS fa fb fc fd hpr fp fe vp ve hP (M:=M) (by omega) (by omega) q1 q2 q3 q4 q5 q6 (by clear q1 q2 q3 q4 q5 q6 hM2;omega) (by clear q1 q2 q3 q4 q5 q6 hM2;omega) (by omega) hM2
  have e97:(2:Int)^97=158456325028528675187087900672:=by decide
  rw[e97] at e1 e2
  have s1:=scale_le hSp e1
  have s2:=scale_le hSp e2
  rw[Int.mul_assoc,Int.sub_mul] at s1
  rw[Int.mul_assoc,Int.sub_mul,Int.neg_mul] at s2
  refine⟨x,y,hmul,fx,fy,vx,sx,sy,?_,?_⟩
  ·clear ex p1 p2 p3 q1 q2 q3 q4 q5 q6 hS eS ht hM bigM hP hM2 e1 e2
   generalize (iv x+iv y)*S=w at*
   generalize (iv a+iv b)*(iv c+iv d)=q at*
   generalize M*S=m at*
   generalize Nn*S=n at*
   omega
  ·clear ex p1 p2 p3 q1 q2 q3 q4 q5 q6 hS eS ht hM bigM hP hM2 e1 e2
   generalize (iv x+iv y)*S=w at*
   generalize (iv a+iv b)*(iv c+iv d)=q at*
   generalize M*S=m at*
   generalize Nn*S=n at*
   omega
structure NearW(a b e f:Nat)(m M:Int):Prop where
 fe:Fnt e
 ff:Fnt f
 neat:iv e=rnd (iv e+iv f)
 n1:1125899906842624*(m*iv e+m*iv f-(iv a+iv b))<=M
 n2:-M<=1125899906842624*(m*iv e+m*iv f-(iv a+iv b))
theorem big_M{M:Int}(h:M<((2^(U+58):Nat):Int)):16384*(16384*M)<=((2^Bt:Nat):Int):=by
 have hU:=U_eq
 have hBt:=Bt_eq
 obtain⟨j,hj⟩:∃j:Nat,j=28:=⟨_,rfl⟩
 have h9:2^(U+58)*2^j<=2^Bt:=by rw[<-Nat.pow_add];exact pow_mono (by omega)
 have e:(2:Nat)^j=268435456:=by rw[hj]
 rw[e] at h9
 have h10:(((2^(U+58):Nat):Int))*268435456<=((2^Bt:Nat):Int):=Int.ofNat_le.2 h9
 generalize ((2^(U+58):Nat):Int)=P at*
 generalize ((2^Bt:Nat):Int)=Q at*
 omega
theorem lt_61{n:Int}{M:Int}(h:M<((2^(U+58):Nat):Int))(h1:(n.natAbs:Int)<=4*M):n.natAbs<2^(U+61):=by
 have e:2^(U+61)=2^(U+58)*8:=by rw[show U+61=(U+58)+3 by omega,Nat.pow_add]
 rw[e]
 generalize 2^(U+58)=P at*
 omega
theorem near_first{me mf A M:Int}(hf:9007199254740990*mf.natAbs<=me.natAbs)(hA:A<=2*M/\-(2*M)<=A)(n1:1125899906842624*(me+mf-A)<=M)(n2:-M<=1125899906842624*(me+mf-A))(hM:1<=M):(me.natAbs:Int)<=3*M:=by
 have h1:9007199254740990*mf<=me.natAbs/\-(me.natAbs:Int)<=9007199254740990*mf:=by omega
 have h2:(me=(me.natAbs:Int)\/me=-(me.natAbs:Int)):=by omega
 clear hf
 generalize ((me.natAbs:Nat):Int)=u at*
 rcases h2 with rfl|rfl<;>omega
theorem round_w{A me mf w R r zm G M m:Int}(hM:6901746346790563787434755862277025452451108972170386555162524223799296<=M)(m0:0<=m)(hm:m<=1099511627776)(n1:1125899906842624*(me+mf-A)<=M)(n2:-M<=1125899906842624*(me+mf-A))(x1:79228162514264337593543950336*(w-(me+mf))<=3*M)(x2:-(3*M)<=79228162514264337593543950336*(w-(me+mf)))(d1:158456325028528675187087900672*(R-(A-w))<=3*M)(d2:-(3*M)<=158456325028528675187087900672*(R-(A-w)))(r1:9007199254740992*(r-R)<=R.natAbs)(r2:9007199254740992*(R-r)<=R.natAbs)(z1:4503599627370496*(zm-r)<=r.natAbs+2251799813685248*m)(z2:4503599627370496*(r-zm)<=r.natAbs+2251799813685248*m)(g1:158456325028528675187087900672*(G-(me+mf+zm))<=3*M)(g2:-(3*M)<=158456325028528675187087900672*(G-(me+mf+zm))):
  9903520314283042199192993792*(G-A)<=M/\-M<=9903520314283042199192993792*(G-A):=by
 have a1:562949953421312*R<=M/\-M<=562949953421312*R:=by
  clear r1 r2 z1 z2 g1 g2
  constructor<;>omega
 obtain⟨u,hu⟩:∃u:Int,u=R.natAbs:=⟨_,rfl⟩
 have u1:562949953421312*u<=M:=by clear r1 r2 z1 z2 g1 g2 x1 x2 d1 d2 n1 n2;omega
 rw[<-hu] at r1 r2
 clear hu
 obtain⟨v,hv⟩:∃v:Int,v=r.natAbs:=⟨_,rfl⟩
 have v1:281474976710656*v<=M:=by clear z1 z2 g1 g2 x1 x2 d1 d2 n1 n2;omega
 rw[<-hv] at z1 z2
 clear hv a1
 have b1:9903520314283042199192993792*512*(r-R)<=M/\-M<=9903520314283042199192993792*512*(r-R):=by
  clear z1 z2 g1 g2 x1 x2 d1 d2 n1 n2 v1
  constructor<;>omega
 have b2:9903520314283042199192993792*64*(zm-r)<=M/\-M<=9903520314283042199192993792*64*(zm-r):=by
  clear r1 r2 g1 g2 x1 x2 d1 d2 n1 n2 u1 b1
  constructor<;>omega
 clear r1 r2 z1 z2 u1 v1 n1 n2 hm m0
 have e:G-A=(G-(me+mf+zm))+(zm-r)+(r-R)+(R-(A-w))-(w-(me+mf)):=by omega
 rw[e]
 clear e
 generalize G-(me+mf+zm)=t1 at*
 generalize zm-r=t2 at*
 generalize r-R=t3 at*
 generalize R-(A-w)=t4 at*
 generalize w-(me+mf)=t5 at*
 constructor<;>omega
theorem whole_div{z m c S:Int}(hS:0<S)(hc:c=m*S):z*c=(m*z)*S:=by
 rw[hc,<-Int.mul_assoc,Int.mul_comm z m]
theorem quo_roundW{a b c e f:Nat}{m M S:Int}(hS:S=((2^U:Nat):Int))(fa:Fnt a)(fb:Fnt b)(na:rnd (iv a+iv b)=iv a)(fc:Fnt c)(hc:iv c=m*S)(m1:1<=m)(m2:m<=1099511627776)(la:((iv a).natAbs:Int)<=M)(hM1:6901746346790563787434755862277025452451108972170386555162524223799296<=M)(hM2:M<((2^(U+58):Nat):Int))(h:NearW a b e f m M):
  ∃g k,quoStep (a,b) (c,0) (e,f)=some (g,k)/\Fnt g/\Fnt k/\iv g=rnd (iv g+iv k)/\Sm (iv g)/\Sm (iv k)/\9903520314283042199192993792*(m*iv g+m*iv k-(iv a+iv b))<=M/\-M<=9903520314283042199192993792*(m*iv g+m*iv k-(iv a+iv b)):=by
 have hBt:=Bt_eq
 have hU:=U_eq
 have hSp:0<S:=by rw[hS];have:=Nat.two_pow_pos U;omega
 have eS:(2:Int)^U=S:=by rw[hS];exact(Int.natCast_pow _ _).symm
 have hbig:=big_M hM2
 have tb:=tame_second na
 have hA:iv a+iv b<=2*M/\-(2*M)<=iv a+iv b:=by clear hbig hM2;omega
 have tf:9007199254740990*(iv f).natAbs<=(iv e).natAbs:=by have:=tame_second h.neat.symm;omega
 have tmf:=part_le m tf
 have me3:=near_first tmf hA h.n1 h.n2 (by omega)
 have le1:((iv e).natAbs:Int)<=((m*iv e).natAbs:Int):=by
  rw[Int.natAbs_mul,Int.natCast_mul]
  have:(1:Int)*((iv e).natAbs:Int)<=(m.natAbs:Int)*((iv e).natAbs:Int):=Int.mul_le_mul_of_nonneg_right (by omega) (by omega)
  omega
 have cS:((iv c).natAbs:Int)=m*S:=by rw[hc,Int.natAbs_mul,Int.natCast_mul];congr 1<;>omega
 have lc:(iv c).natAbs<2^(U+61):=by
  have h9:m*S<=1099511627776*S:=scale_le hSp m2
  have h10:2^(U+61)=2^U*2305843009213693952:=by rw[Nat.pow_add]
  rw[h10]
  rw[hS] at h9 cS
  omega
 have le2:(iv e).natAbs<2^(U+61):=lt_61 hM2 (by omega)
 have ce:iv c*iv e=(m*iv e)*S:=by rw[Int.mul_comm];exact whole_div hSp hc
 have cf:iv c*iv f=(m*iv f)*S:=by rw[Int.mul_comm];exact whole_div hSp hc
 have lce:((iv c*iv e).natAbs:Int)<=(3*M)*S:=by
  rw[ce,abs_mul_pos hSp]
  exact scale_le hSp me3
 obtain⟨x1,x2,hmul,fx1,fx2,vx1,_,_,p1,p2⟩:=mulF_abs (M:=3*M) hS fc fnt_zero h.fe h.ff (by rw[iv_zero,Int.add_zero];exact(rep_iv fc).rnd_eq) h.neat.symm lc le2 lce (by omega) (by omega)
 rw[iv_zero,Int.add_zero,Int.mul_add,ce,cf,<-Int.add_mul,<-Int.sub_mul,<-Int.mul_assoc] at p1 p2
 rw[<-Int.neg_mul] at p2
 have q1:=Int.le_of_mul_le_mul_right p1 hSp
 have q2:=Int.le_of_mul_le_mul_right p2 hSp
 clear p1 p2 ce cf lce le2 lc
 have w1:iv x1+iv x2-(m*iv e+m*iv f)<=M/\-M<=iv x1+iv x2-(m*iv e+m*iv f):=by clear hbig hM2;constructor<;>omega
 have n1:=h.n1
 have n2:=h.n2
 have w3:16*(iv x1+iv x2)<=33*M/\-(33*M)<=16*(iv x1+iv x2):=by
  have h1:9007199254740990*iv b<=M/\-M<=9007199254740990*iv b:=by clear hbig hM2 n1 n2 q1 q2;omega
  clear hbig hM2 tb tmf tf me3 le1 cS
  constructor<;>omega
 have rx:=rnd_rel (iv x1+iv x2)
 rw[<-vx1] at rx
 have w4:-(3*M)<=iv x1/\iv x1<=3*M:=by
  have e53:(2:Int)^53=9007199254740992:=by decide
  rw[e53] at rx
  clear hbig hM2 tb tmf tf me3 le1 cS q1 q2 n1 n2 w1 vx1
  generalize iv x1+iv x2=s at*
  omega
 clear rx
 obtain⟨fn1,vn1⟩:=fneg_spec fx1
 obtain⟨fn2,vn2⟩:=fneg_spec fx2
 obtain⟨r1,r2,hrest,fr1,fr2,vr,_,_,d1,d2⟩:=addF_spec fa fb fn1 fn2 (M:=3*M) na (by rw[vn1,vn2,<-Int.neg_add,rnd_neg,<-vx1]) (by omega) (by omega) (by rw[vn1];omega) (by rw[vn1];omega) (by omega)
 have e97:(2:Int)^97=158456325028528675187087900672:=by decide
 rw[e97,vn1,vn2] at d1 d2
 have ed:iv r1+iv r2-(iv a+iv b+-iv x1+-iv x2)=iv r1+iv r2-((iv a+iv b)-(iv x1+iv x2)):=by omega
 rw[ed] at d1 d2
 have rr:=rnd_rel (iv r1+iv r2)
 rw[<-vr] at rr
 have e53:(2:Int)^53=9007199254740992:=by decide
 rw[e53] at rr
 have lr:((iv r1).natAbs:Int)<=M:=by
  clear hbig hM2 tb tmf tf me3 le1 cS vr vx1 w3 w4 hA la
  have:562949953421312*(iv r1+iv r2)<=M/\-M<=562949953421312*(iv r1+iv r2):=by
   clear rr w1
   constructor<;>omega
  clear d1 d2 q1 q2 n1 n2 w1
  generalize iv r1+iv r2=R at*
  omega
 have hdv:4*((iv r1).natAbs*2^U)<(iv c).natAbs*2^Bt:=by
  have l1:2^U<=(iv c).natAbs:=by
   have:1*S<=m*S:=scale_le hSp m1
   rw[hS] at this cS
   omega
  have l2:4*(iv r1).natAbs<2^Bt:=by
   have hp:=Nat.two_pow_pos Bt
   omega
  have l3:=Nat.mul_le_mul_right (2^Bt) l1
  have l4:4*((iv r1).natAbs*2^U)<2^Bt*2^U:=by rw[<-Nat.mul_assoc];exact Nat.mul_lt_mul_of_pos_right l2 (Nat.two_pow_pos U)
  rw[Nat.mul_comm (2^Bt)] at l4
  omega
 have c0:iv c≠0:=by
  intro h0
  rw[h0] at cS
  have:1*S<=m*S:=scale_le hSp m1
  omega
 obtain⟨z,hdiv,fz,z1,z2⟩:=fdiv_rel fr1 fc c0 hdv
 have e52:(2:Int)^52=4503599627370496:=by decide
 have e51:(2:Int)^51=2251799813685248:=by decide
 rw[e52,e51,eS,whole_div hSp hc,cS,<-Int.mul_assoc 2251799813685248,<-Int.sub_mul,<-Int.mul_assoc,<-Int.add_mul] at z1 z2
 replace z1:=Int.le_of_mul_le_mul_right z1 hSp
 replace z2:=Int.le_of_mul_le_mul_right z2 hSp
 have lz:((m*iv z).natAbs:Int)<=3*M:=by
  clear hbig hM2 tb tmf tf me3 le1 cS vr vx1 w3 w4 hA la q1 q2 n1 n2 w1 d1 d2 rr ed hdv
  omega
 obtain⟨Me,hMe⟩:∃Me:Int,Me=if(iv e).natAbs<=(iv z).natAbs then((iv z).natAbs:Int) else((iv e).natAbs:Int):=⟨_,rfl⟩
 have hMe1:((iv e).natAbs:Int)<=Me/\((iv z).natAbs:Int)<=Me:=by rw[hMe];split<;>omega
 have hMe2:m*Me<=3*M:=by
  have a1:m*((iv e).natAbs:Int)=((m*iv e).natAbs:Int):=by rw[Int.natAbs_mul,Int.natCast_mul];congr 1;omega
  have a2:m*((iv z).natAbs:Int)=((m*iv z).natAbs:Int):=by rw[Int.natAbs_mul,Int.natCast_mul];congr 1;omega
  rw[hMe]
  split
  ·rw[a2];exact lz
  ·rw[a1];exact me3
 have hMe3:Me<=m*Me:=by
  have:1*Me<=m*Me:=Int.mul_le_mul_of_nonneg_right m1 (by omega)
  omega
 obtain⟨g,k,hadd,fg,fk,vg,sg,sk,k1,k2⟩:=addF_spec h.fe h.ff fz fnt_zero (M:=Me) h.neat.symm (by rw[iv_zero,Int.add_zero];exact(rep_iv fz).rnd_eq) (by omega) (by omega) (by omega) (by omega) (by omega)
 rw[e97,iv_zero] at k1 k2
 have k3:=Int.mul_le_mul_of_nonneg_left k1 (show 0<=m by omega)
 have k4:=Int.mul_le_mul_of_nonneg_left k2 (show 0<=m by omega)
 have eg:m*(158456325028528675187087900672*(iv g+iv k-(iv e+iv f+iv z+0)))=158456325028528675187087900672*(m*iv g+m*iv k-(m*iv e+m*iv f+m*iv z)):=by
  rw[Int.mul_left_comm,Int.mul_sub,Int.add_zero,Int.mul_add,Int.mul_add,Int.mul_add]
 rw[eg] at k3 k4
 rw[Int.mul_neg] at k4
 have fin:=round_w (A:=iv a+iv b) (me:=m*iv e) (mf:=m*iv f) (w:=iv x1+iv x2) (R:=iv r1+iv r2) (r:=iv r1) (zm:=m*iv z) (G:=m*iv g+m*iv k) (M:=M) (m:=m) hM1 (by omega) m2 n1 n2 q1 q2 d1 d2 rr.1 rr.2 z1 z2 (by omega) (by omega)
 refine⟨g,k,?_,fg,fk,vg,sg,sk,fin.1,fin.2⟩
 simp only[quoStep,restF,hmul,hrest,hdiv,hadd,Option.bind_some]
theorem NearW.of{a b g k:Nat}{m M:Int}(fg:Fnt g)(fk:Fnt k)(vg:iv g=rnd (iv g+iv k))(h1:9903520314283042199192993792*(m*iv g+m*iv k-(iv a+iv b))<=M)(h2:-M<=9903520314283042199192993792*(m*iv g+m*iv k-(iv a+iv b))):NearW a b g k m M:=by
 refine⟨fg,fk,vg,?_,?_⟩
 ·generalize m*iv g+m*iv k-(iv a+iv b)=x at*
  omega
 ·generalize m*iv g+m*iv k-(iv a+iv b)=x at*
  omega
theorem quoF_abs{a b c:Nat}{m M S:Int}(hS:S=((2^U:Nat):Int))(fa:Fnt a)(fb:Fnt b)(na:rnd (iv a+iv b)=iv a)(fc:Fnt c)(hc:iv c=m*S)(m1:1<=m)(m2:m<=1099511627776)(la:((iv a).natAbs:Int)<=M)(hM1:6901746346790563787434755862277025452451108972170386555162524223799296<=M)(hM2:M<((2^(U+58):Nat):Int)):
  ∃g k,quoF (a,b) (c,0)=some (g,k)/\Fnt g/\Fnt k/\iv g=rnd (iv g+iv k)/\Sm (iv g)/\Sm (iv k)/\9903520314283042199192993792*(m*iv g+m*iv k-(iv a+iv b))<=M/\-M<=9903520314283042199192993792*(m*iv g+m*iv k-(iv a+iv b)):=by
 have hSp:0<S:=by rw[hS];have:=Nat.two_pow_pos U;omega
 have eS:(2:Int)^U=S:=by rw[hS];exact(Int.natCast_pow _ _).symm
 have hbig:=big_M hM2
 have cS:((iv c).natAbs:Int)=m*S:=by rw[hc,Int.natAbs_mul,Int.natCast_mul];congr 1<;>omega
 have hdv:4*((iv a).natAbs*2^U)<(iv c).natAbs*2^Bt:=by
  have l1:2^U<=(iv c).natAbs:=by
   have:1*S<=m*S:=scale_le hSp m1
   rw[hS] at this cS
   omega
  have l2:4*(iv a).natAbs<2^Bt:=by
   have hp:=Nat.two_pow_pos Bt
   omega
  have l3:=Nat.mul_le_mul_right (2^Bt) l1
  have l4:4*((iv a).natAbs*2^U)<2^Bt*2^U:=by rw[<-Nat.mul_assoc];exact Nat.mul_lt_mul_of_pos_right l2 (Nat.two_pow_pos U)
  rw[Nat.mul_comm (2^Bt)] at l4
  omega
 have c0:iv c≠0:=by
  intro h0
  rw[h0] at cS
  have:1*S<=m*S:=scale_le hSp m1
  omega
 obtain⟨z,hdiv,fz,z1,z2⟩:=fdiv_rel fa fc c0 hdv
 have e52:(2:Int)^52=4503599627370496:=by decide
 have e51:(2:Int)^51=2251799813685248:=by decide
 rw[e52,e51,eS,whole_div hSp hc,cS,<-Int.mul_assoc 2251799813685248,<-Int.sub_mul,<-Int.mul_assoc,<-Int.add_mul] at z1 z2
 replace z1:=Int.le_of_mul_le_mul_right z1 hSp
 replace z2:=Int.le_of_mul_le_mul_right z2 hSp
 have tb:=tame_second na
 have h0:NearW a b z 0 m M:=by
  have h1:9007199254740990*iv b<=M/\-M<=9007199254740990*iv b:=by clear hbig hM2 hdv z1 z2;omega
  refine⟨fz,fnt_zero,by rw[iv_zero,Int.add_zero];exact(rep_iv fz).rnd_eq.symm,?_,?_⟩
  ·rw[iv_zero,Int.mul_zero,Int.add_zero]
   clear hbig hM2 hdv tb cS
   omega
  ·rw[iv_zero,Int.mul_zero,Int.add_zero]
   clear hbig hM2 hdv tb cS
   omega
 obtain⟨e,f,h1,fe,ff,ve,_,_,p1,p2⟩:=quo_roundW hS fa fb na fc hc m1 m2 la hM1 hM2 h0
 obtain⟨g,k,h2,fg,fk,vg,sg,sk,p3,p4⟩:=quo_roundW hS fa fb na fc hc m1 m2 la hM1 hM2 (NearW.of fe ff ve p1 p2)
 refine⟨g,k,?_,fg,fk,vg,sg,sk,p3,p4⟩
 simp only[quoF,hdiv,h1,h2,Option.bind_some]
theorem whole_spec(m:Int)(h0:0<=m)(h1:m<=9007199254740992){S:Int}(hS:S=((2^U:Nat):Int)):Fnt (wholeF m)/\iv (wholeF m)=m*S:=by
 have hU:=U_eq
 have hBt:=Bt_eq
 have e:wholeF m=D.nearest (decide (m<0)) m.natAbs 0:=rfl
 have hneg:decide (m<0)=false:=decide_eq_false (by omega)
 rw[hneg] at e
 have hlt:m.natAbs*2^U<2^(Bt+0):=by
  have e54:(2:Nat)^54=18014398509481984:=by decide
  have h9:m.natAbs*2^U<2^54*2^U:=Nat.mul_lt_mul_of_pos_right (by omega) (Nat.two_pow_pos U)
  rw[<-Nat.pow_add] at h9
  exact Nat.lt_of_lt_of_le h9 (pow_mono (by omega))
 obtain⟨f,v⟩:=nearest_spec false m.natAbs 0 0 (m.natAbs*2^U) (by omega) (by rw[show((0:Int)+1074+((0:Nat):Int)).toNat=U by omega]) hlt
 rw[<-e] at f v
 refine⟨f,?_⟩
 rw[v,rns_zero]
 have hr:rnd (m*2^U)=m*2^U:=by rw[rnd_scale,(rep_small (n:=m) (by have:(2:Int)^53=9007199254740992:=by decide
                                                                  omega) (by have:(2:Int)^53=9007199254740992:=by decide
                                                                             omega)).rnd_eq]
 have hp:=pow_pos_int U
 have hmn:¬m*2^U<0:=by have:=Int.mul_nonneg h0 (show(0:Int)<=2^U by omega);omega
 unfold rnd at hr
 rw[if_neg hmn,Int.natAbs_mul,Int.natAbs_pow] at hr
 have e2:(2:Int)^U=S:=by rw[hS];exact(Int.natCast_pow _ _).symm
 rw[e2] at hr
 simpa using hr
theorem fnt_q1:Fnt 4605249457297304856:=by decide+kernel
theorem fnt_q2:Fnt 4359948597267291143:=by decide+kernel
theorem iv_q1{S:Int}(hS:S=((2^U:Nat):Int)):9007199254740992*iv 4605249457297304856=7074237752028440*S:=by
 obtain⟨E,hE⟩:∃E:Nat,E=1021:=⟨_,rfl⟩
 have h:D.read 4605249457297304856=.number false 7074237752028440 ((E:Int)-1074):=by rw[hE];decide+kernel
 have hU:U=53+E:=by rw[U_eq,hE]
 rw[iv_signed h,signed_eq,hS,hU,Nat.pow_add,Int.natCast_mul,Int.natCast_pow 2 E]
 simp only[Bool.false_eq_true,if_false,Int.one_mul]
 rw[show((2^53:Nat):Int)=9007199254740992 from rfl,<-Int.mul_assoc,<-Int.mul_assoc,Int.mul_comm 9007199254740992]
 rfl
theorem iv_q2{S:Int}(hS:S=((2^U:Nat):Int)):162259276829213363391578010288128*iv 4359948597267291143=4967757600021511*S:=by
 obtain⟨E,hE⟩:∃E:Nat,E=967:=⟨_,rfl⟩
 have h:D.read 4359948597267291143=.number false 4967757600021511 ((E:Int)-1074):=by rw[hE];decide+kernel
 have hU:U=107+E:=by rw[U_eq,hE]
 rw[iv_signed h,signed_eq,hS,hU,Nat.pow_add,Int.natCast_mul,Int.natCast_pow 2 E]
 simp only[Bool.false_eq_true,if_false,Int.one_mul]
 rw[show((2^107:Nat):Int)=162259276829213363391578010288128 from rfl,<-Int.mul_assoc,<-Int.mul_assoc,Int.mul_comm 162259276829213363391578010288128]
 rfl
theorem neat_q:rnd (iv 4605249457297304856+iv 4359948597267291143)=iv 4605249457297304856:=by
 obtain⟨E,hE⟩:∃E:Nat,E=967:=⟨_,rfl⟩
 have h1:D.read 4605249457297304856=.number false 7074237752028440 (((54+E:Nat):Int)-1074):=by rw[hE];decide+kernel
 have h2:D.read 4359948597267291143=.number false 4967757600021511 ((E:Int)-1074):=by rw[hE];decide+kernel
 have e1:iv 4605249457297304856=(7074237752028440*2^54)*2^E:=by
  rw[iv_signed h1,signed_eq,Int.pow_add,<-Int.mul_assoc]
  rfl
 have e2:iv 4359948597267291143=4967757600021511*2^E:=by
  rw[iv_signed h2,signed_eq]
  rfl
 have e3:rnd (7074237752028440*2^54+4967757600021511)=7074237752028440*2^54:=by decide+kernel
 rw[e1,e2,<-Int.add_mul,rnd_scale,e3]
structure Ok(a:Nat×Nat)(v:Int):Prop where
 f1:Fnt a.1
 f2:Fnt a.2
 neat:rnd v=iv a.1
 v:iv a.1+iv a.2=v
theorem mul4(a b c d:Int):a*b*(c*d)=a*c*(b*d):=by
 rw[Int.mul_assoc,Int.mul_left_comm b,<-Int.mul_assoc]
theorem Ok.neat'{a:Nat×Nat}{v:Int}(h:Ok a v):rnd (iv a.1+iv a.2)=iv a.1:=by rw[h.v];exact h.neat
theorem Ok.first{a:Nat×Nat}{v B:Int}(h:Ok a v)(h1:v<=B)(h2:-B<=v):9007199254740992*((iv a.1).natAbs:Int)<=9007199254740993*B:=by
 have hr:=rnd_rel v
 rw[h.neat] at hr
 have e53:(2:Int)^53=9007199254740992:=by decide
 rw[e53] at hr
 omega
theorem Ok.neg{a:Nat×Nat}{v:Int}(h:Ok a v):Ok (negP a) (-v):=by
 obtain⟨f1,v1⟩:=fneg_spec h.f1
 obtain⟨f2,v2⟩:=fneg_spec h.f2
 have hv:=h.v
 refine⟨f1,f2,?_,?_⟩
 ·show rnd (-v)=iv (fneg a.1)
  rw[v1,rnd_neg,h.neat]
 ·show iv (fneg a.1)+iv (fneg a.2)=-v
  rw[v1,v2];omega
theorem S_big{S:Int}(hS:S=((2^U:Nat):Int)):6901746346790563787434755862277025452451108972170386555162524223799296*4294967296<=S/\16384*(16384*(1099511627776*S))<=((2^Bt:Nat):Int):=by
 have hU:=U_eq
 have hBt:=Bt_eq
 constructor
 ·obtain⟨m,hm⟩:∃m:Nat,m=232:=⟨_,rfl⟩
  have h9:=pow_mono (a:=m+32) (b:=U) (by omega)
  have e:(2:Nat)^(m+32)=6901746346790563787434755862277025452451108972170386555162524223799296*4294967296:=by rw[Nat.pow_add,hm]
  rw[e] at h9
  rw[hS]
  exact Int.ofNat_le.2 h9
 ·obtain⟨m,hm⟩:∃m:Nat,m=68:=⟨_,rfl⟩
  have h9:=pow_mono (a:=m+U) (b:=Bt) (by omega)
  have e:(2:Nat)^m=16384*(16384*1099511627776):=by rw[hm]
  rw[Nat.pow_add,e] at h9
  rw[hS]
  have:=Int.ofNat_le.2 h9
  rw[Int.natCast_mul] at this
  generalize ((2^U:Nat):Int)=P at*
  omega
theorem mul_ok{a b:Nat×Nat}{u v S M A B:Int}(hS:S=((2^U:Nat):Int))(ha:Ok a u)(hb:Ok b v)(u1:-A<=u)(u2:u<=A)(v1:-B<=v)(v2:v<=B)(hA0:0<=A)(hB0:0<=B)(hAS:A<=1099511627776*S)(hBS:B<=1099511627776*S)(hM:4*(A*B)<=3*(M*S))(hM1:6901746346790563787434755862277025452451108972170386555162524223799296<=M)(hM2:M<=4398046511104*S):
  ∃c w,mulF a b=some c/\Ok c w/\79228162514264337593543950336*(w*S-u*v)<=M*S/\-(M*S)<=79228162514264337593543950336*(w*S-u*v):=by
 obtain⟨s1,s2⟩:=S_big hS
 have fa:=ha.first u2 u1
 have fb:=hb.first v2 v1
 have e61:((2^(U+61):Nat):Int)=S*2305843009213693952:=by rw[Nat.pow_add,Int.natCast_mul,<-hS];rfl
 have la:(iv a.1).natAbs<2^(U+61):=by
  apply Int.ofNat_lt.1
  rw[e61]
  omega
 have lb:(iv b.1).natAbs<2^(U+61):=by
  apply Int.ofNat_lt.1
  rw[e61]
  omega
 have hp:((iv a.1*iv b.1).natAbs:Int)<=M*S:=by
  rw[Int.natAbs_mul,Int.natCast_mul]
  have h1:=Int.mul_le_mul fa fb (by omega) (by omega)
  have e1:9007199254740992*((iv a.1).natAbs:Int)*(9007199254740992*((iv b.1).natAbs:Int))=81129638414606681695789005144064*(((iv a.1).natAbs:Int)*((iv b.1).natAbs:Int)):=by
   rw[mul4];rfl
  have e2:9007199254740993*A*(9007199254740993*B)=81129638414606699710187514626049*(A*B):=by
   rw[mul4];rfl
  rw[e1,e2] at h1
  have h2:0<=A*B:=Int.mul_nonneg hA0 hB0
  omega
 obtain⟨x,y,h1,fx,fy,vx,_,_,q1,q2⟩:=mulF_abs hS ha.f1 ha.f2 hb.f1 hb.f2 ha.neat' hb.neat' la lb hp (by omega) (by omega)
 rw[ha.v,hb.v] at q1 q2
 exact⟨(x,y),iv x+iv y,h1,⟨fx,fy,vx.symm,rfl⟩,q1,q2⟩
theorem add_ok{a b:Nat×Nat}{u v S M:Int}(hS:S=((2^U:Nat):Int))(ha:Ok a u)(hb:Ok b v)(u1:-M<=u)(u2:u<=M)(v1:-M<=v)(v2:v<=M)(hM2:M<=1099511627776*S):
  ∃c w,addF a b=some c/\Ok c w/\79228162514264337593543950336*(w-(u+v))<=M/\-M<=79228162514264337593543950336*(w-(u+v)):=by
 obtain⟨s1,s2⟩:=S_big hS
 have fa:=ha.first u2 u1
 have fb:=hb.first v2 v1
 obtain⟨x,y,h1,fx,fy,vx,_,_,q1,q2⟩:=addF_spec ha.f1 ha.f2 hb.f1 hb.f2 (M:=2*M) ha.neat' hb.neat' (by omega) (by omega) (by omega) (by omega) (by omega)
 have e97:(2:Int)^97=158456325028528675187087900672:=by decide
 have e:iv x+iv y-(iv a.1+iv a.2+iv b.1+iv b.2)=iv x+iv y-(u+v):=by rw[<-ha.v,<-hb.v];omega
 rw[e97,e] at q1 q2
 exact⟨(x,y),iv x+iv y,h1,⟨fx,fy,vx.symm,rfl⟩,by omega,by omega⟩
theorem quo_ok{a:Nat×Nat}{u S M m:Int}(hS:S=((2^U:Nat):Int))(ha:Ok a u)(m1:1<=m)(m2:m<=1099511627776)(u1:-M<=2*u)(u2:2*u<=M)(hM1:6901746346790563787434755862277025452451108972170386555162524223799296<=M)(hM2:M<=4398046511104*S):
  ∃c w,quoF a (wholeF m,0)=some c/\Ok c w/\9903520314283042199192993792*(m*w-u)<=M/\-M<=9903520314283042199192993792*(m*w-u):=by
 obtain⟨s1,s2⟩:=S_big hS
 obtain⟨fw,vw⟩:=whole_spec m (by omega) (by omega) hS
 have e58:((2^(U+58):Nat):Int)=S*288230376151711744:=by rw[Nat.pow_add,Int.natCast_mul,<-hS];rfl
 have fa:=ha.first (B:=M) (by omega) (by omega)
 have hr:=rnd_rel u
 rw[ha.neat] at hr
 have e53:(2:Int)^53=9007199254740992:=by decide
 rw[e53] at hr
 obtain⟨g,k,h1,fg,fk,vg,_,_,q1,q2⟩:=quoF_abs hS ha.f1 ha.f2 ha.neat' fw vw m1 m2 (M:=M) (by omega) hM1 (by rw[e58];omega)
 rw[ha.v,<-Int.mul_add] at q1 q2
 exact⟨(g,k),iv g+iv k,h1,⟨fg,fk,vg.symm,rfl⟩,q1,q2⟩
structure SerRel(S Q m T W T' W':Int):Prop where
 t:∃u:Int,79228162514264337593543950336*(u*S-T*Q)<=S*S/\-(S*S)<=79228162514264337593543950336*(u*S-T*Q)/\
  9903520314283042199192993792*(m*T'-u)<=2*S/\-(2*S)<=9903520314283042199192993792*(m*T'-u)
 w1:79228162514264337593543950336*(W'-(W+T'))<=4*S
 w2:-(4*S)<=79228162514264337593543950336*(W'-(W+T'))
theorem prod_small{S Q T u:Int}(hS:0<S)(hQ:10*(Q.natAbs:Int)<=7*S)(u1:79228162514264337593543950336*(u*S-T*Q)<=S*S)(u2:-(S*S)<=79228162514264337593543950336*(u*S-T*Q)):
  79228162514264337593543950336*(10*(u.natAbs:Int))<=79228162514264337593543950336*(7*(T.natAbs:Int))+10*S:=by
 have hTQ:10*((T*Q).natAbs:Int)<=7*(T.natAbs:Int)*S:=by
  rw[Int.natAbs_mul,Int.natCast_mul]
  have:=Int.mul_le_mul_of_nonneg_left hQ (show(0:Int)<=(T.natAbs:Int) by omega)
  rw[Int.mul_left_comm] at this
  rw[Int.mul_assoc,Int.mul_left_comm 7]
  exact this
 refine Int.le_of_mul_le_mul_right ?_ hS
 have e1:79228162514264337593543950336*(10*(u.natAbs:Int))*S=792281625142643375935439503360*((u.natAbs:Int)*S):=by
  rw[<-Int.mul_assoc,Int.mul_assoc];rfl
 have e2:(79228162514264337593543950336*(7*(T.natAbs:Int))+10*S)*S=79228162514264337593543950336*(7*(T.natAbs:Int)*S)+10*(S*S):=by
  rw[Int.add_mul,Int.mul_assoc,Int.mul_assoc 10]
 rw[e1,e2,<-abs_mul_pos hS]
 generalize u*S=a at*
 generalize T*Q=b at*
 generalize 7*(T.natAbs:Int)*S=c at*
 generalize S*S=d at*
 omega
theorem term_small{S T u T' m:Int}(hm:2<=m)(hu:79228162514264337593543950336*(10*(u.natAbs:Int))<=79228162514264337593543950336*(7*(T.natAbs:Int))+10*S)(hS:0<S)(t1:9903520314283042199192993792*(m*T'-u)<=2*S)(t2:-(2*S)<=9903520314283042199192993792*(m*T'-u)):
  38685626227668133590597632*(20*(T'.natAbs:Int))<=38685626227668133590597632*(7*(T.natAbs:Int))+S:=by
 have ht:2*(T'.natAbs:Int)<=((m*T').natAbs:Int):=by
  rw[Int.natAbs_mul,Int.natCast_mul]
  have:=Int.mul_le_mul_of_nonneg_right hm (show(0:Int)<=(T'.natAbs:Int) by omega)
  have e:(m.natAbs:Int)=m:=by omega
  rw[e];exact this
 generalize m*T'=a at*
 omega
theorem ser_round{sq t s:Nat×Nat}{Q T W S i:Int}(hS:S=((2^U:Nat):Int))(hq:Ok sq Q)(ht:Ok t T)(hs:Ok s W)(hQ:10*(Q.natAbs:Int)<=7*S)(hT:(T.natAbs:Int)<=S)(hW:(W.natAbs:Int)<=3*S)(i1:1<=i)(i2:i<=30):
  ∃t' s' T' W',serStep sq i (t,s)=some (t',s')/\Ok t' T'/\Ok s' W'/\SerRel S Q (i*(i+1)) T W T' W'/\38685626227668133590597632*(20*(T'.natAbs:Int))<=38685626227668133590597632*(7*(T.natAbs:Int))+S:=by
 have hSp:0<S:=by rw[hS];have:=Nat.two_pow_pos U;omega
 obtain⟨s1,s2⟩:=S_big hS
 have hAB:4*(S*(Q.natAbs:Int))<=3*(S*S):=by
  have:=Int.mul_le_mul_of_nonneg_left hQ (show(0:Int)<=S by omega)
  rw[Int.mul_left_comm,Int.mul_left_comm S 7] at this
  have h2:0<=S*S:=Int.mul_nonneg (by omega) (by omega)
  omega
 obtain⟨c,u,h1,hc,u1,u2⟩:=mul_ok (M:=S) (A:=S) (B:=(Q.natAbs:Int)) hS ht hq (by omega) (by omega) (by omega) (by omega) (by omega) (by omega) (by omega) (by omega) hAB (by omega) (by omega)
 have m2:2<=i*(i+1):=by
  have:=Int.mul_le_mul i1 (show 2<=i+1 by omega) (by omega) (by omega)
  omega
 have m3:i*(i+1)<=1099511627776:=by
  have:=Int.mul_le_mul i2 (show i+1<=31 by omega) (by omega) (by omega)
  omega
 have hu:=prod_small hSp hQ u1 u2
 obtain⟨t',T',h2,ht',t1,t2⟩:=quo_ok (M:=2*S) hS hc (show 1<=i*(i+1) by omega) m3 (by omega) (by omega) (by omega) (by omega)
 have hsm:=term_small m2 hu hSp t1 t2
 have hT':(T'.natAbs:Int)<=S:=by omega
 obtain⟨s',W',h3,hs',w1,w2⟩:=add_ok (M:=4*S) hS hs ht' (by omega) (by omega) (by omega) (by omega) (by omega)
 refine⟨t',s',T',W',?_,ht',hs',⟨⟨u,u1,u2,t1,t2⟩,w1,w2⟩,hsm⟩
 simp only[serStep,h1,h2,h3,Option.bind_some]
theorem ok_one{S:Int}(hS:S=((2^U:Nat):Int)):Ok (oneW,0) S:=by
 have h:iv oneW=S:=by rw[hS];show iv 4607182418800017408=_;rw[iv_one];exact(Int.natCast_pow _ _).symm
 exact⟨fnt_one,fnt_zero,by rw[<-h];exact(rep_iv fnt_one).rnd_eq,by show iv oneW+iv 0=S;rw[h,iv_zero];omega⟩
theorem ok_zero:Ok (0,0) 0:=⟨fnt_zero,fnt_zero,by rw[rnd_zero];exact iv_zero.symm,by show iv 0+iv 0=0;rw[iv_zero];rfl⟩
structure SerAll(S Q f:Int)(R:Nat)(T W:Nat->Int):Prop where
 t0:T 0=S
 w0:W 0=S
 rel:∀k,k<R->SerRel S Q ((f+1+2*(k:Int))*(f+1+2*(k:Int)+1)) (T k) (W k) (T (k+1)) (W (k+1))
theorem step_sum{S w t0 W' T' rs:Int}(hS:0<S)(w1:79228162514264337593543950336*(W'-(w+T'))<=4*S)(w2:-(4*S)<=79228162514264337593543950336*(W'-(w+T')))(h:38685626227668133590597632*(20*(T'.natAbs:Int))<=38685626227668133590597632*(7*(t0.natAbs:Int))+S)(h6:1208925819614629174706176*((w.natAbs:Int)+(t0.natAbs:Int))<=1208925819614629174706176*(2*S)+rs):
  1208925819614629174706176*((W'.natAbs:Int)+(T'.natAbs:Int))<=1208925819614629174706176*(2*S)+rs+S:=by
 have a1:4951760157141521099596496896*(W'.natAbs:Int)<=4951760157141521099596496896*((w.natAbs:Int)+(T'.natAbs:Int))+S:=by omega
 clear w1 w2
 generalize (W'.natAbs:Int)=a at*
 generalize (T'.natAbs:Int)=b at*
 generalize (w.natAbs:Int)=c at*
 have hd:0<=(t0.natAbs:Int):=by omega
 generalize (t0.natAbs:Int)=d at*
 omega
theorem ser_to{sq:Nat×Nat}{Q S f:Int}(hS:S=((2^U:Nat):Int))(hq:Ok sq Q)(hQ:10*(Q.natAbs:Int)<=7*S)(f0:0<=f)(R:Nat)(hR:f+2*(R:Int)<=30):
  ∃(t:(Nat×Nat)×(Nat×Nat)) (T W:Nat->Int),serTo sq f R=some t/\Ok t.1 (T R)/\Ok t.2 (W R)/\SerAll S Q f R T W/\((T R).natAbs:Int)<=S/\
   1208925819614629174706176*(((W R).natAbs:Int)+((T R).natAbs:Int))<=1208925819614629174706176*(2*S)+R*S:=by
 have hSp:0<S:=by rw[hS];have:=Nat.two_pow_pos U;omega
 induction R with
 |zero=>exact⟨((oneW,0),(oneW,0)),λ_=>S,λ_=>S,rfl,ok_one hS,ok_one hS,⟨rfl,rfl,λk hk=>by omega⟩,by show(S.natAbs:Int)<=S;omega,by show 1208925819614629174706176*((S.natAbs:Int)+(S.natAbs:Int))<=1208925819614629174706176*(2*S)+((0:Nat):Int)*S;omega⟩
 |succ R ih=>
   obtain⟨⟨t,s⟩,T,W,h1,h2,h3,h4,h5,h6⟩:=ih (by omega)
   have hRS:(R:Int)*S<=15*S:=Int.mul_le_mul_of_nonneg_right (by omega) (by omega)
   obtain⟨t',s',T',W',g1,g2,g3,g4,g5⟩:=ser_round (i:=f+1+2*(R:Int)) hS hq h2 h3 hQ h5 (by omega) (by omega) (by omega)
   refine⟨(t',s'),λj=>if j=R+1 then T' else T j,λj=>if j=R+1 then W' else W j,?_,?_,?_,⟨?_,?_,?_⟩,?_,?_⟩
   ·show(serTo sq f R).bind _=_
    rw[h1];exact g1
   ·show Ok t' (if R+1=R+1 then T' else T (R+1))
    rw[if_pos rfl];exact g2
   ·show Ok s' (if R+1=R+1 then W' else W (R+1))
    rw[if_pos rfl];exact g3
   ·show(if 0=R+1 then T' else T 0)=S
    rw[if_neg (by omega)];exact h4.t0
   ·show(if 0=R+1 then W' else W 0)=S
    rw[if_neg (by omega)];exact h4.w0
   ·intro k hk
    show SerRel S Q _ (if k=R+1 then T' else T k) (if k=R+1 then W' else W k) (if k+1=R+1 then T' else T (k+1)) (if k+1=R+1 then W' else W (k+1))
    rw[if_neg (by omega),if_neg (by omega)]
    by_cases hkR:k=R
    ·subst hkR
     rw[if_pos rfl,if_pos rfl];exact g4
    ·rw[if_neg (by omega),if_neg (by omega)]
     exact h4.rel k (by omega)
   ·show(((if R+1=R+1 then T' else T (R+1))).natAbs:Int)<=S
    rw[if_pos rfl]
    omega
   ·show 1208925819614629174706176*(((if R+1=R+1 then W' else W (R+1)).natAbs:Int)+((if R+1=R+1 then T' else T (R+1)).natAbs:Int))<=_
    rw[if_pos rfl,if_pos rfl]
    have w1:=g4.w1
    have w2:=g4.w2
    rw[Int.natCast_add,Int.add_mul]
    have:=step_sum hSp w1 w2 g5 h6
    omega
@[irreducible] def piV:Int:=iv 4605249457297304856+iv 4359948597267291143
theorem ok_pi:Ok quarterP piV:=⟨fnt_q1,fnt_q2,by unfold piV;exact neat_q,by unfold piV;rfl⟩
theorem pi_plain{a b S:Int}(hSp:0<S)(h1:9007199254740992*a=7074237752028440*S)(h2:162259276829213363391578010288128*b=4967757600021511*S):10000*(a+b)<=7854*S/\7853*S<=10000*(a+b):=by
 have a1:=Int.le_of_eq h1
 have a2:=Int.le_of_eq h1.symm
 have b1:=Int.le_of_eq h2
 have b2:=Int.le_of_eq h2.symm
 clear h1 h2
 constructor
 ·clear a2 b2
  omega
 ·clear a1 b1
  omega
theorem pi_bd{S:Int}(hS:S=((2^U:Nat):Int)):10000*piV<=7854*S/\7853*S<=10000*piV:=by
 have h:=pi_plain (S:=S) (by rw[hS];have:=Nat.two_pow_pos U;omega) (iv_q1 hS) (iv_q2 hS)
 unfold piV
 exact h
structure SerVal(S X f:Int)(R:Nat)(v:Int):Prop where
 out:∃(P:Int) (T W:Nat->Int),79228162514264337593543950336*(P*S-X*X)<=S*S/\-(S*S)<=79228162514264337593543950336*(P*S-X*X)/\SerAll S (-P) f R T W/\W R=v
theorem ser_ok{x:Nat×Nat}{X S f:Int}{R:Nat}(hS:S=((2^U:Nat):Int))(hx:Ok x X)(hX:100*(X.natAbs:Int)<=79*S)(hf:(f=0/\R=15)\/(f=1/\R=14)):
  ∃c v,serO x f R=some c/\Ok c v/\SerVal S X f R v/\(v.natAbs:Int)<=3*S:=by
 have hSp:0<S:=by rw[hS];have:=Nat.two_pow_pos U;omega
 obtain⟨s1,s2⟩:=S_big hS
 have hXX:10000*((X.natAbs:Int)*(X.natAbs:Int))<=6241*(S*S):=by
  have:=Int.mul_le_mul hX hX (by omega) (by omega)
  rw[mul4 100 _ 100 _,mul4 79 S 79 S] at this
  exact this
 obtain⟨p,P,h1,hp,p1,p2⟩:=mul_ok (M:=S) (A:=(X.natAbs:Int)) (B:=(X.natAbs:Int)) hS hx hx (by omega) (by omega) (by omega) (by omega) (by omega) (by omega) (by omega) (by omega) (by
  have h2:0<=S*S:=Int.mul_nonneg (by omega) (by omega)
  omega) (by omega) (by omega)
 have hP:10*((-P).natAbs:Int)<=7*S:=by
  have hXa:((X*X).natAbs:Int)=(X.natAbs:Int)*(X.natAbs:Int):=by rw[Int.natAbs_mul,Int.natCast_mul]
  have h2:0<=S*S:=Int.mul_nonneg (by omega) (by omega)
  have h3:10*(((P*S).natAbs:Nat):Int)<=7*(S*S):=by
   rw[<-hXa] at hXX
   clear hXa hX s1 s2
   generalize P*S=a at*
   generalize X*X=b at*
   generalize S*S=c at*
   omega
  rw[abs_mul_pos hSp] at h3
  rw[Int.natAbs_neg]
  refine Int.le_of_mul_le_mul_right ?_ hSp
  rw[Int.mul_assoc,Int.mul_assoc]
  exact h3
 obtain⟨t,T,W,g1,g2,g3,g4,g5,g6⟩:=ser_to (f:=f) hS hp.neg hP (by omega) R (by omega)
 refine⟨t.2,W R,?_,g3,⟨P,T,W,p1,p2,g4,rfl⟩,?_⟩
 ·simp only[serO,h1,g1,Option.bind_some]
 ·have hRS:(R:Int)*S<=15*S:=Int.mul_le_mul_of_nonneg_right (by omega) (by omega)
  clear g1 g2 g3 g4 hp hx h1
  omega
structure NearVal(S n r c s:Int):Prop where
 out:∃X W:Int,100*(X.natAbs:Int)<=79*S/\2475880078570760549798248448*(n*X-piV*r)<=r*S/\-(r*S)<=2475880078570760549798248448*(n*X-piV*r)/\
  SerVal S X 0 15 c/\SerVal S X 1 14 W/\79228162514264337593543950336*(s*S-W*X)<=4*S*S/\-(4*S*S)<=79228162514264337593543950336*(s*S-W*X)
theorem ok_whole{m S:Int}(h0:0<=m)(h1:m<=9007199254740992)(hS:S=((2^U:Nat):Int)):Ok (wholeF m,0) (m*S):=by
 obtain⟨f,v⟩:=whole_spec m h0 h1 hS
 refine⟨f,fnt_zero,?_,?_⟩
 ·rw[<-v];exact(rep_iv f).rnd_eq
 ·show iv (wholeF m)+iv 0=m*S
  rw[v,iv_zero];omega
theorem near_ok{r n S:Int}(hS:S=((2^U:Nat):Int))(r1:1<=r)(rn:r<=n)(n2:n<=1099511627776):
  ∃c s vc vs,nearF r n=some (c,if r=n then c else s)/\Ok c vc/\Ok s vs/\NearVal S n r vc vs/\(vc.natAbs:Int)<=3*S/\(vs.natAbs:Int)<=3*S:=by
 have hSp:0<S:=by rw[hS];have:=Nat.two_pow_pos U;omega
 obtain⟨s1,s2⟩:=S_big hS
 obtain⟨pi1,pi2⟩:=pi_bd hS
 have rS:S<=r*S:=by have:=scale_le hSp r1;omega
 have rS2:r*S<=1099511627776*S:=scale_le hSp (by omega)
 have piS:10000*(piV*(r*S))<=7854*(S*(r*S)):=by
  have:=Int.mul_le_mul_of_nonneg_right pi1 (show 0<=r*S by omega)
  rw[Int.mul_assoc,Int.mul_assoc] at this
  exact this
 obtain⟨m,X0,h1,hm,a1,a2⟩:=mul_ok (M:=2*(r*S)) (A:=piV) (B:=r*S) hS ok_pi (ok_whole (m:=r) (by omega) (by omega) hS) (by omega) (by omega) (by omega) (by omega) (by omega) (by omega) (by omega) (by omega) (by
  have e:2*(r*S)*S=2*(S*(r*S)):=by rw[Int.mul_assoc,Int.mul_comm (r*S)]
  have h2:0<=S*(r*S):=Int.mul_nonneg (by omega) (by omega)
  rw[e];omega) (by omega) (by omega)
 replace a1:79228162514264337593543950336*(X0-piV*r)<=2*(r*S):=by
  refine Int.le_of_mul_le_mul_right ?_ hSp
  rw[Int.mul_assoc,Int.sub_mul,Int.mul_assoc piV]
  exact a1
 replace a2:-(2*(r*S))<=79228162514264337593543950336*(X0-piV*r):=by
  refine Int.le_of_mul_le_mul_right ?_ hSp
  rw[Int.mul_assoc 79228162514264337593543950336,Int.sub_mul,Int.mul_assoc piV,Int.neg_mul]
  exact a2
 have pr1:10000*(piV*r)<=7854*(r*S)/\0<=piV*r:=by
  have:=Int.mul_le_mul_of_nonneg_right pi1 (show 0<=r by omega)
  rw[Int.mul_assoc,Int.mul_assoc,Int.mul_comm S] at this
  exact⟨this,Int.mul_nonneg (by omega) (by omega)⟩
 obtain⟨x,X,h2,hx,b1,b2⟩:=quo_ok (M:=2*(r*S)) (m:=n) hS hm (by omega) n2 (by omega) (by omega) (by omega) (by omega)
 have x1:2475880078570760549798248448*(n*X-piV*r)<=r*S:=by omega
 have x2:-(r*S)<=2475880078570760549798248448*(n*X-piV*r):=by omega
 have nS:r*S<=n*S:=scale_le hSp rn
 have hX:100*(X.natAbs:Int)<=79*S:=by
  have h3:100*((n*X).natAbs:Int)<=79*(n*S):=by
   clear a1 a2 b1 b2 s1 s2 rS2 piS pi1 pi2
   generalize n*X=a at*
   generalize piV*r=b at*
   omega
  have e:((n*X).natAbs:Int)=(X.natAbs:Int)*n:=by rw[Int.mul_comm];exact abs_mul_pos (by omega)
  rw[e,Int.mul_comm n,<-Int.mul_assoc,<-Int.mul_assoc] at h3
  exact Int.le_of_mul_le_mul_right h3 (by omega)
 obtain⟨c,vc,h3,hc,k1,k2⟩:=ser_ok (f:=0) (R:=15) hS hx hX (.inl ⟨rfl,rfl⟩)
 obtain⟨s0,W,h4,hs0,l1,l2⟩:=ser_ok (f:=1) (R:=14) hS hx hX (.inr ⟨rfl,rfl⟩)
 have hSX:100*(3*S*(X.natAbs:Int))<=237*(S*S):=by
  have:=Int.mul_le_mul_of_nonneg_left hX (show 0<=3*S by omega)
  have e1:3*S*(100*(X.natAbs:Int))=100*(3*S*(X.natAbs:Int)):=by rw[Int.mul_left_comm]
  have e2:3*S*(79*S)=237*(S*S):=by rw[mul4 3 S 79 S];rfl
  rw[e1,e2] at this
  exact this
 have hSS:0<=S*S:=Int.mul_nonneg (by omega) (by omega)
 obtain⟨s,vs,h5,hs,q1,q2⟩:=mul_ok (M:=4*S) (A:=3*S) (B:=(X.natAbs:Int)) hS hs0 hx (by omega) (by omega) (by omega) (by omega) (by omega) (by omega) (by omega) (by omega) (by
  rw[Int.mul_assoc 4];omega) (by omega) (by omega)
 refine⟨c,s,vc,vs,?_,hc,hs,⟨X,W,hX,x1,x2,k1,l1,q1,q2⟩,k2,?_⟩
 ·unfold nearF
  rw[if_neg (by omega)]
  simp only[h1,h2,h3,h4,h5,Option.bind_some]
 ·have hWX:((W*X).natAbs:Int)<=3*S*(X.natAbs:Int):=by
    rw[Int.natAbs_mul,Int.natCast_mul]
    exact Int.mul_le_mul_of_nonneg_right l2 (by omega)
  refine Int.le_of_mul_le_mul_right ?_ hSp
  rw[<-abs_mul_pos hSp,Int.mul_assoc 3]
  rw[Int.mul_assoc 4] at q1 q2
  clear a1 a2 b1 b2 x1 x2 pr1 piS k1 l1 h1 h2 h3 h4 h5
  generalize vs*S=a at*
  generalize W*X=b at*
  generalize 3*S*(X.natAbs:Int)=d at*
  generalize S*S=e at*
  omega
end Go.Proofs.YtfedabinindpbaaGreat.T
