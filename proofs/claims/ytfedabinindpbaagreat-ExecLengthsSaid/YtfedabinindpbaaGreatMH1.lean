/- What plans cost: plain. -/
import Derived.Test.YtfedabinindpbaaGreatRK
import Derived.Test.YtfedabinindpbaaGreatMC1
import Derived.Test.YtfedabinindpbaaGreatX0
import Derived.Test.YtfedabinindpbaaGreatMB1
import Derived.Test.YtfedabinindpbaaGreatZ3
import Derived.Test.YtfedabinindpbaaGreatMV1
import Derived.Test.YtfedabinindpbaaGreatTG
import Derived.Test.YtfedabinindpbaaGreatMQ4
import Derived.Test.YtfedabinindpbaaGreatMC4
import Derived.Test.YtfedabinindpbaaGreatMC3
import Derived.Test.YtfedabinindpbaaGreatMY3
import Derived.Great.BuildSlice
import Derived.Shelf.Abstract
set_option linter.unusedSimpArgs false
set_option linter.unusedVariables false
set_option maxRecDepth 100000
set_option maxHeartbeats 4000000
namespace Go.Proofs.YtfedabinindpbaaGreat
open Go.RowKit Go.Lib
def capI(x:Int):Int:=if x<=1125899906842624 then x else 1125899906842624
def sumW(f:Nat->Int×Int):Nat->Int
 |0=>0
 |n+1=>sumW f n+(f n).1*(f n).2
def WOk(f:Nat->Int×Int)(n:Nat):Prop:=∀i,i<n->0<=(f i).1/\(f i).1<=1125899906842624/\1<=(f i).2/\(f i).2<=65536
theorem sumW_nonneg(f:Nat->Int×Int):∀n,WOk f n->0<=sumW f n
 |0,_=>by simp[sumW]
 |n+1,h=>by
   have h1:=sumW_nonneg f n (λi hi=>h i (by omega))
   obtain⟨a,b,c,d⟩:=h n (by omega)
   have:=Int.mul_nonneg a (show 0<=(f n).2 by omega)
   unfold sumW
   omega
theorem sumW_mono(f:Nat->Int×Int)(k:Nat):∀n,k<=n->WOk f n->sumW f k<=sumW f n:=by
 intro n hk
 induction n with
 |zero=>intro _;rw[show k=0 by omega];exact Int.le_refl _
 |succ n ih=>
   intro h
   by_cases e:k=n+1
   ·subst e;exact Int.le_refl _
   ·have h1:=ih (by omega) (λi hi=>h i (by omega))
    obtain⟨a,b,c,d⟩:=h n (by omega)
    have:=Int.mul_nonneg a (show 0<=(f n).2 by omega)
    show _<=sumW f n+(f n).1*(f n).2
    omega
theorem cap_step{f:Nat->Int×Int}{n k:Nat}(h:WOk f n)(hk:k<n)(hx:¬(f k).1>(1125899906842624:Int).tdiv (f k).2):
  0<=(f k).1*(f k).2/\(f k).1*(f k).2<=1125899906842624/\capI (capI (sumW f k)+(f k).1*(f k).2)=capI (sumW f (k+1)):=by
 obtain⟨a,b,c,d⟩:=h k hk
 have h0:=sumW_nonneg f k (λi hi=>h i (by omega))
 have hp:=Int.mul_nonneg a (show 0<=(f k).2 by omega)
 rw[Int.tdiv_eq_ediv_of_nonneg (by omega)] at hx
 have hq:(f k).1*(f k).2<=1125899906842624:=by
  have h1:(f k).1<=1125899906842624/(f k).2:=by omega
  exact Int.le_trans (Int.mul_le_mul_of_nonneg_right h1 (by omega)) (Int.ediv_mul_le _ (by omega))
 refine⟨hp,hq,?_⟩
 show _=capI (sumW f k+(f k).1*(f k).2)
 generalize (f k).1*(f k).2=y at hp hq|-
 generalize sumW f k=s at h0|-
 unfold capI
 by_cases e1:s<=1125899906842624
 ·rw[if_pos e1]
 ·rw[if_neg e1,if_neg (show ¬s+y<=1125899906842624 by omega)]
  by_cases e2:(1125899906842624:Int)+y<=1125899906842624
  ·rw[if_pos e2];omega
  ·rw[if_neg e2]
theorem cap_over{f:Nat->Int×Int}{n k:Nat}(h:WOk f n)(hk:k<n)(hx:(f k).1>(1125899906842624:Int).tdiv (f k).2):capI (sumW f n)=1125899906842624:=by
 obtain⟨a,b,c,d⟩:=h k hk
 have h0:=sumW_nonneg f k (λi hi=>h i (by omega))
 rw[Int.tdiv_eq_ediv_of_nonneg (by omega)] at hx
 have hq:1125899906842624<(f k).1*(f k).2:=by
  have h1:1125899906842624/(f k).2+1<=(f k).1:=by omega
  have h2:=Int.mul_le_mul_of_nonneg_right h1 (show 0<=(f k).2 by omega)
  have h3:=Int.lt_ediv_add_one_mul_self 1125899906842624 (show 0<(f k).2 by omega)
  omega
 have h4:=sumW_mono f (k+1) n (by omega) h
 have h5:sumW f (k+1)=sumW f k+(f k).1*(f k).2:=rfl
 unfold capI
 rw[if_neg (by omega)]
theorem cap_le(x:Int)(h:0<=x):0<=capI x/\capI x<=1125899906842624:=by unfold capI;split<;>omega
theorem cap_min(x:Int):min 1125899906842624 x=capI x:=by unfold capI;split<;>omega
def logN(n:Nat):Nat:=n.log2
def costF(kind n r:Int)(ks:List Int):Int:=
 if kind=1 then capI (ks.getD 0 0*(n/r)+ks.getD 1 0*r+6*n)
 else if kind=2 then capI (4*n*logN n.toNat)
 else if kind=3 then capI (ks.getD 0 0*2+10*n)
 else if kind=4 then capI (ks.getD 0 0*2+6*(padF n.toNat:Int)+12*n)
 else capI (6*n*n)
def coefF(kind n r:Int)(ks:List Int):Int:=
 if kind=1 then capI (ks.getD 0 0+ks.getD 1 0+4)
 else if kind=2 then 4*logN n.toNat
 else if kind=3 then capI (ks.getD 0 0*3+8)
 else if kind=4 then capI (ks.getD 0 0*3+12)
 else n+2
def Fo.fold(G:Int->Int->Int->List Int->Int):Fo->List Int
 |.nil=>[]
 |.cons kind n r kids rest=>G kind n r (kids.fold G)::rest.fold G
theorem fold_len(G:Int->Int->Int->List Int->Int):∀fo:Fo,(fo.fold G).length=fo.len
 |.nil=>rfl
 |.cons _ _ _ _ rest=>by
   show(rest.fold G).length+1=rest.len+1
   rw[fold_len G rest]
@[go_sem] theorem run_min_int{P:Program}(w:World)(ts:Array TypeId)(t:TypeId)(x y:Int):
  (Builtin.min_ ts t #[.int .i64 x,.int .i64 y]).run P w=.ok (.int .i64 (min x y)) w:=by
 show([Value.int .i64 y].foldlM Builtin.min2 (.int .i64 x)).run P w=_
 simp[List.foldlM,Builtin.min2]
 omega
def PrsAt(w:World)(A:Option Addr)(n:Nat)(f:Nat->Int×Int):Prop:=∀i,i<n->∃b o,A=some ⟨b,o,none⟩/\w.cell? ⟨b,o+i*2,none⟩=some (.int .i64 (f i).1)/\w.cell? ⟨b,o+i*2+1,none⟩=some (.int .i64 (f i).2)
theorem PrsAt.keep{W w1:World}{A:Option Addr}{n:Nat}{f:Nat->Int×Int}(h:PrsAt W A n f)(hb:Below W.heap.size W w1):PrsAt w1 A n f:=λi hi=>by
 obtain⟨b,o,e,h1,h2⟩:=h i hi
 exact⟨b,o,e,keep_cell hb h1,keep_cell hb h2⟩
theorem sumC_any(n c:Nat)(A:Option Addr)(f:Nat->Int×Int)(w:World)(hA:PrsAt w A n f)(hn:n<=16)(hf:WOk f n):
  Calls Tryz.prog 124 #[.slice A n c] w λz w'=>z=.returned (.int .i64 (capI (sumW f n)))/\Below w.heap.size w w':=by
 have HA:=aZ hA
 have HF:=aZ hf
 clear hA hf
 go_enter Tryz.func124,Tryz.ntmps124
 go_wp2
 go_loopw [3,8] (λs vi wr=>∃k:Nat,k<=n/\vi=.int .i64 k/\s=.int .i64 (capI (sumW f k))/\Hid (Below w.heap.size w wr)) (λ_ vi _=>n-(intOf vi).toNat)
 case atStart=>exact⟨0,by omega,rfl,rfl,aZ (Below.refl _ _)⟩
 case round=>
  obtain⟨k,hk,rfl,rfl,hb⟩:=hrel
  by_cases hlt:k<n
  ·have hki:(k:Int)<n:=by omega
   obtain⟨b,o,rfl,hc1,hc2⟩:=(HA.out.keep hb.out) k hlt
   obtain⟨a1,a2,a3,a4⟩:=HF.out k hlt
   have HX:Hid (¬(f k).1>(1125899906842624:Int).tdiv (f k).2->0<=(f k).1*(f k).2/\(f k).1*(f k).2<=1125899906842624/\capI (capI (sumW f k)+(f k).1*(f k).2)=capI (sumW f (k+1))):=aZ (λh=>cap_step HF.out hlt h)
   have HY:Hid ((f k).1>(1125899906842624:Int).tdiv (f k).2->capI (sumW f n)=1125899906842624):=aZ (λh=>cap_over HF.out hlt h)
   have HS:Hid (0<=capI (sumW f k)/\capI (sumW f k)<=1125899906842624):=aZ (cap_le _ (sumW_nonneg f k (λi hi=>HF.out i (by omega))))
   obtain⟨x,hx⟩:∃x,(f k).1=x:=⟨_,rfl⟩
   obtain⟨y,hy⟩:∃y,(f k).2=y:=⟨_,rfl⟩
   rw[hx] at hc1 a1 a2
   rw[hy] at hc2 a3 a4
   simp only[hx,hy] at HX HY
   obtain⟨S,hS⟩:∃S,capI (sumW f k)=S:=⟨_,rfl⟩
   rw[hS] at HX HS|-
   have hyp:y>0:=by omega
   have hy0:¬y=0:=by omega
   have HB2:=hb
   have HYY:Hid (y<=65536/\0<=x/\x<=1125899906842624):=aZ ⟨a4,a1,a2⟩
   have HBN:=aZ (hb.out.alloc hb.out.size (.cells #[.int .i64 x,.int .i64 y] 25))
   obtain⟨q,hq⟩:∃q,(1125899906842624:Int).tdiv y=q:=⟨_,rfl⟩
   have hqe:(1125899906842624:Int)/y=q:=by rw[<-hq,Int.tdiv_eq_ediv_of_nonneg (by omega)]
   have hqw:IntKind.i64.wrap q=q:=by
    have h1:0<=q:=by rw[<-hqe];exact Int.ediv_nonneg (by decide) (by omega)
    have h2:q<=1125899906842624:=by rw[<-hqe];exact Int.ediv_le_self _ (by decide)
    rw[IntKind.wrap_i64];omega
   rw[hq] at HX HY
   clear hx hy a1 a2 a4 hb a3 hS
   by_cases hgt:x>q
   ·have HE:=aZ (HY.out hgt)
    go_upto_region 5 with(fail)
    go_quiet (fail)
    have HBM:=aZ (below_drewN HBN.out nq)
    go_wp2
    go_ret
    exact⟨by rw[HE.out];rfl,HBM.out⟩
   ·obtain⟨p1,p2,p3⟩:=HX.out hgt
    have HP:=aZ p3
    obtain⟨p,hp⟩:∃p,x*y=p:=⟨_,rfl⟩
    rw[hp] at p1 p2 HP
    have hw1:wrap64 p=p:=by unfold wrap64;omega
    have hw2:wrap64 (S+p)=S+p:=by have:=HS.out;unfold wrap64;omega
    have hmin:min 1125899906842624 (S+p)=capI (S+p):=cap_min _
    clear p1 p2 p3
    go_upto_region 5 with(fail)
    go_quiet (fail)
    have HBM:=aZ (below_drewN HBN.out nq)
    go_wp2
    exact⟨⟨k+1,by omega,by go_num,by rw[<-HP.out];unfold capI;congr 1;split<;>split<;>omega,HBM⟩,by simp[intOf];omega⟩
  ·obtain rfl:k=n:=by omega
   go_wp2
   go_ret
   exact⟨rfl,hb.out⟩
theorem lenOf_log{x n:Nat}(h:LenOf x n):(n:Int)-1=(logN x:Int):=by
 obtain⟨h1,h2,h3,h4⟩:=h
 have h0:x≠0:=by have:=Nat.two_pow_pos (n-1);omega
 have:logN x=n-1:=(Nat.log2_eq_iff h0).2 ⟨h3,by rw[show n-1+1=n by omega];exact h4⟩
 rw[this]
 omega
theorem logN_le{n:Nat}(h1:1<=n)(h:n<=32768):logN n<=15:=by
 have:=(Nat.log2_lt (show n≠0 by omega) (k:=16)).2 (by omega)
 unfold logN
 omega
theorem log_any(n:Nat)(h1:1<=n)(h2:n<=32768)(w:World):Calls Tryz.prog 125 #[.int .i64 n] w λz w'=>z=.returned (.int .i64 (logN n))/\w=w':=by
 have HL:=aZ (λw=>len64_any n h1 (by omega) w)
 have HQ:=aZ (logN_le h1 h2)
 have hw:IntKind.u64.wrap (n:Int)=n:=by rw[IntKind.wrap_u64];omega
 go_enter Tryz.func125,Tryz.ntmps125
 go_wp2_with fail
 go_enter Tryz.func149,Tryz.ntmps149
 go_wp2_with fail
 refine(HL.out _).mono ?_
 rintro z w' ⟨m,rfl,hm,rfl⟩
 have HM:=aZ (lenOf_log hm)
 have hb:(m:Int)<=64/\1<=(m:Int):=by have:=hm.2.1;have:=hm.1;omega
 have hw2:wrap64 ((m:Int)-1)=(logN n:Int):=by rw[HM.out];unfold wrap64;have:=HQ.out;omega
 clear hm
 go_wp2
 go_ret
 exact⟨by rw[HM.out];rfl,rfl⟩
theorem info_pr:(Tryz.prog.info? 25).map (λi=>(i.zero,i.size,i.bytes))=some (some (.agg #[.int .i64 0,.int .i64 0]),2,16):=by kernel_rfl
theorem bs_prs2(a b c d:Value)(w:World):(Instr.buildSlice 22 2 #[(0,.agg #[a,b]),(1,.agg #[c,d])]).run Tryz.prog w=.ok (.slice (some ⟨w.heap.size,0,none⟩) 2 2) (w.alloc (.cells #[a,b,c,d] 25)):=by
 obtain⟨i0,hi,hz0,hz1,hz2⟩:=info_parts info_pr
 refine run_buildSlice w 22 25 2 _ #[a,b,c,d] i0 _ Tryz.underlying22 hi hz0 (by rw[hz1];decide) (by rw[hz1];decide) ?_
 rw[hz1]
 have hr:Array.range 4=#[0,1,2,3]:=by decide
 have hr2:Array.range 2=#[0,1]:=by decide
 simp[Instr.fill,Value.cells,hr,hr2]
theorem bs_prs3(a b c d e f:Value)(w:World):(Instr.buildSlice 22 3 #[(0,.agg #[a,b]),(1,.agg #[c,d]),(2,.agg #[e,f])]).run Tryz.prog w=.ok (.slice (some ⟨w.heap.size,0,none⟩) 3 3) (w.alloc (.cells #[a,b,c,d,e,f] 25)):=by
 obtain⟨i0,hi,hz0,hz1,hz2⟩:=info_parts info_pr
 refine run_buildSlice w 22 25 3 _ #[a,b,c,d,e,f] i0 _ Tryz.underlying22 hi hz0 (by rw[hz1];decide) (by rw[hz1];decide) ?_
 rw[hz1]
 have hr:Array.range 6=#[0,1,2,3,4,5]:=by decide
 have hr2:Array.range 2=#[0,1]:=by decide
 simp[Instr.fill,Value.cells,hr,hr2]
def prF(L:List (Int×Int)):Nat->Int×Int:=λi=>L.getD i (0,0)
theorem prs_two(w:World)(a b c d:Int):PrsAt (w.alloc (.cells #[.int .i64 a,.int .i64 b,.int .i64 c,.int .i64 d] 25)) (some ⟨w.heap.size,0,none⟩) 2 (prF [(a,b),(c,d)]):=by
 intro i hi
 rcases i with _|_|i
 ·exact⟨_,_,rfl,by rw[World.cell?_alloc_new];rfl,by rw[World.cell?_alloc_new];rfl⟩
 ·exact⟨_,_,rfl,by rw[World.cell?_alloc_new];rfl,by rw[World.cell?_alloc_new];rfl⟩
 ·omega
theorem prs_three(w:World)(a b c d e f:Int):PrsAt (w.alloc (.cells #[.int .i64 a,.int .i64 b,.int .i64 c,.int .i64 d,.int .i64 e,.int .i64 f] 25)) (some ⟨w.heap.size,0,none⟩) 3 (prF [(a,b),(c,d),(e,f)]):=by
 intro i hi
 rcases i with _|_|_|i
 ·exact⟨_,_,rfl,by rw[World.cell?_alloc_new];rfl,by rw[World.cell?_alloc_new];rfl⟩
 ·exact⟨_,_,rfl,by rw[World.cell?_alloc_new];rfl,by rw[World.cell?_alloc_new];rfl⟩
 ·exact⟨_,_,rfl,by rw[World.cell?_alloc_new];rfl,by rw[World.cell?_alloc_new];rfl⟩
 ·omega
theorem wok_two{a b c d:Int}(h1:0<=a/\a<=1125899906842624/\1<=b/\b<=65536)(h2:0<=c/\c<=1125899906842624/\1<=d/\d<=65536):WOk (prF [(a,b),(c,d)]) 2:=by
 intro i hi
 rcases i with _|_|i
 ·exact h1
 ·exact h2
 ·omega
theorem wok_three{a b c d e f:Int}(h1:0<=a/\a<=1125899906842624/\1<=b/\b<=65536)(h2:0<=c/\c<=1125899906842624/\1<=d/\d<=65536)(h3:0<=e/\e<=1125899906842624/\1<=f/\f<=65536):WOk (prF [(a,b),(c,d),(e,f)]) 3:=by
 intro i hi
 rcases i with _|_|_|i
 ·exact h1
 ·exact h2
 ·exact h3
 ·omega
theorem sum_two(a b c d:Int):sumW (prF [(a,b),(c,d)]) 2=a*b+c*d:=by simp[sumW,prF]
theorem sum_three(a b c d e f:Int):sumW (prF [(a,b),(c,d),(e,f)]) 3=a*b+c*d+e*f:=by simp[sumW,prF]
def CkOk(ks:List Int):Prop:=∀x∈ks,0<=x/\x<=1125899906842624
theorem CkOk.at'{ks:List Int}(h:CkOk ks)(i:Nat):0<=ks.getD i 0/\ks.getD i 0<=1125899906842624:=by
 rw[List.getD_eq_getElem?_getD]
 by_cases hi:i<ks.length
 ·rw[List.getElem?_eq_getElem hi]
  exact h _ (List.getElem_mem hi)
 ·rw[List.getElem?_eq_none (by omega)]
  exact⟨by decide,by decide⟩
theorem coef_any(kind n r:Int)(A:Option Addr)(l c:Nat)(ks:List Int)(K:Option Addr)(ck:Nat)(w:World)(h1:1<=n)(h2:n<=32768)(hl:ks.length=(wantsF kind n r).length)(hk:IntsAt w K ks.length (λi=>ks.getD i 0))(hc:CkOk ks):
  Calls Tryz.prog 101 #[plV kind n r A l c,.slice K ks.length ck] w λz w'=>z=.returned (.int .i64 (coefF kind n r ks))/\Below w.heap.size w w':=by
 have HC:=aZ hc
 have hb2:=bs_prs2
 have hb3:=bs_prs3
 have HSM:=aZ (λm c A f w=>@sumC_any m c A f w)
 have HLG:=aZ (λw=>log_any n.toNat (by omega) (by omega) w)
 have hnn:((n.toNat:Nat):Int)=n:=by omega
 rw[hnn] at HLG
 have HLE:=aZ (logN_le (n:=n.toNat) (by omega) (by omega))
 have HN:=aZ (And.intro h1 h2)
 have HK:Hid (∀i,i<ks.length->∃b o,K=some ⟨b,o,none⟩/\w.cell? ⟨b,o+i,none⟩=some (.int .i64 (ks.getD i 0))):=aZ hk
 have HB0:=aZ ((Below.refl _ w).alloc (Nat.le_refl _) (.cells #[.int .i64 kind,.int .i64 n,.int .i64 r,.slice A l c] 46))
 by_cases k1:kind=1
 ·subst k1
  have hl2:ks.length=2:=by rw[hl];unfold wantsF;rw[if_pos rfl];split<;>rfl
  obtain⟨b,o,rfl,c0⟩:=HK.out 0 (by omega)
  obtain⟨b',o',e,c1⟩:=HK.out 1 (by omega)
  cases e
  have HV:=aZ (And.intro (HC.out.at' 0) (HC.out.at' 1))
  have HE:Hid (coefF 1 n r ks=capI (ks.getD 0 0+ks.getD 1 0+4)):=aZ (by unfold coefF;rw[if_pos rfl])
  obtain⟨k0,hk0⟩:∃k0,ks.getD 0 0=k0:=⟨_,rfl⟩
  obtain⟨kx,hkx⟩:∃kx,ks.getD 1 0=kx:=⟨_,rfl⟩
  rw[hk0] at c0 HV HE
  rw[hkx] at c1 HV HE
  have c0:=keep_cell HB0.out c0
  have c1:=keep_cell HB0.out c1
  rw[Nat.add_zero] at c0
  obtain⟨W,hW⟩:∃W,W=w.alloc (.cells #[.int .i64 1,.int .i64 n,.int .i64 r,.slice A l c] 46):=⟨_,rfl⟩
  rw[hl2]
  clear hc hk HK h1 h2 hl hk0 hkx HC hnn hl2
  go_enter Tryz.func101,Tryz.ntmps101
  go_upto_region 3 with(fail)
  rw[<-hW] at c0 c1 HB0|-
  clear hW
  refine wp_region_T (λw'=>w'.cell? ⟨b,o,none⟩=some (.int .i64 k0)/\w'.cell? ⟨b,o+1,none⟩=some (.int .i64 kx)/\Hid (Below w.heap.size w w')) 9 ⟨c0,c1,aZ (HB0.out.trans ((Below.refl _ _).drew))⟩ (λhS0=>?_)
  refine Takes.intro [0,1,2,3,4,5,6,7,8] ?_
  repeat(refine Takes.go (v:=?_) hS0 ?_;try simp only[nrm,Act.put])
  refine Takes.nil ?_
  refine wpAnyS_fin 3 9 ?_
  simp only[nrd]
  go_wp2_with fail
  refine(HSM.out 3 3 _ _ (W.alloc _).drew (prs_three W k0 1 kx 1 4 1) (by decide) (wok_three ⟨HV.out.1.1,HV.out.1.2,by decide,by decide⟩ ⟨HV.out.2.1,HV.out.2.2,by decide,by decide⟩ ⟨by decide,by decide,by decide,by decide⟩)).mono ?_
  rintro z w1 ⟨rfl,hb⟩
  have HB1:=aZ ((HB0.out.alloc HB0.out.size (.cells #[.int .i64 k0,.int .i64 1,.int .i64 kx,.int .i64 1,.int .i64 4,.int .i64 1] 25)).drew.trans (hb.mono (by have h1:=HB0.out.size;have h2:((W.alloc (.cells #[.int .i64 k0,.int .i64 1,.int .i64 kx,.int .i64 1,.int .i64 4,.int .i64 1] 25)).drew).heap.size=W.heap.size+1:=(by simp[World.drew]);omega)))
  clear hb hS0 c0 c1
  go_wp2
  go_ret
  exact⟨by rw[HE.out,sum_three,Int.mul_one,Int.mul_one];rfl,HB1.out⟩
 ·by_cases k2:kind=2
  ·subst k2
   have HE:Hid (coefF 2 n r ks=4*logN n.toNat):=aZ (by unfold coefF;rw[if_neg (by decide),if_pos rfl])
   have hw:wrap64 (4*(logN n.toNat:Int))=4*(logN n.toNat:Int):=by have:=HLE.out;unfold wrap64;omega
   obtain⟨L,hL⟩:∃L:Int,(logN n.toNat:Int)=L:=⟨_,rfl⟩
   rw[hL] at hw HE HLG
   have HW:=aZ hw
   clear hc hk HK h1 h2 hl HC hnn k1 hL
   go_enter Tryz.func101,Tryz.ntmps101
   go_wp2_with fail
   refine(HLG.out _).mono ?_
   rintro z w1 ⟨rfl,rfl⟩
   go_wp2
   go_ret
   exact⟨congrArg (λv=>Ending.returned (.int .i64 v)) (HW.out.trans HE.out.symm),HB0.out⟩
  ·have two:∀m:Int,(kind=3/\m=8)\/(kind=4/\m=12)->Calls Tryz.prog 101 #[plV kind n r A l c,.slice K ks.length ck] w λz w'=>z=.returned (.int .i64 (coefF kind n r ks))/\Below w.heap.size w w':=by
     intro m hm
     have hl2:ks.length=1:=by rw[hl];unfold wantsF;rcases hm with⟨rfl,-⟩|⟨rfl,-⟩<;>rfl
     obtain⟨b,o,rfl,c0⟩:=HK.out 0 (by omega)
     have HV:=aZ (HC.out.at' 0)
     have HE:Hid (coefF kind n r ks=capI (ks.getD 0 0*3+m*1)):=aZ (by rcases hm with⟨rfl,rfl⟩|⟨rfl,rfl⟩<;>rfl)
     obtain⟨k0,hk0⟩:∃k0,ks.getD 0 0=k0:=⟨_,rfl⟩
     rw[hk0] at c0 HV HE
     have c0:=keep_cell HB0.out c0
     rw[Nat.add_zero] at c0
     obtain⟨W,hW⟩:∃W,W=w.alloc (.cells #[.int .i64 kind,.int .i64 n,.int .i64 r,.slice A l c] 46):=⟨_,rfl⟩
     have hWs:w.heap.size+1=W.heap.size:=by rw[hW];simp
     rw[hl2]
     have HWS:=aZ hWs
     clear hc hk HK h1 h2 hl hk0 HC hnn hl2 hb3 k1 k2 hWs
     rcases hm with⟨rfl,rfl⟩|⟨rfl,rfl⟩
     all_goals
      go_enter Tryz.func101,Tryz.ntmps101
      go_wp2_with fail
      rw[<-hW] at c0 HB0|-
      rw[HWS.out]
      refine(HSM.out 2 2 _ _ _ (prs_two W k0 3 _ 1) (by decide) (wok_two ⟨HV.out.1,HV.out.2,by decide,by decide⟩ ⟨by decide,by decide,by decide,by decide⟩)).mono ?_
      rintro z w1 ⟨rfl,hb⟩
      have HB1:=aZ ((HB0.out.alloc HB0.out.size _).trans (hb.mono (by have:=HB0.out.size;simp;omega)))
      clear hb c0 hW
      go_wp2
      go_ret
      exact⟨by rw[HE.out,sum_two];rfl,HB1.out⟩
   by_cases k3:kind=3
   ·exact two 8 (.inl ⟨k3,rfl⟩)
   ·by_cases k4:kind=4
    ·exact two 12 (.inr ⟨k4,rfl⟩)
    ·have HE:Hid (coefF kind n r ks=n+2):=aZ (by unfold coefF;rw[if_neg k1,if_neg k2,if_neg k3,if_neg k4])
     have hw:wrap64 (n+2)=n+2:=by unfold wrap64;omega
     have HW:=aZ hw
     clear two hc hk HK h1 h2 hl HC hnn HLG HSM
     go_enter Tryz.func101,Tryz.ntmps101
     go_wp2
     go_ret
     exact⟨congrArg (λv=>Ending.returned (.int .i64 v)) (HW.out.trans HE.out.symm),HB0.out⟩
def Fo.Sz:Fo->Prop
 |.nil=>True
 |.cons kind n r kids rest=>(1<=n/\n<=32768/\(kind=4->n<=16384)/\(kind=1->2<=r/\r<n)/\kids.len=(wantsF kind n r).length)/\kids.Sz/\rest.Sz
theorem Sz.at':∀(i:Nat) (fo:Fo) {k n r:Int} {q rest:Fo},fo.Sz->fo.drop i=.cons k n r q rest->(Fo.cons k n r q .nil).Sz
 |0,.cons _ _ _ _ _,k,n,r,q,rest,h,e=>by cases e;exact⟨h.1,h.2.1,trivial⟩
 |i+1,.cons _ _ _ _ fo,k,n,r,q,rest,h,e=>Sz.at' i fo h.2.2 e
 |0,.nil,_,_,_,_,_,_,e=>by cases e
 |i+1,.nil,_,_,_,_,_,_,e=>by rw[drop_nil] at e;cases e
theorem bad_sz:∀(fo:Fo) (ws:List Int) (blue:Bool),fo.bad ws blue=0->fo.len=ws.length->(∀x∈ws,1<=x/\x<=32768)->fo.Sz
 |.nil,_,_,_,_,_=>trivial
 |.cons kind n r kids rest,ws,blue,h,hl,hw=>by
   rcases ws with _|⟨x,ws⟩
   ·simp[Fo.len] at hl
   unfold Fo.bad at h
   by_cases h1:nodeE kind n r kids.len ((x::ws).headD 0) blue≠0
   ·rw[if_pos h1] at h;exact absurd h h1
   rw[if_neg h1] at h
   have h1:nodeE kind n r kids.len x blue=0:=by simpa using h1
   by_cases h2:kids.bad (wantsF kind n r) (blue||kind==4)≠0
   ·rw[if_pos h2] at h;exact absurd h h2
   rw[if_neg h2] at h
   have h2:kids.bad (wantsF kind n r) (blue||kind==4)=0:=by simpa using h2
   have hx:=hw x (by simp)
   obtain⟨k0,k4,kb,rfl,hs,hkl,hr⟩:=nodeE_zero h1
   refine⟨⟨hx.1,hx.2,λe=>?_,λe=>?_,hkl⟩,bad_sz kids _ _ h2 hkl (node_wants h1 hx.1 hx.2),bad_sz rest ws blue h (by simpa[Fo.len] using hl) (λy hy=>hw y (by simp[hy]))⟩
   ·subst e
    unfold sizeE at hs
    rw[if_neg (by decide),if_neg (by decide),if_neg (by decide),if_pos rfl] at hs
    by_cases hc:n<2\/16384<n
    ·rw[if_pos hc] at hs;cases hs
    ·omega
   ·subst e
    have:2<=r/\r<n/\n%r=0:=by simpa[radixB] using hr
    exact⟨this.1,this.2.1⟩
theorem check_sz{kind n r:Int}{q:Fo}{want:Int}(h:checkE kind n r q want=0):(Fo.cons kind n r q .nil).Sz/\1+q.count<=64:=by
 unfold checkE at h
 by_cases h1:want<1\/32768<want
 ·rw[if_pos h1] at h;cases h
 rw[if_neg h1] at h
 by_cases h2:64<1+q.count
 ·rw[if_pos h2] at h;cases h
 rw[if_neg h2] at h
 exact⟨bad_sz _ _ _ h rfl (λx hx=>by simp at hx;omega),by omega⟩
theorem bs_i64(a:Value)(w:World)(ha:∃v,a=.int .i64 v):(Instr.buildSlice 123 1 #[(0,a)]).run Tryz.prog w=.ok (.slice (some ⟨w.heap.size,0,none⟩) 1 1) (w.alloc (.cells #[a] 2)):=by
 obtain⟨i0,hi,hz0,hz1,hz2⟩:=info_parts info_int64
 obtain⟨v,rfl⟩:=ha
 refine run_buildSlice w 123 2 1 _ #[.int .i64 v] i0 _ Tryz.underlying123 hi hz0 (by rw[hz1];decide) (by rw[hz1];decide) ?_
 rw[hz1]
 have hr:Array.range 1=#[0]:=by decide
 simp[Instr.fill,Value.cells,hr]
theorem bs_i64'(v:Int)(w:World):(Instr.buildSlice 123 1 #[(0,.int .i64 v)]).run Tryz.prog w=.ok (.slice (some ⟨w.heap.size,0,none⟩) 1 1) (w.alloc (.cells #[.int .i64 v] 2)):=bs_i64 _ w ⟨v,rfl⟩
def OwnI(w:World)(base:Nat)(v:Value)(L:List Int):Prop:=w.ownsRow base 2 1 v L.length (L.map λx=>.int .i64 x)
theorem OwnI.nil(w:World)(base:Nat):OwnI w base (.slice none 0 0) []:=World.ownsRow_nil _ _ _ _
theorem OwnI.form{w:World}{base:Nat}{v:Value}{L:List Int}(h:OwnI w base v L):∃A c,v=.slice A L.length c/\IntsAt w A L.length (λi=>L.getD i 0)/\(∀b o,A=some ⟨b,o,none⟩->base<=b):=by
 obtain⟨A,c,rfl,hc,h1,h2,h3⟩:=owns_cells h
 refine⟨A,c,rfl,λi hi=>?_,h3⟩
 obtain⟨b,o,e,hx⟩:=hc i (.int .i64 L[i]) (by rw[List.getElem?_map,List.getElem?_eq_getElem hi];rfl)
 refine⟨b,o,e,?_⟩
 dsimp only
 rw[List.getD_eq_getElem?_getD,List.getElem?_eq_getElem hi]
 exact hx
theorem OwnI.below{w w':World}{base:Nat}{v:Value}{L:List Int}(h:OwnI w base v L)(hb:Below w.heap.size w w'):OwnI w' base v L:=owns_below h hb
theorem fold_at(G:Int->Int->Int->List Int->Int):∀(i:Nat) (fo:Fo) {k n r:Int} {q rest:Fo},fo.drop i=.cons k n r q rest->(fo.fold G).take (i+1)=(fo.fold G).take i++[G k n r (q.fold G)]
 |0,.cons _ _ _ _ _,k,n,r,q,rest,e=>by cases e;rfl
 |i+1,.cons _ _ _ _ fo,k,n,r,q,rest,e=>by
   show _::(fo.fold G).take (i+1)=_::((fo.fold G).take i++_)
   rw[fold_at G i fo e]
 |0,.nil,_,_,_,_,_,e=>by cases e
 |i+1,.nil,_,_,_,_,_,e=>by rw[drop_nil] at e;cases e
theorem coef_rng{kind n r:Int}{ks:List Int}(h1:1<=n)(h2:n<=32768)(h:CkOk ks):0<=coefF kind n r ks/\coefF kind n r ks<=1125899906842624:=by
 have a:=h.at' 0
 have b:=h.at' 1
 have l:=logN_le (n:=n.toNat) (by omega) (by omega)
 unfold coefF
 split
 ·exact cap_le _ (by omega)
 split
 ·omega
 split
 ·exact cap_le _ (by omega)
 split
 ·exact cap_le _ (by omega)
 ·omega
theorem fold_ok:∀fo:Fo,fo.Sz->CkOk (fo.fold coefF)
 |.nil,_=>λx hx=>by cases hx
 |.cons kind n r kids rest,h=>λx hx=>by
   rcases List.mem_cons.1 hx with rfl|hx
   ·exact coef_rng h.1.1 h.1.2.1 (fold_ok kids h.2.1)
   ·exact fold_ok rest h.2.2 x hx
def FoldC(kind n r:Int)(q:Fo):Prop:=(Fo.cons kind n r q .nil).Sz->q.count<=549755813888->∀(w:World) (A:Option Addr) (c:Nat),Kids w A 0 q->
 Calls Tryz.prog 123 #[plV kind n r A q.len c,.func (.func 101) #[] #[]] w λz w'=>z=.returned (.int .i64 (coefF kind n r (q.fold coefF)))/\Below w.heap.size w w'
theorem fold_all:∀fo:Fo,fo.all FoldC:=Fo.all_of λkind n r q ih=>by
 intro hs hc w A c hk
 have HK:=aZ hk
 have HIH:=aZ ih
 have HC:=aZ hc
 have HSZ:=aZ hs
 have hql:q.len<=549755813888:=by have:=len_count' q;omega
 have e1:∀(args:Array Value) w,(callFunc 101 args).run Tryz.prog w=.ok (.enter 101 args) w:=λargs w=>enters_of Tryz.func101 (by kernel_rfl) rfl args w
 clear hk ih hc hs
 have HB1:=aZ ((Below.refl _ w).alloc (Nat.le_refl _) (.cells #[.int .i64 kind,.int .i64 n,.int .i64 r,.slice A q.len c] 46))
 have HP1:=aZ (PlBox.new w kind n r A q.len c 46)
 have HS1:Hid ((w.alloc (.cells #[.int .i64 kind,.int .i64 n,.int .i64 r,.slice A q.len c] 46)).heap.size=w.heap.size+1):=aZ (by simp)
 go_enter Tryz.func123,Tryz.ntmps123
 go_wp2
 obtain⟨W1,hW1⟩:∃W1,W1=w.alloc (.cells #[.int .i64 kind,.int .i64 n,.int .i64 r,.slice A q.len c] 46):=⟨_,rfl⟩
 rw[<-hW1] at HB1 HP1 HS1|-
 clear hW1
 go_loopw [5,11] (λkv vi wr=>∃i:Nat,i<=q.len/\vi=.int .i64 i/\Hid (OwnI wr (w.heap.size+1) kv ((q.fold coefF).take i))/\Hid (w.heap.size+1<=wr.heap.size/\Below w.heap.size w wr)/\Hid (PlBox wr w.heap.size kind n r A q.len c)) (λ_ vi _=>q.len-(intOf vi).toNat)
 case atStart=>exact⟨0,Nat.zero_le _,rfl,aZ (OwnI.nil _ _),aZ ⟨by rw[HS1.out];exact Nat.le_refl _,HB1.out⟩,HP1⟩
 case round=>
  obtain⟨i,hi,rfl,hrow,hbw,hp⟩:=hrel
  clear HB1 HP1 HS1
  by_cases hlt:i<q.len
  ·have hlti:(i:Int)<(q.len:Int):=by omega
   obtain⟨k',n',r',q',rest,hd⟩:=drop_lt i q hlt
   obtain⟨bA,oA,B',c',rfl,k0,k1,k2,k3,k5⟩:=HK.out.at' hd
   have j0:=keep_cell hbw.out.2 k0
   have j1:=keep_cell hbw.out.2 k1
   have j2:=keep_cell hbw.out.2 k2
   have j3:=keep_cell hbw.out.2 k3
   have HTS:=aZ (fold_at coefF i q hd)
   have HTL:Hid (((q.fold coefF).take i).length=i):=aZ (by rw[List.length_take,fold_len];omega)
   have hq'c:q'.count<=549755813888:=by
    have h1:=count_kid hd
    have h2:=upto_all q (i+1)
    have:=HC.out
    omega
   have HE:=aZ (λw' h=>Fo.all_at HIH.out hd (Sz.at' i q HSZ.out.2.1 hd) hq'c w' B' c' h)
   have HKB:=aZ (k5.below hbw.out.2)
   have bs:=bs_i64'
   have HBB:=aZ ((Below.refl _ wr).alloc (Nat.le_refl _) (.cells #[.int .i64 k',.int .i64 n',.int .i64 r',.slice B' q'.len c'] 46))
   clear k0 k1 k2 k3 k5 hd hq'c
   go_wp2_with fail
   refine(HE.out _ (HKB.out.below HBB.out)).mono ?_
   rintro z w3 ⟨rfl,hb3⟩
   have HB3:=aZ (HBB.out.trans (hb3.mono (HBB.out.size)))
   obtain⟨V,hV⟩:∃V,coefF k' n' r' (q'.fold coefF)=V:=⟨_,rfl⟩
   rw[hV] at HTS|-
   have HB4:=aZ (HB3.out.alloc HB3.out.size (.cells #[.int .i64 V] 2))
   have HO:=aZ (hrow.out.below HB4.out)
   have HP4:=aZ (hp.out.below HB4.out)
   have HT4:Hid (∀k,u5.ownBlock=some k->w.heap.size+1<=k):=aZ (λk e=>(World.ownsRow.lt hrow.out k e).1)
   have HZ4:Hid (w.heap.size+1<=(w3.alloc (.cells #[.int .i64 V] 2)).heap.size/\Below w.heap.size w (w3.alloc (.cells #[.int .i64 V] 2))):=aZ ⟨by have:=HB4.out.size;have:=hbw.out.1;omega,hbw.out.2.trans (HB4.out.mono (by have:=hbw.out.2.size;exact this))⟩
   clear hb3 hV hrow hbw hp j0 j1 j2 j3 HBB HKB HE
   have hi40:i+1<=1099511627776:=by omega
   have hs4:=HZ4.out.1
   have hn0:(w3.alloc (.cells #[.int .i64 V] 2)).cell? ⟨w3.heap.size,0,none⟩=some (.int .i64 V):=by rw[World.cell?_alloc_new];rfl
   go_wp2_with (at_builtin;refine wpList_appG rfl _ _ 123 2 rfl 1 8 (.int .i64 0) Tryz.underlying123 info_int64 rfl (by omega) (by omega) (w.heap.size+1) u5 i _ rfl (by have h:=HO.out;unfold OwnI at h;rw[HTL.out] at h;exact h) _ 1 [.int .i64 V] rfl rfl (λj u hj=>by rcases j with _|j<;>simp at hj;subst hj;exact hn0) (λu hu=>by simp at hu;subst hu;rfl) hi40 hs4 (λv' w' hO2 hG2=>?_))
   have HN:Hid (OwnI w' (w.heap.size+1) v' ((q.fold coefF).take (i+1))):=aZ (by rw[HTS.out];unfold OwnI;rw[List.length_append,HTL.out,List.map_append];exact hO2.out)
   have HP5:=aZ (HP4.out.grown hG2.out (λe=>by have:=HT4.out _ e;omega))
   have HZ5:Hid (w.heap.size+1<=w'.heap.size/\Below w.heap.size w w'):=aZ ⟨Nat.le_trans HZ4.out.1 hG2.out.size,HZ4.out.2.grown hG2.out HZ4.out.2.size (λk e=>by have:=HT4.out _ e;omega)⟩
   clear hO2 hG2 hs4 hn0 HP4 HZ4 HO HT4 HB3 HB4
   go_wp2
   exact⟨⟨i+1,by omega,by go_num,HN,HZ5,HP5⟩,by simp[intOf];omega⟩
  ·obtain rfl:i=q.len:=by omega
   have HL:Hid ((q.fold coefF).take q.len=q.fold coefF):=aZ (List.take_of_length_le (by rw[fold_len];exact Nat.le_refl _))
   rw[HL.out] at hrow
   obtain⟨KA,kc,rfl,hI,-⟩:=hrow.out.form
   have HI:=aZ hI
   have HP:=hp.out
   obtain⟨p0,p1,p2,p3⟩:=HP
   have HF:=aZ (fold_len coefF q)
   clear hI
   go_wp2_with fail
   refine(coef_any kind n r A q.len c (q.fold coefF) KA kc _ HSZ.out.1.1 HSZ.out.1.2.1 (by rw[HF.out];exact HSZ.out.1.2.2.2.2) HI.out (fold_ok q HSZ.out.2.1)).mono ?_
   rintro z w3 ⟨rfl,hb3⟩
   have HB3:=aZ (hbw.out.2.trans (hb3.mono hbw.out.2.size))
   clear hb3 p0 p1 p2 p3
   go_wp2
   go_ret
   exact⟨rfl,HB3.out⟩
end Go.Proofs.YtfedabinindpbaaGreat
namespace Go.Proofs.YtfedabinindpbaaGreat
open Go.RowKit Go.Lib Fl
theorem isnanF_any(x:Nat)(v:Bool)(w:World)(hv:(FloatKind.f64.format.order x x != some Ordering.eq)=v):
  Calls Tryz.prog 65 #[.float .f64 x] w λz w'=>z=.returned (.bool v)/\w=w':=by
 go_enter Tryz.func65,Tryz.ntmps65
 go_wp2
 go_ret
 exact⟨rfl,rfl⟩
theorem isinfF_any(x:Nat)(v:Bool)(w:World)(hx:x<18446744073709551616)(hv:(FloatKind.f64.format.order (x%9223372036854775808) 9218868437227405311==some Ordering.gt)=v):
  Calls Tryz.prog 66 #[.float .f64 x,.int .i64 0] w λz w'=>z=.returned (.bool v)/\w=w':=by
 go_enter Tryz.func66,Tryz.ntmps66
 go_wp2_with fail
 refine(absF_any x _ hx).mono ?_
 rintro z w' ⟨rfl,rfl⟩
 go_wp2
 go_ret
 exact⟨rfl,rfl⟩
theorem normF_any(x:Nat)(w:World)(hx:x<18446744073709551616)(hv:(FloatKind.f64.format.order (x%9223372036854775808) 4503599627370496==some Ordering.lt)=false):
  Calls Tryz.prog 120 #[.float .f64 x] w λz w'=>z=.returned (.tuple #[.float .f64 x,.int .i64 0])/\w=w':=by
 go_enter Tryz.func120,Tryz.ntmps120
 go_wp2_with fail
 refine(absF_any x _ hx).mono ?_
 rintro z w' ⟨rfl,rfl⟩
 go_wp2
 go_ret2
 exact⟨rfl,rfl⟩
theorem and2047F(x:Nat)(h:x<18446744073709551616):bits .and .u64 ((x:Int)/4503599627370496) 2047=((x/4503599627370496%2048:Nat):Int):=by
 have:=u64_and_nat (x/4503599627370496) 2047 (by omega) (by omega)
 rw[show((2047:Nat):Int)=2047 from rfl] at this
 rw[show((x:Int)/4503599627370496)=((x/4503599627370496:Nat):Int) from by simp,this,show(2047:Nat)=2^11-1 from rfl,Nat.and_two_pow_sub_one_eq_mod]
theorem cut_mant(x:Nat)(h:x<9223372036854775808):x &&& 9227875636482146303=x%4503599627370496:=by
 rw[show(4503599627370496:Nat)=2^52 from rfl]
 apply Nat.eq_of_testBit_eq
 intro i
 rw[Nat.testBit_and,Nat.testBit_mod_two_pow]
 by_cases hi:i<52
 ·have k:∀j:Fin 52,Nat.testBit 9227875636482146303 j.1=true:=by decide
  rw[k ⟨i,hi⟩]
  simp[hi]
 ·by_cases h3:i<63
  ·have k:∀j:Fin 63,¬j.1<52->Nat.testBit 9227875636482146303 j.1=false:=by decide
   rw[k ⟨i,h3⟩ hi]
   simp[hi]
  ·have hl:x<2^i:=Nat.lt_of_lt_of_le h (Nat.le_trans (show(9223372036854775808:Nat)<=2^63 by decide) (Nat.pow_le_pow_right (by decide) (by omega)))
   rw[Nat.testBit_lt_two_pow hl]
   simp
theorem andNotM(x:Nat)(h:x<9223372036854775808):bits .andNot .u64 (x:Int) 9218868437227405312=((x%4503599627370496:Nat):Int):=by
 have:=u64_andNot_nat x 9218868437227405312 (by omega) (by omega)
 rw[show((9218868437227405312:Nat):Int)=9218868437227405312 from rfl] at this
 rw[this,show(18446744073709551615-9218868437227405312:Nat)=9227875636482146303 from rfl,cut_mant x h]
theorem orM(m e:Nat)(h:m<4503599627370496)(he:e<2048):bits .or .u64 (m:Int) ((e*4503599627370496:Nat):Int)=((e*4503599627370496+m:Nat):Int):=by
 rw[u64_or_nat m (e*4503599627370496) (by omega) (by omega)]
 congr 1
 rw[Nat.or_comm,show e*4503599627370496=e <<< 52 from by rw[Nat.shiftLeft_eq]]
 exact(Nat.shiftLeft_add_eq_or_of_lt h e).symm
theorem and2047I(e:Nat)(h:e<2048):bits .and .i64 (e:Int) 2047=(e:Int):=by
 have:∀j:Fin 2048,bits .and .i64 ((j.1:Nat):Int) 2047=((j.1:Nat):Int):=by decide+kernel
 exact this ⟨e,h⟩
theorem fnt_pos{E m:Nat}(h2:E<=2046)(hm:m<4503599627370496):Fnt (E*4503599627370496+m):=⟨by omega,by rw[Nat.mod_eq_of_lt (by omega)];omega⟩
theorem iv_pos{E m:Nat}(h1:1<=E)(h2:E<=2046)(hm:m<4503599627370496):iv (E*4503599627370496+m)=((4503599627370496+m:Nat):Int)*2^(E-1):=by
 have:=@iv_word false (E-1) (4503599627370496+m) (by omega) (by omega) (.inr (by omega))
 have e:D.word false ((E-1)*2^52+(4503599627370496+m))=E*4503599627370496+m:=by
  unfold Ieee.Format.word
  simp only[Bool.false_eq_true,if_false]
  omega
 rw[e] at this
 rw[this]
 simp
theorem iv_zero:iv 0=0:=by decide+kernel
theorem iv_pos_gt{E m:Nat}(h1:1<=E)(h2:E<=2046)(hm:m<4503599627370496):0<iv (E*4503599627370496+m):=by
 rw[iv_pos h1 h2 hm]
 exact Int.mul_pos (by omega) (Int.pow_pos (by decide))
theorem ord_eq0{E m:Nat}(h1:1<=E)(h2:E<=2046)(hm:m<4503599627370496):(FloatKind.f64.format.order (E*4503599627370496+m) 0==some Ordering.eq)=false:=by
 show(D.order _ 0==some Ordering.eq)=false
 rw[order_spec (fnt_pos h2 hm) (by decide),iv_zero]
 have:=iv_pos_gt h1 h2 hm
 have e:compare (iv (E*4503599627370496+m)) 0=.gt:=by rw[Int.compare_eq_gt];exact this
 rw[e]
 rfl
theorem ord_self{x:Nat}(h:Fnt x):(FloatKind.f64.format.order x x != some Ordering.eq)=false:=by
 show(D.order x x != some Ordering.eq)=false
 rw[order_spec h h]
 have e:compare (iv x) (iv x)=.eq:=by rw[Int.compare_eq_eq]
 rw[e]
 rfl
theorem ord_max{E m:Nat}(h1:1<=E)(h2:E<=2046)(hm:m<4503599627370496):(FloatKind.f64.format.order (E*4503599627370496+m) 9218868437227405311==some Ordering.gt)=false:=by
 show(D.order _ _==some Ordering.gt)=false
 have hM:(9218868437227405311:Nat)=2046*4503599627370496+4503599627370495:=by decide
 rw[order_spec (fnt_pos h2 hm) (by rw[hM];exact fnt_pos (by omega) (by omega)),hM,iv_pos h1 h2 hm,iv_pos (by omega) (by omega) (by omega)]
 obtain⟨X,hX⟩:∃X,2046-1=X:=⟨_,rfl⟩
 rw[hX]
 have hp:(2:Int)^(E-1)<=2^X:=by
  have:=Nat.pow_le_pow_right (show 0<2 by decide) (show E-1<=X by omega)
  exact_mod_cast this
 have hl:((4503599627370496+m:Nat):Int)*2^(E-1)<=((4503599627370496+4503599627370495:Nat):Int)*2^X:=Int.mul_le_mul (by omega) hp (Int.le_of_lt (Int.pow_pos (by decide))) (by omega)
 generalize ((4503599627370496+m:Nat):Int)*2^(E-1)=a at hl|-
 generalize ((4503599627370496+4503599627370495:Nat):Int)*2^X=b at hl|-
 have:compare a b≠.gt:=by rw[Ne,Int.compare_eq_gt];omega
 cases hc:compare a b
 ·rfl
 ·rfl
 ·exact absurd hc this
theorem ord_min{E m:Nat}(h1:1<=E)(h2:E<=2046)(hm:m<4503599627370496):(FloatKind.f64.format.order (E*4503599627370496+m) 4503599627370496==some Ordering.lt)=false:=by
 show(D.order _ _==some Ordering.lt)=false
 have hM:(4503599627370496:Nat)=1*4503599627370496+0:=by decide
 have e2:iv 4503599627370496=((4503599627370496+0:Nat):Int)*2^(1-1):=by
  have:=@iv_pos 1 0 (by omega) (by omega) (by omega)
  exact this
 rw[order_spec (fnt_pos h2 hm) (by decide),e2,iv_pos h1 h2 hm]
 have hp:(1:Int)<=2^(E-1):=by
  have:=Nat.one_le_two_pow (n:=E-1)
  exact_mod_cast this
 have hl:((4503599627370496+0:Nat):Int)*2^(1-1)<=((4503599627370496+m:Nat):Int)*2^(E-1):=Int.mul_le_mul (by omega) (by simpa using hp) (by decide) (by omega)
 generalize ((4503599627370496+m:Nat):Int)*2^(E-1)=a at hl|-
 generalize ((4503599627370496+0:Nat):Int)*2^(1-1)=b at hl|-
 have:compare a b≠.lt:=by rw[Ne,Int.compare_eq_lt];omega
 cases hc:compare a b
 ·exact absurd hc this
 ·rfl
 ·rfl
theorem iv_low{r l q:Nat}(h:r<9218868437227405312)(hl:l=r/4503599627370496-1)(hq:q=r-l*4503599627370496):iv r=(q:Int)*2^l:=by
 have:=@iv_word false l q (by omega) (by omega) (by omega)
 have e:D.word false (l*2^52+q)=r:=by
  unfold Ieee.Format.word
  simp only[Bool.false_eq_true,if_false]
  omega
 rw[e] at this
 rw[this]
 simp
theorem iv_next{r:Nat}(h:r+1<9218868437227405312):iv r<iv (r+1):=by
 rw[iv_low (show r<9218868437227405312 by omega) rfl rfl,iv_low h rfl rfl]
 obtain⟨l,hl⟩:∃l,r/4503599627370496-1=l:=⟨_,rfl⟩
 rw[hl]
 have hp:(0:Int)<2^l:=Int.pow_pos (by decide)
 by_cases e:(r+1)/4503599627370496-1=l
 ·rw[e]
  refine Int.mul_lt_mul_of_pos_right ?_ hp
  omega
 ·have e2:(r+1)/4503599627370496-1=l+1:=by omega
  rw[e2,Int.pow_succ]
  have h1:((r-l*4503599627370496:Nat):Int)<9007199254740992:=by omega
  have h2:((r+1-(l+1)*4503599627370496:Nat):Int)=4503599627370496:=by omega
  rw[h2]
  generalize (2:Int)^l=P at hp|-
  have h3:=Int.mul_lt_mul_of_pos_right h1 hp
  omega
theorem iv_grow{r:Nat}:∀d,r+d<9218868437227405312->0<d->iv r<iv (r+d)
 |0,_,h0=>absurd h0 (by decide)
 |1,h,_=>iv_next h
 |d+2,h,_=>Int.lt_trans (iv_grow (d+1) (by omega) (by omega)) (iv_next (r:=r+(d+1)) h)
theorem iv_inj{r s:Nat}(hr:r<9218868437227405312)(hs:s<9218868437227405312)(h:iv r=iv s):r=s:=by
 rcases Nat.lt_trichotomy r s with h1|h1|h1
 ·have:=iv_grow (r:=r) (s-r) (by omega) (by omega)
  rw[show r+(s-r)=s by omega] at this
  omega
 ·exact h1
 ·have:=iv_grow (r:=s) (r-s) (by omega) (by omega)
  rw[show s+(r-s)=r by omega] at this
  omega
theorem iv_negw{r:Nat}(h:r<9218868437227405312):iv (9223372036854775808+r)<=0:=by
 have:=@iv_word true (r/4503599627370496-1) (r-(r/4503599627370496-1)*4503599627370496) (by omega) (by omega) (by omega)
 have e:D.word true ((r/4503599627370496-1)*2^52+(r-(r/4503599627370496-1)*4503599627370496))=9223372036854775808+r:=by
  unfold Ieee.Format.word
  rw[D_sign]
  simp only[if_true]
  omega
 rw[e] at this
 rw[this]
 have hp:(0:Int)<2^(r/4503599627370496-1):=Int.pow_pos (by decide)
 have hq:(0:Int)<=((r-(r/4503599627370496-1)*4503599627370496:Nat):Int):=by omega
 have:=Int.mul_nonneg hq (Int.le_of_lt hp)
 simp only[if_true]
 rw[Int.mul_assoc,Int.neg_mul,Int.one_mul]
 omega
theorem fnt_eq{z b:Nat}(hz:Fnt z)(hb:b<9218868437227405312)(h:iv z=iv b)(h0:0<iv b):z=b:=by
 obtain⟨h1,h2⟩:=hz
 by_cases hs:z<9223372036854775808
 ·exact iv_inj (by omega) hb h
 ·have:=iv_negw (r:=z-9223372036854775808) (by omega)
  rw[show 9223372036854775808+(z-9223372036854775808)=z by omega] at this
  omega
theorem mul_one_pos{E m:Nat}(h1:1<=E)(h2':E<=2045)(hm:m<4503599627370496):fmul 4607182418800017408 (E*4503599627370496+m)=some (E*4503599627370496+m):=by
 have h2:E<=2046:=by omega
 have hf:=fnt_pos h2 hm
 have e1:iv 4607182418800017408=2^U:=by
  have:=@iv_pos 1023 0 (by omega) (by omega) (by omega)
  rw[show 1023*4503599627370496+0=4607182418800017408 from rfl] at this
  rw[this,U_eq,show(1074:Nat)=52+(1023-1) from rfl,Int.pow_add]
  rfl
 have hb:(iv (E*4503599627370496+m)).natAbs<2^Bt:=by
  rw[iv_pos h1 h2 hm,Int.natAbs_mul,Int.natAbs_natCast,Int.natAbs_pow]
  have a:4503599627370496+m<2^53:=by omega
  have c:(2:Int).natAbs^(E-1)<=2^(Bt-53):=Nat.pow_le_pow_right (by decide) (by have:=Bt_eq;omega)
  have d:2^53*2^(Bt-53)=2^Bt:=by rw[<-Nat.pow_add];congr 1;have:=Bt_eq;omega
  rw[<-d]
  exact Nat.mul_lt_mul_of_lt_of_le a c (Nat.two_pow_pos _)
 obtain⟨z,z1,z2,z3⟩:=fmul_whole (x:=4607182418800017408) (p:=iv (E*4503599627370496+m)) (by decide) hf (by rw[e1,Int.mul_comm]) hb
 rw[(rep_iv hf).rnd_eq] at z3
 rw[z1,fnt_eq z2 (by omega) z3 (iv_pos_gt h1 h2 hm)]
theorem hmulF{x y r:Nat}(h:fmul x y=some r):∀t w,(binOp .mul t (.float .f64 x) (.float .f64 y)).run Tryz.prog w=.ok (.float .f64 r) w:=λt w=>run_float_arith w .mul t .f64 x y r h
theorem ldexp_pos(E m:Nat)(k:Int)(w:World)(h1:1<=E)(h2:E<=2046)(hm:m<4503599627370496)(k1:1<=(E:Int)+k)(k2:(E:Int)+k<=2045):
  Calls Tryz.prog 96 #[.float .f64 (E*4503599627370496+m:Nat),.int .i64 k] w λz w'=>z=.returned (.float .f64 (((E:Int)+k).toNat*4503599627370496+m:Nat))/\w=w':=by
 have hbits:=run_bitsF
 have hfrom:=run_fromF
 obtain⟨F,hF⟩:∃F:Nat,(E:Int)+k=F:=⟨((E:Int)+k).toNat,by omega⟩
 have hF1:1<=F:=by omega
 have hF2:F<=2045:=by omega
 rw[hF,Int.toNat_natCast]
 have hx:E*4503599627370496+m<9223372036854775808:=by omega
 have c0:=ord_eq0 h1 h2 hm
 have C1:=aZ (λw=>isnanF_any (E*4503599627370496+m) _ w (ord_self (fnt_pos h2 hm)))
 have C2:=aZ (λw=>isinfF_any (E*4503599627370496+m) false w (by omega) (by rw[Nat.mod_eq_of_lt hx];exact ord_max h1 h2 hm))
 have C3:=aZ (λw=>normF_any (E*4503599627370496+m) w (by omega) (by rw[Nat.mod_eq_of_lt hx];exact ord_min h1 h2 hm))
 have a1:=and2047F (E*4503599627370496+m) (by omega)
 have a2:=andNotM (E*4503599627370496+m) hx
 have e1:(E*4503599627370496+m)/4503599627370496%2048=E:=by omega
 have e2:(E*4503599627370496+m)%4503599627370496=m:=by omega
 rw[e1] at a1
 rw[e2] at a2
 have a3:=orM m F hm (by omega)
 have hmm:=hmulF (mul_one_pos hF1 hF2 hm)
 obtain⟨x,hxx⟩:∃x,E*4503599627370496+m=x:=⟨_,rfl⟩
 rw[hxx] at c0 C1 C2 C3 a1 a2|-
 obtain⟨k1',hk1'⟩:∃k1',wrap64 k=k1':=⟨_,rfl⟩
 have hkk:k1'=k:=by rw[<-hk1'];unfold wrap64;omega
 obtain⟨q1,hq1⟩:∃q1,(x:Int)/4503599627370496=q1:=⟨_,rfl⟩
 have hqq:q1=E:=by rw[<-hq1,<-hxx];omega
 obtain⟨q2,hq2⟩:∃q2,wrap64 q1=q2:=⟨_,rfl⟩
 have hqq2:q2=E:=by rw[<-hq2,hqq];unfold wrap64;omega
 obtain⟨q3,hq3⟩:∃q3,bits .and .i64 q2 2047=q3:=⟨_,rfl⟩
 have hqq3:q3=E:=by rw[<-hq3,hqq2];exact and2047I E (by omega)
 obtain⟨q4,hq4⟩:∃q4,wrap64 (q3-1023)=q4:=⟨_,rfl⟩
 have hqq4:q4=(E:Int)-1023:=by rw[<-hq4,hqq3];unfold wrap64;omega
 obtain⟨g,hg⟩:∃g,wrap64 (k1'+q4)=g:=⟨_,rfl⟩
 have hgg:g=(F:Int)-1023:=by rw[<-hg,hkk,hqq4];unfold wrap64;omega
 have g1:¬g< -1075:=by omega
 have g2:¬g>1023:=by omega
 have g3:¬g< -1022:=by omega
 have hor:bits .or .u64 (m:Int) ((g+1023)*4503599627370496)=((F*4503599627370496+m:Nat):Int):=by rw[<-a3];congr 1;omega
 have ht:((F*4503599627370496+m:Nat):Int).toNat=F*4503599627370496+m:=Int.toNat_natCast _
 obtain⟨R,hR⟩:∃R,F*4503599627370496+m=R:=⟨_,rfl⟩
 rw[hR] at hmm hor ht|-
 clear e1 e2 hF hxx k1 k2 hkk hqq hqq2 hqq3 hqq4 hgg a1 a3 hR
 go_enter Tryz.func96,Tryz.ntmps96
 go_wp2_with fail
 refine(C2.out _).mono ?_
 rintro z w' ⟨rfl,rfl⟩
 go_wp2_with fail
 refine(C1.out _).mono ?_
 rintro z w' ⟨rfl,rfl⟩
 go_wp2_with fail
 refine(C3.out _).mono ?_
 rintro z w' ⟨rfl,rfl⟩
 go_wp2_with (first|simp only[hmm]|fail)
 go_ret
 exact⟨rfl,rfl⟩
theorem ldexp_zero(k:Int)(w:World):Calls Tryz.prog 96 #[.float .f64 0,.int .i64 k] w λz w'=>z=.returned (.float .f64 0)/\w=w':=by
 have c0:(FloatKind.f64.format.order 0 0==some Ordering.eq)=true:=by decide+kernel
 go_enter Tryz.func96,Tryz.ntmps96
 go_wp2
 go_ret
 exact⟨rfl,rfl⟩
theorem Ldexp_of(x y:Nat)(k:Int)(w:World)(h:∀w,Calls Tryz.prog 96 #[.float .f64 x,.int .i64 k] w λz w'=>z=.returned (.float .f64 y)/\w=w'):
  Calls Tryz.prog 61 #[.float .f64 x,.int .i64 k] w λz w'=>z=.returned (.float .f64 y)/\w=w':=by
 have H:=aZ h
 clear h
 go_enter Tryz.func61,Tryz.ntmps61
 go_wp2_with fail
 refine(H.out _).mono ?_
 rintro z w' ⟨rfl,rfl⟩
 go_wp2
 go_ret
 exact⟨rfl,rfl⟩
theorem whole_word(c:Int)(h1:1<=c)(h2:c<=1125899906842624):∃E m:Nat,floatOfInt .f64 c=E*4503599627370496+m/\m<4503599627370496/\1023<=E/\E<=1073:=by
 obtain⟨f,v⟩:=T.whole_spec c (by omega) (by omega) rfl
 have hS:(0:Int)<((2^U:Nat):Int):=by have:=Nat.two_pow_pos U;omega
 obtain⟨S,hSe⟩:∃S:Int,((2^U:Nat):Int)=S:=⟨_,rfl⟩
 rw[hSe] at v hS
 have w1:iv 4607182418800017408=S:=by
  have:=T.whole_spec 1 (by decide) (by decide) rfl
  rw[hSe,Int.one_mul] at this
  exact(congrArg iv (show(4607182418800017408:Nat)=floatOfInt .f64 1 by decide+kernel)).trans this.2
 have w2:iv 4832362400168542208=1125899906842624*S:=by
  have:=T.whole_spec 1125899906842624 (by decide) (by decide) rfl
  rw[hSe] at this
  exact(congrArg iv (show(4832362400168542208:Nat)=floatOfInt .f64 1125899906842624 by decide+kernel)).trans this.2
 show ∃E m:Nat,T.wholeF c=_/\_
 obtain⟨b,hb⟩:∃b,T.wholeF c=b:=⟨_,rfl⟩
 rw[hb] at f v|-
 obtain⟨f1,f2⟩:=f
 have p1:S<=c*S:=by have:=Int.mul_le_mul_of_nonneg_right h1 (Int.le_of_lt hS);rwa [Int.one_mul] at this
 have p2:c*S<=1125899906842624*S:=Int.mul_le_mul_of_nonneg_right h2 (Int.le_of_lt hS)
 rw[<-v] at p1 p2
 have hb3:b<9223372036854775808:=by
  rcases Nat.lt_or_ge b 9223372036854775808 with h|h
  ·exact h
  ·have:=iv_negw (r:=b-9223372036854775808) (by omega)
   rw[show 9223372036854775808+(b-9223372036854775808)=b by omega] at this
   omega
 have hlo:4607182418800017408<=b:=by
  rcases Nat.lt_or_ge b 4607182418800017408 with h|h
  ·have:=iv_grow (r:=b) (4607182418800017408-b) (by omega) (by omega)
   rw[show b+(4607182418800017408-b)=4607182418800017408 by omega,w1] at this
   omega
  ·exact h
 have hhi:b<=4832362400168542208:=by
  rcases Nat.lt_or_ge 4832362400168542208 b with h|h
  ·have:=iv_grow (r:=4832362400168542208) (b-4832362400168542208) (by omega) (by omega)
   rw[show 4832362400168542208+(b-4832362400168542208)=b by omega,w2] at this
   omega
  ·exact h
 exact⟨b/4503599627370496,b%4503599627370496,by omega,Nat.mod_lt _ (by decide),by omega,by omega⟩
def boundF(c:Int):Nat:=if c=0 then 0 else floatOfInt .f64 c-45*4503599627370496
theorem Ldexp_bound(c:Int)(h0:0<=c)(h2:c<=1125899906842624)(w:World):Calls Tryz.prog 61 #[.float .f64 (floatOfInt .f64 c),.int .i64 (-45)] w λz w'=>z=.returned (.float .f64 (boundF c))/\w=w':=by
 by_cases hc:c=0
 ·subst hc
  exact Ldexp_of _ _ _ _ (λw=>ldexp_zero (-45) w)
 ·obtain⟨E,m,e,hm,h3,h4⟩:=whole_word c (by omega) h2
  have hb:boundF c=((E:Int)+-45).toNat*4503599627370496+m:=by unfold boundF;rw[if_neg hc,e];omega
  rw[hb,e]
  exact Ldexp_of _ _ _ _ (λw=>ldexp_pos E m (-45) w (by omega) (by omega) hm (by omega) (by omega))
theorem Scale_bound(c:Int)(h0:0<=c)(h2:c<=1125899906842624)(w:World):Calls Tryz.prog 31 #[.float .f64 (floatOfInt .f64 c),.int .i64 (-45)] w λz w'=>z=.returned (.float .f64 (boundF c))/\w=w':=by
 have H:=aZ (λw=>Ldexp_bound c h0 h2 w)
 obtain⟨x,hx⟩:∃x,floatOfInt .f64 c=x:=⟨_,rfl⟩
 rw[hx] at H|-
 clear hx
 go_enter Tryz.func31,Tryz.ntmps31
 go_wp2_with fail
 refine(H.out _).mono ?_
 rintro z w' ⟨rfl,rfl⟩
 go_wp2
 go_ret
 exact⟨rfl,rfl⟩
theorem RFin_pos(E m:Nat)(w:World)(h2:E<=2046)(hm:m<4503599627370496):Calls Tryz.prog 8 #[.float .f64 (E*4503599627370496+m:Nat)] w λz w'=>z=.returned (.bool true)/\w=w':=by
 have hbits:=run_bitsF
 obtain⟨x,hx⟩:∃x,E*4503599627370496+m=x:=⟨_,rfl⟩
 have hxl:x<9223372036854775808:=by omega
 obtain⟨e,he⟩:∃e:Int,(x:Int)*2/9007199254740992=e:=⟨_,rfl⟩
 have he2:(e != 2047)=true:=by
  have:e≠2047:=by omega
  simpa using this
 rw[hx]
 clear hx
 go_enter Tryz.func8,Tryz.ntmps8
 go_wp2
 go_ret
 exact⟨rfl,rfl⟩
theorem Parts_pos(E m:Nat)(w:World)(h1:1<=E)(h2:E<=2046)(hm:m<4503599627370496):Calls Tryz.prog 38 #[.float .f64 (E*4503599627370496+m:Nat)] w λz w'=>z=.returned (.tuple #[.int .i64 ((m:Int)+4503599627370496),.int .i64 ((E:Int)-1075)])/\w=w':=by
 have hbits:=run_bitsF
 obtain⟨x,hx⟩:∃x,E*4503599627370496+m=x:=⟨_,rfl⟩
 have hxl:x<9223372036854775808:=by omega
 obtain⟨e,he⟩:∃e:Int,(x:Int)*2/9007199254740992=e:=⟨_,rfl⟩
 have he2:e=E:=by omega
 have he3:e>0:=by omega
 obtain⟨q,hq⟩:∃q:Int,IntKind.u64.wrap ((x:Int)*4096)/4096=q:=⟨_,rfl⟩
 have hq2:q=m:=by rw[<-hq,IntKind.wrap_u64];omega
 obtain⟨q1,hq1⟩:∃q1,wrap64 q=q1:=⟨_,rfl⟩
 have hq3:q1=m:=by rw[<-hq1,hq2];unfold wrap64;omega
 obtain⟨q4,hq4⟩:∃q4,wrap64 (q1+4503599627370496)=q4:=⟨_,rfl⟩
 have hq5:q4=(m:Int)+4503599627370496:=by rw[<-hq4,hq3];unfold wrap64;omega
 have hs:(x:Int)/9223372036854775808=0:=by omega
 rw[hx]
 have HE:=aZ (And.intro he2 hq5)
 clear hx he2 hq2 hq3 hq5
 go_enter Tryz.func38,Tryz.ntmps38
 go_wp2
 go_ret2
 rw[<-HE.out.1,<-HE.out.2]
 refine⟨?_,rfl⟩
 first|rfl|(rw[<-hq4,<-hq1,<-hq];rfl)|(simp[hq4,hq1,hq])
theorem orM'(m e:Nat)(h:m<4503599627370496)(he:e<2048):bits .or .u64 ((e*4503599627370496:Nat):Int) (m:Int)=((e*4503599627370496+m:Nat):Int):=by
 rw[u64_or_nat (e*4503599627370496) m (by omega) (by omega)]
 congr 1
 rw[show e*4503599627370496=e <<< 52 from by rw[Nat.shiftLeft_eq]]
 exact(Nat.shiftLeft_add_eq_or_of_lt h e).symm
theorem RScale_pos(E m:Nat)(k:Int)(w:World)(h1:1<=E)(h2:E<=2046)(hm:m<4503599627370496)(k1:1<=(E:Int)+k)(k2:(E:Int)+k<=2046):
  Calls Tryz.prog 13 #[.float .f64 (E*4503599627370496+m:Nat),.int .i64 k] w λz w'=>z=.returned (.float .f64 (((E:Int)+k).toNat*4503599627370496+m:Nat))/\w=w':=by
 have hbits:=run_bitsF
 have hfrom:=run_fromF
 obtain⟨F,hF⟩:∃F:Nat,(E:Int)+k=F:=⟨((E:Int)+k).toNat,by omega⟩
 have hF1:1<=F:=by omega
 have hF2:F<=2046:=by omega
 rw[hF,Int.toNat_natCast]
 have c0:=ord_eq0 h1 h2 hm
 have C1:=aZ (λw=>RFin_pos E m w h2 hm)
 have C2:=aZ (λw=>Parts_pos E m w h1 h2 hm)
 have a3:=orM' m F hm (by omega)
 obtain⟨x,hxx⟩:∃x,E*4503599627370496+m=x:=⟨_,rfl⟩
 have hxl:x<9223372036854775808:=by omega
 rw[hxx] at c0 C1 C2|-
 obtain⟨M,hM⟩:∃M:Int,(m:Int)+4503599627370496=M:=⟨_,rfl⟩
 obtain⟨e,he⟩:∃e:Int,(E:Int)-1075=e:=⟨_,rfl⟩
 rw[hM,he] at C2
 have hs:(x:Int)/9223372036854775808=0:=by omega
 have g1:¬M<4503599627370496:=by omega
 have g0:¬M<0:=by omega
 have gk1:¬k>5000:=by omega
 have gk2:¬k< -5000:=by omega
 obtain⟨e2,he2⟩:∃e2,wrap64 (e+k)=e2:=⟨_,rfl⟩
 have he3:e2=(F:Int)-1075:=by rw[<-he2];unfold wrap64;omega
 have g3:¬e2>971:=by omega
 have g4:e2≥-1074:=by omega
 have hor0:∀y:Int,0<=y->y<18446744073709551616->bits .or .u64 0 y=y:=λy h1 h2=>by
  obtain⟨n,rfl⟩:∃n:Nat,y=n:=⟨y.toNat,by omega⟩
  have:=u64_or_nat 0 n (by decide) (by omega)
  rw[show((0:Nat):Int)=0 from rfl] at this
  rw[this,Nat.zero_or]
 obtain⟨R,hR⟩:∃R,F*4503599627370496+m=R:=⟨_,rfl⟩
 have hor1:bits .or .u64 0 ((e2+1075)*4503599627370496)=((F*4503599627370496:Nat):Int):=by rw[hor0 _ (by omega) (by omega)];omega
 have hmw:IntKind.u64.wrap (M*4096)/4096=(m:Int):=by rw[IntKind.wrap_u64];omega
 have hor2:bits .or .u64 ((F*4503599627370496:Nat):Int) (m:Int)=(R:Int):=by rw[a3,hR]
 have ht:(R:Int).toNat=R:=Int.toNat_natCast _
 have hMM:IntKind.u64.wrap M=M:=by rw[IntKind.wrap_u64];omega
 have HKEY:Hid ((bits .or .u64 ((F:Int)*4503599627370496) (IntKind.u64.wrap (IntKind.u64.wrap M*4096)/4096)).toNat=R):=aZ (by rw[hMM,hmw,show(F:Int)*4503599627370496=((F*4503599627370496:Nat):Int) by omega,hor2,ht])
 rw[hR]
 clear hF hxx k1 k2 hM he he3 hor0 a3 hR hMM
 go_enter Tryz.func13,Tryz.ntmps13
 go_wp2_with fail
 refine(C1.out _).mono ?_
 rintro z w' ⟨rfl,rfl⟩
 go_wp2_with fail
 refine(C2.out _).mono ?_
 rintro z w' ⟨rfl,rfl⟩
 go_wp2
 go_loopw [8,9] (λmv ev wr=>mv=.int .i64 M/\ev=.int .i64 e/\w=wr) (λ_ _ _=>0)
 case atStart=>exact⟨rfl,rfl,rfl⟩
 case round=>
  obtain⟨rfl,rfl,rfl⟩:=hrel
  go_wp2
  go_ret
  exact⟨congrArg (λv=>Ending.returned (.float .f64 v)) HKEY.out,rfl⟩
theorem RFin_zero(w:World):Calls Tryz.prog 8 #[.float .f64 0] w λz w'=>z=.returned (.bool true)/\w=w':=by
 have:=RFin_pos 0 0 w (by decide) (by decide)
 exact this
theorem RScale_zero(k:Int)(w:World):Calls Tryz.prog 13 #[.float .f64 0,.int .i64 k] w λz w'=>z=.returned (.float .f64 0)/\w=w':=by
 have c0:(FloatKind.f64.format.order 0 0==some Ordering.eq)=true:=by decide+kernel
 have C1:=aZ (λw=>RFin_zero w)
 go_enter Tryz.func13,Tryz.ntmps13
 go_wp2_with fail
 refine(C1.out _).mono ?_
 rintro z w' ⟨rfl,rfl⟩
 go_wp2
 go_ret
 exact⟨rfl,rfl⟩
theorem RScale_bound(c:Int)(h0:0<=c)(h2:c<=1125899906842624)(w:World):Calls Tryz.prog 13 #[.float .f64 (floatOfInt .f64 c),.int .i64 (-45)] w λz w'=>z=.returned (.float .f64 (boundF c))/\w=w':=by
 by_cases hc:c=0
 ·subst hc
  exact RScale_zero (-45) w
 ·obtain⟨E,m,e,hm,h3,h4⟩:=whole_word c (by omega) h2
  have hb:boundF c=((E:Int)+-45).toNat*4503599627370496+m:=by unfold boundF;rw[if_neg hc,e];omega
  rw[hb,e]
  exact RScale_pos E m (-45) w (by omega) (by omega) hm (by omega) (by omega)
end Go.Proofs.YtfedabinindpbaaGreat
namespace Go.Proofs.YtfedabinindpbaaGreat
open Go.RowKit Go.Lib
theorem logN_half(n:Nat)(h:2<=n):logN n=logN (n/2)+1:=by
 unfold logN
 rw[Nat.log2_def,if_pos h]
theorem logN_one(n:Nat)(h:n<=1):logN n=0:=by
 unfold logN
 rw[Nat.log2_def,if_neg (by omega)]
theorem RLog_any(n:Nat)(h2:n<=32768)(w:World):Calls Tryz.prog 104 #[.int .i64 n] w λz w'=>z=.returned (.int .i64 (logN n))/\w=w':=by
 go_enter Tryz.func104,Tryz.ntmps104
 go_wp2
 go_loopw [0,3] (λnv lv wr=>∃m l:Nat,nv=.int .i64 m/\lv=.int .i64 l/\m<=32768/\l<=15/\l+logN m=logN n/\wr=w) (λnv _ _=>(intOf nv).toNat)
 case atStart=>exact⟨n,0,rfl,rfl,h2,by omega,by omega,rfl⟩
 case round=>
  obtain⟨m,l,rfl,rfl,hm,hl,he,rfl⟩:=hrel
  by_cases h1:m>1
  ·have hi:(m:Int)>1:=by omega
   have hd:(m:Int).tdiv 2=((m/2:Nat):Int):=by rw[Int.tdiv_eq_ediv_of_nonneg (by omega)];omega
   have hd2:(m:Int)/2=((m/2:Nat):Int):=by omega
   have hlog:=logN_half m (by omega)
   have hle:=Nat.le_of_lt_succ (Nat.lt_succ_of_le (show logN (m/2)<=15 by
    rcases Nat.eq_zero_or_pos (m/2) with h0|h0
    ·rw[logN_one _ (by omega)];omega
    ·exact logN_le h0 (by omega)))
   have HX:Hid (l+1+logN (m/2)=logN n/\m/2<=32768/\m/2<m/\(1<=m/2)):=aZ (by omega)
   obtain⟨h,hh⟩:∃h,m/2=h:=⟨_,rfl⟩
   rw[hh] at hd hd2 HX
   have hlw:wrap64 ((l:Int)+1)=(l:Int)+1:=by unfold wrap64;omega
   have HL15:Hid (l+1<=15):=aZ (by
    have:=HX.out
    have h5:logN n<=15\/n=0:=by
     rcases Nat.eq_zero_or_pos n with h0|h0
     ·exact .inr h0
     ·exact .inl (logN_le h0 h2)
    rcases h5 with h5|h5
    ·omega
    ·subst h5;have:=logN_one 0 (by omega);omega)
   clear hlog hle hh he
   go_wp2
   exact⟨⟨h,l+1,rfl,by go_num,HX.out.2.1,HL15.out,HX.out.1,trivial⟩,by simp[intOf];have:=HX.out;omega⟩
  ·have hl0:=logN_one m (by omega)
   have hi:¬(m:Int)>1:=by omega
   have HE:Hid (l=logN n):=aZ (by omega)
   clear hl0 he
   go_wp2
   go_ret
   exact⟨by rw[<-HE.out];rfl,rfl⟩
theorem cut_any(x:Int)(w:World):Calls Tryz.prog 105 #[.int .i64 x] w λz w'=>z=.returned (.int .i64 (capI x))/\w=w':=by
 by_cases h:x>1125899906842624
 ·have e:capI x=1125899906842624:=by unfold capI;rw[if_neg (by omega)]
  have HE:=aZ e
  clear e
  go_enter Tryz.func105,Tryz.ntmps105
  go_wp2
  go_ret
  exact⟨by rw[HE.out];rfl,rfl⟩
 ·have e:capI x=x:=by unfold capI;rw[if_pos (by omega)]
  have HE:=aZ e
  clear e
  go_enter Tryz.func105,Tryz.ntmps105
  go_wp2
  go_ret
  exact⟨by rw[HE.out];rfl,rfl⟩
theorem ROwn_coef(kind n r:Int)(A:Option Addr)(l c:Nat)(ks:List Int)(K:Option Addr)(ck:Nat)(w:World)(h1:1<=n)(h2:n<=32768)(h4:kind=4->n<=16384)(hl:ks.length=(wantsF kind n r).length)(hk:IntsAt w K ks.length (λi=>ks.getD i 0))(hc:CkOk ks):
  Calls Tryz.prog 76 #[plV kind n r A l c,.slice K ks.length ck,.bool true] w λz w'=>z=.returned (.int .i64 (coefF kind n r ks))/\Below w.heap.size w w':=by
 have HC:=aZ hc
 have HCUT:=aZ cut_any
 have HWN:=aZ (λw=>RWants_any kind n r A l c w h1 h2 h4)
 have HLG:=aZ (λw=>RLog_any n.toNat (by omega) w)
 have hnn:((n.toNat:Nat):Int)=n:=by omega
 rw[hnn] at HLG
 have HLE:=aZ (logN_le (n:=n.toNat) (by omega) (by omega))
 have HK:Hid (∀i,i<ks.length->∃b o,K=some ⟨b,o,none⟩/\w.cell? ⟨b,o+i,none⟩=some (.int .i64 (ks.getD i 0))):=aZ hk
 have HB0:=aZ ((Below.refl _ w).alloc (Nat.le_refl _) (.cells #[.int .i64 kind,.int .i64 n,.int .i64 r,.slice A l c] 53))
 have HP0:=aZ (PlBox.new w kind n r A l c 53)
 obtain⟨W,hW⟩:∃W,W=w.alloc (.cells #[.int .i64 kind,.int .i64 n,.int .i64 r,.slice A l c] 53):=⟨_,rfl⟩
 rw[<-hW] at HB0 HP0
 have HN:=aZ (And.intro h1 h2)
 clear hc hk h1 h2 hnn
 have HW:=aZ hW
 clear hW
 by_cases k1:kind=1
 ·subst k1
  have hl2:ks.length=2:=by rw[hl];unfold wantsF;rw[if_pos rfl];split<;>rfl
  obtain⟨b,o,rfl,c0⟩:=HK.out 0 (by omega)
  obtain⟨b',o',e,c1⟩:=HK.out 1 (by omega)
  cases e
  have HV:=aZ (And.intro (HC.out.at' 0) (HC.out.at' 1))
  have HE:Hid (coefF 1 n r ks=capI (ks.getD 0 0+ks.getD 1 0+4)):=aZ (by unfold coefF;rw[if_pos rfl])
  obtain⟨k0,hk0⟩:∃k0,ks.getD 0 0=k0:=⟨_,rfl⟩
  obtain⟨kx,hkx⟩:∃kx,ks.getD 1 0=kx:=⟨_,rfl⟩
  rw[hk0] at c0 HV HE
  rw[hkx] at c1 HV HE
  rw[Nat.add_zero] at c0
  obtain⟨s1,hs1⟩:∃s1,wrap64 (k0+kx)=s1:=⟨_,rfl⟩
  have hs2:s1=k0+kx:=by rw[<-hs1];have:=HV.out;unfold wrap64;omega
  obtain⟨s3,hs3⟩:∃s3,wrap64 (s1+4)=s3:=⟨_,rfl⟩
  have HS4:Hid (s3=k0+kx+4):=aZ (by rw[<-hs3,hs2];have:=HV.out;unfold wrap64;omega)
  rw[hl2]
  clear HK hk0 hkx HC hl2 hs2
  go_enter Tryz.func76,Tryz.ntmps76
  go_wp2_with fail
  rw[<-HW.out]
  refine(HWN.out _).mono ?_
  rintro z w2 ⟨⟨A',rfl,-,-⟩,hbw⟩
  obtain⟨p0,p1,p2,p3⟩:=HP0.out.below hbw
  have HB2:=aZ (HB0.out.trans (hbw.mono HB0.out.size))
  have HC0:=aZ (keep_cell HB2.out c0)
  have HC1:=aZ (keep_cell HB2.out c1)
  clear hbw
  go_wp2_with fail
  refine(HLG.out _).mono ?_
  rintro z w' ⟨rfl,rfl⟩
  clear c0 c1
  go_upto_region 7 with(fail)
  clear p0 p1 p2 p3
  refine wp_region_T (λw'=>w'.cell? ⟨b,o,none⟩=some (.int .i64 k0)/\w'.cell? ⟨b,o+1,none⟩=some (.int .i64 kx)/\Hid (Below w.heap.size w w')) 6 ⟨HC0.out,HC1.out,aZ (HB2.out.drew)⟩ (λhS0=>?_)
  refine Takes.intro [0,1,2,3,4,5] ?_
  repeat(refine Takes.go (v:=?_) hS0 ?_;try simp only[nrm,Act.put])
  refine Takes.nil ?_
  refine wpAnyS_fin 4 6 ?_
  simp only[nrd]
  have HB3:=aZ (HB2.out.drew)
  clear hS0
  go_wp2_with fail
  refine(HCUT.out _ _).mono ?_
  rintro z w' ⟨rfl,rfl⟩
  go_wp2
  go_ret
  exact⟨by rw[HE.out,<-HS4.out,<-hs3];rfl,HB3.out⟩
 ·by_cases k2:kind=2
  ·subst k2
   have HE:Hid (coefF 2 n r ks=4*logN n.toNat):=aZ (by unfold coefF;rw[if_neg (by decide),if_pos rfl])
   obtain⟨L,hL⟩:∃L:Int,(logN n.toNat:Int)=L:=⟨_,rfl⟩
   rw[hL] at HE HLG
   obtain⟨s1,hs1⟩:∃s1,wrap64 (4*L)=s1:=⟨_,rfl⟩
   have HS:Hid (s1=4*L):=aZ (by rw[<-hs1];have:=HLE.out;unfold wrap64;omega)
   clear HK HC k1 hL
   go_enter Tryz.func76,Tryz.ntmps76
   go_wp2_with fail
   rw[<-HW.out]
   refine(HWN.out _).mono ?_
   rintro z w2 ⟨⟨A',rfl,-,-⟩,hbw⟩
   obtain⟨p0,p1,p2,p3⟩:=HP0.out.below hbw
   have HB2:=aZ (HB0.out.trans (hbw.mono HB0.out.size))
   clear hbw
   go_wp2_with fail
   refine(HLG.out _).mono ?_
   rintro z w' ⟨rfl,rfl⟩
   go_wp2
   go_ret
   exact⟨congrArg (λv=>Ending.returned (.int .i64 v)) (hs1.trans (HS.out.trans HE.out.symm)),HB2.out⟩
  ·have two:∀m:Int,(kind=3/\m=8)\/(kind=4/\m=12)->Calls Tryz.prog 76 #[plV kind n r A l c,.slice K ks.length ck,.bool true] w λz w'=>z=.returned (.int .i64 (coefF kind n r ks))/\Below w.heap.size w w':=by
     intro m hm
     have hl2:ks.length=1:=by rw[hl];unfold wantsF;rcases hm with⟨rfl,-⟩|⟨rfl,-⟩<;>rfl
     obtain⟨b,o,rfl,c0⟩:=HK.out 0 (by omega)
     have HV:=aZ (HC.out.at' 0)
     have HE:Hid (coefF kind n r ks=capI (ks.getD 0 0*3+m)):=aZ (by rcases hm with⟨rfl,rfl⟩|⟨rfl,rfl⟩<;>rfl)
     obtain⟨k0,hk0⟩:∃k0,ks.getD 0 0=k0:=⟨_,rfl⟩
     rw[hk0] at c0 HV HE
     rw[Nat.add_zero] at c0
     obtain⟨s1,hs1⟩:∃s1,wrap64 (3*k0)=s1:=⟨_,rfl⟩
     have hs2:s1=3*k0:=by rw[<-hs1];have:=HV.out;unfold wrap64;omega
     obtain⟨s3,hs3⟩:∃s3,wrap64 (s1+m)=s3:=⟨_,rfl⟩
     have HS4:Hid (s3=k0*3+m):=aZ (by rw[<-hs3,hs2];have:=HV.out;unfold wrap64;omega)
     rw[hl2]
     clear HK hk0 HC hl2 k1 k2 hs2
     rcases hm with⟨rfl,rfl⟩|⟨rfl,rfl⟩
     all_goals
      go_enter Tryz.func76,Tryz.ntmps76
      go_wp2_with fail
      rw[<-HW.out]
      refine(HWN.out _).mono ?_
      rintro z w2 ⟨⟨A',rfl,-,-⟩,hbw⟩
      obtain⟨p0,p1,p2,p3⟩:=HP0.out.below hbw
      have HB2:=aZ (HB0.out.trans (hbw.mono HB0.out.size))
      have hc0:=keep_cell HB2.out c0
      clear hbw
      go_wp2_with fail
      refine(HLG.out _).mono ?_
      rintro z w' ⟨rfl,rfl⟩
      clear c0
      go_wp2_with fail
      refine(HCUT.out _ _).mono ?_
      rintro z w' ⟨rfl,rfl⟩
      go_wp2
      go_ret
      exact⟨by rw[HE.out,<-HS4.out,<-hs3];rfl,HB2.out⟩
   by_cases k3:kind=3
   ·exact two 8 (.inl ⟨k3,rfl⟩)
   ·by_cases k4:kind=4
    ·exact two 12 (.inr ⟨k4,rfl⟩)
    ·have HE:Hid (coefF kind n r ks=n+2):=aZ (by unfold coefF;rw[if_neg k1,if_neg k2,if_neg k3,if_neg k4])
     obtain⟨s1,hs1⟩:∃s1,wrap64 (n+2)=s1:=⟨_,rfl⟩
     have HS:Hid (s1=n+2):=aZ (by rw[<-hs1];have:=HN.out;unfold wrap64;omega)
     clear two HK HC
     go_enter Tryz.func76,Tryz.ntmps76
     go_wp2_with fail
     rw[<-HW.out]
     refine(HWN.out _).mono ?_
     rintro z w2 ⟨⟨A',rfl,-,-⟩,hbw⟩
     obtain⟨p0,p1,p2,p3⟩:=HP0.out.below hbw
     have HB2:=aZ (HB0.out.trans (hbw.mono HB0.out.size))
     clear hbw
     go_wp2_with fail
     refine(HLG.out _).mono ?_
     rintro z w' ⟨rfl,rfl⟩
     go_wp2
     go_ret
     exact⟨congrArg (λv=>Ending.returned (.int .i64 v)) (hs1.trans (HS.out.trans HE.out.symm)),HB2.out⟩
def RFoldC(kind n r:Int)(q:Fo):Prop:=(Fo.cons kind n r q .nil).Sz->q.count<=549755813888->∀(w:World) (A:Option Addr) (c:Nat),Kids w A 0 q->
 Calls Tryz.prog 43 #[plV kind n r A q.len c,.bool true] w λz w'=>z=.returned (.int .i64 (coefF kind n r (q.fold coefF)))/\Below w.heap.size w w'
theorem rfold_all:∀fo:Fo,fo.all RFoldC:=Fo.all_of λkind n r q ih=>by
 intro hs hc w A c hk
 have HK:=aZ hk
 have HIH:=aZ ih
 have HC:=aZ hc
 have HSZ:=aZ hs
 have hql:q.len<=549755813888:=by have:=len_count' q;omega
 clear hk ih hc hs
 have HB1:=aZ ((Below.refl _ w).alloc (Nat.le_refl _) (.cells #[.int .i64 kind,.int .i64 n,.int .i64 r,.slice A q.len c] 53))
 have HP1:=aZ (PlBox.new w kind n r A q.len c 53)
 have HS1:Hid ((w.alloc (.cells #[.int .i64 kind,.int .i64 n,.int .i64 r,.slice A q.len c] 53)).heap.size=w.heap.size+1):=aZ (by simp)
 go_enter Tryz.func43,Tryz.ntmps43
 go_wp2
 obtain⟨W1,hW1⟩:∃W1,W1=w.alloc (.cells #[.int .i64 kind,.int .i64 n,.int .i64 r,.slice A q.len c] 53):=⟨_,rfl⟩
 rw[<-hW1] at HB1 HP1 HS1|-
 clear hW1
 go_loopw [5,6] (λkv vi wr=>∃i:Nat,i<=q.len/\vi=.int .i64 i/\Hid (OwnI wr (w.heap.size+1) kv ((q.fold coefF).take i))/\Hid (w.heap.size+1<=wr.heap.size/\Below w.heap.size w wr)/\Hid (PlBox wr w.heap.size kind n r A q.len c)) (λ_ vi _=>q.len-(intOf vi).toNat)
 case atStart=>exact⟨0,Nat.zero_le _,rfl,aZ (OwnI.nil _ _),aZ ⟨by rw[HS1.out];exact Nat.le_refl _,HB1.out⟩,HP1⟩
 case round=>
  obtain⟨i,hi,rfl,hrow,hbw,hp⟩:=hrel
  clear HB1 HP1 HS1
  obtain⟨-,-,-,pl3⟩:=hp.out
  by_cases hlt:i<q.len
  ·have hlti:(i:Int)<(q.len:Int):=by omega
   obtain⟨k',n',r',q',rest,hd⟩:=drop_lt i q hlt
   obtain⟨bA,oA,B',c',rfl,k0,k1,k2,k3,k5⟩:=HK.out.at' hd
   have j0:=keep_cell hbw.out.2 k0
   have j1:=keep_cell hbw.out.2 k1
   have j2:=keep_cell hbw.out.2 k2
   have j3:=keep_cell hbw.out.2 k3
   have HTS:=aZ (fold_at coefF i q hd)
   have HTL:Hid (((q.fold coefF).take i).length=i):=aZ (by rw[List.length_take,fold_len];omega)
   have hq'c:q'.count<=549755813888:=by
    have h1:=count_kid hd
    have h2:=upto_all q (i+1)
    have:=HC.out
    omega
   have HE:=aZ (λw' h=>Fo.all_at HIH.out hd (Sz.at' i q HSZ.out.2.1 hd) hq'c w' B' c' h)
   have HKB:=aZ (k5.below hbw.out.2)
   have bs:=bs_i64'
   clear k0 k1 k2 k3 k5 hd hq'c
   go_wp2_with fail
   refine(HE.out _ HKB.out).mono ?_
   rintro z w3 ⟨rfl,hb3⟩
   have HB3:=aZ hb3
   obtain⟨V,hV⟩:∃V,coefF k' n' r' (q'.fold coefF)=V:=⟨_,rfl⟩
   rw[hV] at HTS|-
   have HB4:=aZ (HB3.out.alloc HB3.out.size (.cells #[.int .i64 V] 2))
   have HO:=aZ (hrow.out.below HB4.out)
   have HP4:=aZ (hp.out.below HB4.out)
   have HT4:Hid (∀k,u5.ownBlock=some k->w.heap.size+1<=k):=aZ (λk e=>(World.ownsRow.lt hrow.out k e).1)
   have HZ4:Hid (w.heap.size+1<=(w3.alloc (.cells #[.int .i64 V] 2)).heap.size/\Below w.heap.size w (w3.alloc (.cells #[.int .i64 V] 2))):=aZ ⟨by have:=HB4.out.size;have:=hbw.out.1;omega,hbw.out.2.trans (HB4.out.mono (by have:=hbw.out.2.size;exact this))⟩
   clear hb3 hV hrow hbw hp j0 j1 j2 j3 HKB HE pl3
   have hi40:i+1<=1099511627776:=by omega
   have hs4:=HZ4.out.1
   have hn0:(w3.alloc (.cells #[.int .i64 V] 2)).cell? ⟨w3.heap.size,0,none⟩=some (.int .i64 V):=by rw[World.cell?_alloc_new];rfl
   go_wp2_with (at_builtin;refine wpList_appG rfl _ _ 123 2 rfl 1 8 (.int .i64 0) Tryz.underlying123 info_int64 rfl (by omega) (by omega) (w.heap.size+1) u5 i _ rfl (by have h:=HO.out;unfold OwnI at h;rw[HTL.out] at h;exact h) _ 1 [.int .i64 V] rfl rfl (λj u hj=>by rcases j with _|j<;>simp at hj;subst hj;exact hn0) (λu hu=>by simp at hu;subst hu;rfl) hi40 hs4 (λv' w' hO2 hG2=>?_))
   have HN:Hid (OwnI w' (w.heap.size+1) v' ((q.fold coefF).take (i+1))):=aZ (by rw[HTS.out];unfold OwnI;rw[List.length_append,HTL.out,List.map_append];exact hO2.out)
   have HP5:=aZ (HP4.out.grown hG2.out (λe=>by have:=HT4.out _ e;omega))
   have HZ5:Hid (w.heap.size+1<=w'.heap.size/\Below w.heap.size w w'):=aZ ⟨Nat.le_trans HZ4.out.1 hG2.out.size,HZ4.out.2.grown hG2.out HZ4.out.2.size (λk e=>by have:=HT4.out _ e;omega)⟩
   clear hO2 hG2 hs4 hn0 HP4 HZ4 HO HT4 HB3 HB4
   go_wp2
   exact⟨⟨i+1,by omega,by go_num,HN,HZ5,HP5⟩,by simp[intOf];omega⟩
  ·obtain rfl:i=q.len:=by omega
   have HL:Hid ((q.fold coefF).take q.len=q.fold coefF):=aZ (List.take_of_length_le (by rw[fold_len];exact Nat.le_refl _))
   rw[HL.out] at hrow
   obtain⟨KA,kc,rfl,hI,-⟩:=hrow.out.form
   have HI:=aZ hI
   have HP:=hp.out
   obtain⟨p0,p1,p2,p3⟩:=HP
   have HF:=aZ (fold_len coefF q)
   clear hI pl3
   go_wp2_with fail
   refine(ROwn_coef kind n r A q.len c (q.fold coefF) KA kc _ HSZ.out.1.1 HSZ.out.1.2.1 HSZ.out.1.2.2.1 (by rw[HF.out];exact HSZ.out.1.2.2.2.2) HI.out (fold_ok q HSZ.out.2.1)).mono ?_
   rintro z w3 ⟨rfl,hb3⟩
   have HB3:=aZ (hbw.out.2.trans (hb3.mono hbw.out.2.size))
   clear hb3 p0 p1 p2 p3
   go_wp2
   go_ret
   exact⟨rfl,HB3.out⟩
def coefV(kind n r:Int)(q:Fo):Int:=if checkE kind n r q n=0 then coefF kind n r (q.fold coefF) else 0
theorem coefV_rng(kind n r:Int)(q:Fo):0<=coefV kind n r q/\coefV kind n r q<=1125899906842624:=by
 unfold coefV
 by_cases h:checkE kind n r q n=0
 ·rw[if_pos h]
  obtain⟨hs,-⟩:=check_sz h
  exact coef_rng hs.1.1 hs.1.2.1 (fold_ok q hs.2.1)
 ·rw[if_neg h];omega
theorem checked_coef(kind n r:Int)(q:Fo)(hN:q.count<=549755813888)(w:World)(A:Option Addr)(c:Nat)(hk:Kids w A 0 q):
  Calls Tryz.prog 100 #[plV kind n r A q.len c,.func (.func 101) #[] #[]] w λz w'=>z=.returned (.tuple #[.int .i64 (coefV kind n r q),.int .i64 (checkE kind n r q n)])/\Below w.heap.size w w':=by
 have HCK:=aZ (Check_any kind n r q n hN)
 have HK:=aZ hk
 clear hk
 by_cases he:checkE kind n r q n=0
 ·have HV:Hid (coefV kind n r q=coefF kind n r (q.fold coefF)):=aZ (by unfold coefV;rw[if_pos he])
  have HF:=aZ (λw A c hk=>(fold_all (.cons kind n r q .nil)).1 (check_sz he).1 hN w A c hk)
  rw[he] at HCK
  have HE:=aZ he
  clear he
  go_enter Tryz.func100,Tryz.ntmps100
  go_wp2_with fail
  have hb1:Below w.heap.size w ((w.alloc (.cells #[.int .i64 kind,.int .i64 n,.int .i64 r,.slice A q.len c] 46))):=(Below.refl _ w).alloc (Nat.le_refl _) _
  refine(HCK.out _ A c (HK.out.below hb1)).mono ?_
  rintro z w1 ⟨⟨a,rfl⟩,hb⟩
  have HB1:=aZ (hb1.trans (hb.mono (by simp)))
  obtain⟨p0,p1,p2,p3⟩:=(PlBox.new w kind n r A q.len c 46).below hb
  clear hb hb1
  go_wp2_with fail
  refine(HF.out _ A c (HK.out.below HB1.out)).mono ?_
  rintro z w2 ⟨rfl,hb2⟩
  have HB2:=aZ (HB1.out.trans (hb2.mono HB1.out.size))
  clear hb2 p0 p1 p2 p3
  go_wp2
  go_ret2
  exact⟨by rw[HV.out,HE.out];rfl,HB2.out⟩
 ·have HV:Hid (coefV kind n r q=0):=aZ (by unfold coefV;rw[if_neg he])
  obtain⟨e,hee⟩:∃e,checkE kind n r q n=e:=⟨_,rfl⟩
  rw[hee] at HCK he|-
  have he3:(e != 0)=true:=by simpa using he
  have he4:(e==0)=false:=by simpa using he
  clear hee he
  go_enter Tryz.func100,Tryz.ntmps100
  go_wp2_with fail
  have hb1:Below w.heap.size w ((w.alloc (.cells #[.int .i64 kind,.int .i64 n,.int .i64 r,.slice A q.len c] 46))):=(Below.refl _ w).alloc (Nat.le_refl _) _
  refine(HCK.out _ A c (HK.out.below hb1)).mono ?_
  rintro z w1 ⟨⟨a,rfl⟩,hb⟩
  have HB1:=aZ (hb1.trans (hb.mono (by simp)))
  clear hb hb1
  go_wp2
  go_ret2
  exact⟨by rw[HV.out];rfl,HB1.out⟩
theorem Coef_any(kind n r:Int)(q:Fo)(hN:q.count<=549755813888)(w:World)(A:Option Addr)(c:Nat)(hk:Kids w A 0 q):
  Calls Tryz.prog 69 #[plV kind n r A q.len c] w λz w'=>z=.returned (.tuple #[.int .i64 (coefV kind n r q),.int .i64 (checkE kind n r q n)])/\Below w.heap.size w w':=by
 have HC:=aZ (λw h=>checked_coef kind n r q hN w A c h)
 have HK:=aZ hk
 obtain⟨V,hV⟩:∃V,coefV kind n r q=V:=⟨_,rfl⟩
 obtain⟨e,he⟩:∃e,checkE kind n r q n=e:=⟨_,rfl⟩
 rw[hV,he] at HC|-
 clear hk hV he
 have HB1:Hid (Below w.heap.size w (w.alloc (.cells #[.int .i64 kind,.int .i64 n,.int .i64 r,.slice A q.len c] 46))):=aZ ((Below.refl _ w).alloc (Nat.le_refl _) _)
 go_enter Tryz.func69,Tryz.ntmps69
 go_wp2_with fail
 refine(HC.out _ (HK.out.below HB1.out)).mono ?_
 rintro z w1 ⟨rfl,hb⟩
 have HB2:=aZ (HB1.out.trans (hb.mono HB1.out.size))
 clear hb
 go_wp2
 go_ret2
 exact⟨rfl,HB2.out⟩
def boundV(kind n r:Int)(q:Fo):Nat:=boundF (coefV kind n r q)
theorem Bound_any(kind n r:Int)(q:Fo)(hN:q.count<=549755813888)(w:World)(A:Option Addr)(c:Nat)(hk:Kids w A 0 q):
  Calls Tryz.prog 36 #[plV kind n r A q.len c] w λz w'=>z=.returned (.tuple #[.float .f64 (boundV kind n r q),.int .i64 (checkE kind n r q n)])/\Below w.heap.size w w':=by
 have HC:=aZ (λw h=>Coef_any kind n r q hN w A c h)
 have HR:=coefV_rng kind n r q
 have HS:=aZ (λw=>Scale_bound (coefV kind n r q) HR.1 HR.2 w)
 have HK:=aZ hk
 have HVV:Hid (boundV kind n r q=boundF (coefV kind n r q)):=aZ rfl
 obtain⟨V,hV⟩:∃V,coefV kind n r q=V:=⟨_,rfl⟩
 obtain⟨e,he⟩:∃e,checkE kind n r q n=e:=⟨_,rfl⟩
 obtain⟨x,hx⟩:∃x,floatOfInt .f64 V=x:=⟨_,rfl⟩
 rw[hV] at HS HC HVV
 rw[he] at HC|-
 rw[hx] at HS
 rw[HVV.out]
 obtain⟨y,hy⟩:∃y,boundF V=y:=⟨_,rfl⟩
 rw[hy] at HS|-
 clear hk HR hV he HVV hy
 have hb1:Below w.heap.size w (w.alloc (.cells #[.int .i64 kind,.int .i64 n,.int .i64 r,.slice A q.len c] 46)):=(Below.refl _ w).alloc (Nat.le_refl _) _
 go_enter Tryz.func36,Tryz.ntmps36
 go_wp2_with fail
 refine(HC.out _ (HK.out.below hb1)).mono ?_
 rintro z w1 ⟨rfl,hb⟩
 have HB2:=aZ (hb1.trans (hb.mono (by simp)))
 clear hb hb1
 go_wp2_with fail
 refine(HS.out _).mono ?_
 rintro z w' ⟨rfl,rfl⟩
 go_wp2
 go_ret2
 exact⟨rfl,HB2.out⟩
theorem RBound_any(kind n r:Int)(q:Fo)(hN:q.count<=549755813888)(hv:checkE kind n r q n=0)(w:World)(A:Option Addr)(c:Nat)(hk:Kids w A 0 q):
  Calls Tryz.prog 17 #[plV kind n r A q.len c] w λz w'=>z=.returned (.float .f64 (boundV kind n r q))/\Below w.heap.size w w':=by
 have HF:=aZ (λw A c hk=>(rfold_all (.cons kind n r q .nil)).1 (check_sz hv).1 hN w A c hk)
 have HR:=coefV_rng kind n r q
 have HS:=aZ (λw=>RScale_bound (coefV kind n r q) HR.1 HR.2 w)
 have HK:=aZ hk
 have HVV:Hid (boundV kind n r q=boundF (coefV kind n r q)):=aZ rfl
 have hcv:coefV kind n r q=coefF kind n r (q.fold coefF):=by unfold coefV;rw[if_pos hv]
 obtain⟨V,hV⟩:∃V,coefV kind n r q=V:=⟨_,rfl⟩
 obtain⟨x,hx⟩:∃x,floatOfInt .f64 V=x:=⟨_,rfl⟩
 rw[<-hcv] at HF
 rw[hV] at HS HF HVV
 rw[hx] at HS
 rw[HVV.out]
 obtain⟨y,hy⟩:∃y,boundF V=y:=⟨_,rfl⟩
 rw[hy] at HS|-
 clear hk HR hV HVV hy hcv hv
 have hb1:Below w.heap.size w (w.alloc (.cells #[.int .i64 kind,.int .i64 n,.int .i64 r,.slice A q.len c] 53)):=(Below.refl _ w).alloc (Nat.le_refl _) _
 go_enter Tryz.func17,Tryz.ntmps17
 go_wp2_with fail
 refine(HF.out _ A c (HK.out.below hb1)).mono ?_
 rintro z w1 ⟨rfl,hb⟩
 have HB2:=aZ (hb1.trans (hb.mono (by simp)))
 clear hb hb1
 go_wp2_with fail
 refine(HS.out _).mono ?_
 rintro z w' ⟨rfl,rfl⟩
 go_wp2
 go_ret
 exact⟨rfl,HB2.out⟩
def x20:Nat->Cx:=λi=>if i=0 then(4607182418800017408,0) else(0,0)
theorem chk20:checkE 2 4 0 .nil 4=0:=by kernel_rfl
theorem vals20:∀i,i<4->exF 2 4 0 .nil 1 x20 i=(4607182418800017408,0):=by
 intro i hi
 rcases i with _|_|_|_|i
 ·kernel_rfl
 ·kernel_rfl
 ·kernel_rfl
 ·kernel_rfl
 ·omega
theorem guard20:guardE x20 4=0:=by kernel_rfl
theorem bound20:boundV 2 4 0 .nil=4418031234450456576:=by kernel_rfl
theorem exec20(w:World)(A:Option Addr)(c:Nat)(X:Option Addr)(cx:Nat)(hX:CsAt w X 4 x20):
  Calls Tryz.prog 19 #[plV 2 4 0 A 0 c,.slice X 4 cx,.int .i64 1] w λz w'=>∃g,z=.returned (.tuple #[.slice (some ⟨g,0,none⟩) 4 4,.int .i64 0])/\RowC w' g 4 (λ_=>(4607182418800017408,0))/\Below w.heap.size w w':=by
 refine(Execute_ok 2 0 .nil 4 (exF 2 4 0 .nil) (planE_all (B:=512) (by decide) 2 0 4 .nil chk20 (by decide)) (chkC_of 2 4 0 .nil 4 chk20 (by decide)) A c X cx x20 1 w trivial hX (by decide) (.inl rfl) guard20).mono ?_
 rintro z w' ⟨g,rfl,-,-,hr,hb⟩
 exact⟨g,rfl,hr.congr vals20,hb⟩
theorem wakes20_any(w:World):Calls Tryz.prog 10 #[] w λz w'=>z=.returned (.bool true)/\Below w.heap.size w w':=by
 obtain⟨W,hW⟩:∃W,W=(w.alloc (.cells #[.int .i64 2,.int .i64 4,.int .i64 0,.slice none 0 0] 46)).alloc (.cells #[.float .f64 4607182418800017408,.float .f64 0,.float .f64 0,.float .f64 0,.float .f64 0,.float .f64 0,.float .f64 0,.float .f64 0] 29):=⟨_,rfl⟩
 have hb:Below w.heap.size w W:=by rw[hW];exact((Below.refl _ w).alloc (Nat.le_refl _) _).alloc (by simp) _
 have hP:PlBox W w.heap.size 2 4 0 none 0 0:=by
  rw[hW]
  exact⟨by simp[go_sem],by simp[go_sem],by simp[go_sem],by simp[go_sem]⟩
 have hX:CsAt W (some ⟨w.heap.size+1,0,none⟩) 4 x20:=by
  intro i hi
  rw[hW]
  rcases i with _|_|_|_|i
  ·exact⟨_,_,(⟨4607182418800017408,by decide⟩,0),rfl,by simp[go_sem],by simp[go_sem],by kernel_rfl⟩
  ·exact⟨_,_,(0,0),rfl,by simp[go_sem],by simp[go_sem],by kernel_rfl⟩
  ·exact⟨_,_,(0,0),rfl,by simp[go_sem],by simp[go_sem],by kernel_rfl⟩
  ·exact⟨_,_,(0,0),rfl,by simp[go_sem],by simp[go_sem],by kernel_rfl⟩
  ·omega
 have HX:=aZ (exec20 W none 0 _ 4 hX)
 have HBD:=aZ (λw=>Bound_any 2 4 0 .nil (by decide) w none 0 trivial)
 rw[show boundV 2 4 0 .nil=4418031234450456576 from bound20,show checkE 2 4 0 .nil 4=0 from chk20] at HBD
 have HB:=aZ hb
 have HP:=aZ hP
 clear hX hb hP
 go_enter Tryz.func10,Tryz.ntmps10
 go_upto_region 2 with(fail)
 go_wp2_with fail
 rw[<-hW]
 clear hW
 refine HX.out.mono ?_
 rintro z w1 ⟨g,rfl,hr,hb1⟩
 have HB1:=aZ (HB.out.trans (hb1.mono HB.out.size))
 have HR:=aZ hr
 obtain⟨p0,p1,p2,p3⟩:=HP.out.below hb1
 clear hb1 hr
 go_wp2_with fail
 refine(HBD.out _).mono ?_
 rintro z w2 ⟨rfl,hb2⟩
 have HB2:=aZ (HB1.out.trans (hb2.mono HB1.out.size))
 have HR2:=aZ (HR.out.keep hb2)
 clear hb2 p0 p1 p2 p3 HR HBD HX HP
 have o1:(FloatKind.f64.format.order 4607182418800017408 4607173411600762667==some Ordering.lt)=false:=by kernel_rfl
 have o2:(FloatKind.f64.format.order 4607182418800017408 4607186922399644778==some Ordering.gt)=false:=by kernel_rfl
 have o3:(FloatKind.f64.format.order 0 4562254508917369340==some Ordering.gt)=false:=by kernel_rfl
 have o4:(FloatKind.f64.format.order 0 13785626545772145148==some Ordering.lt)=false:=by kernel_rfl
 have o5:(FloatKind.f64.format.order 4418031234450456576 4418031234450456576 != some Ordering.eq)=false:=by kernel_rfl
 go_wp2
 go_loopw [41] (λvi wr=>∃k:Nat,k<=4/\vi=.int .i64 k/\Hid (Below w2.heap.size w2 wr)) (λvi _=>4-(intOf vi).toNat)
 case atStart=>exact⟨0,by omega,rfl,aZ (Below.refl _ _)⟩
 case round=>
  obtain⟨k,hk,rfl,hb⟩:=hrel
  by_cases hlt:k<4
  ·have hki:(k:Int)<4:=by omega
   obtain⟨u,h0,h1,-,-,hu⟩:=(HR2.out.keep hb.out) k hlt
   have hu1:(u.1:Nat)=4607182418800017408:=word_of (congrArg Prod.fst hu) (by decide)
   have hu2:(u.2:Nat)=0:=word_of (congrArg Prod.snd hu) (by decide)
   rw[hu1] at h0
   rw[hu2] at h1
   clear hu hu1 hu2
   have HB3:=aZ (hb.out.alloc hb.out.size (.cells #[.float .f64 4607182418800017408,.float .f64 0] 29))
   go_wp2
   exact⟨⟨k+1,by omega,by go_num,HB3⟩,by simp[intOf];omega⟩
  ·obtain rfl:k=4:=by omega
   go_wp2
   go_ret
   exact⟨rfl,HB2.out.trans (hb.out.mono HB2.out.size)⟩
end Go.Proofs.YtfedabinindpbaaGreat
