/- cplx.Pairs, cplx.Parts. -/
import Derived.Test.YtfedabinindpbaaGreatX0
import Derived.Test.YtfedabinindpbaaGreatMZ5
import Derived.Test.YtfedabinindpbaaGreatMI3
import Derived.Test.YtfedabinindpbaaGreatZ2
import Derived.Test.YtfedabinindpbaaGreatMQ4
set_option maxRecDepth 100000
set_option maxHeartbeats 4000000
set_option linter.unusedSimpArgs false
set_option linter.unusedVariables false
namespace Go.Proofs.YtfedabinindpbaaGreat
open Go.RowKit Go.Lib
theorem Pairs_any(X Y:Option Addr)(n cx cy:Nat)(x:Nat->Cx)(w:World)(hX:FsAt w X n (λi=>(x i).1))(hY:FsAt w Y n (λi=>(x i).2))(hn:n<=16384):
  Calls Tryz.prog 56 #[.slice X n cx,.slice Y n cy] w λz w'=>∃g,z=.returned (.tuple #[.slice (some ⟨g,0,none⟩) n n,.int .i64 0])/\w.heap.size<=g/\g<w'.heap.size/\RowC w' g n x/\Below w.heap.size w w':=by
 have hmk:=mk_C n (by omega)
 have HX:=aZ (And.intro hX hY)
 have HN:=aZ hn
 clear hX hY hn
 go_enter Tryz.func56,Tryz.ntmps56
 go_wp2
 go_loopw [7,18] (λ_ vi wr=>∃k:Nat,k<=n/\vi=.int .i64 k/\Hid (RowC wr w.heap.size n (upToC k x))/\Hid (w.heap.size<wr.heap.size)/\Hid (Below w.heap.size w wr)) (λ_ vi _=>n-(intOf vi).toNat)
 case atStart=>exact⟨0,by omega,rfl,aZ ((zs_rowC n w _).congr λi hi=>by unfold upToC;simp),aZ (by simp),aZ ((Below.refl _ w).alloc (Nat.le_refl _) _)⟩
 case round=>
  obtain⟨k,hk,rfl,hr,hsz,hb⟩:=hrel
  by_cases hlt:k<n
  ·have hki:(k:Int)<n:=by omega
   have hk9:k+1<=32768:=by have:=HN.out;omega
   obtain⟨b1,o1,u,rfl,c1,hu⟩:=(HX.out.1.keep hb.out) k hlt
   obtain⟨b2,o2,v,rfl,c2,hv⟩:=(HX.out.2.keep hb.out) k hlt
   have HV:Hid (nC (u,v)=x k):=aZ (Prod.ext hu hv)
   have HKN:=aZ hlt
   clear hu hv hmk
   go_upto_region 7 with(fail)
   refine wp_region_T (λw'=>w'.cell? ⟨b1,o1+k,none⟩=some (.float .f64 (u:Nat))/\w'.cell? ⟨b2,o2+k,none⟩=some (.float .f64 (v:Nat))) 11 ⟨c1,c2⟩ (λhS0=>?_)
   refine Takes.intro [0,1,2,3,4,5,6,7,8,9,10] ?_
   repeat(refine Takes.go (v:=?_) hS0 ?_;try simp only[nrm,Act.put])
   refine Takes.nil ?_
   refine wpAnyS_fin 2 11 ?_
   simp only[nrd]
   clear hS0 c1 c2
   obtain⟨z,x0,x1,x2,x3,-⟩:=hr.out k HKN.out
   have HR4:Hid (RowC (putC wr w.heap.size k (u,v)) w.heap.size n (upToC (k+1) x)):=aZ ((hr.out.set HKN.out (u,v)).congr λi hi=>by
    rw[<-upToC_next,HV.out])
   have HB4:Hid (Below w.heap.size w (putC wr w.heap.size k (u,v)).drew):=aZ (((hb.out.setCell (p:=⟨_,_,_⟩) (Nat.le_refl _) _).setCell (p:=⟨_,_,_⟩) (Nat.le_refl _) _).drew)
   have HS4:Hid (w.heap.size<(putC wr w.heap.size k (u,v)).heap.size):=aZ (by have:=hsz.out;unfold putC;simp;omega)
   clear hr hsz hb HX
   go_wp2
   exact⟨⟨k+1,by omega,by go_num,HR4,HS4,HB4⟩,by simp[intOf];omega⟩
  ·obtain rfl:k=n:=by omega
   have HR:Hid (RowC wr w.heap.size k x):=aZ (hr.out.congr λi hi=>by unfold upToC;rw[if_pos hi])
   go_wp2
   go_ret2
   exact⟨_,rfl,Nat.le_refl _,hsz.out,HR.out,hb.out⟩
def thP(v2 v3:Value)(L M:List Wd)(u:Rx):Nat->Thr
 |0=>⟨24,35,1,8,.float .f64 0,v2,L.length,fltV L,[.float .f64 (u.1:Nat)],.float .f64 (u.1:Nat)⟩
 |_=>⟨24,35,1,8,.float .f64 0,v3,M.length,fltV M,[.float .f64 (u.2:Nat)],.float .f64 (u.2:Nat)⟩
theorem thP_ok(v2 v3:Value)(L M:List Wd)(u:Rx)(hk:L.length+1<=1099511627776)(hm:M.length+1<=1099511627776):∀t,t<2->(thP v2 v3 L M u t).Ok:=by
 intro t ht
 rcases t with _|_|t
 ·refine⟨Tryz.underlying35,info_float,rfl,(by decide:0<1),(by decide:8<=64),rfl,λx hx=>?_,hk,bs_float u.1⟩
  have hx:x=.float .f64 (u.1:Nat):=by simpa[thP] using hx
  subst hx;rfl
 ·refine⟨Tryz.underlying35,info_float,rfl,(by decide:0<1),(by decide:8<=64),rfl,λx hx=>?_,hm,bs_float u.2⟩
  have hx:x=.float .f64 (u.2:Nat):=by simpa[thP] using hx
  subst hx;rfl
 ·omega
def PrtL(x:Nat->Cx)(L M:List Wd):Prop:=∀i,i<L.length->nz (L.getD i 0)=(x i).1/\nz (M.getD i 0)=(x i).2
theorem PrtL.next{x:Nat->Cx}{L M:List Wd}(h:PrtL x L M)(hl:M.length=L.length)(u:Rx)(hu:nC u=x L.length):PrtL x (L++[u.1]) (M++[u.2]):=by
 intro j hj
 rw[List.length_append] at hj
 rw[List.getD_eq_getElem?_getD,List.getD_eq_getElem?_getD]
 by_cases e:j<L.length
 ·rw[List.getElem?_append_left e,List.getElem?_append_left (by omega)]
  have:=h j e
  rwa [List.getD_eq_getElem?_getD,List.getD_eq_getElem?_getD] at this
 ·have:j=L.length:=by simp at hj;omega
  subst this
  rw[List.getElem?_append_right (by omega),List.getElem?_append_right (by omega),Nat.sub_self,hl,Nat.sub_self,<-hu]
  exact⟨rfl,rfl⟩
theorem Parts_any(X:Option Addr)(n cx:Nat)(x:Nat->Cx)(w:World)(hX:CsAt w X n x)(hn:n<=16384):
  Calls Tryz.prog 34 #[.slice X n cx] w λz w'=>∃u v L M,z=.returned (.tuple #[u,v])/\OwnL w' w.heap.size u L/\OwnL w' w.heap.size v M/\L.length=n/\M.length=n/\PrtL x L M/\Below w.heap.size w w':=by
 have HX:=aZ hX
 have HN:=aZ hn
 clear hX hn
 go_enter Tryz.func34,Tryz.ntmps34
 go_wp2
 go_loopw [2,3,8] (λv2 v3 vi wr=>∃(k:Nat) (L M:List Wd),k<=n/\vi=.int .i64 k/\Hid (L.length=k)/\Hid (M.length=k)/\Hid (PrtL x L M)/\Hid (OwnL wr w.heap.size v2 L)/\Hid (OwnL wr w.heap.size v3 M)/\Hid (Apart v2 v3)/\Hid (Below w.heap.size w wr)) (λ_ _ vi _=>n-(intOf vi).toNat)
 case atStart=>exact⟨0,[],[],by omega,rfl,aZ rfl,aZ rfl,aZ (λi h=>by cases h),aZ (OwnL.nil _ _),aZ (OwnL.nil _ _),aZ (λg e=>(by cases e)),aZ (Below.refl _ _)⟩
 case round=>
  obtain⟨k,L,M,hk,rfl,hL,hM,hpr,o2,o3,hap,hb⟩:=hrel
  by_cases hlt:k<n
  ·have hki:(k:Int)<n:=by omega
   have hk9:k+1<=32768:=by have:=HN.out;omega
   obtain⟨b,o,y,rfl,c0,c1,hy⟩:=(HX.out.keep hb.out) k hlt
   have HPR:Hid (PrtL x (L++[y.1]) (M++[y.2])):=aZ (hpr.out.next (by rw[hL.out,hM.out]) y (by rw[hL.out];exact hy))
   generalize hv2:u2=v2 at*
   generalize hv3:u3=v3 at*
   clear hv2 hv3
   obtain⟨wb,hwb⟩:∃wb,wb=wr.alloc (.cells #[.float .f64 (y.1:Nat),.float .f64 (y.2:Nat)] 29):=⟨_,rfl⟩
   obtain⟨gb,hgb⟩:∃gb,gb=wr.heap.size:=⟨_,rfl⟩
   have hc0:wb.cell? ⟨gb,0,none⟩=some (.float .f64 (y.1:Nat)):=by rw[hwb,hgb,World.cell?_alloc_new];rfl
   have hc1:wb.cell? ⟨gb,1,none⟩=some (.float .f64 (y.2:Nat)):=by rw[hwb,hgb,World.cell?_alloc_new];rfl
   have HBX:Hid (Below wr.heap.size wr wb):=aZ (by rw[hwb];exact(Below.refl _ wr).alloc (Nat.le_refl _) _)
   have HBB:Hid (Below w.heap.size w wb):=aZ (hb.out.trans (HBX.out.mono hb.out.size))
   have hgb2:wr.heap.size<=gb:=by omega
   have HTR:Hid (∀t,t<2->wr.ownsRow w.heap.size (thP v2 v3 L M y t).e (thP v2 v3 L M y t).sz (thP v2 v3 L M y t).v (thP v2 v3 L M y t).k (thP v2 v3 L M y t).xs):=aZ (λt ht=>by
    rcases t with _|_|t
    ·exact o2.out
    ·exact o3.out
    ·omega)
   have HAP:Hid (∀s t,s<2->t<2->s≠t->∀g,(thP v2 v3 L M y s).v.ownBlock=some g->(thP v2 v3 L M y t).v.ownBlock≠some g):=aZ (λs t hs ht hne=>by
    rcases s with _|_|s<;>rcases t with _|_|t
    all_goals first|omega|exact absurd rfl hne|exact hap.out|exact hap.out.symm)
   clear hy hpr o2 o3 hap
   go_upto_region 4 with(fail)
   rw[<-hwb,<-hgb]
   clear hwb hgb c0 c1
   refine wp_region_T (λw'=>(w'.cell? ⟨gb,0,none⟩=some (.float .f64 (y.1:Nat))/\w'.cell? ⟨gb,1,none⟩=some (.float .f64 (y.2:Nat)))/\Hid (Below w.heap.size w w')) 9 ⟨⟨hc0,hc1⟩,aZ HBB.out.drew⟩ (λhS0=>?_)
   refine Takes.intro [0,1,2,5,6,7] ?_
   repeat(refine Takes.go (v:=?_) hS0 ?_;try simp only[nrm,Act.put])
   refine Takes.nil ?_
   refine wpAppends 2 w.heap.size (thP v2 v3 L M y) [3,4,8,9] [[],[0],[],[2,1]] [15,16,20,21] 2 10 (thP_ok _ _ _ _ _ (by have:=hL.out;omega) (by have:=hM.out;omega)) rfl rfl (by decide) (λq hq=>(by rcases q with _|_|q<;>first|decide|omega)) (by kernel_rfl) (by decide) rfl (by kernel_rfl) hS0 ?_ ?_ HBB.out.size ?_ ?_ ?_ ?_ ?_
   ·intro w' o ⟨⟨e0,e1⟩,e2⟩ hsz
    exact⟨⟨keep_cell ((Below.refl _ w').alloc (Nat.le_refl _) _) e0,keep_cell ((Below.refl _ w').alloc (Nat.le_refl _) _) e1⟩,aZ (e2.out.alloc hsz _)⟩
   ·intro w' w'' t ht ⟨⟨e0,e1⟩,e2⟩ hsz hg
    have hne:(thP v2 v3 L M y t).v.ownBlock≠some gb:=λe=>by
     have:=World.ownsRow.lt (HTR.out t ht) gb e
     have:=hgb2
     omega
    exact⟨⟨grown_cell hg e0 hne,grown_cell hg e1 hne⟩,aZ (e2.out.grown hg hsz (λg e=>(World.ownsRow.lt (HTR.out t ht) g e).1))⟩
   ·intro t ht
    exact owns_below (HTR.out t ht) (HBX.out.drew)
   ·exact HAP.out
   ·intro t ht
    rcases t with _|_|t
    ·exact⟨_,_,_,rfl,rfl,rfl,rfl,rfl,λx=>(eval_putG_no x _ _ _ _ (by decide)).trans (by kernel_rfl)⟩
    ·exact⟨_,_,_,rfl,rfl,rfl,rfl,rfl,λx=>(eval_putG_no x _ _ _ _ (by decide)).trans (by kernel_rfl)⟩
    ·omega
   ·intro t ht
    rcases t with _|_|t
    ·exact⟨_,_,_,_,rfl,rfl,rfl,rfl,rfl,λx=>(eval_putG_no x _ _ _ _ (by decide)).trans (by kernel_rfl),λx=>eval_putG_at x 15 _ 0 _ 0 (by decide) rfl (of_decide_eq_true (by kernel_rfl))⟩
    ·exact⟨_,_,_,_,rfl,rfl,rfl,rfl,rfl,λx=>(eval_putG_no x _ _ _ _ (by decide)).trans (by kernel_rfl),λx=>eval_putG_at x 20 _ 0 _ 2 (by decide) rfl (of_decide_eq_true (by kernel_rfl))⟩
    ·omega
   intro x wE hSE hGr
   obtain⟨g5,c5,e5,r5⟩:=hGr.row 0 (by decide)
   obtain⟨g6,c6,e6,r6⟩:=hGr.row 1 (by decide)
   have a1:=hGr.ap 0 1 (by decide) (by decide) (by decide)
   rw[show 2*0+1=1 from rfl] at e5 a1
   rw[show 2*1+1=3 from rfl] at e6 a1
   rw[e5] at a1
   rw[e6] at a1
   have HR5:Hid (OwnL wE w.heap.size (.slice (some ⟨g5,0,none⟩) (k+1) c5) (L++[y.1])):=aZ (by
    unfold OwnL
    rw[List.length_append,<-fltV_app,hL.out]
    exact hL.out▸r5)
   have HR6:Hid (OwnL wE w.heap.size (.slice (some ⟨g6,0,none⟩) (k+1) c6) (M++[y.2])):=aZ (by
    unfold OwnL
    rw[List.length_append,<-fltV_app,hM.out]
    exact hM.out▸r6)
   have HAP2:Hid (Apart (.slice (some ⟨g5,0,none⟩) (k+1) c5) (.slice (some ⟨g6,0,none⟩) (k+1) c6)):=aZ (by
    have:=a1
    intro g h1 h2
    exact this g (by rw[<-h1];rfl) (by rw[<-h2];rfl))
   have HBE:=hSE.2
   have HL2:Hid ((L++[y.1]).length=k+1):=aZ (by rw[List.length_append,hL.out];rfl)
   have HM2:Hid ((M++[y.2]).length=k+1):=aZ (by rw[List.length_append,hM.out];rfl)
   have e5:x 1=.slice (some ⟨g5,0,none⟩) (k+1:Nat) c5:=by rw[<-hL.out];exact e5
   have e6:x 3=.slice (some ⟨g6,0,none⟩) (k+1:Nat) c6:=by rw[<-hM.out];exact e6
   clear hGr hSE r5 r6 a1 HTR HAP hS0 HBX HBB hgb2
   simp only[putG,Nat.zero_add,Nat.reduceAdd,List.setIfInBounds_toArray,List.set_cons_zero,List.set_cons_succ,Act.put,e5,e6,List.toList_toArray,List.drop_succ_cons,List.drop_zero]
   go_wp2
   exact⟨⟨k+1,L++[y.1],M++[y.2],by omega,by go_num,HL2,HM2,HPR,HR5,HR6,HAP2,HBE⟩,by simp[intOf];omega⟩
  ·obtain rfl:k=n:=by omega
   go_wp2
   go_ret2
   exact⟨_,_,L,M,rfl,o2.out,o3.out,hL.out,hM.out,hpr.out,hb.out⟩
end Go.Proofs.YtfedabinindpbaaGreat
