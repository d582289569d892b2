/- cplx.Pairs, cplx.Parts. -/
import Derived.Test.YtmgfaeineklccaaGreatX0
import Derived.Test.YtmgfaeineklccaaGreatMZ5
import Derived.Test.YtmgfaeineklccaaGreatMI3
import Derived.Test.YtmgfaeineklccaaGreatZ2
import Derived.Test.YtmgfaeineklccaaGreatMQ4
import Derived.Test.YtmgfaeineklccaaGreatMG1
import Derived.Test.YtmgfaeineklccaaGreatU5
set_option maxRecDepth 100000
set_option maxHeartbeats 4000000
set_option linter.unusedSimpArgs false
set_option linter.unusedVariables false
namespace Go.Proofs.YtmgfaeineklccaaGreat
open Go.RowKit Go.Lib
theorem Pairs_any(X Y:Option Addr)(n cx cy:Nat)(x:Nat->Cx)(w:World)(hX:FsAt w X n (λi=>(x i).1))(hY:FsAt w Y n (λi=>(x i).2))(hn:n<=16384):
  Calls Tryz.prog 84 #[.slice X n cx,.slice Y n cy] w λz w'=>∃g,z=.returned (.tuple #[.slice (some ⟨g,0,none⟩) n n,.int .i64 0])/\w.heap.size<=g/\g<w'.heap.size/\RowC w' g n x/\Below w.heap.size w w':=by
 have hmk:=mk_C n (by omega)
 have HX:=aZ (And.intro hX hY)
 have HN:=aZ hn
 clear hX hY hn
 go_enter Tryz.func84,Tryz.ntmps84
 go_wp2
 go_loopw [7,18] (λ_ vi wr=>∃k:Nat,k<=n/\vi=.int .i64 k/\Hid (RowC wr w.heap.size n (upToC k x))/\Hid (w.heap.size<wr.heap.size)/\Hid (Below w.heap.size w wr)) (λ_ vi _=>n-(intOf vi).toNat)
 case atStart=>exact⟨0,by omega,rfl,aZ ((zs_rowC n w _).congr λi hi=>by unfold upToC;simp),aZ (by simp),aZ ((Below.refl _ w).alloc (Nat.le_refl _) _)⟩
 case round=>
  obtain⟨k,hk,rfl,hr,hsz,hb⟩:=hrel
  by_cases hlt:k<n
  ·have hki:(k:Int)<n:=by omega
   have hk9:k+1<=32768:=by have:=HN.out;omega
   obtain⟨b1,o1,u,rfl,c1,hu⟩:=(HX.out.1.keep hb.out) k hlt
   obtain⟨b2,o2,v,rfl,c2,hv⟩:=(HX.out.2.keep hb.out) k hlt
   have HV:Hid (nC (u,v)=x k):=aZ (Prod.ext hu hv)
   have HKN:=aZ hlt
   clear hu hv hmk
   go_upto_region 7 with(fail)
   refine wp_region_T (λw'=>w'.cell? ⟨b1,o1+k,none⟩=some (.float .f64 (u:Nat))/\w'.cell? ⟨b2,o2+k,none⟩=some (.float .f64 (v:Nat))) 11 ⟨c1,c2⟩ (λhS0=>?_)
   refine Takes.intro [0,1,2,3,4,5,6,7,8,9,10] ?_
   repeat(refine Takes.go (v:=?_) hS0 ?_;try simp only[nrm,Act.put])
   refine Takes.nil ?_
   refine wpAnyS_fin 2 11 ?_
   simp only[nrd]
   clear hS0 c1 c2
   obtain⟨z,x0,x1,x2,x3,-⟩:=hr.out k HKN.out
   have HR4:Hid (RowC (putC wr w.heap.size k (u,v)) w.heap.size n (upToC (k+1) x)):=aZ ((hr.out.set HKN.out (u,v)).congr λi hi=>by
    rw[<-upToC_next,HV.out])
   have HB4:Hid (Below w.heap.size w (putC wr w.heap.size k (u,v)).drew):=aZ (((hb.out.setCell (p:=⟨_,_,_⟩) (Nat.le_refl _) _).setCell (p:=⟨_,_,_⟩) (Nat.le_refl _) _).drew)
   have HS4:Hid (w.heap.size<(putC wr w.heap.size k (u,v)).heap.size):=aZ (by have:=hsz.out;unfold putC;simp;omega)
   clear hr hsz hb HX
   go_wp2
   exact⟨⟨k+1,by omega,by go_num,HR4,HS4,HB4⟩,by simp[intOf];omega⟩
  ·obtain rfl:k=n:=by omega
   have HR:Hid (RowC wr w.heap.size k x):=aZ (hr.out.congr λi hi=>by unfold upToC;rw[if_pos hi])
   go_wp2
   go_ret2
   exact⟨_,rfl,Nat.le_refl _,hsz.out,HR.out,hb.out⟩
def thP(v2 v3:Value)(L M:List Wd)(u:Rx):Nat->Thr
 |0=>⟨33,53,1,8,.float .f64 0,v2,L.length,fltV L,[.float .f64 (u.1:Nat)],.float .f64 (u.1:Nat)⟩
 |_=>⟨33,53,1,8,.float .f64 0,v3,M.length,fltV M,[.float .f64 (u.2:Nat)],.float .f64 (u.2:Nat)⟩
theorem thP_ok(v2 v3:Value)(L M:List Wd)(u:Rx)(hk:L.length+1<=1099511627776)(hm:M.length+1<=1099511627776):∀t,t<2->(thP v2 v3 L M u t).Ok:=by
 intro t ht
 rcases t with _|_|t
 ·refine⟨Tryz.underlying53,info_float,rfl,(by decide:0<1),(by decide:8<=64),rfl,λx hx=>?_,hk,bs_float u.1⟩
  have hx:x=.float .f64 (u.1:Nat):=by simpa[thP] using hx
  subst hx;rfl
 ·refine⟨Tryz.underlying53,info_float,rfl,(by decide:0<1),(by decide:8<=64),rfl,λx hx=>?_,hm,bs_float u.2⟩
  have hx:x=.float .f64 (u.2:Nat):=by simpa[thP] using hx
  subst hx;rfl
 ·omega
def PrtL(x:Nat->Cx)(L M:List Wd):Prop:=∀i,i<L.length->nz (L.getD i 0)=(x i).1/\nz (M.getD i 0)=(x i).2
theorem PrtL.next{x:Nat->Cx}{L M:List Wd}(h:PrtL x L M)(hl:M.length=L.length)(u:Rx)(hu:nC u=x L.length):PrtL x (L++[u.1]) (M++[u.2]):=by
 intro j hj
 rw[List.length_append] at hj
 rw[List.getD_eq_getElem?_getD,List.getD_eq_getElem?_getD]
 by_cases e:j<L.length
 ·rw[List.getElem?_append_left e,List.getElem?_append_left (by omega)]
  have:=h j e
  rwa [List.getD_eq_getElem?_getD,List.getD_eq_getElem?_getD] at this
 ·have:j=L.length:=by simp at hj;omega
  subst this
  rw[List.getElem?_append_right (by omega),List.getElem?_append_right (by omega),Nat.sub_self,hl,Nat.sub_self,<-hu]
  exact⟨rfl,rfl⟩
theorem Parts_any(X:Option Addr)(n cx:Nat)(x:Nat->Cx)(w:World)(hX:CsAt w X n x)(hn:n<=16384):
  Calls Tryz.prog 57 #[.slice X n cx] w λz w'=>∃u v L M,z=.returned (.tuple #[u,v])/\OwnL w' w.heap.size u L/\OwnL w' w.heap.size v M/\L.length=n/\M.length=n/\PrtL x L M/\Below w.heap.size w w':=by
 have HX:=aZ hX
 have HN:=aZ hn
 clear hX hn
 go_enter Tryz.func57,Tryz.ntmps57
 go_wp2
 go_loopw [2,3,8] (λv2 v3 vi wr=>∃(k:Nat) (L M:List Wd),k<=n/\vi=.int .i64 k/\Hid (L.length=k)/\Hid (M.length=k)/\Hid (PrtL x L M)/\Hid (OwnL wr w.heap.size v2 L)/\Hid (OwnL wr w.heap.size v3 M)/\Hid (Apart v2 v3)/\Hid (Below w.heap.size w wr)) (λ_ _ vi _=>n-(intOf vi).toNat)
 case atStart=>exact⟨0,[],[],by omega,rfl,aZ rfl,aZ rfl,aZ (λi h=>by cases h),aZ (OwnL.nil _ _),aZ (OwnL.nil _ _),aZ (λg e=>(by cases e)),aZ (Below.refl _ _)⟩
 case round=>
  obtain⟨k,L,M,hk,rfl,hL,hM,hpr,o2,o3,hap,hb⟩:=hrel
  by_cases hlt:k<n
  ·have hki:(k:Int)<n:=by omega
   have hk9:k+1<=32768:=by have:=HN.out;omega
   obtain⟨b,o,y,rfl,c0,c1,hy⟩:=(HX.out.keep hb.out) k hlt
   have HPR:Hid (PrtL x (L++[y.1]) (M++[y.2])):=aZ (hpr.out.next (by rw[hL.out,hM.out]) y (by rw[hL.out];exact hy))
   generalize hv2:u2=v2 at*
   generalize hv3:u3=v3 at*
   clear hv2 hv3
   obtain⟨wb,hwb⟩:∃wb,wb=wr.alloc (.cells #[.float .f64 (y.1:Nat),.float .f64 (y.2:Nat)] 52):=⟨_,rfl⟩
   obtain⟨gb,hgb⟩:∃gb,gb=wr.heap.size:=⟨_,rfl⟩
   have hc0:wb.cell? ⟨gb,0,none⟩=some (.float .f64 (y.1:Nat)):=by rw[hwb,hgb,World.cell?_alloc_new];rfl
   have hc1:wb.cell? ⟨gb,1,none⟩=some (.float .f64 (y.2:Nat)):=by rw[hwb,hgb,World.cell?_alloc_new];rfl
   have HBX:Hid (Below wr.heap.size wr wb):=aZ (by rw[hwb];exact(Below.refl _ wr).alloc (Nat.le_refl _) _)
   have HBB:Hid (Below w.heap.size w wb):=aZ (hb.out.trans (HBX.out.mono hb.out.size))
   have hgb2:wr.heap.size<=gb:=by omega
   have HTR:Hid (∀t,t<2->wr.ownsRow w.heap.size (thP v2 v3 L M y t).e (thP v2 v3 L M y t).sz (thP v2 v3 L M y t).v (thP v2 v3 L M y t).k (thP v2 v3 L M y t).xs):=aZ (λt ht=>by
    rcases t with _|_|t
    ·exact o2.out
    ·exact o3.out
    ·omega)
   have HAP:Hid (∀s t,s<2->t<2->s≠t->∀g,(thP v2 v3 L M y s).v.ownBlock=some g->(thP v2 v3 L M y t).v.ownBlock≠some g):=aZ (λs t hs ht hne=>by
    rcases s with _|_|s<;>rcases t with _|_|t
    all_goals first|omega|exact absurd rfl hne|exact hap.out|exact hap.out.symm)
   clear hy hpr o2 o3 hap
   go_upto_region 4 with(fail)
   rw[<-hwb,<-hgb]
   clear hwb hgb c0 c1
   refine wp_region_T (λw'=>(w'.cell? ⟨gb,0,none⟩=some (.float .f64 (y.1:Nat))/\w'.cell? ⟨gb,1,none⟩=some (.float .f64 (y.2:Nat)))/\Hid (Below w.heap.size w w')) 9 ⟨⟨hc0,hc1⟩,aZ HBB.out.drew⟩ (λhS0=>?_)
   refine Takes.intro [0,1,2,5,6,7] ?_
   repeat(refine Takes.go (v:=?_) hS0 ?_;try simp only[nrm,Act.put])
   refine Takes.nil ?_
   refine wpAppends 2 w.heap.size (thP v2 v3 L M y) [3,4,8,9] [[],[0],[],[2,1]] [15,16,20,21] 2 10 (thP_ok _ _ _ _ _ (by have:=hL.out;omega) (by have:=hM.out;omega)) rfl rfl (by decide) (λq hq=>(by rcases q with _|_|q<;>first|decide|omega)) (by kernel_rfl) (by decide) rfl (by kernel_rfl) hS0 ?_ ?_ HBB.out.size ?_ ?_ ?_ ?_ ?_
   ·intro w' o ⟨⟨e0,e1⟩,e2⟩ hsz
    exact⟨⟨keep_cell ((Below.refl _ w').alloc (Nat.le_refl _) _) e0,keep_cell ((Below.refl _ w').alloc (Nat.le_refl _) _) e1⟩,aZ (e2.out.alloc hsz _)⟩
   ·intro w' w'' t ht ⟨⟨e0,e1⟩,e2⟩ hsz hg
    have hne:(thP v2 v3 L M y t).v.ownBlock≠some gb:=λe=>by
     have:=World.ownsRow.lt (HTR.out t ht) gb e
     have:=hgb2
     omega
    exact⟨⟨grown_cell hg e0 hne,grown_cell hg e1 hne⟩,aZ (e2.out.grown hg hsz (λg e=>(World.ownsRow.lt (HTR.out t ht) g e).1))⟩
   ·intro t ht
    exact owns_below (HTR.out t ht) (HBX.out.drew)
   ·exact HAP.out
   ·intro t ht
    rcases t with _|_|t
    ·exact⟨_,_,_,rfl,rfl,rfl,rfl,rfl,λx=>(eval_putG_no x _ _ _ _ (by decide)).trans (by kernel_rfl)⟩
    ·exact⟨_,_,_,rfl,rfl,rfl,rfl,rfl,λx=>(eval_putG_no x _ _ _ _ (by decide)).trans (by kernel_rfl)⟩
    ·omega
   ·intro t ht
    rcases t with _|_|t
    ·exact⟨_,_,_,_,rfl,rfl,rfl,rfl,rfl,λx=>(eval_putG_no x _ _ _ _ (by decide)).trans (by kernel_rfl),λx=>eval_putG_at x 15 _ 0 _ 0 (by decide) rfl (of_decide_eq_true (by kernel_rfl))⟩
    ·exact⟨_,_,_,_,rfl,rfl,rfl,rfl,rfl,λx=>(eval_putG_no x _ _ _ _ (by decide)).trans (by kernel_rfl),λx=>eval_putG_at x 20 _ 0 _ 2 (by decide) rfl (of_decide_eq_true (by kernel_rfl))⟩
    ·omega
   intro x wE hSE hGr
   obtain⟨g5,c5,e5,r5⟩:=hGr.row 0 (by decide)
   obtain⟨g6,c6,e6,r6⟩:=hGr.row 1 (by decide)
   have a1:=hGr.ap 0 1 (by decide) (by decide) (by decide)
   rw[show 2*0+1=1 from rfl] at e5 a1
   rw[show 2*1+1=3 from rfl] at e6 a1
   rw[e5] at a1
   rw[e6] at a1
   have HR5:Hid (OwnL wE w.heap.size (.slice (some ⟨g5,0,none⟩) (k+1) c5) (L++[y.1])):=aZ (by
    unfold OwnL
    rw[List.length_append,<-fltV_app,hL.out]
    exact hL.out▸r5)
   have HR6:Hid (OwnL wE w.heap.size (.slice (some ⟨g6,0,none⟩) (k+1) c6) (M++[y.2])):=aZ (by
    unfold OwnL
    rw[List.length_append,<-fltV_app,hM.out]
    exact hM.out▸r6)
   have HAP2:Hid (Apart (.slice (some ⟨g5,0,none⟩) (k+1) c5) (.slice (some ⟨g6,0,none⟩) (k+1) c6)):=aZ (by
    have:=a1
    intro g h1 h2
    exact this g (by rw[<-h1];rfl) (by rw[<-h2];rfl))
   have HBE:=hSE.2
   have HL2:Hid ((L++[y.1]).length=k+1):=aZ (by rw[List.length_append,hL.out];rfl)
   have HM2:Hid ((M++[y.2]).length=k+1):=aZ (by rw[List.length_append,hM.out];rfl)
   have e5:x 1=.slice (some ⟨g5,0,none⟩) (k+1:Nat) c5:=by rw[<-hL.out];exact e5
   have e6:x 3=.slice (some ⟨g6,0,none⟩) (k+1:Nat) c6:=by rw[<-hM.out];exact e6
   clear hGr hSE r5 r6 a1 HTR HAP hS0 HBX HBB hgb2
   simp only[putG,Nat.zero_add,Nat.reduceAdd,List.setIfInBounds_toArray,List.set_cons_zero,List.set_cons_succ,Act.put,e5,e6,List.toList_toArray,List.drop_succ_cons,List.drop_zero]
   go_wp2
   exact⟨⟨k+1,L++[y.1],M++[y.2],by omega,by go_num,HL2,HM2,HPR,HR5,HR6,HAP2,HBE⟩,by simp[intOf];omega⟩
  ·obtain rfl:k=n:=by omega
   go_wp2
   go_ret2
   exact⟨_,_,L,M,rfl,o2.out,o3.out,hL.out,hM.out,hpr.out,hb.out⟩
def zsF(n:Nat):Array Value:=madeCells #[.float .f64 0] n
theorem mk_Fl(n:Nat)(hn:n<=8796093022208)(w:World):(Instr.makeSlice 53 (.int .i64 n) (.int .i64 n)).run Tryz.prog w=.ok (.slice (some ⟨w.heap.size,0,none⟩) n n) (w.alloc (.cells (zsF n) 33)):=by
 obtain⟨i0,hi,hz0,hz1,hz2⟩:=info_parts info_float
 have h:=run_make (P:=Tryz.prog) w 53 33 i0 _ Tryz.underlying53 hi hz0 .i64 .i64 n n (by omega) (by omega) (by rw[hz2];omega) (by omega)
 rw[hz1] at h
 simpa[zsF,Value.cells] using h
theorem zs_Fs(n:Nat)(w:World)(t:TypeId):FsAt (w.alloc (.cells (zsF n) t)) (some ⟨w.heap.size,0,none⟩) n (λ_=>0):=by
 intro i hi
 refine⟨_,_,0,rfl,?_,by kernel_rfl⟩
 rw[World.cell?_alloc_new,zsF]
 simp[madeCells,hi,Nat.mod_one]
def odF(Z:Nat->Cx):Nat->Cx:=updT Z 0 ((Z 0).1,0)
theorem Forward_odd(kind r:Int)(q:Fo)(n:Nat)(F:Tr Cx)(P:PlanE kind r q n F)(C:ChkC kind n r q n 0)(A:Option Addr)(c:Nat)(X:Option Addr)(cx:Nat)(x:Nat->Nat)(w:World)(hk:Kids w A 0 q)(hX:FsAt w X n x)(hn:n%2=1)(n2:n<=16384)(hg:guardE (reF x) n=0)(hf:idxI (onF λy=>!fitsB W890 y) (reF x) n=-1):
  Calls Tryz.prog 29 #[plV kind n r A q.len c,.slice X n cx] w λz w'=>∃g c',z=.returned (.tuple #[.slice (some ⟨g,0,none⟩) (n/2+1:Nat) c',.int .i64 0])/\n/2+1<=c'/\w.heap.size<=g/\g<w'.heap.size/\RowC w' g (n/2+1) (odF (F (-1) (reF x)))/\Below w.heap.size w w':=by
 obtain⟨W,hW⟩:∃W,W=w.alloc (.cells #[.int .i64 kind,.int .i64 n,.int .i64 r,.slice A q.len c] 27):=⟨_,rfl⟩
 have hbb:Below w.heap.size w W:=by rw[hW];exact(Below.refl _ w).alloc (Nat.le_refl _) _
 obtain⟨p0,p1,p2,p3⟩:=PlBox.new w kind n r A q.len c 27
 rw[<-hW] at p0 p1 p2 p3
 obtain⟨bP,hbP⟩:∃bP,bP=w.heap.size:=⟨_,rfl⟩
 rw[<-hbP] at p0 p1 p2 p3
 have hwn:wantsI (n:Int)=(n:Int):=by unfold wantsI;rw[if_neg (by omega),if_neg (by omega)]
 have hm:=λw2 (hb:Below W.heap.size W w2)=>hmay_any kind n r q n 0 (by rw[hwn];exact C) A c w2 ((hk.below hbb).below hb)
 rw[show hmayE (n:Int) 0=0 by unfold hmayE;rw[if_neg (by omega)]] at hm
 have hc:=λw2 (hb:Below W.heap.size W w2)=>ContainsF_any 82 (λy=>!fitsB W890 y) ent_great great_nz X n cx x w2 ((hX.keep hbb).keep hb) (by omega)
 rw[hf] at hc
 have hp:=λw2 (hb:Below W.heap.size W w2) Y (hY:FsAt w2 Y n (λ_=>0))=>Pairs_any X Y n cx n (reF x) w2 ((hX.keep hbb).keep hb) hY n2
 have he:=λw2 (hb:Below W.heap.size W w2) X (hX:CsAt w2 X n (reF x))=>Execute_ok kind r q n F P C A c X n (reF x) (-1) w2 ((hk.below hbb).below hb) hX n2 (.inr rfl) hg
 obtain⟨E,hE⟩:∃E,F (-1) (reF x)=E:=⟨_,rfl⟩
 rw[hE] at he|-
 have HM:=aZ hm
 have HC:=aZ hc
 have HP:=aZ hp
 have HE:=aZ he
 have HB:=aZ hbb
 obtain⟨h,hh⟩:∃h:Nat,n/2=h:=⟨_,rfl⟩
 obtain⟨l,hl⟩:∃l:Nat,h+1=l:=⟨_,rfl⟩
 rw[hh,hl]
 have hnh:(n:Int)/2=(h:Int):=by omega
 have hhl:(h:Int)+1=(l:Int):=by omega
 have hh9:h<9223372036854775808:=by omega
 have hl9:l<9223372036854775808:=by omega
 have hln:(l:Int)<=n:=by omega
 have hl0:(0:Int)<=l:=by omega
 have h3:0<l:=by omega
 have h3i:(0:Int)<l:=by omega
 have HL:Hid (0<l/\l<=n/\l<=1000000):=aZ (by omega)
 have hpi:(n:Int)%2=1:=by omega
 have hpt:(n:Int).tmod 2=1:=by rw[Int.tmod_eq_emod_of_nonneg (by omega)];exact hpi
 have h63:n<9223372036854775808:=by omega
 have hn8:n<=8796093022208:=by omega
 have hq0:wrap64 ((n:Int)/2)=(h:Int):=by rw[hnh];exact wrap64_nat h hh9
 have hq1:IntKind.i64.wrap ((n:Int)/2)=(h:Int):=by rw[hnh];exact wrapI_nat h hh9
 have hq2:wrap64 ((h:Int)+1)=(l:Int):=by rw[hhl];exact wrap64_nat l hl9
 have hq3:IntKind.i64.wrap ((h:Int)+1)=(l:Int):=by rw[hhl];exact wrapI_nat l hl9
 have hmk:=mk_Fl n hn8
 clear hm hc hp he hbb hwn P C hk hX hE hg hf n2 hn hh hl hnh hhl hh9 hl9 hn8
 go_enter Tryz.func29,Tryz.ntmps29
 go_upto_region 1 with(fail)
 rw[<-hW,<-hbP]
 clear hW hbP
 go_wp2_with fail
 refine(HM.out W (Below.refl _ _)).mono ?_
 rintro z w1 ⟨rfl,hb1⟩
 have HB1:=aZ hb1
 have q0:=keep_cell hb1 p0
 have q1:=keep_cell hb1 p1
 have q2:=keep_cell hb1 p2
 have q3:=keep_cell hb1 p3
 clear hb1 p0 p1 p2 p3 HM
 go_wp2_with fail
 refine(HC.out w1 HB1.out).mono ?_
 rintro z w2 ⟨rfl,hb2⟩
 have HB2:Hid (Below W.heap.size W w2):=aZ (HB1.out.trans (hb2.mono HB1.out.size))
 have p0:=keep_cell hb2 q0
 have p1:=keep_cell hb2 q1
 have p2:=keep_cell hb2 q2
 have p3:=keep_cell hb2 q3
 have hd:decide ((0:Int)<=-1)=false:=by decide
 clear hb2 q0 q1 q2 q3 HC
 obtain⟨wz,hwz⟩:∃wz,wz=w2.alloc (.cells (zsF n) 33):=⟨_,rfl⟩
 have hbz:Below w2.heap.size w2 wz:=by rw[hwz];exact(Below.refl _ w2).alloc (Nat.le_refl _) _
 have HZ:=aZ (zs_Fs n w2 33)
 rw[<-hwz] at HZ
 have HBZ:Hid (Below W.heap.size W wz):=aZ (HB2.out.trans (hbz.mono HB2.out.size))
 have q0:=keep_cell hbz p0
 have q1:=keep_cell hbz p1
 have q2:=keep_cell hbz p2
 have q3:=keep_cell hbz p3
 clear hbz
 go_wp2_with fail
 rw[<-hwz]
 refine(HP.out wz HBZ.out _ HZ.out).mono ?_
 rintro z w3 ⟨g,rfl,-,-,hr3,hb3⟩
 have HB3:Hid (Below W.heap.size W w3):=aZ (HBZ.out.trans (hb3.mono HBZ.out.size))
 have HR3:=aZ hr3.cs
 have p0:=keep_cell hb3 q0
 have p1:=keep_cell hb3 q1
 have p2:=keep_cell hb3 q2
 have p3:=keep_cell hb3 q3
 clear hb3 hr3 q0 q1 q2 q3 HP hwz HZ HBZ HB2
 go_wp2_with fail
 refine(HE.out w3 HB3.out _ HR3.out).mono ?_
 rintro z w4 ⟨g4,rfl,-,-,hr4,hb4⟩
 have HB4:Hid (Below W.heap.size W w4):=aZ (HB3.out.trans (hb4.mono HB3.out.size))
 have HR4:Hid (CsAt w4 (some ⟨g4,0,none⟩) l E):=aZ (λi hi=>hr4.cs i (by have:=HL.out;omega))
 clear hb4 hr4 p0 p1 p2 p3 HE HR3 HB3
 go_wp2_with fail
 refine(CloneC_any _ l _ E w4 HR4.out HL.out.1 HL.out.2.2).mono ?_
 rintro z w5 ⟨g5,c5,rfl,hcc,hg1,hg2,hr5,hb5⟩
 have HCC:=aZ hcc
 have HB5:Hid (Below w.heap.size w w5):=aZ (HB.out.trans ((HB4.out.trans (hb5.mono HB4.out.size)).mono HB.out.size))
 have HG:Hid (w.heap.size<=g5/\g5<w5.heap.size):=aZ ⟨Nat.le_trans HB.out.size (Nat.le_trans HB4.out.size hg1),hg2⟩
 obtain⟨u,r1,r2,r3,r4,-⟩:=hr5 0 h3
 have hR:=hr5.setIm h3 0
 rw[Nat.zero_mul] at r1 r2 r3 r4 hR
 rw[Nat.zero_add] at r2 r4 hR
 have HR:=aZ hR
 have HBB:Hid (Below w.heap.size w (w5.setCell ⟨g5,1,none⟩ (.float .f64 ((0:Fin 18446744073709551616):Nat)))):=aZ (HB5.out.setCell (p:=⟨g5,_,none⟩) HG.out.1 _)
 clear hcc hg1 hg2 hr5 hb5 hR HR4 HB4
 go_wp2
 go_ret2
 exact⟨g5,c5,rfl,HCC.out,HG.out.1,by simpa using HG.out.2,HR.out,HBB.out⟩
theorem Backward_odd(kind r:Int)(q:Fo)(n:Nat)(F:Tr Cx)(P:PlanE kind r q n F)(C:ChkC kind n r q n 0)(A:Option Addr)(c:Nat)(X:Option Addr)(l cx:Nat)(h:Nat->Cx)(w:World)(hk:Kids w A 0 q)(hX:CsAt w X l h)(hl:l=n/2+1)(hn:n%2=1)(n2:n<=16384)(hg:guardE (wholeC h n) n=0)(hf:idxI (λy=>!fitsC W890 y) h l=-1):
  Calls Tryz.prog 31 #[plV kind n r A q.len c,.slice X l cx,.int .i64 n] w λz w'=>∃v L,z=.returned (.tuple #[v,.int .i64 0])/\OwnL w' w.heap.size v L/\L.length=n/\(∀i,i<n->nz (L.getD i 0)=(overF ringR (F 1 (wholeC h n)) n i).1)/\Below w.heap.size w w':=by
 obtain⟨d,hd⟩:∃d:Nat,n/2=d:=⟨_,rfl⟩
 have hl9:l<9223372036854775808:=by omega
 have hm9:d<9223372036854775808:=by omega
 have hnm:(n:Int)/2=(d:Int):=by omega
 have hml:(d:Int)+1=(l:Int):=by omega
 have hpi:(n:Int)%2=1:=by omega
 have hpt:(n:Int).tmod 2=1:=by rw[Int.tmod_eq_emod_of_nonneg (by omega)];exact hpi
 have hl40:l<=4398046511104:=by omega
 have hn1:1<=n:=by omega
 have hwn:wantsI (n:Int)=(n:Int):=by unfold wantsI;rw[if_neg (by omega),if_neg (by omega)]
 have hbad:¬((n:Int)<1\/16384<(n:Int)):=by omega
 have hq0:wrap64 ((n:Int)/2)=(d:Int):=by rw[hnm];exact wrap64_nat d hm9
 have hq1:IntKind.i64.wrap ((n:Int)/2)=(d:Int):=by rw[hnm];exact wrapI_nat d hm9
 have hq2:wrap64 ((d:Int)+1)=(l:Int):=by rw[hml];exact wrap64_nat l hl9
 have hq3:IntKind.i64.wrap ((d:Int)+1)=(l:Int):=by rw[hml];exact wrapI_nat l hl9
 obtain⟨W,hW⟩:∃W,W=w.alloc (.cells #[.int .i64 kind,.int .i64 n,.int .i64 r,.slice A q.len c] 27):=⟨_,rfl⟩
 have hbb:Below w.heap.size w W:=by rw[hW];exact(Below.refl _ w).alloc (Nat.le_refl _) _
 obtain⟨p0,p1,p2,p3⟩:=PlBox.new w kind n r A q.len c 27
 rw[<-hW] at p0 p1 p2 p3
 obtain⟨bP,hbP⟩:∃bP,bP=w.heap.size:=⟨_,rfl⟩
 rw[<-hbP] at p0 p1 p2 p3
 have hm:=λw2 (hb:Below W.heap.size W w2)=>hmay_any kind n r q n 0 (by rw[hwn];exact C) A c w2 ((hk.below hbb).below hb)
 rw[show hmayE (n:Int) 0=0 by unfold hmayE;rw[if_neg hbad]] at hm
 have hc:=λw2 (hb:Below W.heap.size W w2)=>ContainsC_any 89 (λy=>!fitsC W890 y) ent_great2 great2_any X l cx h w2 ((hX.keep hbb).keep hb) hl40
 rw[hf] at hc
 have hwh:=λw2 (hb:Below W.heap.size W w2)=>whole_any X n l cx h w2 ((hX.keep hbb).keep hb) hl hn1 n2
 have he:=λw2 (hb:Below W.heap.size W w2) X (hX:CsAt w2 X n (wholeC h n))=>Inverse_ok kind r q n F P C A c X n (wholeC h n) (-1) w2 ((hk.below hbb).below hb) hX hn1 n2 (.inr rfl) hg
 rw[show-(-1:Int)=1 from rfl] at he
 obtain⟨H,hH⟩:∃H,wholeC h n=H:=⟨_,rfl⟩
 rw[hH] at hwh he|-
 obtain⟨E,hE⟩:∃E,overF ringR (F 1 H) n=E:=⟨_,rfl⟩
 rw[hE] at he|-
 have HM:=aZ hm
 have HC:=aZ hc
 have HWH:=aZ hwh
 have HE:=aZ he
 have HB:=aZ hbb
 have HN:=aZ n2
 clear hm hc hwh he hbb hwn P C hk hX hg hf hn n2 hl hH hE hl9 hm9 hnm hml hl40 hbad hd hn1
 go_enter Tryz.func31,Tryz.ntmps31
 go_upto_region 1 with(fail)
 rw[<-hW,<-hbP]
 clear hW hbP
 go_wp2_with fail
 refine(HM.out W (Below.refl _ _)).mono ?_
 rintro z w1 ⟨rfl,hb1⟩
 have HB1:=aZ hb1
 have q0:=keep_cell hb1 p0
 have q1:=keep_cell hb1 p1
 have q2:=keep_cell hb1 p2
 have q3:=keep_cell hb1 p3
 clear hb1 p0 p1 p2 p3 HM
 go_wp2_with fail
 refine(HC.out w1 HB1.out).mono ?_
 rintro z w2 ⟨rfl,hb2⟩
 have HB2:Hid (Below W.heap.size W w2):=aZ (HB1.out.trans (hb2.mono HB1.out.size))
 have p0:=keep_cell hb2 q0
 have p1:=keep_cell hb2 q1
 have p2:=keep_cell hb2 q2
 have p3:=keep_cell hb2 q3
 have hd:decide ((0:Int)<=-1)=false:=by decide
 clear hb2 q0 q1 q2 q3 HC
 go_upto_region 10 with(fail)
 refine wp_region_T (λw'=>(w'.cell? ⟨bP,0,none⟩=some (.int .i64 kind)/\w'.cell? ⟨bP,1,none⟩=some (.int .i64 n)/\w'.cell? ⟨bP,2,none⟩=some (.int .i64 r)/\w'.cell? ⟨bP,3,none⟩=some (.slice A q.len c))/\Hid (Below W.heap.size W w')) 9 ⟨⟨p0,p1,p2,p3⟩,aZ HB2.out.drew⟩ (λhS0=>?_)
 refine Takes.intro [0,1,2] ?_
 repeat(refine Takes.go (v:=?_) hS0 ?_;try simp only[nrm,Act.put])
 refine Takes.nil ?_
 refine wpAnyS_1 3 (λK hK=>?_)
 go_simp
 refine(HWH.out _ hS0.2.out).mono ?_
 rintro z w3 ⟨g,rfl,-,-,hr3,hb3⟩
 have HB3:Hid (Below W.heap.size W w3):=aZ (hS0.2.out.trans (hb3.mono hS0.2.out.size))
 have HR3:=aZ hr3.cs
 have hS1:(w3.cell? ⟨bP,0,none⟩=some (.int .i64 kind)/\w3.cell? ⟨bP,1,none⟩=some (.int .i64 n)/\w3.cell? ⟨bP,2,none⟩=some (.int .i64 r)/\w3.cell? ⟨bP,3,none⟩=some (.slice A q.len c))/\Hid (Below W.heap.size W w3):=⟨⟨keep_cell hb3 hS0.1.1,keep_cell hb3 hS0.1.2.1,keep_cell hb3 hS0.1.2.2.1,keep_cell hb3 hS0.1.2.2.2⟩,HB3⟩
 refine hK.out _ _ (λ_=>hS1) ?_
 clear hK K hb3 hr3
 try simp only[nrm,Act.put]
 refine wpAnyS_1 4 (λK hK=>?_)
 go_simp
 refine(HE.out w3 HB3.out _ HR3.out).mono ?_
 rintro z w4 ⟨g4,rfl,-,-,hr4,hb4⟩
 have HB4:Hid (Below W.heap.size W w4):=aZ (HB3.out.trans (hb4.mono HB3.out.size))
 have HR4:=aZ hr4.cs
 have hS2:(w4.cell? ⟨bP,0,none⟩=some (.int .i64 kind)/\w4.cell? ⟨bP,1,none⟩=some (.int .i64 n)/\w4.cell? ⟨bP,2,none⟩=some (.int .i64 r)/\w4.cell? ⟨bP,3,none⟩=some (.slice A q.len c))/\Hid (Below W.heap.size W w4):=⟨⟨keep_cell hb4 hS1.1.1,keep_cell hb4 hS1.1.2.1,keep_cell hb4 hS1.1.2.2.1,keep_cell hb4 hS1.1.2.2.2⟩,HB4⟩
 refine hK.out _ _ (λ_=>hS2) ?_
 clear hK K hb4 hr4 HR3
 try simp only[nrm,Act.put]
 refine Takes.intro [5,6,7] ?_
 repeat(refine Takes.go (v:=?_) hS2 ?_;try simp only[nrm,Act.put])
 refine Takes.nil ?_
 refine wpAnyS_1 8 (λK hK=>?_)
 go_simp
 refine hK.out _ _ (λ_=>hS2) ?_
 clear hK K
 try simp only[nrm,Act.put]
 refine wpAnyS_fin 1 9 ?_
 simp only[nrd]
 clear hS0 hS1 hS2 p0 p1 p2 p3 HE HWH
 go_wp2_with fail
 refine(Parts_any _ n _ E w4 HR4.out HN.out).mono ?_
 rintro z w5 ⟨u,v,L,M,rfl,ho,-,hLl,-,hp,hb5⟩
 have HO:=aZ (owns_mono ho (Nat.le_trans HB.out.size HB4.out.size))
 have HL:=aZ hLl
 have HP:Hid (∀i,i<n->nz (L.getD i 0)=(E i).1):=aZ (λi hi=>(hp i (by omega)).1)
 have HB5:Hid (Below w.heap.size w w5):=aZ (HB.out.trans ((HB4.out.trans (hb5.mono HB4.out.size)).mono HB.out.size))
 clear ho hLl hp hb5 HR4 HB4
 go_wp2
 obtain⟨A1,k1,rfl,-⟩:=HO.out.fs
 go_ret2
 exact⟨_,L,rfl,HO.out,HL.out,HP.out,HB5.out⟩
def noF(x:Nat->Nat)(n:Nat):Int:=if idxI (onF λy=>!fitsB W890 y) (reF x) n=-1 then 0 else 5
def noC(h:Nat->Cx)(l:Nat):Int:=if idxI (λy=>!fitsC W890 y) h l=-1 then 0 else 5
def bwdE(e n:Int)(l:Nat)(h:Nat->Cx):Int:=if hmayE n e≠0 then hmayE n e else if(l:Int)≠n/2+1 then 4 else noC h l
theorem Backward_bad(kind N r:Int)(q:Fo)(e:Int)(A:Option Addr)(c:Nat)(X:Option Addr)(l cx:Nat)(n:Int)(h:Nat->Cx)(w:World)(C:ChkC kind N r q (wantsI n) e)(hk:Kids w A 0 q)(hX:CsAt w X l h)(hl:l<=4398046511104)(hb:bwdE e n l h≠0):
  Calls Tryz.prog 31 #[plV kind N r A q.len c,.slice X l cx,.int .i64 n] w λz w'=>z=.returned (.tuple #[.slice none 0 0,.int .i64 (bwdE e n l h)])/\Below w.heap.size w w':=by
 obtain⟨W,hW⟩:∃W,W=w.alloc (.cells #[.int .i64 kind,.int .i64 N,.int .i64 r,.slice A q.len c] 27):=⟨_,rfl⟩
 have hbb:Below w.heap.size w W:=by rw[hW];exact(Below.refl _ w).alloc (Nat.le_refl _) _
 obtain⟨p0,p1,p2,p3⟩:=PlBox.new w kind N r A q.len c 27
 rw[<-hW] at p0 p1 p2 p3
 obtain⟨bP,hbP⟩:∃bP,bP=w.heap.size:=⟨_,rfl⟩
 rw[<-hbP] at p0 p1 p2 p3
 have hm:=λw2 (hb:Below W.heap.size W w2)=>hmay_any kind N r q n e C A c w2 ((hk.below hbb).below hb)
 have hc:=λw2 (hb:Below W.heap.size W w2)=>ContainsC_any 89 (λy=>!fitsC W890 y) ent_great2 great2_any X l cx h w2 ((hX.keep hbb).keep hb) hl
 have HM:=aZ hm
 have HC:=aZ hc
 have HB:=aZ hbb
 obtain⟨e0,he0⟩:∃e0,hmayE n e=e0:=⟨_,rfl⟩
 unfold bwdE noC at hb|-
 rw[he0] at HM hb|-
 have h63:l<9223372036854775808:=by omega
 by_cases h0:e0=0
 ·have hnn:1<=n/\n<=16384:=by
    unfold hmayE at he0
    by_cases h1:n<1\/16384<n
    ·rw[if_pos h1] at he0;omega
    ·omega
  subst h0
  rw[if_neg (by decide)] at hb|-
  obtain⟨d,hd⟩:∃d:Nat,n/2=(d:Int):=⟨(n/2).toNat,by omega⟩
  have hd9:d<9223372036854775807:=by omega
  have hd8:d<9223372036854775808:=by omega
  obtain⟨d2,hd2⟩:∃d2:Nat,d+1=d2:=⟨_,rfl⟩
  have hml:(d:Int)+1=(d2:Int):=by omega
  have hd29:d2<9223372036854775808:=by omega
  have htd:n.tdiv 2=(d:Int):=by rw[Int.tdiv_eq_ediv_of_nonneg (by omega)];exact hd
  have e4:(((l:Int)≠n/2+1)↔((l:Int)≠d2)):=by rw[hd,hml]
  clear hm hc hbb C hk hX he0
  by_cases h4:(l:Int)=d2
  ·rw[if_neg (by rw[e4];omega)] at hb|-
   by_cases h1:idxI (λy=>!fitsC W890 y) h l=-1
   ·rw[if_pos h1] at hb;exact absurd rfl hb
   rw[if_neg h1]
   have hdd:decide (0<=idxI (λy=>!fitsC W890 y) h l)=true:=decide_eq_true ((idxI_ge _ _ _).resolve_left h1)
   rw[hdd] at HC
   have h5:((l:Int) != d2)=false:=by simpa using h4
   have h6:((l:Int) != n/2+1)=false:=by rw[hd,hml];exact h5
   have hq0:wrap64 (n/2)=(d:Int):=by rw[hd];exact wrap64_nat d hd8
   have hq1:IntKind.i64.wrap (n/2)=(d:Int):=by rw[hd];exact wrapI_nat d hd8
   have hq4:wrap64 (n.tdiv 2)=(d:Int):=by rw[htd];exact wrap64_nat d hd8
   have hq2:wrap64 ((d:Int)+1)=(d2:Int):=by rw[hml];exact wrap64_nat d2 hd29
   have hq3:IntKind.i64.wrap ((d:Int)+1)=(d2:Int):=by rw[hml];exact wrapI_nat d2 hd29
   clear hb h1 hdd e4 hd htd hml hd2 hd9 hd8 hd29 h4
   go_enter Tryz.func31,Tryz.ntmps31
   go_upto_region 1 with(fail)
   rw[<-hW,<-hbP]
   clear hW hbP
   go_wp2_with fail
   refine(HM.out W (Below.refl _ _)).mono ?_
   rintro z w1 ⟨rfl,hb1⟩
   have HB1:=aZ hb1
   clear hb1 p0 p1 p2 p3 HM
   go_wp2_with fail
   refine(HC.out w1 HB1.out).mono ?_
   rintro z w2 ⟨rfl,hb2⟩
   have HB2:Hid (Below w.heap.size w w2):=aZ (HB.out.trans ((HB1.out.trans (hb2.mono HB1.out.size)).mono HB.out.size))
   clear hb2 HC
   go_wp2
   go_ret2
   exact⟨rfl,HB2.out⟩
  ·rw[if_pos (by rw[e4];exact h4)]
   have h5:((l:Int) != d2)=true:=by simpa using h4
   have h6:((l:Int) != n/2+1)=true:=by rw[hd,hml];exact h5
   have hq0:wrap64 (n/2)=(d:Int):=by rw[hd];exact wrap64_nat d hd8
   have hq1:IntKind.i64.wrap (n/2)=(d:Int):=by rw[hd];exact wrapI_nat d hd8
   have hq4:wrap64 (n.tdiv 2)=(d:Int):=by rw[htd];exact wrap64_nat d hd8
   have hq2:wrap64 ((d:Int)+1)=(d2:Int):=by rw[hml];exact wrap64_nat d2 hd29
   have hq3:IntKind.i64.wrap ((d:Int)+1)=(d2:Int):=by rw[hml];exact wrapI_nat d2 hd29
   clear hb e4 hd htd hml hd2 hd9 hd8 hd29 HC
   go_enter Tryz.func31,Tryz.ntmps31
   go_upto_region 1 with(fail)
   rw[<-hW,<-hbP]
   clear hW hbP
   go_wp2_with fail
   refine(HM.out W (Below.refl _ _)).mono ?_
   rintro z w1 ⟨rfl,hb1⟩
   have HB1:Hid (Below w.heap.size w w1):=aZ (HB.out.trans (hb1.mono HB.out.size))
   clear hb1 p0 p1 p2 p3 HM
   go_wp2
   go_ret2
   exact⟨rfl,HB1.out⟩
 ·rw[if_pos h0]
  have h2:(e0 != 0)=true:=by simpa using h0
  have h3:(e0==0)=false:=by simpa using h0
  clear hm hc hbb C hk hX hb HC he0
  go_enter Tryz.func31,Tryz.ntmps31
  go_upto_region 1 with(fail)
  rw[<-hW,<-hbP]
  clear hW hbP
  go_wp2_with fail
  refine(HM.out W (Below.refl _ _)).mono ?_
  rintro z w1 ⟨rfl,hb1⟩
  have HB1:Hid (Below w.heap.size w w1):=aZ (HB.out.trans (hb1.mono HB.out.size))
  clear hb1 p0 p1 p2 p3 HM
  go_wp2
  go_ret2
  exact⟨rfl,HB1.out⟩
end Go.Proofs.YtmgfaeineklccaaGreat
