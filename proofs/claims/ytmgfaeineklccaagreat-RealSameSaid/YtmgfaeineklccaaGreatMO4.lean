/- Law 21's numbers: reals. -/
import Derived.Test.YtmgfaeineklccaaGreatX0
import Derived.Test.YtmgfaeineklccaaGreatMH5
import Derived.Test.YtmgfaeineklccaaGreatMO2
import Derived.Test.YtmgfaeineklccaaGreatMF1
import Derived.Test.YtmgfaeineklccaaGreatMO3
import Derived.Deep.Slices
set_option maxRecDepth 100000
set_option maxHeartbeats 4000000
set_option linter.unusedSimpArgs false
set_option linter.unusedVariables false
namespace Go.Proofs.YtmgfaeineklccaaGreat
open Go.RowKit Go.Lib Fl
theorem value21(M E:Int)(w:World):Calls Tryz.prog 97 #[.agg #[.int .i64 M,.int .i64 E]] w λz w'=>z=.returned (.float .f64 (vN M E))/\Below w.heap.size w w':=by
 have h1:=tmod_rng M 9007199254740992 (by decide)
 have h2:=tmod_rng E 900 (by decide)
 obtain⟨c,hc⟩:∃c,M.tmod 9007199254740992=c:=⟨_,rfl⟩
 obtain⟨k,hk⟩:∃k,E.tmod 900=k:=⟨_,rfl⟩
 have H:=aZ (λw=>Scale_whole c (k-60) (by omega) (by omega) (by omega) (by omega) w)
 have e1:wrap64 (k-60)=k-60:=by unfold wrap64;omega
 obtain⟨y,hy⟩:∃y,vW c (k-60)=y:=⟨_,rfl⟩
 have hv:vN M E=y:=by unfold vN;rw[hc,hk,hy]
 rw[hy] at H
 rw[hv]
 clear hy hv h1 h2
 obtain⟨W,hW⟩:∃W,W=w.alloc (.cells #[.int .i64 M,.int .i64 E] 163):=⟨_,rfl⟩
 have hb:Below w.heap.size w W:=by rw[hW];exact(Below.refl _ w).alloc (Nat.le_refl _) _
 go_enter Tryz.func97,Tryz.ntmps97
 go_wp2_with (first|simp only[hc,hk,e1]|fail)
 refine(H.out _).mono ?_
 rintro z w' ⟨rfl,rfl⟩
 go_wp2
 go_ret
 exact⟨rfl,by rw[<-hW];exact hb⟩
theorem Ldexp10(c k:Int)(h0:-9007199254740992<=c)(h2:c<=9007199254740992)(k0:-970<=k)(k2:k<=850)(w:World):Calls Tryz.prog 117 #[.float .f64 (vW c k),.int .i64 (-10)] w λz w'=>z=.returned (.float .f64 (vW c (k-10)))/\w=w':=by
 by_cases hc:c=0
 ·subst hc
  exact Ldexp_of _ _ _ _ (λw=>ldexp_zero (-10) w)
 ·by_cases hn:0<c
  ·obtain⟨E,m,e,hm,h3,h4⟩:=whole_word53 c (by omega) h2
   obtain⟨F,hF⟩:∃F:Nat,(E:Int)+k=F:=⟨((E:Int)+k).toNat,by omega⟩
   have ha:vW c k=F*4503599627370496+m:=by unfold vW;rw[if_neg hc,e];omega
   have hb:vW c (k-10)=((F:Int)+-10).toNat*4503599627370496+m:=by unfold vW;rw[if_neg hc,e];omega
   rw[ha,hb]
   exact Ldexp_of _ _ _ _ (λw=>ldexp_pos F m (-10) w (by omega) (by omega) hm (by omega) (by omega))
  ·obtain⟨E,m,e,hm,h3,h4⟩:=whole_word53 (-c) (by omega) (by omega)
   have e2:=whole_word_neg (-c) (by omega) (by omega)
   rw[Int.neg_neg,e] at e2
   obtain⟨F,hF⟩:∃F:Nat,(E:Int)+k=F:=⟨((E:Int)+k).toNat,by omega⟩
   have ha:vW c k=9223372036854775808+(F*4503599627370496+m):=by unfold vW;rw[if_neg hc,e2];omega
   have hb:vW c (k-10)=9223372036854775808+(((F:Int)+-10).toNat*4503599627370496+m):=by unfold vW;rw[if_neg hc,e2];omega
   rw[ha,hb]
   exact Ldexp_of _ _ _ _ (λw=>ldexp_neg F m (-10) w (by omega) (by omega) hm (by omega) (by omega))
theorem Scale10(c k:Int)(h0:-9007199254740992<=c)(h2:c<=9007199254740992)(k0:-970<=k)(k2:k<=850)(w:World):Calls Tryz.prog 66 #[.float .f64 (vW c k),.int .i64 (-10)] w λz w'=>z=.returned (.float .f64 (vW c (k-10)))/\w=w':=by
 have H:=aZ (λw=>Ldexp10 c k h0 h2 k0 k2 w)
 obtain⟨x,hx⟩:∃x,vW c k=x:=⟨_,rfl⟩
 obtain⟨y,hy⟩:∃y,vW c (k-10)=y:=⟨_,rfl⟩
 have e1:min (-10:Int) 3000=-10:=by decide
 have e2:max (-3000:Int) (-10)=-10:=by decide
 rw[hx,hy] at H
 rw[hx,hy]
 clear hx hy
 go_enter Tryz.func66,Tryz.ntmps66
 go_wp2_with (first|simp only[e1,e2]|fail)
 refine(H.out _).mono ?_
 rintro z w' ⟨rfl,rfl⟩
 go_wp2
 go_ret
 exact⟨rfl,rfl⟩
def vR(M E:Int):Nat:=vW (M.tmod 9007199254740992) (E.tmod 900-60-10)
theorem vR_lo(M E:Int):vR M E<18446744073709551616/\vR M E%9223372036854775808<8615386087159758848:=by
 have a:=tmod_rng M 9007199254740992 (by decide)
 have b:=tmod_rng E 900 (by decide)
 unfold vR
 generalize M.tmod 9007199254740992=c at*
 obtain⟨k,hk⟩:∃k,E.tmod 900-60-10=k:=⟨_,rfl⟩
 rw[hk]
 by_cases hc:c=0
 ·subst hc
  have e:vW 0 k=0:=rfl
  rw[e]
  exact⟨by decide,by decide⟩
 ·by_cases hn:0<c
  ·obtain⟨E,m,e,hm,h3,h4⟩:=whole_word53 c (by omega) (by omega)
   have hb:vW c k=((E:Int)+k).toNat*4503599627370496+m:=by unfold vW;rw[if_neg hc,e];omega
   omega
  ·obtain⟨E,m,e,hm,h3,h4⟩:=whole_word53 (-c) (by omega) (by omega)
   have e2:=whole_word_neg (-c) (by omega) (by omega)
   rw[Int.neg_neg,e] at e2
   have hb:vW c k=9223372036854775808+(((E:Int)+k).toNat*4503599627370496+m):=by unfold vW;rw[if_neg hc,e2];omega
   omega
def rlV(u:Int×Int):Wd:=⟨vR u.1 u.2,(vR_lo _ _).1⟩
def rlW(f:Nat->Int×Int)(l:Nat):Nat->Wd:=λi=>if i<l then rlV (f i) else 0
theorem rlW_lo(f:Nat->Int×Int)(l i:Nat):(rlW f l i:Nat)%9223372036854775808<8615386087159758848:=by
 unfold rlW
 split
 ·exact(vR_lo _ _).2
 ·decide
theorem fits890_lo{b:Nat}(h:b<18446744073709551616)(h2:b%9223372036854775808<8615386087159758848):fitsB W890 b=true:=by
 unfold fitsB
 have hf:Fnt (b%9223372036854775808):=⟨by omega,by omega⟩
 have hg:iv (b%9223372036854775808)<iv W890:=by
  have:=iv_grow (r:=b%9223372036854775808) (8615386087159758848-b%9223372036854775808) (by omega) (by omega)
  rwa [show b%9223372036854775808+(8615386087159758848-b%9223372036854775808)=8615386087159758848 by omega] at this
 have:Ieee.double.order (b%9223372036854775808) W890=some .lt:=by
  show D.order _ _=_
  rw[order_spec hf (by decide),Int.compare_eq_lt.2 hg]
 rw[this]
 rfl
theorem rlW_fits(f:Nat->Int×Int)(l i:Nat):fitsB W890 (rlW f l i)=true:=fits890_lo (rlW f l i).isLt (rlW_lo f l i)
theorem rlW_fnt(f:Nat->Int×Int)(l i:Nat):Fnt (rlW f l i):=by
 have h:=rlW_lo f l i
 have h2:=(rlW f l i).isLt
 exact⟨by omega,by omega⟩
def RlAt(w:World)(A:Option Addr)(n:Nat)(f:Nat->Int×Int):Prop:=∀i,i<n->∃b o,A=some ⟨b,o,none⟩/\w.cell? ⟨b,o+i*2,none⟩=some (.int .i64 (f i).1)/\w.cell? ⟨b,o+i*2+1,none⟩=some (.int .i64 (f i).2)
theorem RlAt.keep{W w1:World}{A:Option Addr}{n:Nat}{f:Nat->Int×Int}(hb:Below W.heap.size W w1)(h:RlAt W A n f):RlAt w1 A n f:=λi hi=>by
 obtain⟨b,o,e,h1,h2⟩:=h i hi
 exact⟨b,o,e,keep_cell hb h1,keep_cell hb h2⟩
def RowW(w:World)(b n:Nat)(f:Nat->Wd):Prop:=∀i,i<n->w.cell? ⟨b,i,none⟩=some (.float .f64 (f i:Nat))/\w.frozen? ⟨b,i,none⟩=false
theorem RowW.keep{W w1:World}{b n:Nat}{f:Nat->Wd}(hb:Below W.heap.size W w1)(h:RowW W b n f):RowW w1 b n f:=λi hi=>by
 obtain⟨h1,h2⟩:=h i hi
 exact⟨keep_cell hb h1,(congrArg (λz=>z) (World.frozen?_of_block (w:=W) (Below.block hb _ (World.block_lt_of_cell? _ _ h1)))).trans h2⟩
theorem RowW.congr{w:World}{b n:Nat}{f g:Nat->Wd}(h:RowW w b n f)(e:∀i,i<n->f i=g i):RowW w b n g:=λi hi=>by rw[<-e i hi];exact h i hi
theorem RowW.set{w:World}{b n:Nat}{f:Nat->Wd}(h:RowW w b n f){j:Nat}(u:Wd):RowW (w.setCell ⟨b,j,none⟩ (.float .f64 (u:Nat))) b n (λi=>if i=j then u else f i):=λi hi=>by
 obtain⟨h1,h2⟩:=h i hi
 by_cases e:i=j
 ·subst e
  refine⟨?_,?_⟩
  ·simp only[if_true]
   exact World.cell?_setCell_same _ _ _ (by rw[h1])
  ·rw[World.frozen?_setCell];exact h2
 ·have ne:(⟨b,j,none⟩:Addr)≠⟨b,i,none⟩:=λk=>e (congrArg Addr.off k).symm
  refine⟨?_,?_⟩
  ·simp only[if_neg e]
   rw[World.cell?_setCell_other _ _ _ _ (by first|exact ne|exact λk=>ne k.symm)];exact h1
  ·rw[World.frozen?_setCell];exact h2
theorem RowW.fs{w:World}{b n:Nat}{f:Nat->Wd}(h:RowW w b n f):FsAt w (some ⟨b,0,none⟩) n (λi=>nz (f i)):=λi hi=>⟨b,0,f i,rfl,by rw[Nat.zero_add];exact(h i hi).1,rfl⟩
theorem zs_rowW(n:Nat)(w:World)(t:TypeId):RowW (w.alloc (.cells (zsF n) t)) w.heap.size n (λ_=>0):=by
 intro i hi
 refine⟨?_,World.frozen?_alloc_new _ _ _ _⟩
 rw[World.cell?_alloc_new,zsF]
 simp[madeCells,hi,Nat.mod_one]
theorem Reals21(A:Option Addr)(l c n:Nat)(f:Nat->Int×Int)(w:World)(hA:RlAt w A l f)(hn:n<=16384):
  Calls Tryz.prog 46 #[.slice A l c,.int .i64 n] w λz w'=>∃g,z=.returned (.slice (some ⟨g,0,none⟩) n n)/\w.heap.size<=g/\g<w'.heap.size/\RowW w' g n (rlW f l)/\Below w.heap.size w w':=by
 have hmk:=mk_Fl n (by omega)
 have HA:=aZ hA
 have HN:=aZ hn
 clear hA hn
 go_enter Tryz.func46,Tryz.ntmps46
 go_wp2
 go_loopw [6] (λvi wr=>∃k:Nat,k<=n/\vi=.int .i64 k/\Hid (RowW wr w.heap.size n (λi=>if i<k then rlW f l i else 0))/\Hid (w.heap.size<wr.heap.size)/\Hid (Below w.heap.size w wr)) (λvi _=>n-(intOf vi).toNat)
 case atStart=>exact⟨0,by omega,rfl,aZ ((zs_rowW n w _).congr λi hi=>by simp),aZ (by simp),aZ ((Below.refl _ w).alloc (Nat.le_refl _) _)⟩
 case round=>
  obtain⟨k,hk,rfl,hr,hsz,hb⟩:=hrel
  by_cases hlt:k<n
  ·by_cases hll:k<l
   ·have hki:(k:Int)<n:=by omega
    have hkl:(k:Int)<l:=by omega
    have hk9:k+1<=32768:=by have:=HN.out;omega
    obtain⟨b,o,rfl,c0,c1⟩:=HA.out.keep hb.out k hll
    obtain⟨a1,ha1⟩:∃a1,(f k).1=a1:=⟨_,rfl⟩
    obtain⟨a2,ha2⟩:∃a2,(f k).2=a2:=⟨_,rfl⟩
    rw[ha1] at c0
    rw[ha2] at c1
    obtain⟨u,hu⟩:∃u:Wd,u=rlV (f k):=⟨_,rfl⟩
    have hu2:vW (a1.tmod 9007199254740992) (a2.tmod 900-60-10)=(u:Nat):=by rw[hu,<-ha1,<-ha2];rfl
    have HV1:=aZ (value21 a1 a2)
    have t1:=tmod_rng a1 9007199254740992 (by decide)
    have t2:=tmod_rng a2 900 (by decide)
    have HV2:=aZ (λw=>Scale10 (a1.tmod 9007199254740992) (a2.tmod 900-60) (by omega) (by omega) (by omega) (by omega) w)
    rw[hu2] at HV2
    unfold vN at HV1
    obtain⟨p,hp⟩:∃p,vW (a1.tmod 9007199254740992) (a2.tmod 900-60)=p:=⟨_,rfl⟩
    rw[hp] at HV1 HV2
    have HROW:Hid (∀i,(if i=k then u else if i<k then rlW f l i else 0)=if i<k+1 then rlW f l i else 0):=aZ (λi=>by
     by_cases e:i=k
     ·subst e
      rw[if_pos rfl,if_pos (by omega),hu]
      unfold rlW
      rw[if_pos hll]
     ·rw[if_neg e]
      by_cases e2:i<k
      ·rw[if_pos e2,if_pos (by omega)]
      ·rw[if_neg e2,if_neg (by omega)])
    have HKN:=aZ hlt
    clear ha1 ha2 hu hu2 t1 t2 hp hmk
    go_wp2_with fail
    refine(HV1.out _).mono ?_
    rintro z w2 ⟨rfl,hb2⟩
    go_wp2_with fail
    refine(HV2.out _).mono ?_
    rintro z w3 ⟨rfl,rfl⟩
    have HR2:=aZ (hr.out.keep hb2)
    obtain⟨d0,d1⟩:=HR2.out k HKN.out
    have HR3:Hid (RowW (w2.setCell ⟨w.heap.size,k,none⟩ (.float .f64 (u:Nat))) w.heap.size n (λi=>if i<k+1 then rlW f l i else 0)):=aZ ((HR2.out.set u).congr λi hi=>HROW.out i)
    have HB3:Hid (Below w.heap.size w (w2.setCell ⟨w.heap.size,k,none⟩ (.float .f64 (u:Nat)))):=aZ ((hb.out.trans (hb2.mono hb.out.size)).setCell (p:=⟨_,_,_⟩) (Nat.le_refl _) _)
    have HS3:Hid (w.heap.size<(w2.setCell ⟨w.heap.size,k,none⟩ (.float .f64 (u:Nat))).heap.size):=aZ (by have:=hb2.size;have:=hsz.out;simp;omega)
    clear hr hsz hb hb2 HR2 HV1 HV2 c0 c1
    go_wp2
    exact⟨⟨k+1,by omega,by go_num,HR3,HS3,HB3⟩,by simp[intOf];omega⟩
   ·have hki:(k:Int)<n:=by omega
    have hkl:¬(k:Int)<l:=by omega
    have HR:Hid (RowW wr w.heap.size n (rlW f l)):=aZ (hr.out.congr λi hi=>by unfold rlW;by_cases h1:i<k;rw[if_pos h1];rw[if_neg h1,if_neg (by omega)])
    clear hmk
    go_wp2
    go_ret
    exact⟨_,rfl,Nat.le_refl _,hsz.out,HR.out,hb.out⟩
  ·obtain rfl:k=n:=by omega
   have HR:Hid (RowW wr w.heap.size k (rlW f l)):=aZ (hr.out.congr λi hi=>by rw[if_pos hi])
   clear hmk
   go_wp2
   go_ret
   exact⟨_,rfl,Nat.le_refl _,hsz.out,HR.out,hb.out⟩
end Go.Proofs.YtmgfaeineklccaaGreat
namespace Go.Proofs.YtmgfaeineklccaaGreat
open Go.ChangeShapes Go.WideShapes Go.ChangeAt Go.RowKit
theorem cells_num21:Tryz.prog.cellsOf 163=2:=by kernel_rfl
theorem trod_num21{H:Type}{enc:TypeId×Value->H}{W:World}{base n:Nat}{sp:Nat->Bool}{hd:Bool}{cs:List Value}{x:DataW H×List MemPlace}(hl:cs.length=2)(h:DataW.trod enc Tryz.prog W base sp hd n 163 cs=some x):∃a b:Int,cs=[.int .i64 a,.int .i64 b]:=by
 obtain⟨c0,c1,rfl⟩:∃a b,cs=[a,b]:=by
  match cs,hl with
  |[a,b],_=>exact⟨a,b,rfl⟩
 obtain⟨xs,m,rfl,hx,_,hn,hel⟩:=DataW.trod_struct Tryz.underlying163 h
 have h0:DataW.trod enc Tryz.prog W base sp hd m 2 ((List.drop 0 [c0,c1]).take (Tryz.prog.cellsOf 2))=xs[0]?:=hel 0 _ rfl
 have h1:DataW.trod enc Tryz.prog W base sp hd m 3 ((List.drop 1 [c0,c1]).take (Tryz.prog.cellsOf 3))=xs[1]?:=hel 1 _ rfl
 rw[cells_int64] at h0
 rw[cells_int] at h1
 obtain⟨y0,y1,rfl⟩:∃a b,xs=[a,b]:=by
  match xs,hn with
  |[a,b],_=>exact⟨a,b,rfl⟩
 obtain⟨x0,e0,_,_⟩:=DataW.trod_int Tryz.underlying2 h0
 obtain⟨x1,e1,_,_⟩:=DataW.trod_int Tryz.underlying3 h1
 simp at e0 e1
 subst e0 e1
 exact⟨x0,x1,rfl⟩
theorem shape_nums21{H:Type}{enc:TypeId×Value->H}{W:World}{base:Nat}{v:Value}{d:DataW H}{p:List MemPlace}(hval:Value.okWide Tryz.prog W .any base 85 v)(h:DataW.Trod enc Tryz.prog W 0 (λ_=>true) true 85 v d p):∃A n c f,v=.slice A n c/\RlAt W A n f/\n<=9223372036854775807/\(A=none->c=0)/\n<=c/\c<=9223372036854775807:=by
 obtain⟨a0,len,cap,rfl⟩:=okWide_slice Tryz.underlying85 hval
 obtain⟨fuel,hf⟩:=h
 rcases Deep.open_slice Tryz.underlying85 hf with⟨hcs,hx⟩|⟨a,len',cap',m,n,D,Pl,hcs,_,hl,hm,hmm,hx,hel⟩
 ·simp[Value.cells] at hcs
  obtain⟨rfl,rfl,rfl⟩:=hcs
  exact⟨_,_,_,λ_=>(0,0),rfl,λi hi=>by omega,by omega,λ_=>rfl,by omega,by omega⟩
 ·simp[Value.cells] at hcs
  obtain⟨rfl,rfl,rfl⟩:=hcs
  have hlm:len<=m:=by rw[hmm];split<;>omega
  have each:∀i,i<len->∃q:Int×Int,W.cell? (a.add (i*2))=some (.int .i64 q.1)/\W.cell? (a.add (i*2+1))=some (.int .i64 q.2):=by
   intro i hi
   obtain⟨cs',h1,h2⟩:=hel i (by omega)
   rw[cells_num21] at h1
   obtain⟨_,hlen,hcell⟩:=World.cells?_some h1
   obtain⟨x,y,rfl⟩:=trod_num21 hlen h2
   have e0:=hcell 0 (by omega)
   have e1:=hcell 1 (by omega)
   rw[Deep.add_add] at e0 e1
   exact⟨(x,y),by simpa using e0,by simpa using e1⟩
  obtain⟨q,hq⟩:=Deep.choose_lt each
  refine⟨_,_,_,q,rfl,?_,by unfold maxLen at hm;omega,(λe=>by cases e),by omega,by unfold maxLen at hm;omega⟩
  intro i hi
  obtain⟨b,off,spot⟩:=a
  have hspot:spot=none:=by simpa[Addr.add] using World.cell?_spot (hq 0 (by omega)).1
  subst hspot
  refine⟨b,off,rfl,?_⟩
  have:=hq i hi
  rw[add_plain,add_plain] at this
  exact this
end Go.Proofs.YtmgfaeineklccaaGreat
namespace Go.Proofs.YtmgfaeineklccaaGreat
open Go.RowKit Go.Lib
def hwF(k r:Int)(q:Fo)(n:Nat)(x:Nat->Nat):Nat->Cx:=if n%2=0 then fwF (exF k (n/2:Nat) r q (-1) (evC x)) (n/2) n else odF (exF k n r q (-1) (reF x))
def bwF(k r:Int)(q:Fo)(n:Nat)(h:Nat->Cx):Nat->Nat:=if n%2=0 then λi=>if i%2=0 then(overF ringR (exF k (n/2:Nat) r q 1 (prV (wholeC h n) (n/2) n)) (n/2:Nat) (i/2)).1 else(overF ringR (exF k (n/2:Nat) r q 1 (prV (wholeC h n) (n/2) n)) (n/2:Nat) (i/2)).2 else λi=>(overF ringR (exF k n r q 1 (wholeC h n)) n i).1
theorem forwardF(k N r:Int)(q:Fo)(hq:q.count<=549755813888)(n:Nat)(n1:1<=n)(hn:n<=300)(hc:checkE k N r q (wantsI n)=0)(A:Option Addr)(c:Nat)(X:Option Addr)(cx:Nat)(x:Nat->Nat)(w:World)(hk:Kids w A 0 q)(hX:FsAt w X n x)(hf:noF x n=0):
  Calls Tryz.prog 29 #[plV k N r A q.len c,.slice X n cx] w λz w'=>∃g c',z=.returned (.tuple #[.slice (some ⟨g,0,none⟩) (n/2+1:Nat) c',.int .i64 0])/\n/2+1<=c'/\RowC w' g (n/2+1) (hwF k r q n x)/\(∀i,i<n/2+1->CG.FinC (hwF k r q n x i))/\Below w.heap.size w w':=by
 obtain⟨hN,-⟩:=check_eq hc
 have hall:=hX.all hf
 by_cases hp:n%2=0
 ·obtain⟨m,hm2⟩:∃m,n=2*m:=⟨n/2,by omega⟩
  have hw:wantsI (n:Int)=(m:Int):=by unfold wantsI;rw[if_neg (by omega),if_pos (by omega)];omega
  rw[hw] at hc hN
  subst hN
  have hz:∀i,i<m->CG.Sz (evC x i) CG.E890:=λi hi=>by
   obtain⟨u,hu,fu⟩:=hall (2*i) (by omega)
   obtain⟨v,hv,fv⟩:=hall (2*i+1) (by omega)
   exact CG.fin_nq (u:=u) (v:=v) (Prod.ext hu hv) fu fv
  have hb:=CG.W900_big
  have hg:guardE (evC x) m=0:=guardE_zero.2 λi hi=>CG.fits_of_sz (hz i hi) (by have:=CG.E16;grind)
  refine(Forward_even k r q m (exF k m r q) (planE_all (B:=300) (by decide) k r m q hc (by omega)) (by rw[<-hc];exact Check_any k m r q m hq) A c X n cx x w hk hX hm2 (by omega) (by omega) hg (noF_zero hf)).mono ?_
  rintro z w' ⟨g,rfl,-,-,hr,hb⟩
  have hs:=CG.plan_sz k r q m (by omega) (by omega) hc (evC x) hz (-1) (.inr rfl)
  have hfin:=CG.fw_fin (n:=n) (by omega) (by omega) (by omega) (A:=720000*CG.E890) (by have:=CG.E16;grind) (by have:=CG.E_oM;have:=CG.E16;grind) hs
  have e:n/2=m:=by omega
  have eh:hwF k r q n x=fwF (exF k m r q (-1) (evC x)) m n:=by unfold hwF;rw[if_pos hp,e]
  rw[e,eh]
  exact⟨g,m+1,rfl,Nat.le_refl _,hr,hfin,hb⟩
 ·have hp:n%2=1:=by omega
  have hw:wantsI (n:Int)=(n:Int):=by unfold wantsI;rw[if_neg (by omega),if_neg (by omega)]
  rw[hw] at hc hN
  subst hN
  have hz:∀i,i<n->CG.Sz (reF x i) CG.E890:=λi hi=>by
   obtain⟨u,hu,fu⟩:=hall i hi
   exact CG.fin_nq (u:=u) (v:=0) (Prod.ext hu nz_zero7) fu fits0
  have hb:=CG.W900_big
  have hg:guardE (reF x) n=0:=guardE_zero.2 λi hi=>CG.fits_of_sz (hz i hi) (by have:=CG.E16;grind)
  refine(Forward_odd k r q n (exF k n r q) (planE_all (B:=300) (by decide) k r n q hc (by omega)) (by rw[<-hc];exact Check_any k n r q n hq) A c X cx x w hk hX hp (by omega) hg (noF_zero hf)).mono ?_
  rintro z w' ⟨g,c',rfl,hcc,-,-,hr,hb⟩
  have hs:=CG.plan_sz k r q n (by omega) (by omega) hc (reF x) hz (-1) (.inr rfl)
  have eh:hwF k r q n x=odF (exF k n r q (-1) (reF x)):=by unfold hwF;rw[if_neg (by omega)]
  rw[eh]
  refine⟨g,c',rfl,hcc,hr,λi hi=>?_,hb⟩
  unfold odF updT
  split
  ·exact(hs 0 (by omega)).1.re
  ·exact(hs i (by omega)).1
theorem nz_fin_eq{u:Nat}(h:Fl.Fnt (nz u)):nz u=u:=by
 unfold nz at h|-
 split at h
 ·exact absurd h (by decide)
 ·rename_i k;rw[if_neg k]
def WdA(w:World)(A:Option Addr)(n:Nat)(f:Nat->Nat):Prop:=∀i,i<n->∃b o,A=some ⟨b,o,none⟩/\w.cell? ⟨b,o+i,none⟩=some (.float .f64 (f i))/\Fl.Fnt (f i)
theorem WdA.keep{W w1:World}{A:Option Addr}{n:Nat}{f:Nat->Nat}(hb:Below W.heap.size W w1)(h:WdA W A n f):WdA w1 A n f:=λi hi=>by
 obtain⟨b,o,e,h1,h3⟩:=h i hi
 exact⟨b,o,e,keep_cell hb h1,h3⟩
theorem OwnL.wd{w:World}{base:Nat}{v:Value}{L:List Wd}(h:OwnL w base v L){f:Nat->Nat}(hf:∀i,i<L.length->nz (L.getD i 0)=f i)(hF:∀i,i<L.length->Fl.Fnt (f i)):∃A c,v=.slice A L.length c/\WdA w A L.length f:=by
 obtain⟨A5,c5,rfl,hc,-⟩:=owns_cells h
 refine⟨_,_,rfl,λi hi=>?_⟩
 obtain⟨b,o,e,hx⟩:=hc i (.float .f64 ((L[i]:Wd):Nat)) (by unfold fltV;simp[hi])
 have h1:=hf i hi
 have h2:=hF i hi
 rw[List.getD_eq_getElem?_getD,List.getElem?_eq_getElem hi] at h1
 rw[<-h1] at h2
 have h3:=nz_fin_eq h2
 have h1:nz (L[i]:Wd)=f i:=h1
 rw[show nz (L[i]:Wd)=((L[i]:Wd):Nat) from h3] at h1
 exact⟨b,o,e,by rw[<-h1];exact hx,hF i hi⟩
theorem backwardF(k N r:Int)(q:Fo)(hq:q.count<=549755813888)(n l:Nat)(n1:1<=n)(hn:n<=300)(hl:l=n/2+1)(hc:checkE k N r q (wantsI n)=0)(A:Option Addr)(c:Nat)(X:Option Addr)(cx:Nat)(h:Nat->Cx)(w:World)(hk:Kids w A 0 q)(hX:CsAt w X l h):
  Calls Tryz.prog 31 #[plV k N r A q.len c,.slice X l cx,.int .i64 n] w λz w'=>∃Aa ca,z=.returned (.tuple #[.slice Aa (if noC h l=0 then n else 0:Nat) ca,.int .i64 (noC h l)])/\WdA w' Aa (if noC h l=0 then n else 0) (bwF k r q n h)/\Below w.heap.size w w':=by
 obtain⟨hN,-⟩:=check_eq hc
 by_cases hf:noC h l=0
 ·rw[if_pos hf]
  have hall:=hX.all hf
  have hwz:=CG.whole_sz hl n1 hall
  by_cases hp:n%2=0
  ·obtain⟨m,hm2⟩:∃m,n=2*m:=⟨n/2,by omega⟩
   have hw:wantsI (n:Int)=(m:Int):=by unfold wantsI;rw[if_neg (by omega),if_pos (by omega)];omega
   rw[hw] at hc hN
   subst hN
   have hz:∀i,i<m->CG.Sz (prV (wholeC h n) m n i) (8100*CG.E890):=λi hi=>
    CG.pr_sz (n:=n) (by omega) (by omega) CG.E16 (by have:=CG.E_oM;have:=CG.E16;grind) (hwz i (by omega)) (hwz (i+m) (by omega))
   have hb:=CG.W900_big
   have hg:guardE (prV (wholeC h n) m n) m=0:=guardE_zero.2 λi hi=>CG.fits_of_sz (hz i hi) (by have:=CG.E16;grind)
   refine(Backward_even k r q m (exF k m r q) (planE_all (B:=300) (by decide) k r m q hc (by omega)) (by rw[<-hc];exact Check_any k m r q m hq) A c X l n cx h w hk hX hl hm2 (by omega) (by omega) hg (noC_zero hf)).mono ?_
   rintro z w' ⟨v,L,rfl,ho,hL,hr,hb⟩
   have hs:=CG.plan_finite k r q m (by omega) (by omega) hc (prV (wholeC h n) m n) (λi hi=>⟨(hz i hi).1,Std.IsPreorder.le_trans _ _ _ (hz i hi).2 (Std.IsPreorder.le_trans _ _ _ (by have:=CG.E16;grind) CG.E_fin)⟩) 1 (.inl rfl)
   have hfin:=inv_fin (by omega) (by omega) hs.1 hs.2
   have e:n/2=m:=by omega
   have eb:∀i,bwF k r q n h i=if i%2=0 then(overF ringR (exF k m r q 1 (prV (wholeC h n) m n)) m (i/2)).1 else(overF ringR (exF k m r q 1 (prV (wholeC h n) m n)) m (i/2)).2:=λi=>by unfold bwF;rw[if_pos hp,e]
   obtain⟨Aa,ca,rfl,hwd⟩:=ho.wd (f:=bwF k r q n h) (λi hi=>by
    rw[eb]
    obtain⟨a1,a2⟩:=hr (i/2) (by omega)
    by_cases hi2:i%2=0
    ·rw[if_pos hi2,<-a1,show 2*(i/2)=i by omega]
    ·rw[if_neg hi2,<-a2,show 2*(i/2)+1=i by omega]) (λi hi=>by
    rw[eb]
    have:=hfin (i/2) (by omega)
    split
    ·exact this.1
    ·exact this.2)
   rw[hL] at hwd|-
   exact⟨Aa,ca,by rw[hf],hwd,hb⟩
  ·have hp:n%2=1:=by omega
   have hw:wantsI (n:Int)=(n:Int):=by unfold wantsI;rw[if_neg (by omega),if_neg (by omega)]
   rw[hw] at hc hN
   subst hN
   have hb:=CG.W900_big
   have hg:guardE (wholeC h n) n=0:=guardE_zero.2 λi hi=>CG.fits_of_sz (hwz i hi) (by have:=CG.E16;grind)
   refine(Backward_odd k r q n (exF k n r q) (planE_all (B:=300) (by decide) k r n q hc (by omega)) (by rw[<-hc];exact Check_any k n r q n hq) A c X l cx h w hk hX hl hp (by omega) hg (noC_zero hf)).mono ?_
   rintro z w' ⟨v,L,rfl,ho,hL,hr,hb⟩
   have hs:=CG.plan_finite k r q n (by omega) (by omega) hc (wholeC h n) (λi hi=>⟨(hwz i hi).1,Std.IsPreorder.le_trans _ _ _ (hwz i hi).2 (Std.IsPreorder.le_trans _ _ _ (by have:=CG.E16;grind) CG.E_fin)⟩) 1 (.inl rfl)
   have hfin:=inv_fin (by omega) (by omega) hs.1 hs.2
   have eb:∀i,bwF k r q n h i=(overF ringR (exF k n r q 1 (wholeC h n)) n i).1:=λi=>by unfold bwF;rw[if_neg (by omega)]
   obtain⟨Aa,ca,rfl,hwd⟩:=ho.wd (f:=bwF k r q n h) (λi hi=>by rw[eb];exact hr i (by omega)) (λi hi=>by rw[eb];exact(hfin i (by omega)).1)
   rw[hL] at hwd|-
   exact⟨Aa,ca,by rw[hf],hwd,hb⟩
 ·rw[if_neg hf]
  have hm:hmayE n (checkE k N r q (wantsI n))=0:=by rw[hc];unfold hmayE;rw[if_neg (by omega)]
  have he:bwdE (checkE k N r q (wantsI n)) n l h=noC h l:=by
   unfold bwdE
   rw[if_neg (by rw[hm];decide),if_neg (by omega)]
  refine(Backward_bad k N r q _ A c X l cx n h w (Check_any k N r q _ hq) hk hX (by omega) (by rw[he];exact hf)).mono ?_
  rintro z w' ⟨rfl,hb⟩
  rw[he]
  exact⟨none,0,rfl,λi hi=>by omega,hb⟩
end Go.Proofs.YtmgfaeineklccaaGreat
