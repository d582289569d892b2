/- Guards: are all numbers within bounds? -/
import Derived.Test.YtfedabinindpbaaGreatX0
import Derived.Test.YtfedabinindpbaaGreatMQ3
import Derived.Test.YtfedabinindpbaaGreatMQ2
import Derived.Test.YtfedabinindpbaaGreatMC3
import Derived.Laws.BitsAllLaws
import Derived.Shelf.Abstract
set_option maxRecDepth 100000
set_option maxHeartbeats 2000000
set_option linter.unusedSimpArgs false
set_option linter.unusedVariables false
namespace Go.Proofs.YtfedabinindpbaaGreat
open Go.RowKit Go.Lib
@[go_sem] theorem run_storeFn{P:Program}(w:World)(a:Addr)(m:Mode)(f:Fn)(x y:Array Value):(store a (.func f x y) m).run P w=stored P w a (.func f x y) m:=run_store P w a _ m rfl
theorem run_bitsF(x:Nat)(w:World):(callFunc 33 #[.float .f64 x]).run Tryz.prog w=.ok (.value (.int .u64 x)) w:=by
 rw[run_callFunc_extern Tryz.func33 (by kernel_rfl) (by kernel_rfl) (by kernel_rfl) (e:=Extern.MathFloatBits.float64bits) (by kernel_rfl)];rfl
theorem run_fromF(n:Int)(w:World):(callFunc 7 #[.int .u64 n]).run Tryz.prog w=.ok (.value (.float .f64 n.toNat)) w:=by
 rw[run_callFunc_extern Tryz.func7 (by kernel_rfl) (by kernel_rfl) (by kernel_rfl) (e:=Extern.MathFloatBits.float64frombits) (by kernel_rfl)];rfl
theorem absF_word(x:Nat)(h:x<18446744073709551616):bits .andNot .u64 (x:Int) 9223372036854775808=((x%9223372036854775808:Nat):Int):=by
 have:=u64_andNot_nat x 9223372036854775808 (by omega) (by omega)
 rw[show((9223372036854775808:Nat):Int)=9223372036854775808 from rfl] at this
 rw[this,show(18446744073709551615-9223372036854775808:Nat)=2^63-1 from rfl,Nat.and_two_pow_sub_one_eq_mod]
theorem absF_any(x:Nat)(w:World)(hx:x<18446744073709551616):
  Calls Tryz.prog 67 #[.float .f64 x] w λz w'=>z=.returned (.float .f64 (x%9223372036854775808))/\w=w':=by
 have hbits:=run_bitsF
 have hfrom:=run_fromF
 have h1:=absF_word x hx
 obtain⟨y,hy⟩:∃y,y=x%9223372036854775808:=⟨_,rfl⟩
 rw[<-hy] at h1
 have HY:=aZ hy
 clear hy
 go_enter Tryz.func67,Tryz.ntmps67
 go_wp2
 go_ret
 refine⟨?_,rfl⟩
 rw[<-HY.out]
 rfl
def fitsB(lim x:Nat):Bool:=Ieee.double.order (x%9223372036854775808) lim==some .lt||Ieee.double.order (x%9223372036854775808) lim==some .eq
theorem isN_mod(x:Nat):isN (x%9223372036854775808)=isN x:=by
 have hs:Ieee.double.signWeight=9223372036854775808:=by decide
 unfold isN Ieee.Format.read
 dsimp only
 rw[hs,Nat.mod_mod]
 generalize x%9223372036854775808=r
 split
 ·rfl
 ·split
  ·rfl
  ·split<;>rfl
theorem fits_nan(lim x:Nat)(h:isN x=true):fitsB lim x=false:=by
 have h':(Ieee.double.read (x%9223372036854775808)).isNaN=true:=by rw[<-h,<-isN_mod x];rfl
 unfold fitsB Ieee.Format.order
 cases hd:Ieee.double.read (x%9223372036854775808) with
 |number a b c=>rw[hd] at h';cases h'
 |infinity a=>rw[hd] at h';cases h'
 |nan a b=>cases Ieee.double.read lim<;>rfl
theorem fits_nz(lim x:Nat):fitsB lim (nz x)=fitsB lim x:=by
 cases h:isN x
 ·rw[nz_of h]
 ·rw[fits_nan lim x h,nz_eq,h];exact fits_nan _ _ isN_nan
def W900:Nat:=8660422083433463808
def fitsC(lim:Nat)(c:Cx):Bool:=fitsB lim c.1&&fitsB lim c.2
theorem fitsC_nC(lim:Nat)(u:Rx):fitsC lim (nC u)=fitsC lim (u.1,u.2):=by unfold fitsC nC;simp only[fits_nz]
theorem guard1_any(x:Nat)(w:World)(hx:x<18446744073709551616):
  Calls Tryz.prog 109 #[.float .f64 x] w λz w'=>z=.returned (.bool (fitsB W900 x))/\w=w':=by
 have HX:=aZ hx
 clear hx
 go_enter Tryz.func109,Tryz.ntmps109
 go_wp2_with fail
 refine(absF_any x _ HX.out).mono ?_
 rintro z w' ⟨rfl,rfl⟩
 go_wp2
 go_ret
 exact⟨rfl,rfl⟩
def FnBox(w:World)(b:Nat)(f:FuncId):Prop:=w.cell? ⟨b,0,none⟩=some (.func (.func f) #[] #[])
theorem guard2_any(u:Rx)(b:Nat)(w:World)(h:FnBox w b 109):
  Calls Tryz.prog 110 #[cV u,.pointer (some ⟨b,0,none⟩)] w λz w'=>z=.returned (.bool (!fitsC W900 (nC u)))/\Below w.heap.size w w':=by
 have h:=h
 unfold FnBox at h
 rw[fitsC_nC]
 unfold fitsC
 have HG1:=aZ (λw=>guard1_any u.1 w u.1.isLt)
 have HG2:=aZ (λw=>guard1_any u.2 w u.2.isLt)
 have hlt:=World.block_lt_of_cell? _ _ h
 go_enter Tryz.func110,Tryz.ntmps110
 cases h1:fitsB W900 u.1
 ·rw[h1] at HG1
  go_wp2_with fail
  refine(HG1.out _).mono ?_
  rintro z w' ⟨rfl,rfl⟩
  go_wp2
  go_ret
  exact⟨rfl,(Below.refl _ _).alloc (Nat.le_refl _) _⟩
 ·rw[h1] at HG1
  go_wp2_with fail
  refine(HG1.out _).mono ?_
  rintro z w' ⟨rfl,rfl⟩
  go_wp2_with fail
  refine(HG2.out _).mono ?_
  rintro z w' ⟨rfl,rfl⟩
  go_wp2
  go_ret
  exact⟨by simp,(Below.refl _ _).alloc (Nat.le_refl _) _⟩
def idxI(p:Cx->Bool)(x:Nat->Cx):Nat->Int
 |0=>-1
 |n+1=>if idxI p x n=-1 then(if p (x n)=true then(n:Int) else-1) else idxI p x n
theorem idxI_at{p:Cx->Bool}{x:Nat->Cx}{k n:Nat}(hk:k<n)(h:idxI p x k=-1)(hp:p (x k)=true):idxI p x n=k:=by
 induction n with
 |zero=>omega
 |succ n ih=>
   unfold idxI
   by_cases e:k=n
   ·subst e;rw[if_pos h,if_pos hp]
   ·have:=ih (by omega)
    rw[this,if_neg (by omega)]
theorem idxI_next{p:Cx->Bool}{x:Nat->Cx}{k:Nat}(h:idxI p x k=-1)(hp:p (x k)=false):idxI p x (k+1)=-1:=by
 unfold idxI
 rw[if_pos h,if_neg (by rw[hp];decide)]
theorem idxI_no{p:Cx->Bool}{x:Nat->Cx}{n:Nat}:idxI p x n=-1↔∀i,i<n->p (x i)=false:=by
 induction n with
 |zero=>exact⟨λ_ i hi=>absurd hi (by omega),λ_=>rfl⟩
 |succ n ih=>
   unfold idxI
   by_cases h:idxI p x n=-1
   ·rw[if_pos h]
    constructor
    ·intro hh i hi
     by_cases e:i=n
     ·subst e
      cases hp:p (x i)
      ·rfl
      ·rw[hp,if_pos rfl] at hh;omega
     ·exact ih.1 h i (by omega)
    ·intro hh;rw[hh n (by omega)];rfl
   ·rw[if_neg h]
    exact⟨λhh=>absurd hh h,λhh=>absurd (ih.2 λi hi=>hh i (by omega)) h⟩
theorem idxI_ge(p:Cx->Bool)(x:Nat->Cx)(n:Nat):idxI p x n=-1\/0<=idxI p x n:=by
 induction n with
 |zero=>exact .inl rfl
 |succ n ih=>
   unfold idxI
   split
   ·split
    ·exact .inr (by omega)
    ·exact .inl rfl
   ·rcases ih with h|h
    ·contradiction
    ·exact .inr h
theorem IndexFuncC_any(f:FuncId)(b:Nat)(g:FuncId)(p:Cx->Bool)(hent:∀(args:Array Value) w,(callFunc f args).run Tryz.prog w=.ok (.enter f args) w)(hf:∀(u:Rx) w,FnBox w b g->Calls Tryz.prog f #[cV u,.pointer (some ⟨b,0,none⟩)] w λz w'=>z=.returned (.bool (p (nC u)))/\Below w.heap.size w w')(X:Option Addr)(n c:Nat)(x:Nat->Cx)(w:World)(hX:CsAt w X n x)(hn:n<=4398046511104)(hb:FnBox w b g):
  Calls Tryz.prog 97 #[.slice X n c,.func (.func f) #[] #[.pointer (some ⟨b,0,none⟩)]] w λz w'=>z=.returned (.int .i64 (idxI p x n))/\Below w.heap.size w w':=by
 have HF:=aZ hf
 have HX:=aZ hX
 have HB:=aZ hb
 clear hf hX hb
 go_enter Tryz.func97,Tryz.ntmps97
 go_wp2
 go_loopw [8] (λvi wr=>∃k:Nat,k<=n/\vi=.int .i64 k/\Hid (idxI p x k=-1)/\Hid (Below w.heap.size w wr)) (λvi _=>n-(intOf vi).toNat)
 case atStart=>exact⟨0,by omega,rfl,aZ rfl,aZ (Below.refl _ _)⟩
 case round=>
  obtain⟨k,hk,rfl,hi,hb⟩:=hrel
  by_cases hlt:k<n
  ·obtain⟨b',o,u,rfl,hc1,hc2,hu⟩:=HX.out.keep hb.out k hlt
   have HU:=aZ hu
   clear hu
   have hki:(k:Int)<n:=by omega
   go_wp2_with fail
   refine(HF.out u wr (by have:=HB.out;unfold FnBox at this|-;exact keep_cell hb.out this)).mono ?_
   rintro z w2 ⟨rfl,hb2⟩
   have HB2:=aZ (hb.out.trans (hb2.mono hb.out.size))
   clear hb2 hc1 hc2
   cases hp:p (nC u)
   ·have HI:Hid (idxI p x (k+1)=-1):=aZ (idxI_next hi.out (by rw[<-HU.out];exact hp))
    clear hp
    go_wp2
    exact⟨⟨k+1,by omega,by go_num,HI,HB2⟩,by simp[intOf];omega⟩
   ·have HI:Hid (idxI p x n=k):=aZ (idxI_at hlt hi.out (by rw[<-HU.out];exact hp))
    clear hp
    go_wp2
    go_ret
    exact⟨by rw[HI.out];rfl,HB2.out⟩
  ·obtain rfl:k=n:=by omega
   go_wp2
   go_ret
   exact⟨by rw[hi.out];rfl,hb.out⟩
def badC(lim:Nat)(c:Cx):Bool:=!fitsC lim c
theorem Guard_any(X:Option Addr)(n c:Nat)(x:Nat->Cx)(w:World)(hX:CsAt w X n x)(hn:n<=4398046511104):
  Calls Tryz.prog 78 #[.slice X n c] w λz w'=>(∃a:Int,z=.returned (.tuple #[.int .i64 a,.int .i64 (if idxI (badC W900) x n=-1 then 0 else 5)]))/\Below w.heap.size w w':=by
 obtain⟨er,her⟩:∃er:Int,(if idxI (badC W900) x n=-1 then 0 else 5)=er:=⟨_,rfl⟩
 rw[her]
 have HE:=aZ her
 have HX:=aZ hX
 clear hX her
 go_enter Tryz.func78,Tryz.ntmps78
 go_upto_region 2 with(fail)
 obtain⟨W,hW⟩:∃W,W=w.alloc (.cells #[.func (.func 109) #[] #[]] 30):=⟨_,rfl⟩
 have hb:Below w.heap.size w W:=by rw[hW];exact(Below.refl _ w).alloc (Nat.le_refl _) _
 have hF:FnBox W w.heap.size 109:=by unfold FnBox;rw[hW,World.cell?_alloc_new];rfl
 rw[<-hW]
 have HB:=aZ hb
 have HX2:=aZ (HX.out.keep hb)
 have HFB:=aZ hF
 clear hW hb hF HX
 go_wp2_with fail
 refine(IndexFuncC_any 110 w.heap.size 109 (badC W900) (λargs w=>enters_of Tryz.func110 (by kernel_rfl) rfl args w) (λu w h=>guard2_any u _ w h) X n c x W HX2.out hn HFB.out).mono ?_
 rintro z w2 ⟨rfl,hb2⟩
 have HB2:=aZ (HB.out.trans (hb2.mono HB.out.size))
 clear hb2
 rcases idxI_ge (badC W900) x n with h|h
 ·obtain rfl:er=0:=by rw[<-HE.out,if_pos h]
  rw[h]
  go_wp2
  go_ret2
  exact⟨⟨0,rfl⟩,HB2.out⟩
 ·obtain rfl:er=5:=by rw[<-HE.out,if_neg (by omega)]
  clear HE
  generalize idxI (badC W900) x n=i at*
  have h2:¬i<0:=by omega
  go_wp2
  go_ret2
  exact⟨⟨i,rfl⟩,HB2.out⟩
def mayE(e n:Int)(l:Nat)(s g:Int):Int:=if e≠0 then e else if 16384<n then 3 else if(l:Int)≠n then 4 else if s≠1/\s≠-1 then 6 else g
def guardE(x:Nat->Cx)(n:Nat):Int:=if idxI (badC W900) x n=-1 then 0 else 5
theorem guardE_zero{x:Nat->Cx}{n:Nat}:guardE x n=0↔∀i,i<n->fitsC W900 (x i)=true:=by
 unfold guardE
 constructor
 ·intro h i hi
  by_cases e:idxI (badC W900) x n=-1
  ·have:=idxI_no.1 e i hi
   unfold badC at this
   simpa using this
  ·rw[if_neg e] at h;omega
 ·intro h
  rw[if_pos (idxI_no.2 λi hi=>by unfold badC;rw[h i hi];rfl)]
theorem may_any(kind n r:Int)(q:Fo)(e:Int)(C:ChkC kind n r q n e)(A:Option Addr)(c:Nat)(X:Option Addr)(l cx:Nat)(x:Nat->Cx)(s:Int)(w:World)(hk:Kids w A 0 q)(hX:CsAt w X l x)(hl:l<=4398046511104):
  Calls Tryz.prog 44 #[plV kind n r A q.len c,.slice X l cx,.int .i64 s] w λz w'=>z=.returned (.int .i64 (mayE e n l s (guardE x l)))/\Below w.heap.size w w':=by
 have HC:=aZ C
 have HX:=aZ hX
 have hg:∀w1,CsAt w1 X l x->Calls Tryz.prog 78 #[.slice X l cx] w1 λz w'=>(∃a:Int,z=.returned (.tuple #[.int .i64 a,.int .i64 (guardE x l)]))/\Below w1.heap.size w1 w':=λw1 h=>Guard_any X l cx x w1 h hl
 generalize guardE x l=ge at*
 have HG:=aZ hg
 clear hg
 obtain⟨er,her⟩:∃er,er=mayE e n l s ge:=⟨_,rfl⟩
 rw[<-her]
 have HE:=aZ her
 obtain⟨W,hW⟩:∃W,W=w.alloc (.cells #[.int .i64 kind,.int .i64 n,.int .i64 r,.slice A q.len c] 46):=⟨_,rfl⟩
 have hb:Below w.heap.size w W:=by rw[hW];exact(Below.refl _ w).alloc (Nat.le_refl _) _
 obtain⟨p0,p1,p2,p3⟩:=PlBox.new w kind n r A q.len c 46
 rw[<-hW] at p0 p1 p2 p3
 have HB:=aZ hb
 have HK:=aZ (Kids.below hk hb)
 clear C hX her hb hk
 go_enter Tryz.func44,Tryz.ntmps44
 go_upto_region 1 with(fail)
 rw[<-hW]
 clear hW
 go_wp2_with fail
 refine(HC.out W A c HK.out).mono ?_
 rintro z w1 ⟨⟨a,rfl⟩,hb1⟩
 have p1':=keep_cell hb1 p1
 have HB1:=aZ (HB.out.trans (hb1.mono HB.out.size))
 have HX1:=aZ (HX.out.keep HB1.out)
 clear hb1 p0 p1 p2 p3
 by_cases he:e=0
 ·subst he
  by_cases h1:16384<n
  ·obtain rfl:er=3:=by rw[HE.out];unfold mayE;rw[if_neg (by omega),if_pos h1]
   clear HE
   go_wp2
   go_ret
   exact⟨rfl,HB1.out⟩
  ·by_cases h2:(l:Int)=n
   ·have h1':¬n>16384:=h1
    have h1'':n<=16384:=by omega
    by_cases h3:s=1\/s=-1
    ·obtain rfl:er=ge:=by rw[HE.out];unfold mayE;rw[if_neg (by omega),if_neg h1,if_neg (by omega),if_neg (by omega)]
     clear HE
     rcases h3 with rfl|rfl
     all_goals
      go_wp2_with fail
      refine(HG.out _ HX1.out).mono ?_
      rintro z w2 ⟨⟨a2,rfl⟩,hb2⟩
      have HB2:=aZ (HB1.out.trans (hb2.mono HB1.out.size))
      clear hb2
      go_wp2
      go_ret
      exact⟨rfl,HB2.out⟩
    ·have h4:¬s=1:=λe=>h3 (.inl e)
     have h5:¬s=-1:=λe=>h3 (.inr e)
     obtain rfl:er=6:=by rw[HE.out];unfold mayE;rw[if_neg (by omega),if_neg h1,if_neg (by omega),if_pos ⟨h4,h5⟩]
     have h6:(s != 1)=true:=by simpa using h4
     have h7:(s !=-1)=true:=by simpa using h5
     clear HE h3
     go_wp2
     go_ret
     exact⟨rfl,HB1.out⟩
   ·obtain rfl:er=4:=by rw[HE.out];unfold mayE;rw[if_neg (by omega),if_neg h1,if_pos h2]
    clear HE
    go_wp2
    go_ret
    exact⟨rfl,HB1.out⟩
 ·obtain rfl:er=e:=by rw[HE.out];unfold mayE;rw[if_pos he]
  clear HE
  go_wp2
  go_ret
  exact⟨rfl,HB1.out⟩
theorem Execute_bad(kind n r:Int)(q:Fo)(e:Int)(C:ChkC kind n r q n e)(A:Option Addr)(c:Nat)(X:Option Addr)(l cx:Nat)(x:Nat->Cx)(s:Int)(w:World)(hk:Kids w A 0 q)(hX:CsAt w X l x)(hl:l<=4398046511104)(hb:mayE e n l s (guardE x l)≠0):
  Calls Tryz.prog 19 #[plV kind n r A q.len c,.slice X l cx,.int .i64 s] w λz w'=>z=.returned (.tuple #[.slice none 0 0,.int .i64 (mayE e n l s (guardE x l))])/\Below w.heap.size w w':=by
 obtain⟨W,hW⟩:∃W,W=w.alloc (.cells #[.int .i64 kind,.int .i64 n,.int .i64 r,.slice A q.len c] 46):=⟨_,rfl⟩
 have hbb:Below w.heap.size w W:=by rw[hW];exact(Below.refl _ w).alloc (Nat.le_refl _) _
 have HM:=aZ (may_any kind n r q e C A c X l cx x s W (Kids.below hk hbb) (hX.keep hbb) hl)
 obtain⟨er,her⟩:∃er,er=mayE e n l s (guardE x l):=⟨_,rfl⟩
 rw[<-her] at hb HM|-
 have HB:=aZ hbb
 have h1:(er==0)=false:=by simpa using hb
 have h2:(er != 0)=true:=by simpa using hb
 clear hbb C hk hX her
 go_enter Tryz.func19,Tryz.ntmps19
 go_upto_region 1 with(fail)
 rw[<-hW]
 obtain⟨p0,p1,p2,p3⟩:=PlBox.new w kind n r A q.len c 46
 rw[<-hW] at p0 p1 p2 p3
 clear hW
 go_wp2_with fail
 refine HM.out.mono ?_
 rintro z w1 ⟨rfl,hb1⟩
 have HB1:=aZ (HB.out.trans (hb1.mono HB.out.size))
 clear hb1 p0 p1 p2 p3
 go_wp2
 go_ret2
 exact⟨rfl,HB1.out⟩
def PlanE(kind r:Int)(q:Fo)(N:Nat)(F:Tr Cx):Prop:=∀m:Nat,PlanX (XM m) (ringC m) kind N r q N F
theorem fresh_below{w w1 w2:World}{m:Nat}(hb:Below w.heap.size w w1)(hm:w.heap.size<=m)(k:(XM m).On w1 w2):Below w.heap.size w w2:=
 ⟨k.fr.1.os.trans hb.os,k.fr.1.tape.trans hb.tape,k.fr.1.output.trans hb.output,Nat.le_trans hb.size k.fr.1.size,λx hx=>(k.fr.1.block x (Nat.lt_of_lt_of_le hx hb.size) (by omega)).trans (hb.block x hx)⟩
theorem Execute_ok(kind r:Int)(q:Fo)(N:Nat)(F:Tr Cx)(P:PlanE kind r q N F)(C:ChkC kind N r q N 0)(A:Option Addr)(c:Nat)(X:Option Addr)(cx:Nat)(x:Nat->Cx)(s:Int)(w:World)(hk:Kids w A 0 q)(hX:CsAt w X N x)(hN:N<=16384)(hs:s=1\/s=-1)(hg:guardE x N=0):
  Calls Tryz.prog 19 #[plV kind N r A q.len c,.slice X N cx,.int .i64 s] w λz w'=>∃g,z=.returned (.tuple #[.slice (some ⟨g,0,none⟩) N N,.int .i64 0])/\w.heap.size<=g/\g<w'.heap.size/\RowC w' g N (F s x)/\Below w.heap.size w w':=by
 obtain⟨W,hW⟩:∃W,W=w.alloc (.cells #[.int .i64 kind,.int .i64 N,.int .i64 r,.slice A q.len c] 46):=⟨_,rfl⟩
 have hbb:Below w.heap.size w W:=by rw[hW];exact(Below.refl _ w).alloc (Nat.le_refl _) _
 have hm:=may_any kind N r q 0 C A c X N cx x s W (Kids.below hk hbb) (hX.keep hbb) (by omega)
 rw[show mayE 0 N N s (guardE x N)=0 by rw[hg];unfold mayE;rw[if_neg (by omega),if_neg (by omega),if_neg (by omega),if_neg (by omega)]] at hm
 have HM:=aZ hm
 have HB:=aZ hbb
 have HC:=aZ C
 have HP:=aZ P
 have HK:=aZ hk
 have HX:=aZ hX
 have HS:=aZ hs
 clear hbb C hk hX hm P hs hg
 go_enter Tryz.func19,Tryz.ntmps19
 go_upto_region 1 with(fail)
 rw[<-hW]
 obtain⟨p0,p1,p2,p3⟩:=PlBox.new w kind N r A q.len c 46
 rw[<-hW] at p0 p1 p2 p3
 clear hW
 go_wp2_with fail
 refine HM.out.mono ?_
 rintro z w1 ⟨rfl,hb1⟩
 have q0:=keep_cell hb1 p0
 have q1:=keep_cell hb1 p1
 have q2:=keep_cell hb1 p2
 have q3:=keep_cell hb1 p3
 have HB1:=aZ (HB.out.trans (hb1.mono HB.out.size))
 clear hb1 p0 p1 p2 p3
 obtain⟨W2,hW2⟩:∃W2,W2=w1.alloc (.map #[] 0):=⟨_,rfl⟩
 have hmm:(Instr.makeMap 91 none).run Tryz.prog w1=.ok (.map (some w1.heap.size)) W2:=by rw[hW2];simp[Instr.makeMap]
 have hb12:Below w1.heap.size w1 W2:=by rw[hW2];exact(Below.refl _ _).alloc (Nat.le_refl _) _
 have r0:=keep_cell hb12 q0
 have r1:=keep_cell hb12 q1
 have r2:=keep_cell hb12 q2
 have r3:=keep_cell hb12 q3
 have hst:(XM w1.heap.size).St W2:=by rw[hW2];exact XM_new w1
 have HST:=aZ hst
 have HB2':=aZ (HB1.out.trans (hb12.mono HB1.out.size))
 clear hW2 hb12 q0 q1 q2 q3 hst
 go_wp2_with fail
 have hb2:=HB2'.out
 refine(RunC_r (ringC_ok w1.heap.size) kind r q N F (HP.out _) HC.out s HS.out _ A c X cx x (Kids.below HK.out hb2) (HX.out.keep hb2) HST.out).mono ?_
 rintro z w2 ⟨g,rfl,hg,ho,hon⟩
 have HG:Hid (w.heap.size<=g/\g<w2.heap.size):=aZ ⟨by have:=hb2.size;omega,ho.lt⟩
 have HR:=aZ ho.row
 have HB2:=aZ (fresh_below hb2 HB1.out.size hon)
 clear hb2 hg ho hon r0 r1 r2 r3
 go_wp2
 go_ret2
 exact⟨g,rfl,HG.out.1,HG.out.2,HR.out,HB2.out⟩
end Go.Proofs.YtfedabinindpbaaGreat
