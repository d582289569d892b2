/- What operations on floats give where every NaN is made one: plain functions of the operands. -/
import Derived.Test.YtfedabinindpbaaGreatMQ1
import Derived.Test.YtfedabinindpbaaGreatX0
import Derived.Test.YtfedabinindpbaaGreatTV
import Derived.Deep.Draws
import Derived.MapKept
set_option linter.unusedSimpArgs false
set_option linter.unusedVariables false
set_option maxRecDepth 100000
set_option maxHeartbeats 1000000
namespace Go.Proofs.YtfedabinindpbaaGreat
open Go.RowKit Go.Lib
def isN(x:Nat):Bool:=(Ieee.double.read x).isNaN
theorem nz_eq(x:Nat):nz x=if isN x then 9221120237041090560 else x:=rfl
theorem isN_nan:isN 9221120237041090560=true:=by decide
theorem read_word(neg:Bool)(r:Nat)(h:r<9223372036854775808):Ieee.double.read (Ieee.double.word neg r)=Ieee.double.read (if neg then 9223372036854775808+r else r):=by
 unfold Ieee.Format.word;rfl
theorem isN_word(neg:Bool)(r:Nat)(h:r<=9218868437227405312):isN (Ieee.double.word neg r)=false:=by
 have hs:Ieee.double.signWeight=9223372036854775808:=by decide
 have hi:Ieee.double.infRung=9218868437227405312:=by decide
 have hm:Ieee.double.word neg r%Ieee.double.signWeight=r:=by
  unfold Ieee.Format.word
  rw[hs]
  cases neg
  ·show r%9223372036854775808=r
   exact Nat.mod_eq_of_lt (by omega)
  ·show(9223372036854775808+r)%9223372036854775808=r
   omega
 unfold isN Ieee.Format.read
 dsimp only
 rw[hm,hi]
 by_cases h1:r<Ieee.double.binade
 ·rw[if_pos h1];rfl
 ·rw[if_neg h1]
  by_cases h2:r<9218868437227405312
  ·rw[if_pos h2];rfl
  ·rw[if_neg h2,if_pos (by omega)];rfl
theorem isN_write(d:Ieee.Datum)(h:d.isNaN=false):isN (Ieee.double.write d)=false:=by
 cases d with
 |number neg m p=>
   show isN (Ieee.double.nearest neg m p)=false
   unfold Ieee.Format.nearest
   by_cases h0:m=0
   ·rw[if_pos h0];exact isN_word _ _ (by omega)
   ·rw[if_neg h0]
    dsimp only
    refine isN_word _ _ ?_
    have hi:Ieee.double.infRung=9218868437227405312:=by decide
    rw[hi]
    exact Nat.min_le_right _ _
 |infinity neg=>exact isN_word _ _ (by decide)
 |nan neg f=>cases h
structure GoodF(f:Nat->Nat->Option Nat):Prop where
 l:∀x y,isN x=true->f x y=none
 r:∀x y,isN y=true->f x y=none
 out:∀x y z,f x y=some z->isN z=false
 lt:∀x y z,f x y=some z->z<18446744073709551616
theorem sum_nan(a b:Ieee.Datum):(a.isNaN=true->a.sum b=none)/\(b.isNaN=true->a.sum b=none)/\∀d,a.sum b=some d->d.isNaN=false:=by
 refine⟨λh=>?_,λh=>?_,λd h=>?_⟩
 ·cases a<;>cases b<;>first|cases h;done|rfl
 ·cases a<;>cases b<;>first|cases h;done|rfl
 ·cases a<;>cases b<;>simp only[Ieee.Datum.sum] at h<;>first|(cases h;done)|skip
  all_goals first|(split at h<;>first|(cases h;done)|(cases h;rfl))|(cases h;rfl)
theorem prod_nan(a b:Ieee.Datum):(a.isNaN=true->a.product b=none)/\(b.isNaN=true->a.product b=none)/\∀d,a.product b=some d->d.isNaN=false:=by
 refine⟨λh=>?_,λh=>?_,λd h=>?_⟩
 ·cases a<;>cases b<;>first|cases h;done|rfl
 ·cases a<;>cases b<;>first|cases h;done|rfl
 ·cases a<;>cases b<;>simp only[Ieee.Datum.product] at h<;>first|(cases h;done)|skip
  all_goals first|(split at h<;>first|(cases h;done)|(cases h;rfl))|(cases h;rfl)
theorem quo_nan(n:Nat)(a b:Ieee.Datum):(a.isNaN=true->a.quotient n b=none)/\(b.isNaN=true->a.quotient n b=none)/\∀d,a.quotient n b=some d->d.isNaN=false:=by
 refine⟨λh=>?_,λh=>?_,λd h=>?_⟩
 ·cases a<;>cases b<;>first|cases h;done|rfl
 ·cases a<;>cases b<;>first|cases h;done|rfl
 ·cases a<;>cases b<;>simp only[Ieee.Datum.quotient] at h<;>first|(cases h;done)|skip
  all_goals first|(split at h<;>first|(split at h<;>first|(cases h;done)|(cases h;rfl))|(cases h;rfl))|(cases h;rfl)
theorem opp_nan(a:Ieee.Datum):a.opposite.isNaN=a.isNaN:=by cases a<;>rfl
theorem map_out{o:Option Ieee.Datum}{z:Nat}(h:o.map Ieee.double.write=some z)(H:∀d,o=some d->d.isNaN=false):isN z=false:=by
 cases o with
 |none=>cases h
 |some d=>cases h;exact isN_write d (H d rfl)
theorem good_add:GoodF Ieee.double.add where
 l x y h:=by unfold Ieee.Format.add;rw[(sum_nan _ _).1 h];rfl
 r x y h:=by unfold Ieee.Format.add;rw[(sum_nan _ _).2.1 h];rfl
 out x y z h:=map_out h (sum_nan _ _).2.2
 lt x y z h:=Ieee.double.add_lt h
theorem good_sub:GoodF Ieee.double.sub where
 l x y h:=by unfold Ieee.Format.sub;rw[(sum_nan _ _).1 h];rfl
 r x y h:=by unfold Ieee.Format.sub;rw[(sum_nan _ _).2.1 (by rw[opp_nan];exact h)];rfl
 out x y z h:=map_out h (sum_nan _ _).2.2
 lt x y z h:=Ieee.double.sub_lt h
theorem good_mul:GoodF Ieee.double.mul where
 l x y h:=by unfold Ieee.Format.mul;rw[(prod_nan _ _).1 h];rfl
 r x y h:=by unfold Ieee.Format.mul;rw[(prod_nan _ _).2.1 h];rfl
 out x y z h:=map_out h (prod_nan _ _).2.2
 lt x y z h:=Ieee.double.mul_lt h
theorem good_div:GoodF Ieee.double.div where
 l x y h:=by unfold Ieee.Format.div;rw[(quo_nan _ _ _).1 h];rfl
 r x y h:=by unfold Ieee.Format.div;rw[(quo_nan _ _ _).2.1 h];rfl
 out x y z h:=map_out h (quo_nan _ _ _).2.2
 lt x y z h:=Ieee.double.div_lt h
def fN(f:Nat->Nat->Option Nat)(x y:Nat):Nat:=(f x y).getD 9221120237041090560
def fres(f:Nat->Nat->Option Nat)(x y:Nat)(w:World):Nat:=match f x y with
 |some r=>r
 |none=>(Question.nanBits .f64 x y).cut (w.tape w.drawn (.nanBits .f64 x y))
def fk(f:Nat->Nat->Option Nat)(x y:Nat):Nat:=match f x y with
 |some _=>0
 |none=>1
theorem isN_big(x:Nat)(h:9218868437227405312<x%9223372036854775808):isN x=true:=by
 have hs:Ieee.double.signWeight=9223372036854775808:=by decide
 have hi:Ieee.double.infRung=9218868437227405312:=by decide
 have hb:Ieee.double.binade=4503599627370496:=by decide
 unfold isN Ieee.Format.read
 dsimp only
 rw[hs,hi,hb]
 generalize x%9223372036854775808=r at*
 rw[if_neg (by omega),if_neg (by omega),if_neg (by omega)]
 rfl
theorem isN_cut(x y t:Nat):isN ((Question.nanBits .f64 x y).cut t)=true:=by
 have e:(Question.nanBits .f64 x y).cut t=(t%2)*9223372036854775808+9218868437227405312+1+(t/2)%4503599627370495:=rfl
 rw[e]
 have h1:t%2<2:=Nat.mod_lt _ (by decide)
 have h2:(t/2)%4503599627370495<4503599627370495:=Nat.mod_lt _ (by decide)
 generalize t%2=a at*
 generalize (t/2)%4503599627370495=c at*
 exact isN_big _ (by omega)
theorem nz_fres{f:Nat->Nat->Option Nat}(hf:GoodF f)(x y:Nat)(w:World):nz (fres f x y w)=fN f (nz x) (nz y):=by
 cases h:f x y with
 |some r=>
   have hx:isN x=false:=by cases e:isN x;rfl;rw[hf.l x y e] at h;cases h
   have hy:isN y=false:=by cases e:isN y;rfl;rw[hf.r x y e] at h;cases h
   unfold fres fN
   rw[h,nz_eq x,nz_eq y,hx,hy]
   simp only[Bool.false_eq_true,if_false]
   rw[h,nz_eq,hf.out x y r h]
   rfl
 |none=>
   have hc:nz (fres f x y w)=9221120237041090560:=by
    unfold fres
    rw[h,nz_eq,isN_cut]
    rfl
   have hn:f (nz x) (nz y)=none:=by
    cases ex:isN x
    ·cases ey:isN y
     ·rw[nz_eq,nz_eq,ex,ey];exact h
     ·exact hf.r _ _ (by rw[nz_eq y,ey];exact isN_nan)
    ·exact hf.l _ _ (by rw[nz_eq x,ex];exact isN_nan)
   rw[hc]
   unfold fN
   rw[hn]
   rfl
theorem fres_lt{f:Nat->Nat->Option Nat}(hf:GoodF f)(x y:Nat)(w:World):fres f x y w<18446744073709551616:=by
 cases h:f x y with
 |some r=>unfold fres;rw[h];exact hf.lt x y r h
 |none=>
   unfold fres
   rw[h]
   show(w.tape w.drawn _%2)*9223372036854775808+9218868437227405312+1+(w.tape w.drawn _/2)%4503599627370495<_
   omega
theorem nz_of{x:Nat}(h:isN x=false):nz x=x:=by rw[nz_eq,h];rfl
theorem nz_nz(x:Nat):nz (nz x)=nz x:=by
 cases e:isN x
 ·rw[nz_of e,nz_of e]
 ·rw[nz_eq x,e];rfl
section
variable {P : Program}
theorem run_faddN(t:TypeId)(x y:Nat)(w:World):(binOp .add t (.float .f64 x) (.float .f64 y)).run P w=.ok (.float .f64 (fres Ieee.double.add x y w)) (w.drewN (fk Ieee.double.add x y)):=by
 cases h:Ieee.double.add x y<;>(have h':FloatKind.f64.format.add x y=_:=h;simp[binOp,Op.floatArith,h',h,fres,fk,Question.forced];try rfl)
theorem run_fsubN(t:TypeId)(x y:Nat)(w:World):(binOp .sub t (.float .f64 x) (.float .f64 y)).run P w=.ok (.float .f64 (fres Ieee.double.sub x y w)) (w.drewN (fk Ieee.double.sub x y)):=by
 cases h:Ieee.double.sub x y<;>(have h':FloatKind.f64.format.sub x y=_:=h;simp[binOp,Op.floatArith,h',h,fres,fk,Question.forced];try rfl)
theorem run_fmulN(t:TypeId)(x y:Nat)(w:World):(binOp .mul t (.float .f64 x) (.float .f64 y)).run P w=.ok (.float .f64 (fres Ieee.double.mul x y w)) (w.drewN (fk Ieee.double.mul x y)):=by
 cases h:Ieee.double.mul x y<;>(have h':FloatKind.f64.format.mul x y=_:=h;simp[binOp,Op.floatArith,h',h,fres,fk,Question.forced];try rfl)
theorem run_fquoN(t:TypeId)(x y:Nat)(w:World):(binOp .quo t (.float .f64 x) (.float .f64 y)).run P w=.ok (.float .f64 (fres Ieee.double.div x y w)) (w.drewN (fk Ieee.double.div x y)):=by
 cases h:Ieee.double.div x y<;>(have h':FloatKind.f64.format.div x y=_:=h;simp[binOp,Op.floatArith,h',h,fres,fk,Question.forced];try rfl)
end
def fA(x y:Nat):Nat:=fN Ieee.double.add x y
def fS(x y:Nat):Nat:=fN Ieee.double.sub x y
def fM(x y:Nat):Nat:=fN Ieee.double.mul x y
def fD(x y:Nat):Nat:=fN Ieee.double.div x y
def cadd(a b:Cx):Cx:=(fA a.1 b.1,fA a.2 b.2)
def csub(a b:Cx):Cx:=(fS a.1 b.1,fS a.2 b.2)
def cmul(a b:Cx):Cx:=(fS (fM a.1 b.1) (fM a.2 b.2),fA (fM a.1 b.2) (fM a.2 b.1))
def cover(a:Cx)(n:Int):Cx:=(fD a.1 (nz (floatOfInt .f64 n)),fD a.2 (nz (floatOfInt .f64 n)))
theorem addC_any(a b:Rx)(w:World):Calls Tryz.prog 90 #[cV a,cV b] w λz w'=>(∃r,z=.returned (cV r)/\nC r=cadd (nC a) (nC b))/\Below w.heap.size w w':=by
 have h1:=@run_faddN Tryz.prog
 have h2:=@run_fsubN Tryz.prog
 have h3:=@run_fmulN Tryz.prog
 have h4:=@run_fquoN Tryz.prog
 go_enter Tryz.func90,Tryz.ntmps90
 go_wp2
 generalize e0:fres Ieee.double.add a.1 b.1 _=q0
 generalize e1:fres Ieee.double.add a.2 b.2 _=q1
 have n0:nz q0=fN Ieee.double.add (nz a.1) (nz b.1):=by rw[<-e0];exact nz_fres good_add _ _ _
 have l0:q0<18446744073709551616:=by rw[<-e0];exact fres_lt good_add _ _ _
 have n1:nz q1=fN Ieee.double.add (nz a.2) (nz b.2):=by rw[<-e1];exact nz_fres good_add _ _ _
 have l1:q1<18446744073709551616:=by rw[<-e1];exact fres_lt good_add _ _ _
 clear e0 e1
 exact bodyPost_ret (v:=cV (⟨q0,l0⟩,⟨q1,l1⟩)) (by simp[results,Tryz.results90,go_sem]) rfl ⟨⟨(⟨q0,l0⟩,⟨q1,l1⟩),rfl,by simp only[nC,cadd,fA,fS,fM,fD,n0,n1]⟩,((below_drewN ((((Below.refl _ w).alloc (Nat.le_refl _) _).alloc (by simp) _).alloc (by simp;omega) _) _).setCell (p:=⟨_,_,_⟩) (by show w.heap.size<=w.heap.size+1+1;omega) _).setCell (p:=⟨_,_,_⟩) (by show w.heap.size<=w.heap.size+1+1;omega) _⟩
theorem subC_any(a b:Rx)(w:World):Calls Tryz.prog 91 #[cV a,cV b] w λz w'=>(∃r,z=.returned (cV r)/\nC r=csub (nC a) (nC b))/\Below w.heap.size w w':=by
 have h1:=@run_faddN Tryz.prog
 have h2:=@run_fsubN Tryz.prog
 have h3:=@run_fmulN Tryz.prog
 have h4:=@run_fquoN Tryz.prog
 go_enter Tryz.func91,Tryz.ntmps91
 go_wp2
 generalize e0:fres Ieee.double.sub a.1 b.1 _=q0
 generalize e1:fres Ieee.double.sub a.2 b.2 _=q1
 have n0:nz q0=fN Ieee.double.sub (nz a.1) (nz b.1):=by rw[<-e0];exact nz_fres good_sub _ _ _
 have l0:q0<18446744073709551616:=by rw[<-e0];exact fres_lt good_sub _ _ _
 have n1:nz q1=fN Ieee.double.sub (nz a.2) (nz b.2):=by rw[<-e1];exact nz_fres good_sub _ _ _
 have l1:q1<18446744073709551616:=by rw[<-e1];exact fres_lt good_sub _ _ _
 clear e0 e1
 exact bodyPost_ret (v:=cV (⟨q0,l0⟩,⟨q1,l1⟩)) (by simp[results,Tryz.results91,go_sem]) rfl ⟨⟨(⟨q0,l0⟩,⟨q1,l1⟩),rfl,by simp only[nC,csub,fA,fS,fM,fD,n0,n1]⟩,((below_drewN ((((Below.refl _ w).alloc (Nat.le_refl _) _).alloc (by simp) _).alloc (by simp;omega) _) _).setCell (p:=⟨_,_,_⟩) (by show w.heap.size<=w.heap.size+1+1;omega) _).setCell (p:=⟨_,_,_⟩) (by show w.heap.size<=w.heap.size+1+1;omega) _⟩
theorem mulC_any(a b:Rx)(w:World):Calls Tryz.prog 93 #[cV a,cV b] w λz w'=>(∃r,z=.returned (cV r)/\nC r=cmul (nC a) (nC b))/\Below w.heap.size w w':=by
 have h1:=@run_faddN Tryz.prog
 have h2:=@run_fsubN Tryz.prog
 have h3:=@run_fmulN Tryz.prog
 have h4:=@run_fquoN Tryz.prog
 go_enter Tryz.func93,Tryz.ntmps93
 go_wp2
 generalize e0:fres Ieee.double.mul a.1 b.1 _=q0
 generalize e1:fres Ieee.double.mul a.2 b.2 _=q1
 generalize e2:fres Ieee.double.mul a.1 b.2 _=q2
 generalize e3:fres Ieee.double.mul a.2 b.1 _=q3
 generalize e4:fres Ieee.double.sub q0 q1 _=q4
 generalize e5:fres Ieee.double.add q2 q3 _=q5
 have n0:nz q0=fN Ieee.double.mul (nz a.1) (nz b.1):=by rw[<-e0];exact nz_fres good_mul _ _ _
 have l0:q0<18446744073709551616:=by rw[<-e0];exact fres_lt good_mul _ _ _
 have n1:nz q1=fN Ieee.double.mul (nz a.2) (nz b.2):=by rw[<-e1];exact nz_fres good_mul _ _ _
 have l1:q1<18446744073709551616:=by rw[<-e1];exact fres_lt good_mul _ _ _
 have n2:nz q2=fN Ieee.double.mul (nz a.1) (nz b.2):=by rw[<-e2];exact nz_fres good_mul _ _ _
 have l2:q2<18446744073709551616:=by rw[<-e2];exact fres_lt good_mul _ _ _
 have n3:nz q3=fN Ieee.double.mul (nz a.2) (nz b.1):=by rw[<-e3];exact nz_fres good_mul _ _ _
 have l3:q3<18446744073709551616:=by rw[<-e3];exact fres_lt good_mul _ _ _
 have n4:nz q4=fN Ieee.double.sub (nz q0) (nz q1):=by rw[<-e4];exact nz_fres good_sub _ _ _
 have l4:q4<18446744073709551616:=by rw[<-e4];exact fres_lt good_sub _ _ _
 have n5:nz q5=fN Ieee.double.add (nz q2) (nz q3):=by rw[<-e5];exact nz_fres good_add _ _ _
 have l5:q5<18446744073709551616:=by rw[<-e5];exact fres_lt good_add _ _ _
 clear e0 e1 e2 e3 e4 e5
 exact bodyPost_ret (v:=cV (⟨q4,l4⟩,⟨q5,l5⟩)) (by simp[results,Tryz.results93,go_sem]) rfl ⟨⟨(⟨q4,l4⟩,⟨q5,l5⟩),rfl,by simp only[nC,cmul,fA,fS,fM,fD,n5,n4,n3,n2,n1,n0]⟩,((below_drewN ((((Below.refl _ w).alloc (Nat.le_refl _) _).alloc (by simp) _).alloc (by simp;omega) _) _).setCell (p:=⟨_,_,_⟩) (by show w.heap.size<=w.heap.size+1+1;omega) _).setCell (p:=⟨_,_,_⟩) (by show w.heap.size<=w.heap.size+1+1;omega) _⟩
theorem box4(w:World)(m:Value)(a b:Rx)(t s:TypeId):∃W,W=(((w.alloc (.cells #[m] t)).alloc (.cells #[.float .f64 a.1,.float .f64 a.2] s)).alloc (.cells #[.float .f64 b.1,.float .f64 b.2] s)).alloc (.cells #[.float .f64 0,.float .f64 0] s)/\Below w.heap.size w W/\
  W.cell? ⟨w.heap.size+1,0,none⟩=some (.float .f64 a.1)/\W.cell? ⟨w.heap.size+1,1,none⟩=some (.float .f64 a.2)/\W.cell? ⟨w.heap.size+1+1,0,none⟩=some (.float .f64 b.1)/\W.cell? ⟨w.heap.size+1+1,1,none⟩=some (.float .f64 b.2)/\
  (W.cell? ⟨w.heap.size+1+1+1,0,none⟩=some (.float .f64 0)/\W.cell? ⟨w.heap.size+1+1+1,1,none⟩=some (.float .f64 0)/\W.frozen? ⟨w.heap.size+1+1+1,0,none⟩=false/\W.frozen? ⟨w.heap.size+1+1+1,1,none⟩=false)/\w.heap.size+1+1+1<W.heap.size:=
 ⟨_,rfl,(((((Below.refl _ w).alloc (Nat.le_refl _) _).alloc (by simp) _).alloc (by simp;omega) _).alloc (by simp;omega) _),by simp[go_sem],by simp[go_sem],by simp[go_sem],by simp[go_sem],⟨by simp[go_sem],by simp[go_sem],by simp[go_sem],by simp[go_sem]⟩,by simp⟩
theorem ringAdd_any(m:Nat)(a b:Rx)(w:World):Calls Tryz.prog 204 #[.agg #[.map (some m)],cV a,cV b] w λz w'=>(∃r,z=.returned (cV r)/\nC r=cadd (nC a) (nC b))/\Below w.heap.size w w':=by
 go_enter Tryz.func204,Tryz.ntmps204
 go_upto_region 1 with(fail)
 obtain⟨W,hW,hb,a0,a1,b0,b1,⟨r0,r1,f0,f1⟩,hz⟩:=box4 w (.map (some m)) a b 93 29
 rw[<-hW]
 have HB:=aZ hb
 clear hW hb
 go_wp2_with fail
 refine(addC_any a b W).mono ?_
 rintro z w1 ⟨⟨r,rfl,hr⟩,hb1⟩
 have g0:=keep_cell hb1 r0
 have g1:=keep_cell hb1 r1
 have g2:=keep_free hb1 hz f0
 have g3:=keep_free hb1 hz f1
 have HB1:=aZ (HB.out.trans (hb1.mono (by omega)))
 have HR:=aZ hr
 clear hb1 r0 r1 f0 f1 a0 a1 b0 b1 hr
 go_wp2
 exact bodyPost_ret (v:=cV r) (by simp[results,Tryz.results204,go_sem,g0,g1]) rfl ⟨⟨r,rfl,HR.out⟩,(HB1.out.setCell (p:=⟨_,_,_⟩) (by show w.heap.size<=w.heap.size+1+1+1;omega) _).setCell (p:=⟨_,_,_⟩) (by show w.heap.size<=w.heap.size+1+1+1;omega) _⟩
theorem ringMul_any(m:Nat)(a b:Rx)(w:World):Calls Tryz.prog 205 #[.agg #[.map (some m)],cV a,cV b] w λz w'=>(∃r,z=.returned (cV r)/\nC r=cmul (nC a) (nC b))/\Below w.heap.size w w':=by
 go_enter Tryz.func205,Tryz.ntmps205
 go_upto_region 1 with(fail)
 obtain⟨W,hW,hb,a0,a1,b0,b1,⟨r0,r1,f0,f1⟩,hz⟩:=box4 w (.map (some m)) a b 93 29
 rw[<-hW]
 have HB:=aZ hb
 clear hW hb
 go_wp2_with fail
 refine(mulC_any a b W).mono ?_
 rintro z w1 ⟨⟨r,rfl,hr⟩,hb1⟩
 have g0:=keep_cell hb1 r0
 have g1:=keep_cell hb1 r1
 have g2:=keep_free hb1 hz f0
 have g3:=keep_free hb1 hz f1
 have HB1:=aZ (HB.out.trans (hb1.mono (by omega)))
 have HR:=aZ hr
 clear hb1 r0 r1 f0 f1 a0 a1 b0 b1 hr
 go_wp2
 exact bodyPost_ret (v:=cV r) (by simp[results,Tryz.results205,go_sem,g0,g1]) rfl ⟨⟨r,rfl,HR.out⟩,(HB1.out.setCell (p:=⟨_,_,_⟩) (by show w.heap.size<=w.heap.size+1+1+1;omega) _).setCell (p:=⟨_,_,_⟩) (by show w.heap.size<=w.heap.size+1+1+1;omega) _⟩
theorem ringSub_any(m:Nat)(a b:Rx)(w:World):Calls Tryz.prog 208 #[.agg #[.map (some m)],cV a,cV b] w λz w'=>(∃r,z=.returned (cV r)/\nC r=csub (nC a) (nC b))/\Below w.heap.size w w':=by
 go_enter Tryz.func208,Tryz.ntmps208
 go_upto_region 1 with(fail)
 obtain⟨W,hW,hb,a0,a1,b0,b1,⟨r0,r1,f0,f1⟩,hz⟩:=box4 w (.map (some m)) a b 93 29
 rw[<-hW]
 have HB:=aZ hb
 clear hW hb
 go_wp2_with fail
 refine(subC_any a b W).mono ?_
 rintro z w1 ⟨⟨r,rfl,hr⟩,hb1⟩
 have g0:=keep_cell hb1 r0
 have g1:=keep_cell hb1 r1
 have g2:=keep_free hb1 hz f0
 have g3:=keep_free hb1 hz f1
 have HB1:=aZ (HB.out.trans (hb1.mono (by omega)))
 have HR:=aZ hr
 clear hb1 r0 r1 f0 f1 a0 a1 b0 b1 hr
 go_wp2
 exact bodyPost_ret (v:=cV r) (by simp[results,Tryz.results208,go_sem,g0,g1]) rfl ⟨⟨r,rfl,HR.out⟩,(HB1.out.setCell (p:=⟨_,_,_⟩) (by show w.heap.size<=w.heap.size+1+1+1;omega) _).setCell (p:=⟨_,_,_⟩) (by show w.heap.size<=w.heap.size+1+1+1;omega) _⟩
theorem ringOver_any(m:Nat)(a:Rx)(n:Nat)(w:World)(n1:1<=n)(n2:n<=32768):Calls Tryz.prog 206 #[.agg #[.map (some m)],cV a,.int .i64 n] w λz w'=>(∃r,z=.returned (cV r)/\nC r=cover (nC a) n)/\Below w.heap.size w w':=by
 have h4:=@run_fquoN Tryz.prog
 go_enter Tryz.func206,Tryz.ntmps206
 go_wp2
 generalize hfl:floatOfInt .f64 (n:Int)=fl
 generalize e0:fres Ieee.double.div a.1 _ _=q0
 generalize e1:fres Ieee.double.div a.2 _ _=q1
 have n0:nz q0=fN Ieee.double.div (nz a.1) (nz fl):=by rw[<-e0];exact nz_fres good_div _ _ _
 have l0:q0<18446744073709551616:=by rw[<-e0];exact fres_lt good_div _ _ _
 have n1:nz q1=fN Ieee.double.div (nz a.2) (nz fl):=by rw[<-e1];exact nz_fres good_div _ _ _
 have l1:q1<18446744073709551616:=by rw[<-e1];exact fres_lt good_div _ _ _
 clear e0 e1
 exact bodyPost_ret (v:=cV (⟨q0,l0⟩,⟨q1,l1⟩)) (by simp[results,Tryz.results206,go_sem]) rfl ⟨⟨(⟨q0,l0⟩,⟨q1,l1⟩),rfl,by simp only[nC,cover,fD,hfl,n0,n1]⟩,((below_drewN ((((Below.refl _ w).alloc (Nat.le_refl _) _).alloc (by simp) _).alloc (by simp;omega) _) _).setCell (p:=⟨_,_,_⟩) (by show w.heap.size<=w.heap.size+1+1;omega) _).setCell (p:=⟨_,_,_⟩) (by show w.heap.size<=w.heap.size+1+1;omega) _⟩
theorem ringZero_any(m:Nat)(w:World):Calls Tryz.prog 209 #[.agg #[.map (some m)]] w λz w'=>(∃r,z=.returned (cV r)/\nC r=(0,0))/\Below w.heap.size w w':=by
 go_enter Tryz.func209,Tryz.ntmps209
 go_wp2
 exact bodyPost_ret (v:=cV (0,0)) (by simp[results,Tryz.results209,go_sem]) rfl ⟨⟨(0,0),rfl,nC_zero⟩,((Below.refl _ w).alloc (Nat.le_refl _) _).alloc (by simp) _⟩
abbrev entI(e:Int×Value×Nat):MapEntry:={key:=.int .i64 e.1,val:=e.2.1,born:=e.2.2}
def fi(k:Int):List (Int×Value×Nat)->Nat->Option (Nat×Value)
 |[],_=>none
 |e::es,i=>if k=e.1 then some (i,e.2.1) else fi k es (i+1)
theorem findNow_int(k:Int):∀(es:List (Int×Value×Nat)) (i:Nat),Instr.findNow (.int .i64) (.int .i64 k) (es.map entI) i=some (fi k es i)
 |[],i=>rfl
 |e::es,i=>by
   simp only[List.map_cons,Instr.findNow,Instr.sameNow,fi]
   by_cases h:k=e.1
   ·subst h;simp
   ·have:(k==e.1)=false:=by simp[h]
    rw[if_neg h,this]
    exact findNow_int k es (i+1)
theorem fi_mem(k:Int):∀(es:List (Int×Value×Nat)) (i j:Nat) (v:Value),fi k es i=some (j,v)->∃c,(k,v,c)∈es
 |[],_,_,_,h=>by cases h
 |e::es,i,j,v,h=>by
   unfold fi at h
   by_cases hk:k=e.1
   ·rw[if_pos hk] at h
    cases h
    exact⟨e.2.2,by rw[hk];exact List.mem_cons_self⟩
   ·rw[if_neg hk] at h
    obtain⟨c,hc⟩:=fi_mem k es _ _ _ h
    exact⟨c,List.mem_cons_of_mem _ hc⟩
theorem run_checkI'(em:Bool)(n:Nat)(k:Int)(w:World):(Instr.checkKey em (n+1) 2 (.int .i64 k)).run Tryz.prog w=.ok () w:=by
 simp only[Instr.checkKey,Sem.run_bind,run_underlying Tryz.underlying2,Result.andThen_ok]
 rfl
theorem run_checkI(em:Bool)(k:Int)(w:World):(Instr.checkKey em 10000 2 (.int .i64 k)).run Tryz.prog w=.ok () w:=run_checkI' em 9999 k w
theorem info_Cs:(Tryz.prog.info? 23).map (λi=>(i.zero,i.size,i.bytes))=some (some (.slice none 0 0),1,24):=by kernel_rfl
theorem run_zeroCs(w:World):(zeroValue 23).run Tryz.prog w=.ok (.slice none 0 0) w:=by
 obtain⟨i0,hi,hz0,-,-⟩:=info_parts info_Cs
 simp[zeroValue,typeInfo,hi,hz0]
theorem run_lookI(r clock:Nat)(k:Int)(es:List (Int×Value×Nat))(w:World)(h:w.heap[r]?=some (.map (es.map entI).toArray clock)):
  (Instr.lookup 91 (.map (some r)) (.int .i64 k) true).run Tryz.prog w=.ok (.tuple #[(match fi k es 0 with|some (_,v)=>v|none=>.slice none 0 0),.bool (fi k es 0).isSome]) w:=by
 unfold Instr.lookup
 have hf:=λw=>MapKept.run_findKey (P:=Tryz.prog) (w:=w) Tryz.underlying2 (findNow_int k es 0)
 simp only[Sem.run_bind,run_underlying Tryz.underlying91,Result.andThen_ok,MapKept.run_getObj_map h,Sem.run_pure,run_checkI,hf]
 cases hk:fi k es 0 with
 |none=>simp[run_zeroCs]
 |some q=>simp
def putE(w:World)(r:Nat)(es:List (Int×Value×Nat))(k:Int)(v:Value)(clock:Nat):World:={w with heap:=w.heap.setIfInBounds r (.map ((es++[(k,v,clock)]).map entI).toArray (clock+1))}
theorem run_storeI(r clock:Nat)(k:Int)(v:Value)(es:List (Int×Value×Nat))(w:World)(h:w.heap[r]?=some (.map (es.map entI).toArray clock))(hk:fi k es 0=none):
  (Instr.mapUpdate 91 (.map (some r)) (.int .i64 k) v).run Tryz.prog w=.ok () (putE w r es k v clock):=by
 unfold Instr.mapUpdate
 have hf:=λw=>MapKept.run_findKey (P:=Tryz.prog) (w:=w) Tryz.underlying2 (findNow_int k es 0)
 simp only[Sem.run_bind,run_underlying Tryz.underlying91,Result.andThen_ok,MapKept.run_getObj_map h,run_checkI,hf,hk,MapKept.run_setObj_map _ h]
 simp[putE]
def croot(k n:Int):Cx:=(nz (T.tuC (k%n) n),nz (T.tuS (k%n) n))
def Tabl(r:Nat)(w:World)(e:Int×Value×Nat):Prop:=∃b N:Nat,e.2.1=.slice (some ⟨b,0,none⟩) N N/\e.1=(N:Int)/\1<=N/\b≠r/\RowC w b N (λi=>croot i N)
theorem Tabl.lt{r:Nat}{w:World}{e:Int×Value×Nat}{b N:Nat}(h:Tabl r w e)(e1:e.2.1=.slice (some ⟨b,0,none⟩) N N):b<w.heap.size/\b≠r:=by
 obtain⟨b',N',h1,h2,h3,h4,h5⟩:=h
 rw[h1] at e1
 cases e1
 obtain⟨u,hc,-⟩:=h5 0 (by omega)
 exact⟨World.block_lt_of_cell? _ _ hc,h4⟩
theorem Tabl.of{r:Nat}{w w':World}{e:Int×Value×Nat}(h:Tabl r w e)(H:∀b,b<w.heap.size->b≠r->(∃N,e.2.1=.slice (some ⟨b,0,none⟩) N N)->w'.heap[b]?=w.heap[b]?):Tabl r w' e:=by
 obtain⟨b,N,h1,h2,h3,h4,h5⟩:=id h
 have hl:=(h.lt h1).1
 have hb:=H b hl h4 ⟨N,h1⟩
 exact⟨b,N,h1,h2,h3,h4,h5.of λi v hc=>⟨by rw[World.cell?_of_block (w:=w) hb];exact hc,World.frozen?_of_block (w:=w) hb⟩⟩
def InTab(r:Nat)(w:World)(b:Nat):Prop:=∃(arr:Array MapEntry) (clock:Nat),w.heap[r]?=some (.map arr clock)/\∃m∈arr.toList,∃N,m.val=.slice (some ⟨b,0,none⟩) N N
def XM(r:Nat):Mem:=⟨λw=>∃(es:List (Int×Value×Nat)) (clock:Nat),w.heap[r]?=some (.map (es.map entI).toArray clock)/\∀e∈es,Tabl r w e,λw b=>b=r\/InTab r w b,λw w'=>OnlyB r w w'/\∀b,b<w.heap.size->InTab r w' b->InTab r w b⟩
theorem some_lt{w:World}{r:Nat}{o:Obj}(h:w.heap[r]?=some o):r<w.heap.size:=(Array.getElem?_eq_some_iff.1 h).1
theorem InTab.of{r:Nat}{w w':World}(e:w'.heap[r]?=w.heap[r]?){b:Nat}(h:InTab r w' b):InTab r w b:=by
 obtain⟨arr,c,h1,h2⟩:=h
 exact⟨arr,c,by rw[<-e];exact h1,h2⟩
theorem st_of{r:Nat}{w w':World}(h:(XM r).St w)(e:w'.heap[r]?=w.heap[r]?)(H:∀b,b<w.heap.size->b≠r->InTab r w b->w'.heap[b]?=w.heap[b]?):(XM r).St w':=by
 obtain⟨es,c,h1,h2⟩:=h
 exact⟨es,c,by rw[e];exact h1,λx hx=>(h2 x hx).of λb hb hr hN=>H b hb hr ⟨_,c,h1,entI x,by simpa using⟨x.1,x.2.1,x.2.2,hx,rfl,rfl,rfl⟩,hN⟩⟩
theorem in_lt{r:Nat}{w:World}(h:(XM r).St w){b:Nat}(hb:InTab r w b):b<w.heap.size/\b≠r:=by
 obtain⟨es,c,h1,h2⟩:=h
 obtain⟨arr,c',h3,m,hm,N,hN⟩:=hb
 rw[h1] at h3
 cases h3
 obtain⟨e,he,rfl⟩:=List.mem_map.1 hm
 exact(h2 e he).lt hN
theorem map_cell{w:World}{r:Nat}{arr:Array MapEntry}{c:Nat}(h:w.heap[r]?=some (.map arr c)){o:Nat}{v:Value}(hc:w.cell? ⟨r,o,none⟩=some v):False:=by
 unfold World.cell? at hc
 rw[h] at hc
 simp at hc
theorem XM_ok(r:Nat):(XM r).Ok where
 st:=λ{w w'} h hb=>by
  obtain⟨es,c,h1,-⟩:=id h
  exact st_of h (hb.block r (some_lt h1)) (λb hl _ _=>hb.block b hl)
 fr:=λ{w w'} h hb=>by
  obtain⟨es,c,h1,-⟩:=id h
  exact⟨OnlyB.of_below hb,λb _ hi=>hi.of (hb.block r (some_lt h1))⟩
 trans:=λ{a b c} h k=>⟨h.1.trans k.1,λx hx hi=>h.2 x hx (k.2 x (Nat.lt_of_lt_of_le hx h.1.size) hi)⟩
 size:=λh=>h.1.size
 cell:=λ{w w' b o v} h k hc=>by
  obtain⟨es,c,h1,-⟩:=h
  by_cases e:b=r
  ·subst e;exact(map_cell h1 hc).elim
  ·rw[k.1.cell (p:=⟨b,o,none⟩) (World.block_lt_of_cell? _ _ hc) e];exact hc
 free:=λ{w w' b o v} h k hc=>by
  obtain⟨es,c,h1,-⟩:=h
  by_cases e:b=r
  ·subst e;exact(map_cell h1 hc).elim
  ·exact k.1.frozen (p:=⟨b,o,none⟩) (World.block_lt_of_cell? _ _ hc) e
 pv:=λ{w w' b} _ k hb hn hp=>hn (by
  rcases hp with e|hp
  ·exact .inl e
  ·exact .inr (k.2 b hb hp))
 new:=λ{w w' b} h hb hl hp=>by
  obtain⟨es,c,h1,-⟩:=id h
  have hr:=some_lt h1
  rcases hp with e|hp
  ·omega
  ·have:=(in_lt h (hp.of (hb.block r hr))).1
   omega
 only:=λ{B w w' g} h k hg hn ho=>by
  obtain⟨es,c,h1,-⟩:=id h
  have hgr:r≠g:=λe=>hn (.inl e.symm)
  have hm:=ho.block r (some_lt h1) hgr
  refine⟨st_of h hm λb hl _ hi=>ho.block b hl λe=>hn (.inr (e▸hi)),⟨?_,λb hb hi=>k.2 b hb (hi.of hm)⟩⟩
  exact⟨ho.os.trans k.1.os,ho.tape.trans k.1.tape,ho.output.trans k.1.output,Nat.le_trans k.1.size ho.size,λx hx hxr=>(ho.block x (Nat.lt_of_lt_of_le hx k.1.size) (by omega)).trans (k.1.block x hx hxr)⟩
 onlypv:=λ{w w' g b} h hn ho hb hp hq=>by
  obtain⟨es,c,h1,-⟩:=id h
  have hgr:r≠g:=λe=>hn (.inl e.symm)
  rcases hq with e|hq
  ·exact hp (.inl e)
  ·exact hp (.inr (hq.of (ho.block r (some_lt h1) hgr)))
theorem XM_new(w:World):(XM w.heap.size).St (w.alloc (.map #[] 0)):=⟨[],0,(MapKept.heap_alloc w _).1,by simp⟩
theorem XM_put{r:Nat}{w w':World}{es:List (Int×Value×Nat)}{clock b N:Nat}(h1:w.heap[r]?=some (.map (es.map entI).toArray clock))(h2:∀e∈es,Tabl r w e)(hb:Below w.heap.size w w')(hl:w.heap.size<=b)(hN:1<=N)(hr:RowC w' b N (λi=>croot i N)):
  (XM r).On w (putE w' r es N (.slice (some ⟨b,0,none⟩) N N) clock)/\RowC (putE w' r es N (.slice (some ⟨b,0,none⟩) N N) clock) b N (λi=>croot i N):=by
 have hlt:=some_lt h1
 have hr':r<w'.heap.size:=Nat.lt_of_lt_of_le hlt hb.size
 have hsame:∀x,x≠r->(putE w' r es N (.slice (some ⟨b,0,none⟩) N N) clock).heap[x]?=w'.heap[x]?:=λx hx=>by
  unfold putE
  simp[Array.getElem?_setIfInBounds,Ne.symm hx]
 have hmap:(putE w' r es N (.slice (some ⟨b,0,none⟩) N N) clock).heap[r]?=some (.map ((es++[((N:Int),Value.slice (some ⟨b,0,none⟩) N N,clock)]).map entI).toArray (clock+1)):=by
  unfold putE
  simp[Array.getElem?_setIfInBounds,hr']
 have hne:b≠r:=by omega
 have hrow:RowC (putE w' r es N (.slice (some ⟨b,0,none⟩) N N) clock) b N (λi=>croot i N):=hr.of λi v hc=>⟨by rw[World.cell?_of_block (w:=w') (hsame b hne)];exact hc,World.frozen?_of_block (w:=w') (hsame b hne)⟩
 refine⟨⟨⟨_,_,hmap,λe he=>?_⟩,?_,λx hx hi=>?_⟩,hrow⟩
 ·rcases List.mem_append.1 he with he|he
  ·exact(h2 e he).of λx hx hxr _=>(hsame x hxr).trans (hb.block x hx)
  ·obtain rfl:=List.mem_singleton.1 he
   exact⟨b,N,rfl,rfl,hN,hne,hrow⟩
 ·exact⟨hb.os,hb.tape,hb.output,by simpa[putE] using hb.size,λx hx hxr=>(hsame x hxr).trans (hb.block x hx)⟩
 ·obtain⟨arr,c,h3,m,hm,N',hN'⟩:=hi
  rw[hmap] at h3
  cases h3
  obtain⟨e,he,rfl⟩:=List.mem_map.1 hm
  rcases List.mem_append.1 he with he|he
  ·exact⟨_,_,h1,entI e,List.mem_map.2 ⟨e,he,rfl⟩,N',hN'⟩
  ·obtain rfl:=List.mem_singleton.1 he
   cases hN'
   omega
end Go.Proofs.YtfedabinindpbaaGreat
