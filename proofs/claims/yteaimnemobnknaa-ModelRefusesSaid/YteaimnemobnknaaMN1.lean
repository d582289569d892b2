/- Every field's root: an element whose power is no one, for every prime of the order. -/
import Derived.Test.YteaimnemobnknaaMJ3
import Derived.Test.YteaimnemobnknaaMS1
import Derived.Test.YteaimnemobnknaaX0
import Derived.Test.YteaimnemobnknaaMJ1
set_option linter.unusedSimpArgs false
set_option linter.unusedVariables false
set_option maxRecDepth 100000
set_option maxHeartbeats 4000000
set_option exponentiation.threshold 4000
namespace Go.Proofs.Yteaimnemobnknaa
section
variable {q : Nat} [NeZero q]
def fpw(x:Fin q):Nat->Fin q
 |0=>1
 |n+1=>x*fpw x n
def PolyD(q:Nat)[NeZero q]:Nat->(Fin q->Fin q)->Prop
 |0,p=>∀x,p x=0
 |d+1,p=>∀r,∃p':Fin q->Fin q,PolyD q d p'/\∀x,p x=p r+(x-r)*p' x
theorem polyD_zero(d:Nat):PolyD q d (λ_=>0):=by
 induction d with
 |zero=>intro x;rfl
 |succ d ih=>exact λr=>⟨λ_=>0,ih,λx=>by grind⟩
theorem polyD_up{d:Nat}:∀{p:Fin q->Fin q},PolyD q d p->PolyD q (d+1) p:=by
 induction d with
 |zero=>intro p h r;exact⟨λ_=>0,λ_=>rfl,λx=>by rw[h x,h r];grind⟩
 |succ d ih=>
   intro p h r
   obtain⟨p',h1,h2⟩:=h r
   exact⟨p',ih h1,h2⟩
theorem polyD_add{d:Nat}:∀{p s:Fin q->Fin q},PolyD q d p->PolyD q d s->PolyD q d (λx=>p x+s x):=by
 induction d with
 |zero=>intro p s h k x;show p x+s x=0;rw[h x,k x];grind
 |succ d ih=>
   intro p s h k r
   obtain⟨p',h1,h2⟩:=h r
   obtain⟨s',k1,k2⟩:=k r
   exact⟨_,ih h1 k1,λx=>by show p x+s x=p r+s r+(x-r)*(p' x+s' x);rw[h2 x,k2 x];grind⟩
theorem polyD_scale{d:Nat}(c:Fin q):∀{p:Fin q->Fin q},PolyD q d p->PolyD q d (λx=>c*p x):=by
 induction d with
 |zero=>intro p h x;show c*p x=0;rw[h x];grind
 |succ d ih=>
   intro p h r
   obtain⟨p',h1,h2⟩:=h r
   exact⟨_,ih h1,λx=>by show c*p x=c*p r+(x-r)*(c*p' x);rw[h2 x];grind⟩
theorem polyD_mulX{d:Nat}{p:Fin q->Fin q}(h:PolyD q d p):PolyD q (d+1) (λx=>x*p x):=by
 cases d with
 |zero=>intro r;exact⟨λ_=>0,λ_=>rfl,λx=>by show x*p x=r*p r+(x-r)*0;rw[h x,h r];grind⟩
 |succ d=>
   intro r
   obtain⟨p',h1,h2⟩:=h r
   exact⟨_,polyD_add h (polyD_up (polyD_scale r h1)),λx=>by show x*p x=r*p r+(x-r)*(p x+r*p' x);have:=h2 x;grind⟩
theorem polyD_pow(m:Nat):PolyD q (m+1) (λx=>fpw x m):=by
 induction m with
 |zero=>intro r;exact⟨λ_=>0,λ_=>rfl,λx=>by show(1:Fin q)=1+(x-r)*0;grind⟩
 |succ m ih=>exact polyD_mulX ih
theorem polyD_const(c:Fin q)(d:Nat):PolyD q (d+1) (λ_=>c):=by
 induction d with
 |zero=>intro r;exact⟨λ_=>0,λ_=>rfl,λx=>by show c=c+(x-r)*0;grind⟩
 |succ d ih=>exact polyD_up ih
theorem polyD_roots(hq:Prm q){d:Nat}:∀{p:Fin q->Fin q} (rs:List (Fin q)),PolyD q d p->rs.length=d->rs.Nodup->(∀r∈rs,p r=0)->∀x,p x=0:=by
 induction d with
 |zero=>intro p rs h _ _ _ x;exact h x
 |succ d ih=>
   intro p rs h hl hn hr x
   match rs,hl with
   |r::rs,hl=>
     obtain⟨p',h1,h2⟩:=h r
     have h0:=hr r (List.mem_cons_self ..)
     have hz:∀x,p' x=0:=ih rs h1 (by simpa using hl) (List.nodup_cons.1 hn).2 (λs hs=>by
      have hs0:=hr s (List.mem_cons_of_mem _ hs)
      have h3:=h2 s
      rw[hs0,h0] at h3
      have h4:(s-r)*p' s=0:=by grind
      rcases fin_mul_zero hq h4 with h5|h5
      ·exact absurd (show s=r by grind) (λe=>(List.nodup_cons.1 hn).1 (e▸hs))
      ·exact h5)
     rw[h2 x,h0,hz x]
     grind
theorem fpw_pw(a m:Nat):fpw (Fin.ofNat q a) m=pw q a m:=by
 induction m with
 |zero=>show(1:Fin q)=pw q a 0;rw[pw_zero]
 |succ m ih=>
   show Fin.ofNat q a*fpw (Fin.ofNat q a) m=pw q a (m+1)
   rw[ih]
   unfold pw
   rw[<-ofNat_mul,Nat.pow_succ,Nat.mul_comm]
end
theorem ne_pow{q m:Nat}(hq:Prm q)(m1:1<=m)(hm:m+1<=q-1):∃a,1<=a/\a<q/\a^m%q≠1:=by
 haveI:NeZero q:=⟨by omega⟩
 apply Classical.byContradiction
 intro hc
 have hall:∀a,1<=a->a<q->a^m%q=1:=λa h1 h2=>Classical.byContradiction λh=>hc ⟨a,h1,h2,h⟩
 have hP:PolyD q (m+1) (λx=>fpw x m+(-1)):=polyD_add (polyD_pow m) (polyD_const _ m)
 have hz:=polyD_roots hq ((List.range (m+1)).map λi=>Fin.ofNat q (i+1)) hP (by simp)
  (by
   unfold List.Nodup
   rw[List.pairwise_map]
   refine List.Pairwise.imp_of_mem ?_ List.pairwise_lt_range
   intro a b ha hb hab e
   rw[List.mem_range] at ha hb
   have h1:=congrArg Fin.val e
   simp only[Fin.val_ofNat] at h1
   rw[Nat.mod_eq_of_lt (by omega),Nat.mod_eq_of_lt (by omega)] at h1
   omega)
  (by
   intro r hr
   obtain⟨i,hi,rfl⟩:=List.mem_map.1 hr
   rw[List.mem_range] at hi
   show fpw (Fin.ofNat q (i+1)) m+(-1)=0
   rw[fpw_pw,pw_one hq.1 (hall (i+1) (by omega) (by omega))]
   grind) 0
 obtain⟨k,rfl⟩:∃k,m=k+1:=⟨m-1,by omega⟩
 have h0:fpw (0:Fin q) (k+1)+(-1)=0:=hz
 have h1:fpw (0:Fin q) (k+1)=0:=by show(0:Fin q)*fpw 0 k=0;grind
 rw[h1] at h0
 have h2:(1:Fin q)=0:=by grind
 have h3:(1:Nat)%q=0%q:=congrArg Fin.val h2
 have hq2:=hq.1
 rw[Nat.mod_eq_of_lt (by omega),Nat.zero_mod] at h3
 omega
theorem Prm.pow{p a:Nat}(hp:Prm p):∀t,p∣a^t->p∣a
 |0,h=>by
   rw[Nat.pow_zero] at h
   have:=Nat.le_of_dvd (by omega) h
   have:=hp.1
   omega
 |t+1,h=>by
   rw[Nat.pow_succ] at h
   rcases hp.mul h with h|h
   ·exact Prm.pow hp t h
   ·exact h
theorem Prm.two_co{p r:Nat}(hp:Prm p)(hr:Prm r)(h:r≠p):Nat.gcd r p=1:=by
 apply hr.co
 intro hd
 rcases hp.2 r hd with e|e
 ·have:=hr.1;omega
 ·exact h e
theorem gens{q:Nat}(hq:Prm q)(q3:3<=q)(q64:q<2^64):∀fs:List Nat,(∀f∈fs,Prm f/\f∣q-1)->∃g,¬q∣g/\∀f∈fs,g^((q-1)/f)%q≠1
 |[],_=>⟨1,λh=>by have:=Nat.le_of_dvd (by omega) h;omega,λf hf=>by simp at hf⟩
 |f::fs,h=>by
   haveI:NeZero q:=⟨by omega⟩
   obtain⟨g,hg,hgs⟩:=gens hq q3 q64 fs (λx hx=>h x (List.mem_cons_of_mem _ hx))
   by_cases hf:g^((q-1)/f)%q=1
   ·obtain⟨pf,s,hs⟩:=h f (List.mem_cons_self ..)
    have f2:=pf.1
    have s1:1<=s:=by apply Nat.pos_of_ne_zero;rintro rfl;omega
    have es:(q-1)/f=s:=by rw[hs];exact Nat.mul_div_cancel_left _ (by omega)
    have hle:2*s<=f*s:=Nat.mul_le_mul_right s f2
    rw[es] at hf
    obtain⟨a,a1,a2,ha⟩:=ne_pow hq s1 (by omega)
    have hqa:¬q∣a:=λe=>by have:=Nat.le_of_dvd (by omega) e;omega
    have hfe:a^(q-1)%q=1:=one_pw hq.1 (fermat hq hqa)
    have t0:=strip_of 64 (q-1) f
    have t1:=strip_free f2 64 (q-1) (by omega) (by omega)
    have t2:=λm hm hc=>strip_dvd 64 (q-1) f m (by omega) f2 hm hc
    obtain⟨t,ht⟩:∃t,stripL 64 (q-1) f=t:=⟨_,rfl⟩
    rw[ht] at t0 t1 t2
    have hmul:∀e,(g*a^t)^e%q=(g^e%q)*(a^(t*e)%q)%q:=λe=>by
     rw[Nat.mul_pow,<-Nat.pow_mul,Nat.mul_mod]
    refine⟨g*a^t,λe=>?_,λx hx=>?_⟩
    ·rcases hq.mul e with e|e
     ·exact hg e
     ·exact hqa (hq.pow t e)
    ·by_cases hxf:x=f
     ·subst hxf
      rw[es,hmul,hf]
      intro hc
      rw[Nat.one_mul,Nat.mod_mod] at hc
      have c1:(a^s)^t%q=1:=by rw[<-Nat.pow_mul,Nat.mul_comm];exact hc
      have c2:(a^s)^x%q=1:=by rw[<-Nat.pow_mul,Nat.mul_comm,<-hs];exact hfe
      have c3:=one_gcd hq.1 x t c2 c1
      rw[pf.co t1,Nat.pow_one] at c3
      exact ha c3
     ·have hxs:x∈fs:=(List.mem_cons.1 hx).resolve_left hxf
      obtain⟨px,y,hy⟩:=h x hx
      have hx2:=px.1
      have ey:(q-1)/x=y:=by rw[hy];exact Nat.mul_div_cancel_left _ (by omega)
      obtain⟨u,hu⟩:=t2 x ⟨y,hy⟩ (pf.two_co px hxf)
      have e1:t*y=(q-1)*u:=by rw[hu,hy];ac_rfl
      have h1:=hgs x hxs
      rw[ey] at h1
      rw[ey,hmul,e1,one_pow_mod hq.1 hfe,Nat.mul_one,Nat.mod_mod]
      exact h1
   ·exact⟨g,hg,λx hx=>by
      rcases List.mem_cons.1 hx with rfl|hx
      ·exact hf
      ·exact hgs x hx⟩
theorem prm_factor:∀(n:Nat),2<=n->∃f,Prm f/\f∣n:=by
 intro n
 induction n using Nat.strongRecOn with
 |ind n ih=>
   intro h2
   by_cases hp:Prm n
   ·exact⟨n,hp,Nat.dvd_refl n⟩
   ·have:∃d,d∣n/\d≠1/\d≠n:=by
      apply Classical.byContradiction
      intro hc
      exact hp ⟨h2,λd hd=>Classical.byContradiction λh=>hc ⟨d,hd,λe=>h (.inl e),λe=>h (.inr e)⟩⟩
    obtain⟨d,hd,d1,dn⟩:=this
    have d0:d≠0:=by rintro rfl;have:=Nat.eq_zero_of_zero_dvd hd;omega
    have hle:=Nat.le_of_dvd (by omega) hd
    obtain⟨f,pf,hf⟩:=ih d (by omega) (by omega)
    exact⟨f,pf,Nat.dvd_trans hf hd⟩
theorem prm_list{o:Nat}:∀ps:List Nat,(∀p∈ps,2<=p/\p∣o)->∃fs:List Nat,(∀f∈fs,Prm f/\f∣o)/\∀p∈ps,∃f∈fs,f∣p
 |[],_=>⟨[],λf hf=>(by simp at hf),λp hp=>(by simp at hp)⟩
 |p::ps,h=>by
   obtain⟨fs,h1,h2⟩:=prm_list ps (λx hx=>h x (List.mem_cons_of_mem _ hx))
   obtain⟨p2,po⟩:=h p (List.mem_cons_self ..)
   obtain⟨f,pf,hf⟩:=prm_factor p p2
   refine⟨f::fs,λx hx=>?_,λx hx=>?_⟩
   ·rcases List.mem_cons.1 hx with rfl|hx
    ·exact⟨pf,Nat.dvd_trans hf po⟩
    ·exact h1 x hx
   ·rcases List.mem_cons.1 hx with rfl|hx
    ·exact⟨f,List.mem_cons_self ..,hf⟩
    ·obtain⟨y,hy,hd⟩:=h2 x hx
     exact⟨y,List.mem_cons_of_mem _ hy,hd⟩
theorem good_all{o q:Nat}(q3:3<=q)(q64:q<2^64)(o1:1<=o)(ho:o∣q-1)(hd:∀p∈facL o o 2,2<=p/\p∣o):∃g,2<=g/\g<q/\goodW q o (pmod g ((q-1)/o) q)=true:=by
 obtain⟨s,hs⟩:=ho
 have es:(q-1)/o=s:=by rw[hs];exact Nat.mul_div_cancel_left _ (by omega)
 have s1:1<=s:=by apply Nat.pos_of_ne_zero;rintro rfl;omega
 have key:∀g,(∀p∈facL o o 2,∀t,o=p*t->g^(s*t)%q≠1)->goodW q o (pmod g s q)=true:=by
  intro g hg
  unfold goodW goodL
  rw[List.all_eq_true]
  intro p hp
  obtain⟨p2,t,ht⟩:=hd p hp
  have e:o/p=t:=by rw[ht];exact Nat.mul_div_cancel_left _ (by omega)
  have hne:pmod (pmod g s q) (o/p) q≠1:=by
   intro hc
   unfold pmod at hc
   rw[<-Nat.pow_mod,e,<-Nat.pow_mul] at hc
   exact hg p hp t ht hc
  rw[show Nat.beq (pmod (pmod g s q) (o/p) q) 1=false from Bool.eq_false_iff.2 (λe=>hne (Nat.eq_of_beq_eq_true e))]
  rfl
 rw[es]
 by_cases hq:Prm q
 ·obtain⟨fs,f1,f2⟩:=prm_list (facL o o 2) hd
  obtain⟨g,hg,hgs⟩:=gens hq q3 q64 fs (λf hf=>⟨(f1 f hf).1,Nat.dvd_trans (f1 f hf).2 ⟨s,hs⟩⟩)
  have hmod:∀e,(g%q)^e%q=g^e%q:=λe=>by rw[<-Nat.pow_mod]
  by_cases hone:g%q=1
  ·refine⟨2,by omega,by omega,key 2 λp hp t ht=>?_⟩
   obtain⟨f,hf,-⟩:=f2 p hp
   have:=hgs f hf
   rw[<-hmod,hone,Nat.one_pow,Nat.mod_eq_of_lt (by omega)] at this
   exact absurd rfl this
  ·have hlt:=Nat.mod_lt g (show 0<q by omega)
   have hne:g%q≠0:=λe=>hg (Nat.dvd_of_mod_eq_zero e)
   refine⟨g%q,by omega,hlt,key _ λp hp t ht hc=>?_⟩
   rw[hmod] at hc
   obtain⟨f,hf,u,hu⟩:=f2 p hp
   have ff:=(f1 f hf).1.1
   have ef:(q-1)/f=s*t*u:=by
    rw[hs,ht,hu,show f*u*t*s=f*(s*t*u) by ac_rfl]
    exact Nat.mul_div_cancel_left _ (by omega)
   have:=hgs f hf
   rw[ef,one_pow_mod hq.1 hc] at this
   exact this rfl
 ·obtain⟨f,pf,hf⟩:=prm_factor q (by omega)
  have hle:=Nat.le_of_dvd (by omega) hf
  have hne:f≠q:=λe=>hq (e▸pf)
  have f2:=pf.1
  refine⟨f,f2,by omega,key f λp hp t ht hc=>?_⟩
  have t1:1<=t:=by apply Nat.pos_of_ne_zero;rintro rfl;omega
  have st:1<=s*t:=Nat.mul_pos s1 t1
  obtain⟨k,hk⟩:∃k,s*t=k+1:=⟨s*t-1,by omega⟩
  have h1:f∣f^(s*t)%q:=(Nat.dvd_mod_iff hf).2 (by rw[hk,Nat.pow_succ];exact Nat.dvd_mul_left ..)
  rw[hc] at h1
  have:=Nat.le_of_dvd (by omega) h1
  omega
end Go.Proofs.Yteaimnemobnknaa
namespace Go.Proofs.Yteaimnemobnknaa
open Go.RowKit Go.Lib
theorem Make_weak(o q:Nat)(o1:1<=o)(ob:o<=1099511627776)(hlo:1099511627776<q)(hhi:q<4503599627370496)(hdv:o∣q-1)(hqb:isB q=true)(w:World):
  Calls Try.prog 58 #[.int .i64 o] w λz w'=>∃Q V:Nat,1099511627776<Q/\Q<4503599627370496/\V<Q/\z=.returned (.tuple #[.agg #[.int .i64 Q,.int .i64 V,.int .i64 o],.int .i64 0])/\Below w.heap.size w w':=by
 have HRo:=aZ (λ(c g:Nat) (h1:2<=c) (h2:c<=4503599627370496) (h3:2<=g) (h4:g<c) (h5:goodW c o (pmod g ((c-1)/o) c)=true) w=>root_any c o g h1 h2 o1 ob h3 h4 h5 w)
 have HIs:=aZ (λ(c:Nat) (hc:c<=4503599627370496) w=>is52_any c hc w)
 have HDV:=aZ hdv
 have HQB:=aZ hqb
 have HFL:=aZ (λ(p:Nat) (hp:p∈facL o o 2)=>(⟨(facL_ge o o 2 (by omega) p hp).1,facL_dvd o o 2 p hp⟩:2<=p/\p∣o))
 have h1:=Nat.div_add_mod 1099511627776 o
 obtain⟨d,hd⟩:∃d,1099511627776/o=d:=⟨_,rfl⟩
 rw[hd] at h1
 have hdi:(1099511627776:Int)/(o:Int)=(d:Int):=by rw[<-hd,Int.natCast_ediv];rfl
 obtain⟨s,hs⟩:∃s,d*o=s:=⟨_,rfl⟩
 have hso:o∣s:=⟨d,by rw[<-hs,Nat.mul_comm]⟩
 have hsl:s<=1099511627776:=by rw[<-hs,Nat.mul_comm];omega
 have hsi:(d:Int)*(o:Int)=(s:Int):=by rw[<-hs];push_cast;rfl
 have ho0:¬(o:Int)=0:=by omega
 have HSO:=aZ hso
 clear h1 hd hs hso hdv hqb
 obtain⟨W0,hW0⟩:∃W0,W0=w.alloc (.cells #[.int .i64 0,.int .i64 0,.int .i64 0] 60):=⟨_,rfl⟩
 have hb0:Below w.heap.size w W0:=by rw[hW0];exact(Below.refl _ w).alloc (Nat.le_refl _) _
 have hc0:W0.cell? ⟨w.heap.size,0,none⟩=some (.int .i64 0)/\W0.cell? ⟨w.heap.size,1,none⟩=some (.int .i64 0)/\W0.cell? ⟨w.heap.size,2,none⟩=some (.int .i64 0):=by rw[hW0];refine⟨?_,?_,?_⟩<;>go_simp
 have hf0:W0.frozen? ⟨w.heap.size,0,none⟩=false/\W0.frozen? ⟨w.heap.size,1,none⟩=false/\W0.frozen? ⟨w.heap.size,2,none⟩=false:=by rw[hW0];refine⟨?_,?_,?_⟩<;>simp[go_sem]
 have hs0:W0.heap.size=w.heap.size+1:=by rw[hW0];simp
 have HB0:=aZ hb0
 have HC0:=aZ hc0
 have HF0:=aZ hf0
 clear hb0 hc0 hf0
 go_enter Try.func58,Try.ntmps58
 go_wp2_with fail
 rw[<-hW0]
 clear hW0 hdi hsi
 go_loopw [4] (λv4 wr=>∃c:Nat,v4=.int .i64 c/\1<=c/\c<=q/\Hid (o∣c-1)/\Hid (Below W0.heap.size W0 wr)) (λv4 _=>q+1-(intOf v4).toNat)
 case atStart=>exact⟨s+1,by go_num,by omega,by omega,aZ (by rw[Nat.add_sub_cancel];exact HSO.out),aZ (Below.refl _ _)⟩
 case round=>
  obtain⟨c,rfl,c1,hcq,hcd,hbr⟩:=hrel
  have h52:(c:Int)<4503599627370496:=by omega
  by_cases hcm:c<=1099511627776
  ·have hcmi:¬(1099511627776:Int)<(c:Int):=by omega
   obtain⟨n1,n2⟩:=cand_next o1 HDV.out hcd.out c1 (by omega)
   have HN2:=aZ n2
   clear n2 hcd
   go_wp2
   exact⟨⟨c+o,by go_num,by omega,n1,HN2,hbr⟩,by simp[intOf];omega⟩
  ·have hcmi:(1099511627776:Int)<(c:Int):=by omega
   go_wp2_with fail
   refine(HIs.out c (by omega) _).mono ?_
   rintro z w2 ⟨rfl,hb2⟩
   have HB2:Hid (Below W0.heap.size W0 w2):=aZ (hbr.out.trans (hb2.mono hbr.out.size))
   clear hb2
   rcases hisq:isB c with _|_
   case' true=>
    obtain⟨g,g2,gc,hg⟩:=good_all (show 3<=c by omega) (by omega) o1 hcd.out HFL.out
    have HRc:=aZ (λw=>HRo.out c g (by omega) (by omega) g2 gc hg w)
    clear hisq hg
    go_wp2_with fail
    refine(HRc.out w2).mono ?_
    rintro z w3 ⟨a,a2,ag,hga,hno,rfl,hb3⟩
    obtain⟨V,hV⟩:∃V,pmod a ((c-1)/o) c=V:=⟨_,rfl⟩
    rw[hV] at hga|-
    have HW:Hid (V<c):=aZ (by rw[<-hV];exact Nat.mod_lt _ (by omega))
    have hB3:Below W0.heap.size W0 w3:=HB2.out.trans (hb3.mono HB2.out.size)
    obtain⟨r0,r1,r2⟩:=HC0.out
    obtain⟨t0,t1,t2⟩:=HF0.out
    replace r0:=keep_cell hB3 r0
    replace r1:=keep_cell hB3 r1
    replace r2:=keep_cell hB3 r2
    replace t0:=keep_free hB3 (by omega) t0
    replace t1:=keep_free hB3 (by omega) t1
    replace t2:=keep_free hB3 (by omega) t2
    have HB3:Hid (Below w.heap.size w w3):=aZ (HB0.out.trans (hB3.mono HB0.out.size))
    have HFN:Hid (Below w.heap.size w (((w3.setCell ⟨w.heap.size,0,none⟩ (.int .i64 c)).setCell ⟨w.heap.size,1,none⟩ (.int .i64 V)).setCell ⟨w.heap.size,2,none⟩ (.int .i64 o))):=aZ ⟨HB3.out.os,HB3.out.tape,HB3.out.output,by have:=HB3.out.size;simp[World.setCell];omega,λj hj=>(heap_set _ (by omega)).trans ((heap_set _ (by omega)).trans ((heap_set _ (by omega)).trans (HB3.out.block j hj)))⟩
    have s0:(((w3.setCell ⟨w.heap.size,0,none⟩ (.int .i64 c)).setCell ⟨w.heap.size,1,none⟩ (.int .i64 V)).setCell ⟨w.heap.size,2,none⟩ (.int .i64 o)).cell? ⟨w.heap.size,0,none⟩=some (.int .i64 c):=by simp[go_sem,r0,r1,r2]
    have s1:(((w3.setCell ⟨w.heap.size,0,none⟩ (.int .i64 c)).setCell ⟨w.heap.size,1,none⟩ (.int .i64 V)).setCell ⟨w.heap.size,2,none⟩ (.int .i64 o)).cell? ⟨w.heap.size,1,none⟩=some (.int .i64 V):=by simp[go_sem,r0,r1,r2]
    have s2:(((w3.setCell ⟨w.heap.size,0,none⟩ (.int .i64 c)).setCell ⟨w.heap.size,1,none⟩ (.int .i64 V)).setCell ⟨w.heap.size,2,none⟩ (.int .i64 o)).cell? ⟨w.heap.size,2,none⟩=some (.int .i64 o):=by simp[go_sem,r0,r1,r2]
    have HS:=aZ (⟨s0,s1,s2⟩:_/\_/\_)
    clear hB3 hb3 hno hga hV s0 s1 s2
    go_wp2
    obtain⟨s0,s1,s2⟩:=HS.out
    exact bodyPost_ret (v:=.tuple #[.agg #[.int .i64 c,.int .i64 V,.int .i64 o],.int .i64 0]) (by simp[results,Try.results58,go_sem,s0,s1,s2]) rfl ⟨c,V,by omega,by omega,HW.out,rfl,HFN.out⟩
   case' false=>
    have hne:c≠q:=λe=>by rw[e,HQB.out] at hisq;cases hisq
    obtain⟨n1,n2⟩:=cand_next o1 HDV.out hcd.out c1 (by omega)
    have HN2:=aZ n2
    clear n2 hcd hisq
    go_wp2
    exact⟨⟨c+o,by go_num,by omega,n1,HN2,HB2⟩,by simp[intOf];omega⟩
end Go.Proofs.Yteaimnemobnknaa
namespace Go.Proofs.Yteaimnemobnknaa
def radL:Fo->List Nat
 |.nil=>[]
 |.cons k n _ q rest=>(if k=3 then [n.toNat] else [])++(radL q++radL rest)
theorem two_up:∀(k n M:Nat),1<=n->n<=2^k->n∣M->2^(k+1)∣M->2*n∣M:=by
 intro k
 induction k with
 |zero=>
   intro n M h1 h2 h3 h4
   have:n=1:=by simp at h2;omega
   subst this
   exact h4
 |succ k ih=>
   intro n M h1 h2 h3 h4
   have h5:2∣M:=Nat.dvd_trans ⟨2^(k+1),by rw[Nat.pow_succ 2 (k+1),Nat.mul_comm]⟩ h4
   rcases Nat.mod_two_eq_zero_or_one n with e|e
   ·obtain⟨m,rfl⟩:=Nat.dvd_of_mod_eq_zero e
    obtain⟨c,rfl⟩:=h5
    have h6:m∣c:=Nat.dvd_of_mul_dvd_mul_left (by omega) h3
    have h7:2^(k+1)∣c:=by
     rw[Nat.pow_succ 2 (k+1),Nat.mul_comm] at h4
     exact Nat.dvd_of_mul_dvd_mul_left (by omega) h4
    have h8:m<=2^k:=by rw[Nat.pow_succ] at h2;omega
    exact Nat.mul_dvd_mul_left 2 (ih m c (by omega) h8 h6 h7)
   ·have hg:Nat.Coprime 2 n:=by
      show Nat.gcd 2 n=1
      rw[Nat.gcd_rec,e]
      rfl
    exact hg.mul_dvd_of_dvd_of_dvd h5 h3
theorem two_parts{n M:Nat}(h1:1<=n)(hn:n<=16384)(h:n∣M)(h2:32768∣M):2*n∣M:=two_up 14 n M h1 hn h h2
theorem pow_two_dvd{x M:Nat}(hx:x<=32768)(hp:∃k,x=2^k)(h2:32768∣M):x∣M:=by
 obtain⟨k,rfl⟩:=hp
 have hk:k<=15:=by
  apply Classical.byContradiction
  intro h
  have:=Nat.pow_le_pow_right (show 1<=2 by omega) (show 16<=k by omega)
  omega
 exact Nat.dvd_trans (Nat.pow_dvd_pow 2 hk) h2
theorem node_parts{kind r w:Int}{l:Nat}{b:Bool}{n:Int}(h:nodeE kind n r l w b=0)(hw1:1<=w)(hw2:w<=32768):
  n=w/\l=(wantsF kind n r).length/\(∀x∈wantsF kind n r,1<=x/\x<=32768)/\
  (∀M,32768∣M->n.toNat∣M->(kind=3->n.toNat-1∣M)->rootN kind n∣M/\∀x∈wantsF kind n r,x.toNat∣M)/\
  (∀x∈wantsF kind n r,∀p,Prm p->3<=p->p∣x.toNat->p∣n.toNat\/(kind=3/\p∣n.toNat-1))/\
  (kind=3->Prm n.toNat/\3<=n.toNat/\wantsF kind n r=[n-1]):=by
 obtain⟨k0,k4,kb,rfl,hs,hkl,hr⟩:=nodeE_zero h
 have hk:kind=0\/kind=1\/kind=2\/kind=3\/kind=4:=by omega
 obtain⟨N,rfl⟩:∃N:Nat,n=N:=⟨n.toNat,by omega⟩
 refine⟨rfl,hkl,?_⟩
 rcases hk with rfl|rfl|rfl|rfl|rfl
 ·have e:wantsF 0 N r=[]:=rfl
  rw[e]
  exact⟨λx hx=>by simp at hx,λM _ h _=>⟨h,λx hx=>by simp at hx⟩,λx hx=>by simp at hx,λh=>absurd h (by decide)⟩
 ·have hrr:2<=r/\r<N/\(N:Int)%r=0:=by simpa[radixB] using hr
  obtain⟨R,rfl⟩:∃R:Nat,r=R:=⟨r.toNat,by omega⟩
  have e:wantsF 1 N R=[(R:Int),(N:Int)/R]:=by simp[wantsF];omega
  have hd:((N:Int)/R).toNat=N/R:=by rw[<-Int.natCast_ediv,Int.toNat_natCast]
  have hm:N%R=0:=by have:=hrr.2.2;rw[<-Int.natCast_emod] at this;omega
  have d1:R∣N:=Nat.dvd_of_mod_eq_zero hm
  have d2:N/R∣N:=Nat.div_dvd_of_dvd d1
  have hq1:1<=N/R:=(Nat.le_div_iff_mul_le (by omega)).2 (by omega)
  have hq2:N/R<=N:=Nat.div_le_self _ _
  have hx:∀x∈wantsF 1 N R,x.toNat∣N/\1<=x/\x<=32768:=by
   intro x hx
   rw[e] at hx
   simp only[List.mem_cons,List.not_mem_nil,or_false] at hx
   rcases hx with rfl|rfl
   ·exact⟨by rw[Int.toNat_natCast];exact d1,by omega,by omega⟩
   ·rw[hd,<-Int.natCast_ediv]
    exact⟨d2,by omega,by omega⟩
  exact⟨λx h=>(hx x h).2,λM _ h _=>⟨h,λx hx'=>Nat.dvd_trans (hx x hx').1 h⟩,λx hx' p _ _ hp=>.inl (Nat.dvd_trans hp (hx x hx').1),λh=>absurd h (by decide)⟩
 ·have e:wantsF 2 N r=[]:=rfl
  rw[e]
  exact⟨λx hx=>by simp at hx,λM _ h _=>⟨h,λx hx=>by simp at hx⟩,λx hx=>by simp at hx,λh=>absurd h (by decide)⟩
 ·have e:wantsF 3 N r=[(N:Int)-1]:=rfl
  have hc:¬((N:Int)<3\/primeB N=false):=λhc=>by simp[sizeE,hc] at hs
  have hp:primeB N=true:=by cases hpp:primeB N;exact absurd (.inr hpp) hc;rfl
  have h3:3<=N:=by have:¬(N:Int)<3:=λh=>hc (.inl h);omega
  have hd:((N:Int)-1).toNat=N-1:=by omega
  have hx:∀x∈wantsF 3 N r,x=(N:Int)-1:=λx hx=>by
   rw[e] at hx
   simpa using hx
  rw[Int.toNat_natCast]
  exact⟨λx h=>by have:=hx x h;omega,λM _ h h'=>⟨h,λx hx'=>by rw[hx x hx',hd];exact h' rfl⟩,λx hx' p _ _ hp=>.inr ⟨rfl,by rw[hx x hx',hd] at hp;exact hp⟩,λ_=>⟨prm_of hp,h3,e⟩⟩
 ·have e:wantsF 4 N r=[(padF N:Int)]:=rfl
  have h2N:2<=N/\N<=16384:=by
   have:¬((N:Int)<2\/16384<(N:Int)):=λhc=>by simp[sizeE,hc] at hs
   omega
  obtain⟨-,-,hpw,hp1,hp2⟩:=padF_spec N (by omega) h2N.2
  have hx:∀x∈wantsF 4 N r,x=(padF N:Int):=λx hx=>by
   rw[e] at hx
   simpa using hx
  rw[Int.toNat_natCast]
  refine⟨λx h=>by have:=hx x h;omega,λM hM h _=>⟨two_parts (by omega) h2N.2 h hM,λx hx'=>by rw[hx x hx',Int.toNat_natCast];exact pow_two_dvd hp2 hpw hM⟩,λx hx' p pp p3 hp=>?_,λh=>absurd h (by decide)⟩
  rw[hx x hx',Int.toNat_natCast] at hp
  obtain⟨k,hk⟩:=hpw
  rw[hk] at hp
  have:=Nat.le_of_dvd (by omega) (pp.pow k hp)
  omega
theorem plan_ord:∀(fo:Fo) (ws:List Int) (b:Bool),fo.bad ws b=0->fo.len=ws.length->(∀x∈ws,1<=x/\x<=32768)->
  (∀M,32768∣M->(∀x∈ws,x.toNat∣M)->(∀p∈radL fo,p-1∣M)->ordFo fo∣M)/\
  (∀T:Nat->Prop,(∀x∈ws,∀p,Prm p->3<=p->p∣x.toNat->T p)->(∀r∈radL fo,T r->∀p,Prm p->3<=p->p∣r-1->T p)->∀p∈radL fo,T p)/\
  (∀p∈radL fo,Prm p/\3<=p/\p<=32768/\p-1∣ordFo fo)/\(∀x∈ws,x.toNat∣ordFo fo)
 |.nil,ws,b,_,hl,_=>by
   have:ws=[]:=by rcases ws with _|⟨_,_⟩;rfl;simp[Fo.len] at hl
   subst this
   exact⟨λM _ _ _=>Nat.one_dvd M,λT _ _ p hp=>by simp[radL] at hp,λp hp=>by simp[radL] at hp,λx hx=>by simp at hx⟩
 |.cons kind n r kids rest,ws,b,h,hl,hw=>by
   rcases ws with _|⟨w,ws⟩
   ·simp[Fo.len] at hl
   unfold Fo.bad at h
   by_cases h1:nodeE kind n r kids.len ((w::ws).headD 0) b≠0
   ·rw[if_pos h1] at h;exact absurd h h1
   rw[if_neg h1] at h
   by_cases h2:kids.bad (wantsF kind n r) (b||kind==4)≠0
   ·rw[if_pos h2] at h;exact absurd h h2
   rw[if_neg h2] at h
   have h1':nodeE kind n r kids.len w b=0:=Decidable.not_not.1 h1
   have h2':=Decidable.not_not.1 h2
   obtain⟨hw1,hw2⟩:=hw w (List.mem_cons_self ..)
   obtain⟨rfl,hkl,c1,c2,c3,c4⟩:=node_parts h1' hw1 hw2
   obtain⟨k1,k2,k3,k4⟩:=plan_ord kids (wantsF kind n r) (b||kind==4) h2' hkl c1
   obtain⟨r1,r2,r3,r4⟩:=plan_ord rest ws b h (by simpa[Fo.len] using hl) (λy hy=>hw y (List.mem_cons_of_mem _ hy))
   have hroot:n.toNat∣rootN kind n:=by
    unfold rootN
    split
    ·exact Nat.dvd_mul_left ..
    ·exact Nat.dvd_refl _
   have hmem:∀p,p∈radL (.cons kind n r kids rest)↔(kind=3/\p=n.toNat)\/p∈radL kids\/p∈radL rest:=by
    intro p
    show p∈(if kind=3 then [n.toNat] else [])++(radL kids++radL rest)↔_
    rw[List.mem_append,List.mem_append]
    split
    ·rename_i e;simp[e]
    ·rename_i e;simp[e]
   have dk:ordFo kids∣ordFo (.cons kind n r kids rest):=Nat.dvd_trans (Nat.dvd_lcm_right _ _) (Nat.dvd_lcm_left _ _)
   have dn:rootN kind n∣ordFo (.cons kind n r kids rest):=Nat.dvd_trans (Nat.dvd_lcm_left _ _) (Nat.dvd_lcm_left _ _)
   have dr:ordFo rest∣ordFo (.cons kind n r kids rest):=Nat.dvd_lcm_right _ _
   refine⟨λM hM hx hp=>?_,λT hx hp=>?_,λp hp=>?_,λx hx=>?_⟩
   ·have hn:n.toNat∣M:=hx n (List.mem_cons_self ..)
    obtain⟨q1,q2⟩:=c2 M hM hn (λe=>hp _ ((hmem _).2 (.inl ⟨e,rfl⟩)))
    exact Nat.lcm_dvd (Nat.lcm_dvd q1 (k1 M hM q2 (λp h=>hp p ((hmem p).2 (.inr (.inl h)))))) (r1 M hM (λx h=>hx x (List.mem_cons_of_mem _ h)) (λp h=>hp p ((hmem p).2 (.inr (.inr h)))))
   ·have tn:kind=3->T n.toNat:=λe=>hx n (List.mem_cons_self ..) _ (c4 e).1 (c4 e).2.1 (Nat.dvd_refl _)
    intro p hpm
    rcases(hmem p).1 hpm with⟨e,rfl⟩|hk|hr
    ·exact tn e
    ·exact k2 T (λx hx' p pp p3 hd=>by
       rcases c3 x hx' p pp p3 hd with hd|⟨e,hd⟩
       ·exact hx n (List.mem_cons_self ..) p pp p3 hd
       ·exact hp _ ((hmem _).2 (.inl ⟨e,rfl⟩)) (tn e) p pp p3 hd) (λr hr=>hp r ((hmem r).2 (.inr (.inl hr)))) p hk
    ·exact r2 T (λx h=>hx x (List.mem_cons_of_mem _ h)) (λr hr=>hp r ((hmem r).2 (.inr (.inr hr)))) p hr
   ·rcases(hmem p).1 hp with⟨e,rfl⟩|hk|hr
    ·obtain⟨pp,p3,hwn⟩:=c4 e
     have:=k4 (n-1) (by rw[hwn];exact List.mem_cons_self ..)
     exact⟨pp,p3,by omega,by rw[show n.toNat-1=(n-1).toNat by omega];exact Nat.dvd_trans this dk⟩
    ·obtain⟨pp,p3,p4,p5⟩:=k3 p hk
     exact⟨pp,p3,p4,Nat.dvd_trans p5 dk⟩
    ·obtain⟨pp,p3,p4,p5⟩:=r3 p hr
     exact⟨pp,p3,p4,Nat.dvd_trans p5 dr⟩
   ·rcases List.mem_cons.1 hx with rfl|hx
    ·exact Nat.dvd_trans hroot dn
    ·exact Nat.dvd_trans (r4 x hx) dr
def facO(n:Nat):List Nat:=(facL n n 2).filter λp=>Nat.ble 3 p
def cloL:Nat->List Nat->List Nat->List Nat->List Nat
 |0,_,_,seen=>seen
 |_+1,_,[],seen=>seen
 |f+1,no,p::todo,seen=>bif seen.elem p||no.elem p then cloL f no todo seen else cloL f no (facO (p-1)++todo) (p::seen)
def lcmL(a:Nat)(l:List Nat):Nat:=l.foldl (λa p=>Nat.lcm a (p-1)) a
def leafB(m:Nat)(no Q:List Nat)(M q:Nat):Bool:=
 Nat.beq (M%32768) 0&&Nat.beq (M%m) 0&&Nat.beq ((q-1)%M) 0&&Nat.ble 1099511627777 q&&Nat.ble q 4503599627370495&&isB q&&(facO m).all (λr=>Q.elem r||no.elem r)&&
 Q.all λp=>Nat.beq (M%(p-1)) 0&&(facO (p-1)).all λr=>Q.elem r||no.elem r
def covB:Nat->Nat->List Nat->List Nat->List Nat->Option (List Nat)
 |0,_,_,_,_=>none
 |f+1,m,yes,no,data=>
   bif Nat.ble 4294967297 (lcmL m yes) then some data
   else
    match cloL 64 no (facO m) [] with
    |Q=>
      match lcmL (Nat.lcm m 32768) Q with
      |M=>
        bif Nat.ble M 70368744177664 then
         match data with
         |[]=>none
         |i::ds=>bif leafB m no Q M ((1099511627776/M+1+i)*M+1) then some ds else none
        else
         match(Q.filter λp=>!yes.elem p).max? with
         |none=>none
         |some p=>
           match covB f m yes (p::no) data with
           |none=>none
           |some ds=>covB f m (p::yes) no ds
theorem lcmL_dvd{o:Nat}:∀(l:List Nat) (a:Nat),a∣o->(∀p∈l,p-1∣o)->lcmL a l∣o
 |[],a,h,_=>h
 |p::l,a,h,hp=>lcmL_dvd l (Nat.lcm a (p-1)) (Nat.lcm_dvd h (hp p (List.mem_cons_self ..))) (λx hx=>hp x (List.mem_cons_of_mem _ hx))
theorem facO_all{n p:Nat}(h1:1<=n)(hn:n<2^64)(pp:Prm p)(p3:3<=p)(hd:p∣n):p∈facO n:=by
 obtain⟨r,hr,hrp⟩:=fac_all h1 hn hd (by omega)
 have r2:=(facL_ge n n 2 (by omega) r hr).1
 rcases pp.2 r hrp with e|e
 ·omega
 ·subst e
  exact List.mem_filter.2 ⟨hr,Nat.ble_eq_true_of_le p3⟩
structure OrdS(m:Nat)(S:List Nat)(o:Nat):Prop where
 m1:1<=m
 mb:m<=32768
 up:∀M,32768∣M->m∣M->(∀p∈S,p-1∣M)->o∣M
 way:∀T:Nat->Prop,(∀p,Prm p->3<=p->p∣m->T p)->(∀r∈S,T r->∀p,Prm p->3<=p->p∣r-1->T p)->∀p∈S,T p
 big:∀p∈S,3<=p/\p<=32768/\p-1∣o
 dvd:m∣o
 o1:1<=o
 ob:o<=4294967296
theorem leafB_ok{m o M q:Nat}{S no Q:List Nat}(h:leafB m no Q M q=true)(H:OrdS m S o)(hno:∀p∈no,p ∉ S):∃q,1099511627776<q/\q<4503599627370496/\o∣q-1/\isB q=true:=by
 unfold leafB at h
 simp only[Bool.and_eq_true,List.all_eq_true,Bool.or_eq_true,List.elem_iff] at h
 obtain⟨⟨⟨⟨⟨⟨⟨a1,a2⟩,a3⟩,a4⟩,a5⟩,a6⟩,a7⟩,a8⟩:=h
 have m1:=H.m1
 have mb:=H.mb
 refine⟨q,Nat.le_of_ble_eq_true a4,by have:=Nat.le_of_ble_eq_true a5;omega,Nat.dvd_trans (H.up M (Nat.dvd_of_mod_eq_zero (Nat.eq_of_beq_eq_true a1)) (Nat.dvd_of_mod_eq_zero (Nat.eq_of_beq_eq_true a2)) ?_) (Nat.dvd_of_mod_eq_zero (Nat.eq_of_beq_eq_true a3)),a6⟩
 have key:=H.way (λp=>p∈Q\/p∈no) (λp pp p3 hd=>a7 p (facO_all m1 (by omega) pp p3 hd)) (λr hr hT p pp p3 hd=>by
  obtain⟨r3,rb,-⟩:=H.big r hr
  rcases hT with hT|hT
  ·exact(a8 r hT).2 p (facO_all (by omega) (by omega) pp p3 hd)
  ·exact absurd hr (hno r hT))
 intro p hp
 rcases key p hp with h|h
 ·exact Nat.dvd_of_mod_eq_zero (Nat.eq_of_beq_eq_true (a8 p h).1)
 ·exact absurd hp (hno p h)
theorem covB_ok{m o:Nat}{S:List Nat}(H:OrdS m S o):∀(f:Nat) (yes no data ds:List Nat),covB f m yes no data=some ds->(∀p∈yes,p∈S)->(∀p∈no,p ∉ S)->
  ∃q,1099511627776<q/\q<4503599627370496/\o∣q-1/\isB q=true
 |0,_,_,_,_,h,_,_=>by cases h
 |f+1,yes,no,data,ds,h,hy,hn=>by
   unfold covB at h
   rcases hc:Nat.ble 4294967297 (lcmL m yes) with _|_
   ·rw[hc] at h
    dsimp only[cond] at h
    rcases hM:Nat.ble (lcmL (Nat.lcm m 32768) (cloL 64 no (facO m) [])) 70368744177664 with _|_
    ·rw[hM] at h
     dsimp only at h
     split at h
     ·cases h
     ·rename_i p hp
      split at h
      ·cases h
      ·rename_i ds2 h2
       by_cases hpS:p∈S
       ·exact covB_ok H f (p::yes) no ds2 ds h (λx hx=>by
          rcases List.mem_cons.1 hx with rfl|hx
          ·exact hpS
          ·exact hy x hx) hn
       ·exact covB_ok H f yes (p::no) data ds2 h2 hy (λx hx=>by
          rcases List.mem_cons.1 hx with rfl|hx
          ·exact hpS
          ·exact hn x hx)
    ·rw[hM] at h
     dsimp only at h
     split at h
     ·cases h
     ·rename_i i ds2
      rcases hl:leafB m no (cloL 64 no (facO m) []) (lcmL (Nat.lcm m 32768) (cloL 64 no (facO m) [])) ((1099511627776/lcmL (Nat.lcm m 32768) (cloL 64 no (facO m) [])+1+i)*lcmL (Nat.lcm m 32768) (cloL 64 no (facO m) [])+1) with _|_
      ·rw[hl] at h
       cases h
      ·exact leafB_ok hl H hn
   ·have h1:=Nat.le_of_ble_eq_true hc
    have h2:=Nat.le_of_dvd H.o1 (lcmL_dvd yes m H.dvd (λp hp=>(H.big p (hy p hp)).2.2))
    have:=H.ob
    omega
def wpow:Nat->Nat->Nat->Nat->Nat
 |0,_,_,q=>1%q
 |f+1,x,e,q=>bif Nat.beq e 0 then 1%q else Nat.pow (wpow f x (e/1024) q) 1024%q*(Nat.pow x (e%1024)%q)%q
theorem wpow_eq(x q:Nat):∀(f e:Nat),e<1024^f->wpow f x e q=x^e%q
 |0,e,h=>by
   have:e=0:=by simp at h;omega
   subst this
   rfl
 |f+1,e,h=>by
   unfold wpow
   rcases hb:Nat.beq e 0 with _|_
   ·show(wpow f x (e/1024) q)^1024%q*(x^(e%1024)%q)%q=x^e%q
    rw[wpow_eq x q f (e/1024) (by rw[Nat.pow_succ] at h;omega),<-Nat.mul_mod,Nat.mul_mod,<-Nat.pow_mod,<-Nat.mul_mod,<-Nat.pow_mul,<-Nat.pow_add]
    congr 2
    omega
   ·have:=Nat.eq_of_beq_eq_true hb
    subst this
    rfl
theorem pock{q F a:Nat}(q3:3<=q)(F2:2<=F)(Fb:F<2^64)(hF:F∣q-1)(hsq:q<F*F)(h1:a^(q-1)%q=1)(hg:∀r∈facL F F 2,Nat.gcd (a^((q-1)/r)%q+(q-1)) q=1):Prm q:=by
 apply Classical.byContradiction
 intro hq
 have:∃d,d∣q/\d≠1/\d≠q:=by
  apply Classical.byContradiction
  intro hc
  exact hq ⟨by omega,λd hd=>Classical.byContradiction λh=>hc ⟨d,hd,λe=>h (.inl e),λe=>h (.inr e)⟩⟩
 obtain⟨d,⟨c,hc⟩,d1,dq⟩:=this
 have d0:d≠0:=by rintro rfl;omega
 have c0:c≠0:=by rintro rfl;omega
 have c1:c≠1:=by rintro rfl;omega
 have:∃e,2<=e/\e∣q/\e*e<=q:=by
  rcases Nat.le_total d c with h|h
  ·exact⟨d,by omega,⟨c,hc⟩,by rw[hc];exact Nat.mul_le_mul_left d h⟩
  ·exact⟨c,by omega,⟨d,by rw[hc,Nat.mul_comm]⟩,by rw[hc];exact Nat.mul_le_mul_right c h⟩
 obtain⟨e,e2,eq,ee⟩:=this
 obtain⟨p,pp,hpe⟩:=prm_factor e e2
 have hple:=Nat.le_of_dvd (by omega) hpe
 have hpq:p∣q:=Nat.dvd_trans hpe eq
 have p2:=pp.1
 have hmod:∀k,a^k%q%p=a^k%p:=λk=>Nat.mod_mod_of_dvd _ hpq
 obtain⟨R,hR⟩:=hF
 have eR:(q-1)/F=R:=by rw[hR];exact Nat.mul_div_cancel_left _ (by omega)
 have h1p:(a^R)^F%p=1:=by
  rw[<-Nat.pow_mul,Nat.mul_comm,<-hR,<-hmod,h1]
  exact Nat.mod_eq_of_lt (by omega)
 have O:Ord (a^R) F p:=ord_of p2 (by omega) Fb h1p (by
  intro r hr hc
  have hgr:=hg r hr
  have r2:=(facL_ge F F 2 (by omega) r hr).1
  obtain⟨t,ht⟩:=facL_dvd F F 2 r hr
  have et:F/r=t:=by rw[ht];exact Nat.mul_div_cancel_left _ (by omega)
  have ert:(q-1)/r=R*t:=by rw[hR,ht,show r*t*R=r*(R*t) by ac_rfl];exact Nat.mul_div_cancel_left _ (by omega)
  rw[et,<-Nat.pow_mul,<-ert,<-hmod] at hc
  rw[show a^((q-1)/r)%q+(q-1)=a^((q-1)/r)%q+(q-1) from rfl] at hgr
  have hd:p∣a^((q-1)/r)%q+(q-1):=by
   obtain⟨y,hy⟩:=hpq
   have:=Nat.div_add_mod (a^((q-1)/r)%q) p
   rw[hc] at this
   generalize a^((q-1)/r)%q/p=z at this
   refine⟨z+y,?_⟩
   rw[Nat.mul_add]
   omega
  have:=Nat.dvd_gcd hd hpq
  rw[hgr] at this
  have:=Nat.le_of_dvd (by omega) this
  omega)
 have hpa:¬p∣a^R:=by
  intro hd
  have:p∣(a^R)^F:=(by
   obtain⟨k,rfl⟩:∃k,F=k+1:=⟨F-1,by omega⟩
   rw[Nat.pow_succ]
   exact Nat.dvd_trans hd (Nat.dvd_mul_left ..))
  rw[Nat.mod_eq_zero_of_dvd this] at h1p
  omega
 haveI:NeZero p:=⟨by omega⟩
 have hf:(a^R)^(p-1)%p=1:=one_pw p2 (fermat pp hpa)
 have hle:=Nat.le_of_dvd (by omega) (O.least _ hf)
 have h2:F*F<=e*e:=Nat.mul_le_mul (by omega) (by omega)
 omega
def smallL:List Nat:=[2,3,5,7,11,13,17,19,23,29,31,37,41,43,47,53,59,61,67,71,73,79,83,89,97,101,103,107,109,113,127,131,137,139,149,151,157,163,167,173,179,181]
def goP:List Nat->Nat->List Nat
 |[],n=>bif Nat.ble 2 n then [n] else []
 |p::l,n=>bif Nat.beq (n%p) 0 then p::goP l (stripL 16 n p) else goP l n
theorem small_all{y:Nat}(hy:Prm y)(h:y<=181):y∈smallL:=by
 have h1:(List.range 182).all (λy=>smallL.elem y||(Nat.ble y 1||(List.range y).any λd=>Nat.ble 2 d&&Nat.beq (y%d) 0))=true:=by decide+kernel
 have:=List.all_eq_true.1 h1 y (List.mem_range.2 (by omega))
 rw[Bool.or_eq_true,Bool.or_eq_true] at this
 rcases this with h2|h2|h2
 ·simpa using h2
 ·have:=Nat.le_of_ble_eq_true h2
  have:=hy.1
  omega
 ·obtain⟨d,hd,h3⟩:=List.any_eq_true.1 h2
  rw[Bool.and_eq_true] at h3
  have d2:=Nat.le_of_ble_eq_true h3.1
  have dy:=List.mem_range.1 hd
  rcases hy.2 d (Nat.dvd_of_mod_eq_zero (Nat.eq_of_beq_eq_true h3.2)) with e|e<;>omega
theorem small_prm:∀p∈smallL,Prm p:=by
 have h1:smallL.all primeB=true:=by decide+kernel
 exact λp hp=>prm_of (List.all_eq_true.1 h1 p hp)
theorem goP_all{x:Nat}(hx:Prm x):∀(l:List Nat) (n:Nat),1<=n->n<=32768->x∣n->(∀p∈l,Prm p)->(∀y,Prm y->y∣n->y∈l\/181<y)->x∈goP l n
 |[],n,h1,h2,hd,_,hy=>by
   have hx2:=hx.1
   have hle:=Nat.le_of_dvd (by omega) hd
   unfold goP
   rw[show Nat.ble 2 n=true from Nat.ble_eq_true_of_le (by omega)]
   obtain⟨c,rfl⟩:=hd
   have c0:c≠0:=by rintro rfl;omega
   by_cases hc:c=1
   ·subst hc;simp
   ·exfalso
    obtain⟨y,py,hyc⟩:=prm_factor c (by omega)
    have hyl:=Nat.le_of_dvd (by omega) hyc
    have a1:181<x:=(hy x hx (Nat.dvd_mul_right ..)).resolve_left (by simp)
    have a2:181<y:=(hy y py (Nat.dvd_trans hyc (Nat.dvd_mul_left ..))).resolve_left (by simp)
    have:182*182<=x*c:=Nat.mul_le_mul (by omega) (by omega)
    omega
 |p::l,n,h1,h2,hd,hl,hy=>by
   have pp:=hl p (List.mem_cons_self ..)
   have p2:=pp.1
   unfold goP
   rcases hm:Nat.beq (n%p) 0 with _|_
   ·show x∈goP l n
    have hnp:¬p∣n:=λh=>by rw[Nat.mod_eq_zero_of_dvd h] at hm;cases hm
    exact goP_all hx l n h1 h2 hd (λq hq=>hl q (List.mem_cons_of_mem _ hq)) (λy py hyn=>by
     rcases hy y py hyn with h|h
     ·rcases List.mem_cons.1 h with rfl|h
      ·exact absurd hyn hnp
      ·exact .inl h
     ·exact .inr h)
   ·show x∈p::goP l (stripL 16 n p)
    by_cases hxp:x=p
    ·subst hxp;exact List.mem_cons_self ..
    ·refine List.mem_cons_of_mem _ ?_
     have s1:=strip_of 16 n p
     have s2:=strip_free p2 16 n h1 (by omega)
     have s3:=strip_dvd 16 n p x h1 p2 hd (pp.two_co hx hxp)
     have s4:=Nat.le_of_dvd (by omega) s1
     exact goP_all hx l _ (strip_pos 16 n p h1) (by omega) s3 (λq hq=>hl q (List.mem_cons_of_mem _ hq)) (λy py hyn=>by
      rcases hy y py (Nat.dvd_trans hyn s1) with h|h
      ·rcases List.mem_cons.1 h with rfl|h
       ·exact absurd hyn s2
       ·exact .inl h
      ·exact .inr h)
theorem facP_all{n p:Nat}(h1:1<=n)(hn:n<=32768)(pp:Prm p)(hd:p∣n):p∈goP smallL n:=
 goP_all pp smallL n h1 hn hd small_prm (λy py _=>by
  rcases Nat.lt_or_ge 181 y with h|h
  ·exact .inr h
  ·exact .inl (small_all py h))
theorem gcd_up{q a e t:Nat}(q2:2<=q)(h:Nat.gcd (a^(e*t)%q+(q-1)) q=1):Nat.gcd (a^e%q+(q-1)) q=1:=by
 obtain⟨d,hd⟩:∃d,d=Nat.gcd (a^e%q+(q-1)) q:=⟨_,rfl⟩
 rw[<-hd]
 have d1:d∣q:=by rw[hd];exact Nat.gcd_dvd_right ..
 have d2:d∣a^e%q+(q-1):=by rw[hd];exact Nat.gcd_dvd_left ..
 have d4:a^e%d=1%d:=by
  have h1:(a^e%q)%d=a^e%d:=Nat.mod_mod_of_dvd _ d1
  rw[<-h1]
  obtain⟨u,hu⟩:=d1
  obtain⟨v,hv⟩:=d2
  generalize a^e%q=X at*
  have h2:X+d*u=d*v+1:=by omega
  have h3:(X+d*u)%d=X%d:=Nat.add_mul_mod_self_left ..
  have h4:(d*v+1)%d=1%d:=Nat.mul_add_mod ..
  rw[<-h3,h2,h4]
 have d5:a^(e*t)%d=1%d:=by
  rw[Nat.pow_mul,Nat.pow_mod,d4,<-Nat.pow_mod,Nat.one_pow]
 have d6:d∣a^(e*t)%q+(q-1):=by
  apply Nat.dvd_of_mod_eq_zero
  rw[Nat.add_mod,Nat.mod_mod_of_dvd _ d1,d5,<-Nat.add_mod,show 1+(q-1)=q by omega,Nat.mod_eq_zero_of_dvd d1]
 have:=Nat.dvd_gcd d6 d1
 rw[h] at this
 exact Nat.dvd_one.1 this
theorem pockP{q F a:Nat}(q3:3<=q)(F2:2<=F)(Fb:F<2^64)(hF:F∣q-1)(hsq:q<F*F)(h1:a^(q-1)%q=1)(hg:∀r,Prm r->r∣F->Nat.gcd (a^((q-1)/r)%q+(q-1)) q=1):Prm q:=by
 refine pock q3 F2 Fb hF hsq h1 (λr hr=>?_)
 have r2:=(facL_ge F F 2 (by omega) r hr).1
 have hd:=facL_dvd F F 2 r hr
 obtain⟨p,pp,t,ht⟩:=prm_factor r r2
 obtain⟨R,hR⟩:=Nat.dvd_trans hd hF
 have p2:=pp.1
 have e1:(q-1)/r=R:=by rw[hR];exact Nat.mul_div_cancel_left _ (by omega)
 have e2:(q-1)/p=R*t:=by rw[hR,ht,show p*t*R=p*(R*t) by ac_rfl];exact Nat.mul_div_cancel_left _ (by omega)
 have:=hg p pp (Nat.dvd_trans ⟨t,ht⟩ hd)
 rw[e2] at this
 rw[e1]
 exact gcd_up (by omega) this
def facQ(n:Nat):List Nat:=(goP smallL n).filter λp=>Nat.ble 3 p
theorem facQ_all{n p:Nat}(h1:1<=n)(hn:n<=32768)(pp:Prm p)(p3:3<=p)(hd:p∣n):p∈facQ n:=
 List.mem_filter.2 ⟨facP_all h1 hn pp hd,Nat.ble_eq_true_of_le p3⟩
def cloQ:Nat->List Nat->List Nat->List Nat->List Nat
 |0,_,_,seen=>seen
 |_+1,_,[],seen=>seen
 |f+1,no,p::todo,seen=>bif seen.elem p||no.elem p then cloQ f no todo seen else cloQ f no (facQ (p-1)++todo) (p::seen)
def pockB(F q a:Nat)(fm:List Nat):Bool:=
 Nat.ble (q+1) (F*F)&&Nat.beq ((q-1)%F) 0&&Nat.beq (wpow 6 a (q-1) q) 1&&(2::fm).all λr=>Nat.beq (Nat.gcd (wpow 6 a ((q-1)/r) q+(q-1)) q) 1
def leafP(m:Nat)(fm no Q:List Nat)(M q a:Nat):Bool:=
 Nat.beq (M%32768) 0&&Nat.beq (M%m) 0&&Nat.beq ((q-1)%M) 0&&Nat.ble 1099511627777 q&&Nat.ble q 4503599627370495&&(bif Nat.beq a 0 then isB q else pockB (32768*m) q a fm)&&fm.all (λr=>Q.elem r||no.elem r)&&
 Q.all λp=>Nat.beq (M%(p-1)) 0&&(facQ (p-1)).all λr=>Q.elem r||no.elem r
def covP:Nat->Nat->List Nat->List Nat->List Nat->List Nat->Option (List Nat)
 |0,_,_,_,_,_=>none
 |f+1,m,fm,yes,no,data=>
   bif Nat.ble 4294967297 (lcmL m yes) then some data
   else
    match cloQ 64 no fm [] with
    |Q=>
      match lcmL (Nat.lcm m 32768) Q with
      |M=>
        bif Nat.ble M 70368744177664 then
         match data with
         |[]=>none
         |e::ds=>bif leafP m fm no Q M ((1099511627776/M+1+e/32)*M+1) (e%32) then some ds else none
        else
         match(Q.filter λp=>!yes.elem p).max? with
         |none=>none
         |some p=>
           match covP f m fm yes (p::no) data with
           |none=>none
           |some ds=>covP f m fm (p::yes) no ds
theorem pockB_ok{m q a:Nat}{fm:List Nat}(m1:1<=m)(mb:m<=32768)(hf:∀p,Prm p->3<=p->p∣m->p∈fm)(hq:1099511627776<q)(hb:q<4503599627370496)(h:pockB (32768*m) q a fm=true):Prm q:=by
 unfold pockB at h
 simp only[Bool.and_eq_true,List.all_eq_true] at h
 obtain⟨⟨⟨h1,h2⟩,h3⟩,h4⟩:=h
 have h60:(1024:Nat)^6=1152921504606846976:=by decide
 have big:∀e,e<q->wpow 6 a e q=a^e%q:=λe he=>wpow_eq a q 6 e (by rw[h60];omega)
 refine pockP (a:=a) (by omega) (by omega) (by omega) (Nat.dvd_of_mod_eq_zero (Nat.eq_of_beq_eq_true h2)) (Nat.le_of_ble_eq_true h1) ?_ ?_
 ·rw[<-big _ (by omega)];exact Nat.eq_of_beq_eq_true h3
 ·intro r pr hr
  have hmem:r∈2::fm:=by
   rcases pr.mul hr with g|g
   ·have:r∣2:=pr.pow 15 (by exact g)
    have:=Nat.le_of_dvd (by omega) this
    have:=pr.1
    rw[show r=2 by omega]
    exact List.mem_cons_self ..
   ·have:=pr.1
    rcases(show r=2\/3<=r by omega) with e|e
    ·rw[e];exact List.mem_cons_self ..
    ·exact List.mem_cons_of_mem _ (hf r pr e g)
  have:=Nat.eq_of_beq_eq_true (h4 r hmem)
  rw[big _ (by have:=Nat.div_le_self (q-1) r;omega)] at this
  exact this
theorem leafP_ok{m o M q a:Nat}{S fm no Q:List Nat}(hfm:fm=facQ m)(h:leafP m fm no Q M q a=true)(H:OrdS m S o)(hno:∀p∈no,p ∉ S):∃q,1099511627776<q/\q<4503599627370496/\o∣q-1/\isB q=true:=by
 unfold leafP at h
 simp only[Bool.and_eq_true,List.all_eq_true,Bool.or_eq_true,List.elem_iff] at h
 obtain⟨⟨⟨⟨⟨⟨⟨a1,a2⟩,a3⟩,a4⟩,a5⟩,a6⟩,a7⟩,a8⟩:=h
 have m1:=H.m1
 have mb:=H.mb
 have hfq:∀p,Prm p->3<=p->p∣m->p∈fm:=λp pp p3 hd=>by rw[hfm];exact facQ_all m1 mb pp p3 hd
 have q1:=Nat.le_of_ble_eq_true a4
 have q2:=Nat.le_of_ble_eq_true a5
 have hq:isB q=true:=by
  rcases ha:Nat.beq a 0 with _|_
  ·rw[ha] at a6
   exact isB_prm (pockB_ok m1 mb hfq (by omega) (by omega) a6) (by omega)
  ·rw[ha] at a6
   exact a6
 refine⟨q,by omega,by omega,Nat.dvd_trans (H.up M (Nat.dvd_of_mod_eq_zero (Nat.eq_of_beq_eq_true a1)) (Nat.dvd_of_mod_eq_zero (Nat.eq_of_beq_eq_true a2)) ?_) (Nat.dvd_of_mod_eq_zero (Nat.eq_of_beq_eq_true a3)),hq⟩
 have key:=H.way (λp=>p∈Q\/p∈no) (λp pp p3 hd=>a7 p (hfq p pp p3 hd)) (λr hr hT p pp p3 hd=>by
  obtain⟨r3,rb,-⟩:=H.big r hr
  rcases hT with hT|hT
  ·exact(a8 r hT).2 p (facQ_all (by omega) (by omega) pp p3 hd)
  ·exact absurd hr (hno r hT))
 intro p hp
 rcases key p hp with h|h
 ·exact Nat.dvd_of_mod_eq_zero (Nat.eq_of_beq_eq_true (a8 p h).1)
 ·exact absurd hp (hno p h)
theorem covP_ok{m o:Nat}{S fm:List Nat}(hfm:fm=facQ m)(H:OrdS m S o):∀(f:Nat) (yes no data ds:List Nat),covP f m fm yes no data=some ds->(∀p∈yes,p∈S)->(∀p∈no,p ∉ S)->
  ∃q,1099511627776<q/\q<4503599627370496/\o∣q-1/\isB q=true
 |0,_,_,_,_,h,_,_=>by cases h
 |f+1,yes,no,data,ds,h,hy,hn=>by
   unfold covP at h
   rcases hc:Nat.ble 4294967297 (lcmL m yes) with _|_
   ·rw[hc] at h
    dsimp only[cond] at h
    rcases hM:Nat.ble (lcmL (Nat.lcm m 32768) (cloQ 64 no fm [])) 70368744177664 with _|_
    ·rw[hM] at h
     dsimp only at h
     split at h
     ·cases h
     ·rename_i p hp
      split at h
      ·cases h
      ·rename_i ds2 h2
       by_cases hpS:p∈S
       ·exact covP_ok hfm H f (p::yes) no ds2 ds h (λx hx=>by
          rcases List.mem_cons.1 hx with rfl|hx
          ·exact hpS
          ·exact hy x hx) hn
       ·exact covP_ok hfm H f yes (p::no) data ds2 h2 hy (λx hx=>by
          rcases List.mem_cons.1 hx with rfl|hx
          ·exact hpS
          ·exact hn x hx)
    ·rw[hM] at h
     dsimp only at h
     split at h
     ·cases h
     ·rename_i e ds2
      rcases hl:leafP m fm no (cloQ 64 no fm []) (lcmL (Nat.lcm m 32768) (cloQ 64 no fm [])) ((1099511627776/lcmL (Nat.lcm m 32768) (cloQ 64 no fm [])+1+e/32)*lcmL (Nat.lcm m 32768) (cloQ 64 no fm [])+1) (e%32) with _|_
      ·rw[hl] at h
       cases h
      ·exact leafP_ok hfm hl H hn
   ·have h1:=Nat.le_of_ble_eq_true hc
    have h2:=Nat.le_of_dvd H.o1 (lcmL_dvd yes m H.dvd (λp hp=>(H.big p (hy p hp)).2.2))
    have:=H.ob
    omega
def covS:Nat->List (List Nat)->Bool
 |_,[]=>true
 |m,d::t=>(match covP 32 m (facQ m) [] [] d with|some _=>true|none=>false)&&covS (m+2) t
theorem covS_ok:∀(l:List (List Nat)) (m:Nat),covS m l=true->∀i,i<l.length->∃ds ds',covP 32 (m+2*i) (facQ (m+2*i)) [] [] ds=some ds'
 |[],_,_,i,hi=>absurd hi (by simp)
 |d::t,m,h,i,hi=>by
   unfold covS at h
   rw[Bool.and_eq_true] at h
   cases i with
   |zero=>
     rcases hc:covP 32 m (facQ m) [] [] d with _|ds
     ·rw[hc] at h;cases h.1
     ·exact⟨d,ds,hc⟩
   |succ i=>
     have:=covS_ok t (m+2) h.2 i (by simpa using hi)
     rw[show m+2*(i+1)=m+2+2*i by omega]
     exact this
end Go.Proofs.Yteaimnemobnknaa
