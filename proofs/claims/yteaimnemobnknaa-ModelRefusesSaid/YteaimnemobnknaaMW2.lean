/- The contract of prime.Factor. -/
import Derived.Test.YteaimnemobnknaaX0
import Derived.Test.YteaimnemobnknaaMW1
import Derived.Test.YteaimnemobnknaaW12a
set_option maxRecDepth 100000
set_option maxHeartbeats 4000000
set_option linter.unusedSimpArgs false
set_option linter.unusedVariables false
namespace Go.Proofs.Yteaimnemobnknaa
open Go.RowKit Go.Lib
theorem stripL_step(f n p:Nat):stripL (f+1) n p=if n%p=0 then stripL f (n/p) p else n:=by
 show(bif _ then _ else _)=_
 rw[bif_eq]
theorem facL_step(f n p:Nat):facL (f+1) n p=if n<=1 then [] else if p*p<=n then(if n%p=0 then p::facL f (stripL 64 n p) (p+1) else facL f n (p+1)) else [n]:=by
 show(bif _ then _ else(bif _ then(bif _ then _ else _) else _))=_
 rw[bif_le,bif_le,bif_eq]
theorem facL_one(f p:Nat):facL f 1 p=[]:=by
 rcases f with _|f
 ·rfl
 ·rw[facL_step,if_pos (by omega)]
theorem info_power:(Try.prog.info? 159).map (λi=>(i.zero,i.size,i.bytes))=some (some (.agg #[.int .i64 0,.int .i64 0]),2,16):=by kernel_rfl
structure FacS(N:Nat)(n p:Nat)(L:List (Nat×Nat)):Prop where
 ex:∃f,N+2<=p+f/\L.map Prod.fst++facL f n p=facL N N 2
 le:n<=N
 n1:1<=n
 p2:2<=p
 sq:n=1\/(p-1)*(p-1)<=N
 big:2^L.length*n<=N
theorem stripL_bd(f:Nat):∀n p,1<=n->2<=p->1<=stripL f n p/\stripL f n p<=n:=by
 induction f with
 |zero=>intro n p h _;exact⟨h,Nat.le_refl _⟩
 |succ f ih=>
   intro n p h hp
   rw[stripL_step]
   by_cases e:n%p=0
   ·rw[if_pos e]
    have h1:1<=n/p:=Nat.div_pos (Nat.le_of_dvd (by omega) (Nat.dvd_of_mod_eq_zero e)) (by omega)
    have h2:=Nat.div_le_self n p
    have:=ih (n/p) p h1 hp
    omega
   ·rw[if_neg e];omega
theorem stripL_mono(f:Nat):∀n p,2<=p->1<=n->n<2^f->stripL (f+1) n p=stripL f n p:=by
 induction f with
 |zero=>intro n p hp h1 h2;omega
 |succ f ih=>
   intro n p hp h1 h2
   rw[stripL_step (f+1) n p,stripL_step f n p]
   by_cases e:n%p=0
   ·rw[if_pos e,if_pos e]
    have hd:n/p<=n/2:=Nat.div_le_div_left hp (by omega)
    have h3:1<=n/p:=Nat.div_pos (Nat.le_of_dvd (by omega) (Nat.dvd_of_mod_eq_zero e)) (by omega)
    exact ih _ _ hp h3 (by rw[Nat.pow_succ] at h2;omega)
   ·rw[if_neg e,if_neg e]
theorem cells_two(w:World)(a b:Int)(t:TypeId)(j:Nat)(u:Value)(h:[Value.int .i64 a,Value.int .i64 b][j]?=some u):(w.alloc (.cells #[.int .i64 a,.int .i64 b] t)).cell? ⟨w.heap.size,j,none⟩=some u:=by
 rcases j with _|_|j
 ·simp at h;subst h;simp[go_sem]
 ·simp at h;subst h;simp[go_sem]
 ·simp at h
theorem ones_two(a b:Int)(u:Value)(h:u∈[Value.int .i64 a,Value.int .i64 b]):u.oneCell'=true:=by
 simp at h
 rcases h with rfl|rfl<;>rfl
theorem stripL_end(f m p:Nat)(h:m%p≠0):stripL f m p=m:=by
 rcases f with _|f
 ·rfl
 ·rw[stripL_step,if_neg h]
theorem stripL_half(n p:Nat)(h1:1<=n)(hp:2<=p)(h:n%p=0):2*stripL 64 n p<=n:=by
 rw[stripL_step,if_pos h]
 have h3:1<=n/p:=Nat.div_pos (Nat.le_of_dvd (by omega) (Nat.dvd_of_mod_eq_zero h)) (by omega)
 have h2:=stripL_bd 63 (n/p) p h3 hp
 have h4:n/p<=n/2:=Nat.div_le_div_left hp (by omega)
 omega
theorem stripL_self(n:Nat)(h:2<=n):stripL 64 n n=1:=by
 rw[stripL_step,if_pos (Nat.mod_self n),Nat.div_self (by omega)]
 exact stripL_end _ _ _ (by rw[Nat.mod_eq_of_lt (by omega)];omega)
theorem sq_le{p N:Nat}(h:(p-1)*(p-1)<=N)(hN:N<=1099511627776):p<=1048577:=by
 apply Classical.byContradiction
 intro hh
 have:1048577*1048577<=(p-1)*(p-1):=Nat.mul_le_mul (by omega) (by omega)
 omega
theorem len_le{k n N:Nat}(h:2^k*n<=N)(hn:2<=n)(hN:N<=1099511627776):k<=39:=by
 apply Classical.byContradiction
 intro hh
 have h1:2^40<=2^k:=Nat.pow_le_pow_right (by omega) (by omega)
 have:2^40*2<=2^k*n:=Nat.mul_le_mul h1 hn
 omega
theorem FacS.last{N n p:Nat}{L:List (Nat×Nat)}(h:FacS N n p L)(hn:2<=n)(hp:n<p*p)(e:Nat):FacS N 1 (n+1) (L++[(n,e)]):=by
 obtain⟨f,hf,he⟩:=h.ex
 refine⟨⟨N+2,by omega,?_⟩,by have:=h.le;omega,by omega,by omega,.inl rfl,?_⟩
 ·rw[<-he,facL_one]
  have hle:=h.le
  rcases h.sq with hs|hs
  ·omega
  ·have hf0:f≠0:=by
     rintro rfl
     have:p<=(p-1)*(p-1)+1:=by
      have:(p-1)*1<=(p-1)*(p-1):=Nat.mul_le_mul (by omega) (by have:=h.p2;omega)
      omega
     omega
   obtain⟨f,rfl⟩:∃g,f=g+1:=⟨f-1,by omega⟩
   rw[facL_step,if_neg (by omega),if_neg (by omega)]
   simp
 ·have:=h.big
  rw[List.length_append]
  show 2^(L.length+1)*1<=N
  have h2:2^L.length*2<=2^L.length*n:=Nat.mul_le_mul (Nat.le_refl _) hn
  rw[Nat.pow_succ];omega
theorem FacS.fuel{N n p:Nat}{L:List (Nat×Nat)}(h:FacS N n p L)(hn:2<=n)(hp:p*p<=n):∃f,N+2<=p+(f+1)/\L.map Prod.fst++facL (f+1) n p=facL N N 2:=by
 obtain⟨f,hf,he⟩:=h.ex
 have hp2:=h.p2
 have hle:=h.le
 have:p*2<=p*p:=Nat.mul_le_mul (Nat.le_refl _) hp2
 exact⟨f-1,by omega,by rw[show f-1+1=f from by omega];exact he⟩
theorem FacS.hit{N n p:Nat}{L:List (Nat×Nat)}(h:FacS N n p L)(hn:2<=n)(hp:p*p<=n)(hd:n%p=0)(e:Nat):FacS N (stripL 64 n p) (p+1) (L++[(p,e)]):=by
 obtain⟨f,hf,he⟩:=h.fuel hn hp
 have hp2:=h.p2
 have hs:=stripL_bd 64 n p (by omega) hp2
 refine⟨⟨f,by omega,?_⟩,by have:=h.le;omega,hs.1,by omega,.inr (by have:=h.le;rw[Nat.add_sub_cancel];omega),?_⟩
 ·rw[<-he,facL_step,if_neg (by omega),if_pos hp,if_pos hd]
  simp
 ·have:=h.big
  have hh:=stripL_half n p (by omega) hp2 hd
  rw[List.length_append]
  show 2^(L.length+1)*_<=N
  have h2:2^L.length*(2*stripL 64 n p)<=2^L.length*n:=Nat.mul_le_mul (Nat.le_refl _) hh
  rw[Nat.pow_succ,Nat.mul_assoc];omega
theorem FacS.miss{N n p:Nat}{L:List (Nat×Nat)}(h:FacS N n p L)(hn:2<=n)(hp:p*p<=n)(hd:n%p≠0):FacS N n (p+1) L:=by
 obtain⟨f,hf,he⟩:=h.fuel hn hp
 refine⟨⟨f,by omega,?_⟩,h.le,h.n1,by have:=h.p2;omega,.inr (by have:=h.le;rw[Nat.add_sub_cancel];omega),h.big⟩
 rw[<-he,facL_step,if_neg (by omega),if_pos hp,if_neg hd]
structure DivS(n q m e:Nat):Prop where
 ex:∃f,e+f<=64/\m<2^f/\stripL f m q=stripL 64 n q
 m1:1<=m
 le:m<=n
 how:(e=0/\m=n)\/(0<e/\n%q=0)
theorem DivS.e64{n q m e:Nat}(h:DivS n q m e):e<=64:=by
 obtain⟨f,hf,_⟩:=h.ex
 omega
theorem DivS.step{n q m e:Nat}(h:DivS n q m e)(hq:2<=q)(hd:m%q=0):DivS n q (m/q) (e+1):=by
 obtain⟨f,hf,hm,hs⟩:=h.ex
 have h1:=h.m1
 have hf0:f≠0:=by rintro rfl;omega
 obtain⟨f,rfl⟩:∃g,f=g+1:=⟨f-1,by omega⟩
 rw[stripL_step,if_pos hd] at hs
 have h4:m/q<=m/2:=Nat.div_le_div_left hq (by omega)
 have h3:1<=m/q:=Nat.div_pos (Nat.le_of_dvd (by omega) (Nat.dvd_of_mod_eq_zero hd)) (by omega)
 refine⟨⟨f,by omega,by rw[Nat.pow_succ] at hm;omega,hs⟩,h3,by have:=h.le;omega,.inr ⟨by omega,?_⟩⟩
 rcases h.how with⟨_,rfl⟩|⟨_,h⟩
 ·exact hd
 ·exact h
theorem DivS.done{n q m e:Nat}(h:DivS n q m e)(hd:m%q≠0):m=stripL 64 n q:=by
 obtain⟨f,hf,hm,hs⟩:=h.ex
 rw[<-hs,stripL_end _ _ _ hd]
theorem Factor_any(N:Nat)(h1:1<=N)(h2:N<=1099511627776)(w:World):
  Calls Try.prog 119 #[.int .i64 N] w λz w'=>∃A c L,z=.returned (.slice A L.length c)/\L.length<=64/\PairsAt w' A L/\L.map Prod.fst=facL N N 2/\Below w.heap.size w w':=by
 have h0:¬(N:Int)<1:=by omega
 have HF:Hid (FacS N N 2 []):=aZ ⟨⟨N,by omega,rfl⟩,by omega,h1,by omega,.inr (by omega),by simp⟩
 go_enter Try.func119,Try.ntmps119
 go_wp2
 go_loopw [4,0,3] (λvp vn vo wr=>∃(p n:Nat) (L:List (Nat×Nat)),vp=.int .i64 p/\vn=.int .i64 n/\Hid (wr.ownsRow w.heap.size 159 2 vo L.length (pairsV L))/\Hid (FacS N n p L)/\Hid (Below w.heap.size w wr)/\p<=2199023255552) (λvp vn _ _=>(intOf vn).toNat*4398046511104+(4398046511104-(intOf vp).toNat))
 case atStart=>exact⟨2,N,[],rfl,rfl,aZ (World.ownsRow_nil _ _ _ _),HF,aZ (Below.refl _ _),by omega⟩
 case round=>
  clear HF
  obtain⟨p,n,L,rfl,rfl,hown,hf,hb,hpb⟩:=hrel
  have hn1:=hf.out.n1
  have hnN:=hf.out.le
  have hp2:=hf.out.p2
  by_cases hn:n=1
  ·subst hn
   obtain⟨A,c,rfl,hc,hlc,hcm,-⟩:=owns_cells hown.out
   have hl:L.length<=64:=by
    have:=hf.out.big
    apply Classical.byContradiction
    intro hh
    have h4:2^64<=2^L.length:=Nat.pow_le_pow_right (by omega) (by omega)
    omega
   have HC:=aZ (CellsAt.pairs hc)
   have HE:Hid (L.map Prod.fst=facL N N 2):=aZ (by
    obtain⟨f,_,he⟩:=hf.out.ex
    rw[facL_one,List.append_nil] at he
    exact he)
   clear hc hlc hcm
   go_wp2
   go_ret
   exact⟨A,c,L,rfl,hl,HC.out,HE.out,hb.out⟩
  ·have hn2:2<=n:=by omega
   have hni:(1:Int)<n:=by omega
   have hlen:=len_le hf.out.big hn2 h2
   have hp1:p<=1048577:=by
    rcases hf.out.sq with h|h
    ·omega
    ·exact sq_le h h2
   have hpp:(p:Int)*p=((p*p:Nat):Int):=(Int.natCast_mul p p).symm
   have hppb:p*p<=1048577*1048577:=Nat.mul_le_mul hp1 hp1
   by_cases hsq:n<p*p
   ·have hsi:(n:Int)<(p:Int)*p:=by omega
    have HPP:=aZ hpp
    have HDi:Hid (DivS n n n 0):=aZ ⟨⟨64,by omega,by omega,rfl⟩,by omega,by omega,.inl ⟨rfl,rfl⟩⟩
    have hq0:¬(n:Int)=0:=by omega
    have hq2:2<=n:=hn2
    have HQD:Hid (n%n=0):=aZ (Nat.mod_self n)
    have hsq2:=aZ hsq
    clear hpp hsq hn
    go_wp2
    go_loop [0,5] (λvm ve=>∃m e:Nat,vm=.int .i64 m/\ve=.int .i64 e/\Hid (DivS n n m e)) (λvm _=>(intOf vm).toNat)
    case atStart=>exact⟨n,0,rfl,rfl,HDi⟩
    case round=>
     clear HDi
     obtain⟨m,e,rfl,rfl,hd⟩:=hrel
     have he64:=hd.out.e64
     have hm1:=hd.out.m1
     have hmn:=hd.out.le
     have hmod:(m:Int)%n=((m%n:Nat):Int):=(Int.natCast_emod m n).symm
     by_cases hmq:m%n=0
     ·have hmz:((m:Int)%n==0)=true:=by rw[beq_iff_eq,hmod,hmq];rfl
      have HN:=aZ (hd.out.step hq2 hmq)
      have hdlt:m/n<m:=Nat.div_lt_self (by omega) (by omega)
      obtain⟨d,hdv⟩:∃d,m/n=d:=⟨_,rfl⟩
      rw[hdv] at HN hdlt
      have hdi:Hid (wrap64 ((m:Int)/n)=(d:Int)):=aZ (by rw[<-Int.natCast_ediv,hdv];unfold wrap64;omega)
      clear hdv
      clear hmod hmq
      go_wp2
      rw[hdi.out]
      exact⟨⟨d,e+1,rfl,by go_num,HN⟩,by simp[intOf];omega⟩
     ·have hmz:((m:Int)%n==0)=false:=by rw[beq_eq_false_iff_ne,hmod];omega
      have hm:=hd.out.done hmq
      have HM:=aZ hm
      have hhow:=hd.out.how
      have hm11:m<=1:=by have:=HM.out;rw[stripL_self n hn2] at this;omega
      clear hmod hm
      have he0:0<e:=by
       rcases hhow with⟨_,rfl⟩|⟨h,_⟩
       ·exact absurd HQD.out hmq
       ·exact h
      have hei:(0:Int)<e:=by omega
      have HFN:Hid (FacS N (stripL 64 n n) (n+1) (L++[(n,e)])):=aZ (by rw[stripL_self n hn2];exact hf.out.last hn2 hsq2.out e)
      have hsz:=hb.out.size
      clear hhow hmq
      go_wp2_with (at_builtin;refine wpList_appG rfl _ _ 157 159 rfl 2 16 (.agg #[.int .i64 0,.int .i64 0]) Try.underlying157 info_power rfl (by omega) (by omega) w.heap.size _ L.length (pairsV L) rfl (World.ownsRow.alloc hown.out _) _ _ [.int .i64 n,.int .i64 e] rfl rfl (cells_two _ _ _ _) (ones_two _ _) (by omega) (by simp;omega) ?_;intro v' w' g1 g2)
      rw[pairsV_app] at g1
      have HB:=aZ (owns_grow (World.ownsRow.alloc hown.out _) (hb.out.alloc hb.out.size _) g2.out (by simp;omega))
      have HO:Hid (w'.ownsRow w.heap.size 159 2 v' (L++[(n,e)]).length (pairsV (L++[(n,e)]))):=aZ (by rw[List.length_append];exact g1.out)
      clear g1 g2
      go_wp2
      exact⟨⟨n+1,m,L++[(n,e)],by go_num,rfl,HO,by rw[HM.out];exact HFN,HB,by omega⟩,by simp[intOf];omega⟩
   ·by_cases hnp:n%p=0
    ·have hsi:¬(n:Int)<(p:Int)*p:=by omega
     have HPP:=aZ hpp
     have HDi:Hid (DivS n p n 0):=aZ ⟨⟨64,by omega,by omega,rfl⟩,by omega,by omega,.inl ⟨rfl,rfl⟩⟩
     have hq0:¬(p:Int)=0:=by omega
     have hq2:2<=p:=hp2
     have HQD:Hid (n%p=0):=aZ hnp
     have hsq2:Hid (p*p<=n):=aZ (by omega)
     clear hnp
     clear hpp hsq hn
     go_wp2
     go_loop [0,5] (λvm ve=>∃m e:Nat,vm=.int .i64 m/\ve=.int .i64 e/\Hid (DivS n p m e)) (λvm _=>(intOf vm).toNat)
     case atStart=>exact⟨n,0,rfl,rfl,HDi⟩
     case round=>
      clear HDi
      obtain⟨m,e,rfl,rfl,hd⟩:=hrel
      have he64:=hd.out.e64
      have hm1:=hd.out.m1
      have hmn:=hd.out.le
      have hmod:(m:Int)%p=((m%p:Nat):Int):=(Int.natCast_emod m p).symm
      by_cases hmq:m%p=0
      ·have hmz:((m:Int)%p==0)=true:=by rw[beq_iff_eq,hmod,hmq];rfl
       have HN:=aZ (hd.out.step hq2 hmq)
       have hdlt:m/p<m:=Nat.div_lt_self (by omega) (by omega)
       obtain⟨d,hdv⟩:∃d,m/p=d:=⟨_,rfl⟩
       rw[hdv] at HN hdlt
       have hdi:Hid (wrap64 ((m:Int)/p)=(d:Int)):=aZ (by rw[<-Int.natCast_ediv,hdv];unfold wrap64;omega)
       clear hdv
       clear hmod hmq
       go_wp2
       rw[hdi.out]
       exact⟨⟨d,e+1,rfl,by go_num,HN⟩,by simp[intOf];omega⟩
      ·have hmz:((m:Int)%p==0)=false:=by rw[beq_eq_false_iff_ne,hmod];omega
       have hm:=hd.out.done hmq
       have HM:=aZ hm
       have hhow:=hd.out.how
       clear hmod hm
       have he0:0<e:=by
        rcases hhow with⟨_,rfl⟩|⟨h,_⟩
        ·exact absurd HQD.out hmq
        ·exact h
       have hei:(0:Int)<e:=by omega
       have HFN:=aZ (hf.out.hit hn2 hsq2.out HQD.out e)
       have hsz:=hb.out.size
       clear hhow hmq
       go_wp2_with (at_builtin;refine wpList_appG rfl _ _ 157 159 rfl 2 16 (.agg #[.int .i64 0,.int .i64 0]) Try.underlying157 info_power rfl (by omega) (by omega) w.heap.size _ L.length (pairsV L) rfl (World.ownsRow.alloc hown.out _) _ _ [.int .i64 p,.int .i64 e] rfl rfl (cells_two _ _ _ _) (ones_two _ _) (by omega) (by simp;omega) ?_;intro v' w' g1 g2)
       rw[pairsV_app] at g1
       have HB:=aZ (owns_grow (World.ownsRow.alloc hown.out _) (hb.out.alloc hb.out.size _) g2.out (by simp;omega))
       have HO:Hid (w'.ownsRow w.heap.size 159 2 v' (L++[(p,e)]).length (pairsV (L++[(p,e)]))):=aZ (by rw[List.length_append];exact g1.out)
       clear g1 g2
       go_wp2
       exact⟨⟨p+1,m,L++[(p,e)],by go_num,rfl,HO,by rw[HM.out];exact HFN,HB,by omega⟩,by simp[intOf];omega⟩
    ·have hsi:¬(n:Int)<(p:Int)*p:=by omega
     have HPP:=aZ hpp
     have HDi:Hid (DivS n p n 0):=aZ ⟨⟨64,by omega,by omega,rfl⟩,by omega,by omega,.inl ⟨rfl,rfl⟩⟩
     have hq0:¬(p:Int)=0:=by omega
     have hq2:2<=p:=hp2
     have HQD:Hid (¬n%p=0):=aZ hnp
     have hsq2:Hid (p*p<=n):=aZ (by omega)
     clear hnp
     clear hpp hsq hn
     go_wp2
     go_loop [0,5] (λvm ve=>∃m e:Nat,vm=.int .i64 m/\ve=.int .i64 e/\Hid (DivS n p m e)) (λvm _=>(intOf vm).toNat)
     case atStart=>exact⟨n,0,rfl,rfl,HDi⟩
     case round=>
      clear HDi
      obtain⟨m,e,rfl,rfl,hd⟩:=hrel
      have he64:=hd.out.e64
      have hm1:=hd.out.m1
      have hmn:=hd.out.le
      have hmod:(m:Int)%p=((m%p:Nat):Int):=(Int.natCast_emod m p).symm
      by_cases hmq:m%p=0
      ·have hmz:((m:Int)%p==0)=true:=by rw[beq_iff_eq,hmod,hmq];rfl
       have HN:=aZ (hd.out.step hq2 hmq)
       have hdlt:m/p<m:=Nat.div_lt_self (by omega) (by omega)
       obtain⟨d,hdv⟩:∃d,m/p=d:=⟨_,rfl⟩
       rw[hdv] at HN hdlt
       have hdi:Hid (wrap64 ((m:Int)/p)=(d:Int)):=aZ (by rw[<-Int.natCast_ediv,hdv];unfold wrap64;omega)
       clear hdv
       clear hmod hmq
       go_wp2
       rw[hdi.out]
       exact⟨⟨d,e+1,rfl,by go_num,HN⟩,by simp[intOf];omega⟩
      ·have hmz:((m:Int)%p==0)=false:=by rw[beq_eq_false_iff_ne,hmod];omega
       have hm:=hd.out.done hmq
       have HM:=aZ hm
       have hhow:=hd.out.how
       clear hmod hm
       obtain⟨rfl,rfl⟩:e=0/\m=n:=by
        rcases hhow with h|⟨_,h⟩
        ·exact h
        ·exact absurd h HQD.out
       have HFN:=aZ (hf.out.miss hn2 hsq2.out HQD.out)
       clear hhow hmq HM
       go_wp2
       exact⟨⟨p+1,m,L,by go_num,rfl,hown,HFN,hb,by omega⟩,by simp[intOf];omega⟩
theorem facL_ge(f:Nat):∀n q,2<=q->∀p∈facL f n q,2<=p/\p<=max n q:=by
 induction f with
 |zero=>intro n q _ p h;cases h
 |succ f ih=>
   intro n q hq p h
   rw[facL_step] at h
   by_cases h1:n<=1
   ·rw[if_pos h1] at h;cases h
   ·rw[if_neg h1] at h
    by_cases h2:q*q<=n
    ·rw[if_pos h2] at h
     have hqn:q*2<=q*q:=Nat.mul_le_mul (Nat.le_refl _) hq
     by_cases h3:n%q=0
     ·rw[if_pos h3] at h
      rcases List.mem_cons.1 h with rfl|h
      ·omega
      ·have:=ih _ _ (by omega) p h
       have hs:=stripL_bd 64 n q (by omega) hq
       omega
     ·rw[if_neg h3] at h
      have:=ih _ _ (by omega) p h
      omega
    ·rw[if_neg h2] at h
     rcases List.mem_cons.1 h with rfl|h
     ·omega
     ·cases h
theorem ordD_step(f a n e p:Nat):ordD (f+1) a n e p=if e%p=0 then(if pmB a (e/p) n=pmB 1 1 n then ordD f a n (e/p) p else e) else e:=by
 show(bif _ then(bif _ then _ else _) else _)=_
 rw[bif_eq,bif_eq]
theorem ordD_bd(f:Nat):∀a n e p,1<=e->2<=p->1<=ordD f a n e p/\ordD f a n e p<=e:=by
 induction f with
 |zero=>intro a n e p h _;exact⟨h,Nat.le_refl _⟩
 |succ f ih=>
   intro a n e p h hp
   rw[ordD_step]
   by_cases h1:e%p=0
   ·rw[if_pos h1]
    by_cases h2:pmB a (e/p) n=pmB 1 1 n
    ·rw[if_pos h2]
     have h3:1<=e/p:=Nat.div_pos (Nat.le_of_dvd (by omega) (Nat.dvd_of_mod_eq_zero h1)) (by omega)
     have h4:=Nat.div_le_self e p
     have:=ih a n (e/p) p h3 hp
     omega
    ·rw[if_neg h2];omega
   ·rw[if_neg h1];omega
theorem pair_new(w:World)(x y:Int)(t:TypeId):(w.alloc (.cells #[.int .i64 x,.int .i64 y] t)).cell? ⟨w.heap.size,0,none⟩=some (.int .i64 x)/\(w.alloc (.cells #[.int .i64 x,.int .i64 y] t)).cell? ⟨w.heap.size,1,none⟩=some (.int .i64 y):=⟨by simp[go_sem],by simp[go_sem]⟩
theorem order_any(a n e:Nat)(hn:2<=n)(hn2:n<=2147483648)(ha:a<=2147483648)(he:1<=e)(he2:e<=1099511627776)(w:World):
  Calls Try.prog 130 #[.int .i64 a,.int .i64 n,.int .i64 e] w λz w'=>z=.returned (.int .i64 (ordB a n e:Nat))/\Below w.heap.size w w':=by
 have HFa:=aZ (Factor_any e he he2 w)
 have HP:=aZ (λ(x:Nat) (hx:x<=1099511627776) w=>Pow_any (a:Int) (a%n) x n (by rw[Int.natCast_emod]) (by omega) hn2 (by omega) (by omega) (by omega) w)
 have HP1:Hid (∀w,Calls Try.prog 71 #[.int .i64 1,.int .i64 1,.int .i64 n] w λz w'=>z=.returned (.int .i64 (pmod 1 1 n:Nat))/\Qt w w'):=aZ (λw=>Pow_any 1 1 1 n (by have:(1:Int)%n=1:=Int.emod_eq_of_lt (by omega) (by omega);rw[this];rfl) (by omega) hn2 (by omega) (by omega) (by omega) w)
 have HPe:Hid (∀x:Nat,x<=1099511627776->pmB a x n=pmod (a%n) x n):=aZ (λx hx=>by rw[pmB_eq _ _ _ (by omega) (by omega)];unfold pmod;rw[<-Nat.pow_mod])
 have HPe1:Hid (pmB 1 1 n=pmod 1 1 n):=aZ (pmB_eq _ _ _ (by omega) (by omega))
 obtain⟨T,hT⟩:∃T,ordB a n e=T:=⟨_,rfl⟩
 rw[hT]
 have HT:=aZ hT
 clear hT
 go_enter Try.func130,Try.ntmps130
 go_wp2_with fail
 refine HFa.out.mono ?_
 rintro z w1 ⟨A,c,L,rfl,hl,hp,hL,hb⟩
 have hge:=facL_ge e e 2 (by omega)
 rw[<-hL] at hge
 have HGe:Hid (∀(j p x:Nat),L[j]?=some (p,x)->2<=p/\p<=1099511627776):=aZ (λj p x hj=>by
  have:=hge p (List.mem_map.2 ⟨(p,x),List.mem_of_getElem? hj,rfl⟩)
  omega)
 have HR:Hid (ordL a n ((L.drop 0).map Prod.fst) e=T):=aZ (by
  show ordL a n (L.map Prod.fst) e=_
  rw[hL];exact HT.out)
 have HPr:=aZ hp
 have HB:=aZ hb
 clear hp hL hb hge HFa HT
 go_wp2
 go_loopw [2,12] (λve vj wr=>∃e j:Nat,ve=.int .i64 e/\vj=.int .i64 j/\j<=L.length/\1<=e/\e<=1099511627776/\Hid (ordL a n ((L.drop j).map Prod.fst) e=T)/\Hid (Below w1.heap.size w1 wr)) (λ_ vj _=>L.length-(intOf vj).toNat)
 case atStart=>exact⟨e,0,rfl,rfl,by omega,he,he2,HR,aZ (Below.refl _ _)⟩
 case round=>
  clear HR he he2
  obtain⟨e,j,rfl,rfl,hj,he,he2,hr,hb⟩:=hrel
  by_cases hlt:j<L.length
  ·have hji:(j:Int)<L.length:=by omega
   obtain⟨p,x,hpx⟩:∃p x,L[j]?=some (p,x):=⟨L[j].1,L[j].2,by rw[List.getElem?_eq_getElem hlt]⟩
   obtain⟨b,o,rfl,c0,c1⟩:=(HPr.out.keep hb.out) j p x hpx
   obtain⟨hp2,hp40⟩:=HGe.out j p x hpx
   have hdrop:L.drop j=(p,x)::L.drop (j+1):=by
    obtain⟨h,e⟩:=List.getElem?_eq_some_iff.1 hpx
    rw[<-List.getElem_cons_drop h,e]
   have HR:Hid (ordL a n ((L.drop (j+1)).map Prod.fst) (ordD 64 a n e p)=T):=aZ (by
    have:=hr.out
    rw[hdrop] at this
    exact this)
   have hz:=hb.out.size
   clear hdrop hpx hr
   go_upto_region 4 with(fail)
   have hnew:=pair_new wr (p:Int) (x:Int) 159
   have hW1:Below w1.heap.size w1 (wr.alloc (.cells #[.int .i64 (p:Int),.int .i64 (x:Int)] 159)):=hb.out.alloc hb.out.size _
   obtain⟨W,hW⟩:∃W,W=wr.alloc (.cells #[.int .i64 (p:Int),.int .i64 (x:Int)] 159):=⟨_,rfl⟩
   rw[<-hW] at hnew hW1|-
   have HW1:=aZ hW1
   have HNew:=aZ hnew
   obtain⟨B,hB⟩:∃B,B=wr.heap.size:=⟨_,rfl⟩
   rw[<-hB] at HNew|-
   clear hW hW1 hnew c0 c1 hz hB
   go_loopw [2] (λve wx=>∃f e':Nat,ve=.int .i64 e'/\1<=e'/\e'<=e/\e'<2^f/\Hid (ordL a n ((L.drop (j+1)).map Prod.fst) (ordD f a n e' p)=T)/\Hid (Below W.heap.size W wx)) (λve _=>(intOf ve).toNat)
   case atStart=>exact⟨64,e,rfl,he,by omega,by omega,HR,aZ (Below.refl _ _)⟩
   case round=>
    rename_i wx
    clear HR
    obtain⟨f,e',rfl,he',hle,hf,hr,hbx⟩:=hrel
    obtain⟨f,rfl⟩:∃g,f=g+1:=⟨f-1,by
     have:f≠0:=by rintro rfl;omega
     omega⟩
    obtain⟨r0,r1⟩:=HNew.out
    replace r0:=keep_cell hbx.out r0
    replace r1:=keep_cell hbx.out r1
    have hro:=hr.out
    rw[ordD_step] at hro
    have hp0:¬(p:Int)=0:=by omega
    have hmod:(e':Int)%p=((e'%p:Nat):Int):=(Int.natCast_emod e' p).symm
    clear hr
    by_cases h1:e'%p=0
    ·rw[if_pos h1] at hro
     have hb1:((e':Int)%p==0)=true:=by rw[beq_iff_eq,hmod,h1];rfl
     have hd1:1<=e'/p:=Nat.div_pos (Nat.le_of_dvd (by omega) (Nat.dvd_of_mod_eq_zero h1)) (by omega)
     have hd2:e'/p<e':=Nat.div_lt_self (by omega) (by omega)
     have hd4:e'/p<=e'/2:=Nat.div_le_div_left hp2 (by omega)
     obtain⟨d,hdv⟩:∃d,e'/p=d:=⟨_,rfl⟩
     rw[hdv] at hro hd1 hd2 hd4
     have hq:=HPe.out d (by omega)
     have hd3:d<=1099511627776:=by omega
     have hdi:wrap64 ((e':Int)/p)=(d:Int):=by rw[<-Int.natCast_ediv,hdv];exact wrap64_nat d (by omega)
     have hq1:=HPe1.out
     have HPd:=HP.out d hd3
     rw[hq,hq1] at hro
     obtain⟨X,hX⟩:∃X,pmod (a%n) d n=X:=⟨_,rfl⟩
     obtain⟨Y,hY⟩:∃Y,pmod 1 1 n=Y:=⟨_,rfl⟩
     have HP1':=HP1.out
     rw[hX] at hro HPd
     rw[hY] at hro HP1'
     have HPD:=aZ HPd
     have HPY:=aZ HP1'
     clear hq hq1 hX hY hdv h1 hmod HPd HP1'
     by_cases hXY:X=Y
     ·rw[if_pos hXY] at hro
      have HRo:=aZ hro
      have hb2:((X:Int)==(Y:Int))=true:=by rw[beq_iff_eq,hXY]
      clear hro hXY
      go_wp2_with fail
      refine(HPD.out _).mono ?_
      rintro z w2 ⟨rfl,hq2⟩
      have HB2:=aZ (hbx.out.trans (hq2.below.mono hbx.out.size))
      have r02:=keep_cell hq2.below r0
      clear hq2
      go_wp2_with fail
      refine(HPY.out _).mono ?_
      rintro z w3 ⟨rfl,hq3⟩
      have HB3:=aZ (HB2.out.trans (hq3.below.mono HB2.out.size))
      have r03:=keep_cell hq3.below r02
      clear hq3 r02 r0 r1
      go_wp2
      rw[hdi]
      clear hdi
      exact⟨⟨f,d,rfl,hd1,by omega,by rw[Nat.pow_succ] at hf;omega,HRo,HB3⟩,by simp[intOf];omega⟩
     ·rw[if_neg hXY] at hro
      have HRo:=aZ hro
      have hb2:((X:Int)==(Y:Int))=false:=by rw[beq_eq_false_iff_ne];omega
      clear hro hXY
      go_wp2_with fail
      refine(HPD.out _).mono ?_
      rintro z w2 ⟨rfl,hq2⟩
      have HB2:=aZ (hbx.out.trans (hq2.below.mono hbx.out.size))
      have r02:=keep_cell hq2.below r0
      clear hq2
      go_wp2_with fail
      refine(HPY.out _).mono ?_
      rintro z w3 ⟨rfl,hq3⟩
      have HB3:=aZ (HB2.out.trans (hq3.below.mono HB2.out.size))
      have HB4:=aZ (HW1.out.trans (HB3.out.mono HW1.out.size))
      clear hq3 r02 r0 r1
      go_wp2
      exact⟨⟨e',j+1,rfl,by go_num,by omega,he',by omega,HRo,HB4⟩,by simp[intOf];omega⟩
    ·rw[if_neg h1] at hro
     have HRo:=aZ hro
     have hb1:((e':Int)%p==0)=false:=by rw[beq_eq_false_iff_ne,hmod];omega
     have HB4:=aZ (HW1.out.trans (hbx.out.mono HW1.out.size))
     clear hro h1 hmod
     go_wp2
     exact⟨⟨e',j+1,rfl,by go_num,by omega,he',by omega,HRo,HB4⟩,by simp[intOf];omega⟩
  ·obtain rfl:j=L.length:=by omega
   have HE:Hid (e=T):=aZ (by
    have:=hr.out
    rw[List.drop_length] at this
    exact this)
   clear hr
   go_wp2
   go_ret
   exact⟨by rw[<-HE.out];rfl,HB.out.trans (hb.out.mono HB.out.size)⟩
theorem rooL_step(f g p:Nat):rooL (f+1) g p=if ordB g p (p-1)=p-1 then g else rooL f (g+1) p:=by
 show(bif _ then _ else _)=_
 rw[bif_eq]
structure Rooted(p:Nat):Prop where
 p3:3<=p
 le:p<=2147483648
 is:isB p=true
 ord:ordB (rootB p) p (p-1)=p-1
 one:pmod (rootB p) (p-1) p=1
 small:rootB p<=199
theorem rooted_of{p:Nat}(h3:3<=p)(hle:p<=32768)(hp:primeB p=true)(hi:isB p=primeB p)(h:rootOk p=true):Rooted p:=by
 unfold rootOk at h
 rw[hp] at h
 have h':(bif Nat.ble p 2 then true else(λg=>bif Nat.beq (ordB g p (p-1)) (p-1) then(bif Nat.beq (pmB g (p-1) p) 1 then Nat.ble g 199 else false) else false) (rootB p))=true:=h
 rw[bif_le,if_neg (by omega)] at h'
 have h'':(bif Nat.beq (ordB (rootB p) p (p-1)) (p-1) then(bif Nat.beq (pmB (rootB p) (p-1) p) 1 then Nat.ble (rootB p) 199 else false) else false)=true:=h'
 rw[bif_eq,bif_eq] at h''
 by_cases a:ordB (rootB p) p (p-1)=p-1
 ·rw[if_pos a] at h''
  by_cases b:pmB (rootB p) (p-1) p=1
  ·rw[if_pos b] at h''
   exact⟨h3,by omega,by rw[hi,hp],a,by rw[<-pmB_eq _ _ _ (by omega) (by omega)];exact b,Nat.le_of_ble_eq_true h''⟩
  ·rw[if_neg b] at h'';cases h''
 ·rw[if_neg a] at h'';cases h''
theorem Root_any(p:Nat)(R:Rooted p)(w:World):
  Calls Try.prog 127 #[.int .i64 p] w λz w'=>z=.returned (.int .i64 (rootB p:Nat))/\Below w.heap.size w w':=by
 have hp3:=R.p3
 have hple:=R.le
 have hI:=is_any p hple
 rw[R.is] at hI
 have HI:=aZ hI
 have HO:=aZ (λ(g:Nat) (hg:g<=2147483648) w=>order_any g p (p-1) (by omega) hple hg (by omega) (by omega) w)
 have hs:=R.small
 have hor:=R.ord
 obtain⟨r,hr⟩:∃r,rootB p=r:=⟨_,rfl⟩
 rw[hr] at hs hor|-
 have HR:Hid (rooL 200 1 p=r):=aZ hr
 have HOr:=aZ hor
 have hpc:((p-1:Nat):Int)=(p:Int)-1:=by omega
 have HPc:=aZ hpc
 clear hI hor hr R hpc
 go_enter Try.func127,Try.ntmps127
 go_wp2_with fail
 refine(HI.out _).mono ?_
 rintro z w1 ⟨rfl,hb⟩
 have HB:=aZ hb
 clear hb
 go_wp2
 go_loopw [3] (λvg wr=>∃f g:Nat,vg=.int .i64 g/\g+f=201/\Hid (rooL f g p=r)/\Hid (Below w.heap.size w wr)) (λvg _=>201-(intOf vg).toNat)
 case atStart=>exact⟨200,1,rfl,rfl,HR,HB⟩
 case round=>
  clear HR HB
  obtain⟨f,g,rfl,hfg,hrl,hb⟩:=hrel
  obtain⟨f,rfl⟩:∃f',f=f'+1:=⟨f-1,by
   have:f≠0:=by
    rintro rfl
    have h1:g=r:=hrl.out
    omega
   omega⟩
  have hro:=hrl.out
  rw[rooL_step] at hro
  have HOg:=HO.out g (by omega)
  rw[HPc.out] at HOg
  by_cases h1:ordB g p (p-1)=p-1
  ·rw[if_pos h1] at hro
   subst hro
   rw[h1,HPc.out] at HOg
   have HOG:=aZ HOg
   have hpp:((p:Int)-1 != (p:Int)-1)=false:=by simp
   clear h1 HOg hrl
   go_wp2_with fail
   refine(HOG.out _).mono ?_
   rintro z w2 ⟨rfl,hb2⟩
   have HB2:=aZ (hb.out.trans (hb2.mono hb.out.size))
   clear hb2
   go_wp2
   go_ret
   exact⟨rfl,HB2.out⟩
  ·rw[if_neg h1] at hro
   have HRo:=aZ hro
   obtain⟨e,he⟩:∃e,ordB g p (p-1)=e:=⟨_,rfl⟩
   rw[he] at h1 HOg
   have HOG:=aZ HOg
   have hpp:((e:Int) != (p:Int)-1)=true:=by rw[bne_iff_ne];omega
   clear h1 HOg hrl he hro
   go_wp2_with fail
   refine(HOG.out _).mono ?_
   rintro z w2 ⟨rfl,hb2⟩
   have HB2:=aZ (hb.out.trans (hb2.mono hb.out.size))
   clear hb2
   go_wp2
   exact⟨⟨f,g+1,by go_num,by omega,HRo,HB2⟩,by simp[intOf];omega⟩
theorem Squares_any(n:Nat)(h1:1<=n)(h2:n<=32768)(w:World):
  Calls Try.prog 112 #[.int .i64 n] w λz w'=>z=.returned (.tuple #[.slice (some ⟨w.heap.size,0,none⟩) n n,.int .i64 0])/\Row w' w.heap.size n (λk=>((sqr n k:Nat):Int))/\Below w.heap.size w w':=by
 have hmk:=mk_int n (by omega)
 have h0:¬(n:Int)<1:=by omega
 have h3:(n:Int)<=32768:=by omega
 go_enter Try.func112,Try.ntmps112
 go_wp2
 go_loopw [16] (λi wr=>∃k:Nat,k<=n/\i=.int .i64 k/\Hid (Row wr w.heap.size n (λx=>if x<k then((sqr n x:Nat):Int) else 0))/\Hid (w.heap.size<wr.heap.size)/\Hid (Below w.heap.size w wr)) (λi _=>n-(intOf i).toNat)
 case atStart=>exact⟨0,by omega,rfl,aZ ((zs_row n w _).congr λi hi=>by simp),aZ (by simp),aZ ((Below.refl _ w).alloc (Nat.le_refl _) _)⟩
 case round=>
  obtain⟨k,hk,rfl,hr,hsz,hb⟩:=hrel
  by_cases hlt:k<n
  ·obtain⟨r1,r2⟩:=hr.out k hlt
   have hkk:k*k<=32768*32768:=Nat.mul_le_mul (by omega) (by omega)
   have hkc:(k:Int)*k=((k*k:Nat):Int):=(Int.natCast_mul k k).symm
   have hkb:(k:Int)*k<=1073741824/\0<=(k:Int)*k:=by rw[hkc];omega
   have hn0:¬2*(n:Int)=0:=by omega
   have hsq:(k:Int)*k%(2*(n:Int))=((sqr n k:Nat):Int):=by
    unfold sqr
    rw[Int.natCast_emod,Int.natCast_mul,Int.natCast_mul]
    rfl
   have HSq:=aZ hsq
   have HS:Hid (Row (_:World) w.heap.size n (λx=>if x<k+1 then((sqr n x:Nat):Int) else 0)):=aZ ((hr.out.set hlt ((sqr n k:Nat):Int)).congr λi hi=>by
    unfold updT
    by_cases e:i=k
    ·rw[if_pos e,if_pos (by omega),e]
    ·rw[if_neg e]
     by_cases e2:i<k
     ·simp[e2,show i<k+1 from by omega]
     ·simp[e2,show ¬i<k+1 from by omega])
   have HB2:=aZ (hb.out.setCell (p:=⟨w.heap.size,k,none⟩) (Nat.le_refl _) (.int .i64 ((sqr n k:Nat):Int)))
   have HZ2:Hid (w.heap.size<((_:World).setCell ⟨w.heap.size,k,none⟩ (.int .i64 ((sqr n k:Nat):Int))).heap.size):=aZ (by simpa using hsz.out)
   have hki:(k:Int)<n:=by omega
   clear hkc hkk hr hb hsz
   go_wp2
   go_roundw
   case rel=>exact⟨k+1,by omega,by go_num,HS,HZ2,HB2⟩
   case measure=>simp[intOf];omega
  ·obtain rfl:k=n:=by omega
   have HR:Hid (Row wr w.heap.size k (λk'=>((sqr k k':Nat):Int))):=aZ (hr.out.congr λi hi=>by simp[hi])
   go_wp2
   go_ret2
   exact⟨rfl,HR.out,hb.out⟩
def padL:Nat->Nat->Nat->Nat
 |0,m,_=>m
 |f+1,m,n=>if m<2*n-1 then padL f (2*m) n else m
def padF(n:Nat):Nat:=padL 20 1 n
theorem padL_ge(f:Nat):∀m n,1<=m->2*n-1<=m*2^f->2*n-1<=padL f m n/\padL f m n<max (m+1) (4*n)/\∃k,padL f m n=m*2^k:=by
 induction f with
 |zero=>intro m n h h2;exact⟨by show 2*n-1<=m;rw[Nat.pow_zero,Nat.mul_one] at h2;exact h2,by show m<_;omega,0,by show m=m*1;omega⟩
 |succ f ih=>
   intro m n h h2
   show 2*n-1<=(if m<2*n-1 then padL f (2*m) n else m)/\(if m<2*n-1 then padL f (2*m) n else m)<_/\∃k,(if m<2*n-1 then padL f (2*m) n else m)=_
   by_cases e:m<2*n-1
   ·rw[if_pos e]
    obtain⟨a,b,k,hk⟩:=ih (2*m) n (by omega) (by rw[Nat.pow_succ,Nat.mul_comm (2^f),<-Nat.mul_assoc,Nat.mul_comm m 2] at h2;exact h2)
    refine⟨a,by omega,k+1,by rw[hk,Nat.pow_succ,Nat.mul_comm 2 m,Nat.mul_assoc,Nat.mul_comm 2]⟩
   ·rw[if_neg e]
    exact⟨by omega,by omega,0,by omega⟩
theorem padF_spec(n:Nat)(h1:1<=n)(h2:n<=16384):2*n-1<=padF n/\padF n<4*n/\(∃k,padF n=2^k)/\1<=padF n/\padF n<=32768:=by
 obtain⟨a,b,k,hk⟩:=padL_ge 20 1 n (by omega) (by omega)
 have hk':padF n=2^k:=by unfold padF;rw[hk,Nat.one_mul]
 refine⟨a,by unfold padF;omega,⟨k,hk'⟩,by unfold padF;omega,?_⟩
 have hb:padF n<65536:=by unfold padF;omega
 apply Classical.byContradiction
 intro hh
 have h16:¬k<=15:=λh=>by
  have:2^k<=2^15:=Nat.pow_le_pow_right (by omega) h
  omega
 have:2^16<=2^k:=Nat.pow_le_pow_right (by omega) (by omega)
 omega
theorem Padded_no(n:Int)(h:n<1\/16384<n)(w:World):
  Calls Try.prog 124 #[.int .i64 n] w λz w'=>z=.returned (.tuple #[.int .i64 0,.int .i64 3])/\w=w':=by
 by_cases h1:n<1
 ·clear h
  go_enter Try.func124,Try.ntmps124
  go_wp2
  go_ret2
  exact⟨rfl,rfl⟩
 ·have h2:16384<n:=by omega
  clear h
  go_enter Try.func124,Try.ntmps124
  go_wp2
  go_ret2
  exact⟨rfl,rfl⟩
theorem Padded_ok(n:Nat)(h1:1<=n)(h2:n<=16384)(w:World):
  Calls Try.prog 124 #[.int .i64 n] w λz w'=>z=.returned (.tuple #[.int .i64 (padF n:Nat),.int .i64 0])/\w=w':=by
 have h0:¬(n:Int)<1:=by omega
 have h3:(n:Int)<=16384:=by omega
 have hP:=padF_spec n h1 h2
 have HR:Hid (padL 20 1 n=padF n):=aZ rfl
 have hR:=hP.2.2.2.2
 have hG:=hP.1
 generalize padF n=P at*
 clear hP
 go_enter Try.func124,Try.ntmps124
 go_wp2
 go_loop [4] (λvm=>∃f m:Nat,vm=.int .i64 m/\1<=m/\m<=65536/\Hid (padL f m n=P)) (λvm=>65536-(intOf vm).toNat)
 case atStart=>exact⟨20,1,rfl,by omega,by omega,HR⟩
 case round=>
  clear HR
  obtain⟨f,m,rfl,hm,hm2,hp⟩:=hrel
  by_cases hlt:m<2*n-1
  ·have hlti:(m:Int)<2*(n:Int)-1:=by omega
   obtain⟨f,rfl⟩:∃f',f=f'+1:=⟨f-1,by
    have:f≠0:=by
     rintro rfl
     have h1:m=P:=hp.out
     omega
    omega⟩
   have hpo:Hid (padL f (2*m) n=P):=aZ (by
    have:=hp.out
    rw[show padL (f+1) m n=if m<2*n-1 then padL f (2*m) n else m from rfl,if_pos hlt] at this
    exact this)
   clear hp
   go_wp2
   exact⟨⟨f,2*m,by go_num,by omega,by omega,hpo⟩,by simp[intOf];omega⟩
  ·have hlti:¬(m:Int)<2*(n:Int)-1:=by omega
   have HE:Hid (m=P):=aZ (by
    have:=hp.out
    rcases f with _|f
    ·exact this
    ·rw[show padL (f+1) m n=if m<2*n-1 then padL f (2*m) n else m from rfl,if_neg hlt] at this
     exact this)
   clear hp hlt
   go_wp2
   go_ret2
   exact⟨by rw[<-HE.out];rfl,rfl⟩
def pwF(p k:Nat):Nat:=pmod (rootB p) k p
theorem Powers_any(p:Nat)(R:Rooted p)(h2:p<=32768)(w:World):
  Calls Try.prog 110 #[.int .i64 p] w λz w'=>∃b,z=.returned (.tuple #[.slice (some ⟨b,0,none⟩) (p-1:Nat) (p-1:Nat),.int .i64 0])/\w.heap.size<=b/\Row w' b (p-1) (λk=>((pwF p k:Nat):Int))/\Below w.heap.size w w':=by
 have hp3:=R.p3
 have hI:=is_any p (by omega)
 rw[R.is] at hI
 have HI:=aZ hI
 have HRo:=aZ (Root_any p R)
 have hs:=R.small
 obtain⟨m,hm⟩:∃m,p-1=m:=⟨_,rfl⟩
 have hmi:(p:Int)-1=(m:Int):=by omega
 have hmk:=mk_int m (by omega)
 have hmb:m<=32768:=by omega
 rw[hm]
 have HPw:Hid (∀k,pwF p k*rootB p%p=pwF p (k+1)):=aZ (λk=>by
  unfold pwF pmod
  rw[Nat.pow_succ,Nat.mod_mul_mod])
 have HPl:Hid (∀k,pwF p k<p):=aZ (λk=>pmod_lt _ _ _ (by omega))
 have HP0:Hid (pwF p 0=1):=aZ (by unfold pwF pmod;rw[Nat.pow_zero,Nat.mod_eq_of_lt (by omega)])
 obtain⟨g,hg⟩:∃g,rootB p=g:=⟨_,rfl⟩
 rw[hg] at HRo HPw hs
 have HM:=aZ hmi
 have h0:¬(p:Int)<2:=by omega
 have h3:(p:Int)<=32768:=by omega
 clear hI hg R hm hmi
 go_enter Try.func110,Try.ntmps110
 go_wp2_with fail
 refine(HI.out _).mono ?_
 rintro z w1 ⟨rfl,hb1⟩
 have HB1:=aZ hb1
 clear hb1
 go_wp2_with fail
 refine(HRo.out _).mono ?_
 rintro z w2 ⟨rfl,hb2⟩
 have HB2:=aZ (HB1.out.trans (hb2.mono HB1.out.size))
 clear hb2 HB1
 have hmi:=HM.out
 go_wp2
 clear hmi
 go_loopw [6,7] (λvk vx wr=>∃k:Nat,k<=m/\vk=.int .i64 k/\vx=.int .i64 (pwF p k:Nat)/\Hid (Row wr w2.heap.size m (λx=>if x<k then((pwF p x:Nat):Int) else 0))/\Hid (w2.heap.size<wr.heap.size)/\Hid (Below w2.heap.size w2 wr)) (λvk _ _=>m-(intOf vk).toNat)
 case atStart=>exact⟨0,by omega,rfl,by rw[HP0.out];rfl,aZ ((zs_row m w2 _).congr λi hi=>by simp),aZ (by simp),aZ ((Below.refl _ w2).alloc (Nat.le_refl _) _)⟩
 case round=>
  obtain⟨k,hk,rfl,rfl,hr,hsz,hb⟩:=hrel
  by_cases hlt:k<m
  ·obtain⟨r1,r2⟩:=hr.out k hlt
   have hx:=HPl.out k
   have hxn:=HPl.out (k+1)
   have hpw:=HPw.out k
   obtain⟨x,hxe⟩:∃x,pwF p k=x:=⟨_,rfl⟩
   obtain⟨y,hye⟩:∃y,pwF p (k+1)=y:=⟨_,rfl⟩
   have HS:Hid (Row (_:World) w2.heap.size m (λi=>if i<k+1 then((pwF p i:Nat):Int) else 0)):=aZ ((hr.out.set hlt (x:Int)).congr λi hi=>by
    unfold updT
    by_cases e:i=k
    ·rw[if_pos e,if_pos (by omega),e,hxe]
    ·rw[if_neg e]
     by_cases e2:i<k
     ·simp[e2,show i<k+1 from by omega]
     ·simp[e2,show ¬i<k+1 from by omega])
   rw[hxe] at hx hpw|-
   rw[hye] at hpw hxn
   have hxg:x*g<=32768*199:=Nat.mul_le_mul (by omega) hs
   have hxc:(x:Int)*g=((x*g:Nat):Int):=(Int.natCast_mul x g).symm
   have hxb:(x:Int)*g<=6520832/\0<=(x:Int)*g:=by rw[hxc];omega
   have hxw:IntKind.i64.wrap ((x:Int)*g)=(x:Int)*g:=by rw[hxc];exact wrapI_nat _ (by omega)
   have hmodc:((x:Int)*g).tmod p=(y:Int):=by rw[hxc,Int.tmod_eq_emod_of_nonneg (by omega),<-Int.natCast_emod,hpw]
   have hkw:IntKind.i64.wrap ((k:Int)+1)=(k:Int)+1:=by
    have:=wrapI_nat (k+1) (by omega)
    rw[Int.natCast_add] at this
    exact this
   have HY:Hid ((y:Int)=(pwF p (k+1):Nat)):=aZ (by rw[hye])
   have HB2:=aZ (hb.out.setCell (p:=⟨w2.heap.size,k,none⟩) (Nat.le_refl _) (.int .i64 (x:Int)))
   have HZ2:Hid (w2.heap.size<((_:World).setCell ⟨w2.heap.size,k,none⟩ (.int .i64 (x:Int))).heap.size):=aZ (by simpa using hsz.out)
   have hki:(k:Int)<(p:Int)-1:=by have:=HM.out;omega
   have hkm:(k:Int)<m:=by omega
   have hp0:¬(p:Int)=0:=by omega
   clear hxc hxe hye hpw hr hb hsz hxg
   go_wp2_with fail
   go_quiet (fail)
   go_wp2
   rw[HY.out]
   exact⟨⟨k+1,by omega,by go_num,rfl,aZ (HS.out.drewN nq),aZ HZ2.out,aZ (below_drewN HB2.out nq)⟩,by clear hxw hkw hmodc;simp[intOf];omega⟩
  ·obtain rfl:k=m:=by omega
   have HR:Hid (Row wr w2.heap.size k (λi=>((pwF p i:Nat):Int))):=aZ (hr.out.congr λi hi=>by simp[hi])
   have hki:¬(k:Int)<(p:Int)-1:=by have:=HM.out;omega
   have HBB:Hid (Below w.heap.size w wr):=aZ (HB2.out.trans (hb.out.mono HB2.out.size))
   have hbs:=HB2.out.size
   go_wp2
   go_ret2
   exact⟨_,rfl,hbs,HR.out,HBB.out⟩
theorem Gather_any(A:Option Addr)(n c off st cnt:Nat)(f:Nat->Int)(w:World)(hA:IntsAt w A n f)(hn:n<=17592186044416)(hst:1<=st)(hs2:st<=17592186044416)(hc:cnt<=17592186044416)(ho:off<=17592186044416)(h:Fits n off st cnt):
  Calls Try.prog 126 #[.slice A n c,.int .i64 off,.int .i64 st,.int .i64 cnt] w λz w'=>z=.returned (.tuple #[.slice (some ⟨w.heap.size,0,none⟩) cnt cnt,.int .i64 0])/\w.heap.size<w'.heap.size/\Row w' w.heap.size cnt (gathT f off st)/\Below w.heap.size w w':=by
 have HP:=aZ (strided_any n off st cnt w hn hst hs2 hc ho h)
 have hmk:=mk_int64 cnt hc
 have HA:=aZ hA
 have H:=aZ h
 clear hA h
 go_enter Try.func126,Try.ntmps126
 go_wp2_with fail
 refine HP.out.mono ?_
 rintro z w' ⟨rfl,rfl⟩
 go_wp2
 go_loopw [12,26] (λq i wr=>∃k:Nat,k<=cnt/\i=.int .i64 k/\Hid (Row wr w.heap.size cnt (λx=>if x<k then gathT f off st x else 0))/\Hid (w.heap.size<wr.heap.size)/\Hid (Below w.heap.size w wr)) (λ_ i _=>cnt-(intOf i).toNat)
 case atStart=>exact⟨0,by omega,rfl,aZ ((zs_row cnt w _).congr λi hi=>by simp),aZ (by simp),aZ ((Below.refl _ w).alloc (Nat.le_refl _) _)⟩
 case round=>
  obtain⟨k,hk,rfl,hr,hsz,hb⟩:=hrel
  by_cases hlt:k<cnt
  ·obtain⟨a1,a2⟩:=H.out.at' hlt
   obtain⟨y,hy⟩:∃y,off+k*st=y:=⟨_,rfl⟩
   obtain⟨m,hm⟩:∃m,k*st=m:=⟨_,rfl⟩
   rw[hy] at a1
   rw[hm] at a2
   obtain⟨b,o,rfl,hcl⟩:=HA.out.keep hb.out y a1
   obtain⟨r1,r2⟩:=hr.out k hlt
   have HS:Hid (Row (_:World) w.heap.size cnt (λx=>if x<k+1 then gathT f off st x else 0)):=aZ ((hr.out.set hlt (f y)).congr λi hi=>by
    unfold updT
    by_cases e:i=k
    ·rw[if_pos e,if_pos (by omega),e];unfold gathT;rw[hy]
    ·rw[if_neg e]
     by_cases e2:i<k
     ·simp[e2,show i<k+1 from by omega]
     ·simp[e2,show ¬i<k+1 from by omega])
   have HB2:=aZ (hb.out.setCell (p:=⟨w.heap.size,k,none⟩) (Nat.le_refl _) (.int .i64 (f y)))
   have HZ2:Hid (w.heap.size<((_:World).setCell ⟨w.heap.size,k,none⟩ (.int .i64 (f y))).heap.size):=aZ (by simpa using hsz.out)
   have hki:(k:Int)<cnt:=by omega
   have hmc:(k:Int)*st=(m:Int):=by rw[<-Int.natCast_mul,hm]
   have hwm:wrap64 ((k:Int)*st)=(m:Int):=by rw[hmc];exact wrap64_nat m (by omega)
   have hyc:(off:Int)+(m:Int)=(y:Int):=by omega
   clear hm hy hmc
   go_wp2
   go_roundw
   case rel=>exact⟨k+1,by omega,by go_num,HS,HZ2,HB2⟩
   case measure=>clear hwm;simp[intOf];omega
  ·obtain rfl:k=cnt:=by omega
   have HR:Hid (Row wr w.heap.size k (gathT f off st)):=aZ (hr.out.congr λi hi=>by simp[hi])
   go_wp2
   go_ret2
   exact⟨rfl,hsz.out,HR.out,hb.out⟩
theorem gather_any(A:Option Addr)(n c off st cnt:Nat)(f:Nat->Int)(w:World)(hA:IntsAt w A n f)(hn:n<=17592186044416)(hst:1<=st)(hs2:st<=17592186044416)(hc:cnt<=17592186044416)(ho:off<=17592186044416)(h:Fits n off st cnt):
  Calls Try.prog 107 #[.slice A n c,.int .i64 off,.int .i64 st,.int .i64 cnt] w λz w'=>z=.returned (.slice (some ⟨w.heap.size,0,none⟩) cnt cnt)/\w.heap.size<w'.heap.size/\Row w' w.heap.size cnt (gathT f off st)/\Below w.heap.size w w':=by
 have HG:=aZ (Gather_any A n c off st cnt f w hA hn hst hs2 hc ho h)
 clear hA h
 go_enter Try.func107,Try.ntmps107
 go_wp2_with fail
 refine HG.out.mono ?_
 rintro z w' ⟨rfl,h1,h2,h3⟩
 have H1:=aZ h1
 have H2:=aZ h2
 have H3:=aZ h3
 clear h1 h2 h3
 go_wp2
 go_ret
 exact⟨rfl,H1.out,H2.out,H3.out⟩
theorem Scatter_any(b n c:Nat)(A':Option Addr)(m c' off st:Nat)(g f:Nat->Int)(w:World)(hA:Row w b n g)(hA':IntsAt w A' m f)(hd:0<m->∀b' o,A'=some ⟨b',o,none⟩->b'≠b)(hn:n<=17592186044416)(hm:m<=17592186044416)(hst:1<=st)(hs2:st<=17592186044416)(ho:off<=17592186044416)(h:Fits n off st m):
  Calls Try.prog 106 #[.slice (some ⟨b,0,none⟩) n c,.slice A' m c',.int .i64 off,.int .i64 st] w λz w'=>z=.returned (.int .i64 0)/\Row w' b n (scatT g f off st m)/\OnlyB b w w':=by
 have HP:=aZ (strided_any n off st m w hn hst hs2 hm ho h)
 have HA:=aZ hA
 have HA':=aZ hA'
 have HD:=aZ hd
 have H:=aZ h
 clear hA hA' h hd
 go_enter Try.func106,Try.ntmps106
 go_wp2_with fail
 refine HP.out.mono ?_
 rintro z w' ⟨rfl,rfl⟩
 go_wp2
 go_loopw [10,11,24] (λq r i wr=>∃k:Nat,k<=m/\i=.int .i64 k/\Hid (Row wr b n (scatT g f off st k))/\Hid (OnlyB b w wr)) (λ_ _ i _=>m-(intOf i).toNat)
 case atStart=>exact⟨0,by omega,rfl,HA,aZ (OnlyB.refl _ _)⟩
 case round=>
  obtain⟨k,hk,rfl,hr,ho'⟩:=hrel
  by_cases hlt:k<m
  ·obtain⟨a1,a2⟩:=H.out.at' hlt
   have HS0:=aZ ((hr.out.set a1 (f k)).congr (g:=scatT g f off st (k+1)) λi hi=>rfl)
   obtain⟨y,hy⟩:∃y,off+k*st=y:=⟨_,rfl⟩
   obtain⟨j,hj⟩:∃j,k*st=j:=⟨_,rfl⟩
   rw[hy] at a1 HS0
   rw[hj] at a2
   obtain⟨b',o,rfl,hcl⟩:=HA'.out.only ho'.out (λb o e=>HD.out (by omega) b o e) k hlt
   obtain⟨r1,r2⟩:=hr.out y a1
   have HO2:=aZ (ho'.out.setCell y none (.int .i64 (f k)))
   have hki:(k:Int)<m:=by omega
   have hmc:(k:Int)*st=(j:Int):=by rw[<-Int.natCast_mul,hj]
   have hwm:wrap64 ((k:Int)*st)=(j:Int):=by rw[hmc];exact wrap64_nat j (by omega)
   have hyc:(off:Int)+(j:Int)=(y:Int):=by omega
   clear hj hy hmc
   go_wp2
   go_roundw
   case rel=>exact⟨k+1,by omega,by go_num,HS0,HO2⟩
   case measure=>clear hwm;simp[intOf];omega
  ·obtain rfl:k=m:=by omega
   go_wp2
   go_ret
   exact⟨rfl,hr.out,ho'.out⟩
theorem Rest_any(a m:Int)(w:World)(hm:1<=m)(hm2:m<=4611686018427387904)(ha:-9223372036854775808<=a)(ha2:a<=9223372036854775807):
  Calls Try.prog 52 #[.int .i64 a,.int .i64 m] w λe w'=>e=.returned (.int .i64 (a%m))/\w=w':=by
 have h0:=Int.emod_nonneg a (show m≠0 by omega)
 have h1:=Int.emod_lt_of_pos a (show 0<m by omega)
 by_cases h:0<=a
 ·obtain⟨r,hr⟩:∃r,a%m=r:=⟨_,rfl⟩
  rw[hr] at h0 h1|-
  have ht:a.tmod m=r:=by rw[Int.tmod_eq_emod_of_nonneg h];exact hr
  have hm0:¬m=0:=by omega
  have hn:¬r<0:=by omega
  clear hr
  go_enter Try.func52,Try.ntmps52
  go_wp2
  go_ret
  exact⟨rfl,rfl⟩
 ·obtain⟨r,hr⟩:∃r,a.tmod m=r:=⟨_,rfl⟩
  have hm0:¬m=0:=by omega
  have ht:=Int.tmod_eq_emod (a:=a) (b:=m)
  have h2:-m<r/\r<=0:=by
   have e1:(-a).tmod m=-r:=by rw[Int.neg_tmod,hr]
   have e2:=Int.tmod_nonneg m (show 0<=-a by omega)
   have e3:=Int.tmod_lt_of_pos (-a) (show 0<m by omega)
   omega
  obtain⟨h2a,h2b⟩:=h2
  by_cases hz:r=0
  ·subst hz
   have e:a%m=0:=Int.emod_eq_zero_of_dvd (Int.dvd_of_tmod_eq_zero hr)
   rw[e]
   clear ht e h0 h1
   go_enter Try.func52,Try.ntmps52
   go_wp2
   go_ret
   exact⟨rfl,rfl⟩
  ·have e:a%m=r+m:=by
     have q1:=Int.mul_tdiv_add_tmod a m
     rw[hr] at q1
     have e4:a%m=(r+m)%m:=by
      have:a=(r+m)+m*(a.tdiv m-1):=by rw[Int.mul_sub];omega
      rw[this,Int.add_mul_emod_self_left]
     rw[e4,Int.emod_eq_of_lt (by omega) (by omega)]
   have hn:r<0:=by omega
   rw[e]
   clear ht e h0 h1
   go_enter Try.func52,Try.ntmps52
   go_wp2
   go_ret
   exact⟨rfl,rfl⟩
structure DblS(T m b a out:Nat):Prop where
 eq:(out+a*b)%m=T
theorem DblS.even{T m b a out:Nat}(h:DblS T m (2*b) a out):DblS T m b ((a+a)%m) out:=⟨by
 rw[<-h.eq,Nat.add_mod,Nat.mod_mul_mod,<-Nat.add_mod]
 congr 2
 rw[Nat.mul_left_comm,<-Nat.two_mul,Nat.mul_assoc]⟩
theorem DblS.odd{T m b a out:Nat}(h:DblS T m (2*b+1) a out):DblS T m b ((a+a)%m) ((out+a)%m):=⟨by
 rw[<-h.eq,Nat.add_mod,Nat.mod_mod,Nat.mod_mul_mod,<-Nat.add_mod]
 congr 1
 rw[Nat.mul_add,Nat.mul_one,Nat.mul_left_comm,<-Nat.two_mul,Nat.mul_assoc]
 omega⟩
theorem DblS.done{T m a out:Nat}(h:DblS T m 0 a out)(ho:out<m):out=T:=by
 rw[<-h.eq,Nat.mul_zero,Nat.add_zero,Nat.mod_eq_of_lt ho]
theorem times_any(a b m:Nat)(ha:a<m)(hb:b<m)(hm:m<=4611686018427387904)(w:World):
  Calls Try.prog 69 #[.int .i64 a,.int .i64 b,.int .i64 m] w λz w'=>z=.returned (.int .i64 (a*b%m:Nat))/\w=w':=by
 have HS:Hid (DblS (a*b%m) m b a 0):=aZ ⟨by rw[Nat.zero_add]⟩
 generalize a*b%m=T at*
 have hm0:¬(m:Int)=0:=by omega
 go_enter Try.func69,Try.ntmps69
 go_wp2
 go_loop [0,1,7] (λva vb vo=>∃a b o:Nat,va=.int .i64 a/\vb=.int .i64 b/\vo=.int .i64 o/\a<m/\b<m/\o<m/\Hid (DblS T m b a o)) (λ_ vb _=>(intOf vb).toNat)
 case atStart=>exact⟨a,b,0,rfl,rfl,rfl,ha,hb,by omega,HS⟩
 case round=>
  clear HS ha hb
  obtain⟨a,b,o,rfl,rfl,rfl,ha,hb,ho,hs⟩:=hrel
  by_cases h0:b=0
  ·subst h0
   have hr:=hs.out.done ho
   subst hr
   go_wp2
   go_ret
   exact⟨rfl,rfl⟩
  ·have hpos:(0:Int)<b:=by omega
   have hh:(b:Int)/2=((b/2:Nat):Int):=by omega
   have HH:=aZ hh
   have haa:((a:Int)+a)%m=(((a+a)%m:Nat):Int):=by rw[Int.natCast_emod,Int.natCast_add]
   have HA:=aZ haa
   have hal:(a+a)%m<m:=Nat.mod_lt _ (by omega)
   rcases Nat.mod_two_eq_zero_or_one b with h2|h2
   ·have hi:(b:Int)%2=0:=by omega
    have HN:=aZ (DblS.even (b:=b/2) (by rw[show 2*(b/2)=b from by omega];exact hs.out))
    generalize (a+a)%m=a' at*
    clear hh h2 haa hs
    go_wp2
    rw[HA.out,HH.out]
    exact⟨⟨a',b/2,o,rfl,rfl,rfl,hal,by omega,ho,HN⟩,by simp[intOf];omega⟩
   ·have hi:(b:Int)%2=1:=by omega
    have HN:=aZ (DblS.odd (b:=b/2) (by rw[show 2*(b/2)+1=b from by omega];exact hs.out))
    have hoa:((o:Int)+a)%m=(((o+a)%m:Nat):Int):=by rw[Int.natCast_emod,Int.natCast_add]
    have HO:=aZ hoa
    have hol:(o+a)%m<m:=Nat.mod_lt _ (by omega)
    generalize (a+a)%m=a' at*
    generalize (o+a)%m=o' at*
    clear hh h2 haa hs hoa
    go_wp2
    rw[HA.out,HH.out,HO.out]
    exact⟨⟨a',b/2,o',rfl,rfl,rfl,hal,by omega,hol,HN⟩,by simp[intOf];omega⟩
theorem RMul_any(a b:Int)(x y m:Nat)(hx:a%(m:Int)=x)(hy:b%(m:Int)=y)(m1:1<=m)(hm:m<=4611686018427387904)(ha:-9223372036854775808<=a)(ha2:a<=9223372036854775807)(hb:-9223372036854775808<=b)(hb2:b<=9223372036854775807)(w:World):
  Calls Try.prog 40 #[.int .i64 a,.int .i64 b,.int .i64 m] w λe w'=>e=.returned (.int .i64 (x*y%m:Nat))/\w=w':=by
 have a1:=Int.emod_lt_of_pos a (show(0:Int)<m by omega)
 have b1:=Int.emod_lt_of_pos b (show(0:Int)<m by omega)
 have h1:=Rest_any a m
 have h2:=Rest_any b m
 rw[hx] at h1 a1
 rw[hy] at h2 b1
 have H1:=aZ (λw=>h1 w (by omega) (by omega) ha ha2)
 have H2:=aZ (λw=>h2 w (by omega) (by omega) hb hb2)
 have H3:=aZ (λw=>times_any x y m (by omega) (by omega) hm w)
 have hm0:¬(m:Int)<1:=by omega
 have hm3:(m:Int)<=4611686018427387904:=by omega
 clear hx hy h1 h2
 generalize x*y%m=p at*
 go_enter Try.func40,Try.ntmps40
 go_wp2_with fail
 refine(H1.out _).mono ?_
 rintro e w' ⟨rfl,rfl⟩
 go_wp2_with fail
 refine(H2.out _).mono ?_
 rintro e w' ⟨rfl,rfl⟩
 go_wp2_with fail
 refine(H3.out _).mono ?_
 rintro e w' ⟨rfl,rfl⟩
 go_wp2
 go_ret
 exact⟨rfl,rfl⟩
theorem RPow_any(a:Int)(x e m:Nat)(hx:a%(m:Int)=x)(m1:1<=m)(hm:m<=4611686018427387904)(ha:-9223372036854775808<=a)(ha2:a<=9223372036854775807)(he:e<=9223372036854775807)(w:World):
  Calls Try.prog 55 #[.int .i64 a,.int .i64 e,.int .i64 m] w λz w'=>z=.returned (.int .i64 (pmod x e m:Nat))/\w=w':=by
 have h1:=Rest_any a m
 have h2:=Rest_any 1 m
 have x1:=Int.emod_lt_of_pos a (show(0:Int)<m by omega)
 rw[hx] at h1 x1
 obtain⟨u,hu⟩:∃u:Nat,(1:Int)%m=u:=⟨1%m,by rw[Int.natCast_emod];rfl⟩
 have hum:(1:Int)%m<m:=Int.emod_lt_of_pos 1 (show(0:Int)<m by omega)
 rw[hu] at h2 hum
 have H0:PowS (pmod x e m) m e x u:=⟨by
  have:u=1%m:=by
   have:(u:Int)=((1%m:Nat):Int):=by rw[<-hu,Int.natCast_emod];rfl
   omega
  rw[this]
  unfold pmod
  rw[<-Nat.mul_mod_mod,Nat.mod_mul_mod,Nat.one_mul,Nat.mod_mod]⟩
 have H1:=aZ (λw=>h1 w (by omega) (by omega) ha ha2)
 have H2:=aZ (λw=>h2 w (by omega) (by omega) (by omega) (by omega))
 have HP:=aZ H0
 have HX:=aZ (λa b (ha:a<m) (hb:b<m) w=>times_any a b m ha hb hm w)
 have hm0:¬(m:Int)<1:=by omega
 have hm3:(m:Int)<=4611686018427387904:=by omega
 have he0:¬(e:Int)<0:=by omega
 clear h1 h2 hx hu H0
 generalize pmod x e m=T at*
 go_enter Try.func55,Try.ntmps55
 go_wp2_with fail
 refine(H1.out _).mono ?_
 rintro z w' ⟨rfl,rfl⟩
 go_wp2_with fail
 refine(H2.out _).mono ?_
 rintro z w' ⟨rfl,rfl⟩
 go_wp2
 go_loop [1,7,8] (λve vx vo=>∃e x o:Nat,ve=.int .i64 e/\vx=.int .i64 x/\vo=.int .i64 o/\e<=9223372036854775807/\x<m/\o<m/\Hid (PowS T m e x o)) (λve _ _=>(intOf ve).toNat)
 case atStart=>exact⟨e,x,u,rfl,rfl,rfl,he,by omega,by omega,HP⟩
 case round=>
  clear HP he0
  obtain⟨e,x,o,rfl,rfl,rfl,he,hx,ho,hp⟩:=hrel
  by_cases h0:e=0
  ·subst h0
   have hr:=PowS.done hp.out ho
   subst hr
   go_wp2
   go_ret
   exact⟨rfl,rfl⟩
  ·have hpos:(0:Int)<e:=by omega
   have hsh:((e/2:Nat):Int)=(e:Int)/2:=by omega
   rcases Nat.mod_two_eq_zero_or_one e with h2|h2
   ·have hb:(e:Int)%2=0:=by omega
    have hn:=PowS.even (e:=e/2) (by rw[show 2*(e/2)=e from by omega];exact hp.out)
    have HN:=aZ hn
    have HB:=aZ hsh
    clear hn h2 hsh
    go_wp2_with fail
    refine(HX.out _ _ hx hx _).mono ?_
    rintro z w' ⟨rfl,rfl⟩
    have hxm:x*x%m<m:=Nat.mod_lt _ m1
    go_wp2
    exact⟨⟨e/2,x*x%m,o,by rw[HB.out],rfl,rfl,by omega,hxm,ho,HN⟩,by simp[intOf];omega⟩
   ·have hb:(e:Int)%2=1:=by omega
    have hn:=PowS.odd (e:=e/2) (by rw[show 2*(e/2)+1=e from by omega];exact hp.out)
    have HN:=aZ hn
    have HB:=aZ hsh
    clear hn h2 hsh
    go_wp2_with fail
    refine(HX.out _ _ ho hx _).mono ?_
    rintro z w' ⟨rfl,rfl⟩
    go_wp2_with fail
    refine(HX.out _ _ hx hx _).mono ?_
    rintro z w' ⟨rfl,rfl⟩
    have hxm:x*x%m<m:=Nat.mod_lt _ m1
    have hom:o*x%m<m:=Nat.mod_lt _ m1
    go_wp2
    exact⟨⟨e/2,x*x%m,o*x%m,by rw[HB.out],rfl,rfl,by omega,hxm,hom,HN⟩,by simp[intOf];omega⟩
def rootR(q w N:Nat)(k n:Int):Nat:=
 if n<1\/(N:Int)<n then 0 else if(N:Int)%n≠0 then 0 else pmod (pmod (w%q) (N/n.toNat) q) (k%n).toNat q
theorem RRoot_any(q v N:Nat)(k n:Int)(q1:1<=q)(hq:q<=4611686018427387904)(hv:v<=4611686018427387904)(hN:N<=4611686018427387904)(hk:-9223372036854775808<=k)(hk2:k<=9223372036854775807)(hn:-9223372036854775808<=n)(hn2:n<=9223372036854775807)(w:World):
  Calls Try.prog 88 #[.int .i64 q,.int .i64 v,.int .i64 N,.int .i64 k,.int .i64 n] w λz w'=>z=.returned (.int .i64 (rootR q v N k n:Nat))/\w=w':=by
 by_cases h1:n<1
 ·have e:rootR q v N k n=0:=by unfold rootR;rw[if_pos (.inl h1)]
  rw[e]
  clear e
  go_enter Try.func88,Try.ntmps88
  go_wp2
  go_ret
  exact⟨rfl,rfl⟩
 by_cases h2:(N:Int)<n
 ·have e:rootR q v N k n=0:=by unfold rootR;rw[if_pos (.inr h2)]
  rw[e]
  clear e
  go_enter Try.func88,Try.ntmps88
  go_wp2
  go_ret
  exact⟨rfl,rfl⟩
 obtain⟨m,rfl⟩:=Int.eq_ofNat_of_zero_le (show 0<=n by omega)
 have hm0:¬(m:Int)=0:=by omega
 have hmc:(N:Int)%(m:Int)=((N%m:Nat):Int):=(Int.natCast_emod N m).symm
 by_cases h3:N%m=0
 ·have e:rootR q v N k m=pmod (pmod (v%q) (N/m) q) (k%(m:Int)).toNat q:=by
    unfold rootR
    rw[if_neg (by omega),if_neg (by rw[hmc,h3];simp)]
    rfl
  have h4:((N:Int)%(m:Int) != 0)=false:=by rw[hmc,h3];rfl
  have hr0:=Int.emod_nonneg k hm0
  have hr1:=Int.emod_lt_of_pos k (show(0:Int)<m by omega)
  obtain⟨r,hr⟩:=Int.eq_ofNat_of_zero_le hr0
  have H1:=Rest_any k m
  rw[hr] at H1 e hr1
  rw[e,Int.toNat_natCast]
  have hd:N/m<=N:=Nat.div_le_self _ _
  obtain⟨d,hde⟩:∃d,N/m=d:=⟨_,rfl⟩
  have hdi:Hid (wrap64 ((N:Int)/(m:Int))=(d:Int)):=aZ (by rw[<-Int.natCast_ediv,hde];exact wrap64_nat d (by omega))
  rw[hde] at hd|-
  have HR:=aZ (λw=>H1 w (by omega) (by omega) hk hk2)
  have HP1:=aZ (λw=>RPow_any (v:Int) (v%q) d q (by rw[Int.natCast_emod]) q1 hq (by omega) (by omega) (by omega) w)
  have hs:=pmod_lt (v%q) d q q1
  obtain⟨s,hse⟩:∃s,pmod (v%q) d q=s:=⟨_,rfl⟩
  rw[hse] at HP1 hs|-
  have HP2:=aZ (λw=>RPow_any (s:Int) s r q (by rw[<-Int.natCast_emod,Nat.mod_eq_of_lt hs]) q1 hq (by omega) (by omega) (by omega) w)
  generalize pmod s r q=t at*
  clear hmc h3 e hr hr0 H1 hde hse
  have hdi:=hdi.out
  go_enter Try.func88,Try.ntmps88
  go_wp2_with fail
  refine(HR.out _).mono ?_
  rintro z w' ⟨rfl,rfl⟩
  go_wp2_with fail
  refine(HP1.out _).mono ?_
  rintro z w' ⟨rfl,rfl⟩
  go_wp2_with fail
  refine(HP2.out _).mono ?_
  rintro z w' ⟨rfl,rfl⟩
  go_wp2
  go_ret
  exact⟨rfl,rfl⟩
 ·have e:rootR q v N k m=0:=by
    unfold rootR
    rw[if_neg (by omega),if_pos (by rw[hmc];omega)]
  have h4:((N:Int)%(m:Int) != 0)=true:=by rw[bne_iff_ne,hmc];omega
  rw[e]
  clear e hmc h3
  go_enter Try.func88,Try.ntmps88
  go_wp2
  go_ret
  exact⟨rfl,rfl⟩
abbrev rgV(q v N:Nat):Value:=.agg #[.int .i64 q,.int .i64 v,.int .i64 N]
def overN(q:Nat)(a n:Int):Nat:=(a%(q:Int)).toNat*pmod (n%(q:Int)).toNat (q-2) q%q
def lawRg(q v N:Nat):Rg Int where
 zero:=0
 add a b:=(a+b)%q
 sub a b:=(a-b+q)%q
 mul a b:=a*b%q
 over a n:=(overN q a n:Nat)
 root k n:=(rootR q v N k n:Nat)
def Tri(w:World)(b:Nat)(x y z:Int):Prop:=w.cell? ⟨b,0,none⟩=some (.int .i64 x)/\w.cell? ⟨b,1,none⟩=some (.int .i64 y)/\w.cell? ⟨b,2,none⟩=some (.int .i64 z)
theorem Tri.new(w:World)(x y z:Int)(t:TypeId):Tri (w.alloc (.cells #[.int .i64 x,.int .i64 y,.int .i64 z] t)) w.heap.size x y z:=⟨by simp[go_sem],by simp[go_sem],by simp[go_sem]⟩
theorem lzero_any(q v N:Nat)(w:World):Calls Try.prog 151 #[rgV q v N] w λz w'=>z=.returned (.int .i64 0)/\Below w.heap.size w w':=by
 go_enter Try.func151,Try.ntmps151
 go_wp2
 go_ret
 exact⟨rfl,(Below.refl _ _).alloc (Nat.le_refl _) _⟩
theorem ladd_any(q v N:Nat)(a b:Int)(q1:1<=q)(hq:q<=4503599627370496)(a0:0<=a)(a1:a<q)(b0:0<=b)(b1:b<q)(w:World):Calls Try.prog 26 #[rgV q v N,.int .i64 a,.int .i64 b] w λz w'=>z=.returned (.int .i64 ((a+b)%q))/\Below w.heap.size w w':=by
 have hq0:¬(q:Int)=0:=by omega
 go_enter Try.func26,Try.ntmps26
 go_wp2
 go_ret
 exact⟨rfl,(Below.refl _ _).alloc (Nat.le_refl _) _⟩
theorem lsub_any(q v N:Nat)(a b:Int)(q1:1<=q)(hq:q<=4503599627370496)(a0:0<=a)(a1:a<q)(b0:0<=b)(b1:b<q)(w:World):Calls Try.prog 150 #[rgV q v N,.int .i64 a,.int .i64 b] w λz w'=>z=.returned (.int .i64 ((a-b+q)%q))/\Below w.heap.size w w':=by
 have hq0:¬(q:Int)=0:=by omega
 have hp:0<=a-b+q:=by omega
 go_enter Try.func150,Try.ntmps150
 go_wp2
 go_ret
 exact⟨rfl,(Below.refl _ _).alloc (Nat.le_refl _) _⟩
theorem lmul_any(q v N:Nat)(a b:Int)(q1:1<=q)(hq:q<=4503599627370496)(a0:0<=a)(a1:a<q)(b0:0<=b)(b1:b<q)(w:World):Calls Try.prog 25 #[rgV q v N,.int .i64 a,.int .i64 b] w λz w'=>z=.returned (.int .i64 (a*b%q))/\Below w.heap.size w w':=by
 have hq0:¬(q:Int)=0:=by omega
 by_cases hs:(q:Int)<2147483648
 ·obtain⟨x,rfl⟩:=Int.eq_ofNat_of_zero_le a0
  obtain⟨y,rfl⟩:=Int.eq_ofNat_of_zero_le b0
  have hxy:x*y<=2147483648*2147483648:=Nat.mul_le_mul (by omega) (by omega)
  have hc:(x:Int)*y=((x*y:Nat):Int):=(Int.natCast_mul x y).symm
  have hb:0<=(x:Int)*y/\(x:Int)*y<=4611686018427387904:=by rw[hc];omega
  clear hc hxy
  go_enter Try.func25,Try.ntmps25
  go_wp2
  go_ret
  exact⟨rfl,(Below.refl _ _).alloc (Nat.le_refl _) _⟩
 ·obtain⟨x,rfl⟩:=Int.eq_ofNat_of_zero_le a0
  obtain⟨y,rfl⟩:=Int.eq_ofNat_of_zero_le b0
  have hc:(x:Int)*y%q=((x*y%q:Nat):Int):=by rw[<-Int.natCast_mul,<-Int.natCast_emod]
  have HM:=aZ (λw=>RMul_any x y x y q (Int.emod_eq_of_lt (by omega) a1) (Int.emod_eq_of_lt (by omega) b1) q1 (by omega) (by omega) (by omega) (by omega) (by omega) w)
  rw[hc]
  generalize x*y%q=p at*
  clear hc
  go_enter Try.func25,Try.ntmps25
  go_wp2_with fail
  refine(HM.out _).mono ?_
  rintro z w' ⟨rfl,rfl⟩
  go_wp2
  go_ret
  exact⟨rfl,(Below.refl _ _).alloc (Nat.le_refl _) _⟩
theorem lroot_any(q v N:Nat)(k n:Int)(q1:1<=q)(hq:q<=4503599627370496)(hv:v<=4503599627370496)(hN:N<=4503599627370496)(hk:-9223372036854775808<=k)(hk2:k<=9223372036854775807)(hn:-9223372036854775808<=n)(hn2:n<=9223372036854775807)(w:World):Calls Try.prog 149 #[rgV q v N,.int .i64 k,.int .i64 n] w λz w'=>z=.returned (.int .i64 (rootR q v N k n:Nat))/\Below w.heap.size w w':=by
 have HR:=aZ (λw=>RRoot_any q v N k n q1 (by omega) (by omega) (by omega) hk hk2 hn hn2 w)
 generalize rootR q v N k n=p at*
 go_enter Try.func149,Try.ntmps149
 go_wp2_with fail
 refine(HR.out _).mono ?_
 rintro z w' ⟨rfl,rfl⟩
 go_wp2
 go_ret
 exact⟨rfl,(Below.refl _ _).alloc (Nat.le_refl _) _⟩
theorem lover_any(q v N:Nat)(a n:Int)(q1:2<=q)(hq:q<=4503599627370496)(a0:-9223372036854775808<=a)(a1:a<=9223372036854775807)(n0:-9223372036854775808<=n)(n1:n<=9223372036854775807)(w:World):Calls Try.prog 148 #[rgV q v N,.int .i64 a,.int .i64 n] w λz w'=>z=.returned (.int .i64 (overN q a n:Nat))/\Below w.heap.size w w':=by
 have hq0:(q:Int)≠0:=by omega
 obtain⟨x,hx⟩:=Int.eq_ofNat_of_zero_le (Int.emod_nonneg a hq0)
 obtain⟨y,hy⟩:=Int.eq_ofNat_of_zero_le (Int.emod_nonneg n hq0)
 unfold overN
 rw[hx,hy,Int.toNat_natCast,Int.toNat_natCast]
 have hP:=λw=>RPow_any n y (q-2) q hy (by omega) (by omega) n0 n1 (by omega) w
 have hl:=pmod_lt y (q-2) q (by omega)
 obtain⟨s,hs⟩:∃s,pmod y (q-2) q=s:=⟨_,rfl⟩
 rw[hs] at hP hl|-
 have hq2:((q-2:Nat):Int)=(q:Int)-2:=by omega
 have hq2w:IntKind.i64.wrap ((q:Int)-2)=(q:Int)-2:=by rw[<-hq2];exact wrapI_nat _ (by omega)
 rw[hq2] at hP
 have hM:=λw=>RMul_any a s x s q hx (by rw[<-Int.natCast_emod,Nat.mod_eq_of_lt hl]) (by omega) (by omega) a0 a1 (by omega) (by omega) w
 obtain⟨p,hp⟩:∃p,x*s%q=p:=⟨_,rfl⟩
 rw[hp] at hM|-
 have HP:=aZ hP
 have HM:=aZ hM
 clear hP hM hx hy hs hp hq2
 go_enter Try.func148,Try.ntmps148
 go_wp2_with fail
 go_quiet (first|(go_at_call 55;exact Calls.quiet_of_same ((HP.out _).mono λe w' h=>⟨h.1,h.2.symm⟩))|(go_at_call 40;exact Calls.quiet_of_same ((HM.out _).mono λe w' h=>⟨h.1,h.2.symm⟩)))
 go_wp2
 go_ret
 exact⟨rfl,below_drewN ((Below.refl _ _).alloc (Nat.le_refl _) _) nq⟩
end Go.Proofs.Yteaimnemobnknaa
