/- Which plans can be: plain. -/
import Derived.Test.YteaimnemobnknaaRK
import Derived.Test.YteaimnemobnknaaS8
import Derived.Test.YteaimnemobnknaaX0
import Derived.Test.YteaimnemobnknaaZ3
import Derived.Great.BuildSlice
set_option linter.unusedSimpArgs false
set_option linter.unusedVariables false
set_option maxRecDepth 100000
set_option maxHeartbeats 1000000
namespace Go.Proofs.Yteaimnemobnknaa
def pow4(n:Nat):Bool:=Nat.beq n 4||Nat.beq n 8||Nat.beq n 16||Nat.beq n 32||Nat.beq n 64||Nat.beq n 128||Nat.beq n 256||Nat.beq n 512||Nat.beq n 1024||Nat.beq n 2048||Nat.beq n 4096||Nat.beq n 8192||Nat.beq n 16384||Nat.beq n 32768
theorem pow4_pow{n:Nat}(h:pow4 n=true):∃e,n=2^e:=by
 unfold pow4 at h
 simp only[Bool.or_eq_true] at h
 rcases h with(((((((((((((h|h)|h)|h)|h)|h)|h)|h)|h)|h)|h)|h)|h)|h)
 ·exact⟨2,Nat.eq_of_beq_eq_true h⟩
 ·exact⟨3,Nat.eq_of_beq_eq_true h⟩
 ·exact⟨4,Nat.eq_of_beq_eq_true h⟩
 ·exact⟨5,Nat.eq_of_beq_eq_true h⟩
 ·exact⟨6,Nat.eq_of_beq_eq_true h⟩
 ·exact⟨7,Nat.eq_of_beq_eq_true h⟩
 ·exact⟨8,Nat.eq_of_beq_eq_true h⟩
 ·exact⟨9,Nat.eq_of_beq_eq_true h⟩
 ·exact⟨10,Nat.eq_of_beq_eq_true h⟩
 ·exact⟨11,Nat.eq_of_beq_eq_true h⟩
 ·exact⟨12,Nat.eq_of_beq_eq_true h⟩
 ·exact⟨13,Nat.eq_of_beq_eq_true h⟩
 ·exact⟨14,Nat.eq_of_beq_eq_true h⟩
 ·exact⟨15,Nat.eq_of_beq_eq_true h⟩
def wantsF(kind n r:Int):List Int:=if kind=1 then(if r<1 then [0,0] else [r,n/r]) else if kind=3 then [n-1] else if kind=4 then [(padF n.toNat:Int)] else []
def sizeE(kind n:Int):Int:=
 if kind=0 then(if 32<n then 22 else 0) else if kind=2 then(if pow4 n.toNat=true then 0 else 24) else if kind=3 then(if n<3\/primeB n.toNat=false then 25 else 0)
 else if kind=4 then(if n<2\/16384<n then 3 else 0) else 0
def radixB(kind n r:Int):Bool:=if kind=1 then decide (2<=r/\r<n/\n%r=0) else decide (r=0)
def nodeE(kind n r:Int)(l:Nat)(want:Int)(blue:Bool):Int:=
 if kind<0\/4<kind\/(kind=4/\blue=true) then 20 else if n≠want then 21 else if sizeE kind n≠0 then sizeE kind n else if l≠(wantsF kind n r).length then 26 else if radixB kind n r=true then 0 else 23
def Fo.bad:Fo->List Int->Bool->Int
 |.nil,_,_=>0
 |.cons kind n r kids rest,ws,blue=>
   if nodeE kind n r kids.len (ws.headD 0) blue≠0 then nodeE kind n r kids.len (ws.headD 0) blue
   else if kids.bad (wantsF kind n r) (blue||kind==4)≠0 then kids.bad (wantsF kind n r) (blue||kind==4) else rest.bad ws.tail blue
def Fo.count:Fo->Nat
 |.nil=>0
 |.cons _ _ _ kids rest=>1+kids.count+rest.count
def checkE(kind n r:Int)(kids:Fo)(want:Int):Int:=
 if want<1\/32768<want then 3 else if 64<1+kids.count then 27 else(Fo.cons kind n r kids .nil).bad [want] false
theorem nodeE_zero{kind n r:Int}{l:Nat}{want:Int}{blue:Bool}(h:nodeE kind n r l want blue=0):
  0<=kind/\kind<=4/\(kind=4->blue=false)/\n=want/\sizeE kind n=0/\l=(wantsF kind n r).length/\radixB kind n r=true:=by
 unfold nodeE at h
 by_cases h1:kind<0\/4<kind\/(kind=4/\blue=true)
 ·rw[if_pos h1] at h;omega
 rw[if_neg h1] at h
 by_cases h2:n≠want
 ·rw[if_pos h2] at h;omega
 rw[if_neg h2] at h
 by_cases h3:sizeE kind n≠0
 ·rw[if_pos h3] at h;omega
 rw[if_neg h3] at h
 by_cases h4:l≠(wantsF kind n r).length
 ·rw[if_pos h4] at h;omega
 rw[if_neg h4] at h
 by_cases h5:radixB kind n r=true
 ·refine⟨by omega,by omega,λe=>?_,by omega,by omega,by omega,h5⟩
  cases blue
  ·rfl
  ·exact absurd (Or.inr (Or.inr ⟨e,rfl⟩)) h1
 ·rw[if_neg h5] at h;omega
theorem sizeE_le(kind n:Int):0<=sizeE kind n/\sizeE kind n<=25:=by
 unfold sizeE
 constructor<;>(repeat' split)<;>omega
theorem nodeE_le(kind n r:Int)(l:Nat)(want:Int)(blue:Bool):0<=nodeE kind n r l want blue/\nodeE kind n r l want blue<=26:=by
 have:=sizeE_le kind n
 unfold nodeE
 constructor<;>(repeat' split)<;>omega
theorem bad_le:∀(fo:Fo) (ws:List Int) (blue:Bool),0<=fo.bad ws blue/\fo.bad ws blue<=26
 |.nil,_,_=>by unfold Fo.bad;omega
 |.cons kind n r kids rest,ws,blue=>by
   have h1:=nodeE_le kind n r kids.len (ws.headD 0) blue
   have h2:=bad_le kids (wantsF kind n r) (blue||kind==4)
   have h3:=bad_le rest ws.tail blue
   unfold Fo.bad
   constructor<;>(repeat' split)<;>omega
theorem node_fine{B:Nat}(hB:4*B<=2048){kind n r:Int}{l:Nat}{want:Int}{blue:Bool}(h:nodeE kind n r l want blue=0)(h1:1<=want)(h2:want<=if blue=true then 4*B else B):
  FineN kind n r ((wantsF kind n r).map Int.toNat)/\∀x∈wantsF kind n r,1<=x/\x<=if(blue||kind==4)=true then 4*B else B:=by
 obtain⟨k0,k4,kb,rfl,hs,hl,hr⟩:=nodeE_zero h
 obtain⟨N,rfl⟩:∃N:Nat,n=N:=⟨n.toNat,by omega⟩
 have hN:N<=2048:=by
  cases blue
  ·rw[if_neg (by simp)] at h2;omega
  ·rw[if_pos rfl] at h2;omega
 have hk:kind=0\/kind=1\/kind=2\/kind=3\/kind=4:=by omega
 rcases hk with rfl|rfl|rfl|rfl|rfl
 ·have e:wantsF 0 N r=[]:=rfl
  rw[e]
  have:r=0:=by simpa[radixB] using hr
  exact⟨⟨N,rfl,by omega,by omega,.inl ⟨rfl,this,rfl⟩⟩,by simp⟩
 ·have:2<=r/\r<N/\(N:Int)%r=0:=by simpa[radixB] using hr
  obtain⟨r2,rn,rd⟩:=this
  obtain⟨R,rfl⟩:∃R:Nat,r=R:=⟨r.toNat,by omega⟩
  have e:wantsF 1 N R=[(R:Int),(N:Int)/R]:=by unfold wantsF;rw[if_pos rfl,if_neg (by omega)]
  have ed:(N:Int)/R=((N/R:Nat):Int):=by omega
  have em:N%R=0:=by omega
  have hm:R*(N/R)=N:=Nat.mul_div_cancel' (Nat.dvd_of_mod_eq_zero em)
  have hd1:1<=N/R:=by
   rcases Nat.eq_zero_or_pos (N/R) with h0|h0
   ·rw[h0] at hm;omega
   ·exact h0
  have hd2:N/R<=N:=Nat.div_le_self _ _
  rw[e]
  refine⟨⟨N,rfl,by omega,by omega,.inr (.inl ⟨rfl,R,N/R,rfl,by omega,hd1,hm,by rw[ed];rfl⟩)⟩,?_⟩
  intro x hx
  simp only[List.mem_cons,List.not_mem_nil,or_false] at hx
  rw[show((blue||(1:Int)==4))=blue by cases blue<;>rfl]
  rcases hx with rfl|rfl
  ·exact⟨by omega,by omega⟩
  ·rw[ed];exact⟨by omega,by omega⟩
 ·have e:wantsF 2 N r=[]:=rfl
  rw[e]
  have:r=0:=by simpa[radixB] using hr
  have hp:pow4 (N:Int).toNat=true:=by
   unfold sizeE at hs
   rw[if_neg (by decide),if_pos rfl] at hs
   by_cases hp:pow4 (N:Int).toNat=true
   ·exact hp
   ·rw[if_neg hp] at hs;omega
  exact⟨⟨N,rfl,by omega,by omega,.inr (.inr (.inl ⟨rfl,this,rfl,pow4_pow hp⟩))⟩,by simp⟩
 ·have e:wantsF 3 N r=[(N:Int)-1]:=rfl
  rw[e]
  have hr0:r=0:=by simpa[radixB] using hr
  unfold sizeE at hs
  rw[if_neg (by decide),if_neg (by decide),if_pos rfl] at hs
  by_cases hp:((N:Int)<3\/primeB (N:Int).toNat=false)
  ·rw[if_pos hp] at hs;omega
  ·have h3:3<=N:=by omega
   have hpr:primeB N=true:=by
    cases hq:primeB N
    ·exact absurd (.inr hq) hp
    ·rfl
   have hlt:N<2048:=by
    rcases Nat.lt_or_ge N 2048 with h|h
    ·exact h
    ·obtain rfl:N=2048:=by omega
     exact absurd hpr (by decide+kernel)
   have hR:=rooted_of h3 (by omega) hpr (is_prime N (by omega)) (root_ok N hlt)
   refine⟨⟨N,rfl,by omega,by omega,.inr (.inr (.inr (.inl ⟨rfl,hr0,hR,?_⟩)))⟩,?_⟩
   ·rw[show(N:Int)-1=((N-1:Nat):Int) by omega];rfl
   ·intro x hx
    simp only[List.mem_cons,List.not_mem_nil,or_false] at hx
    rw[show((blue||(3:Int)==4))=blue by cases blue<;>rfl]
    subst hx
    exact⟨by omega,by omega⟩
 ·have e:wantsF 4 N r=[(padF N:Int)]:=rfl
  rw[e]
  have hr0:r=0:=by simpa[radixB] using hr
  have hb:=kb rfl
  subst hb
  rw[if_neg (by simp)] at h2
  unfold sizeE at hs
  rw[if_neg (by decide),if_neg (by decide),if_neg (by decide),if_pos rfl] at hs
  by_cases hp:((N:Int)<2\/16384<(N:Int))
  ·rw[if_pos hp] at hs;omega
  ·obtain⟨p1,p2,-,p3,p4⟩:=padF_spec N (by omega) (by omega)
   refine⟨⟨N,rfl,by omega,by omega,.inr (.inr (.inr (.inr ⟨rfl,hr0,by omega,padF N,p1,p4,rfl⟩)))⟩,?_⟩
   intro x hx
   simp only[List.mem_cons,List.not_mem_nil,or_false] at hx
   rw[show((false||(4:Int)==4))=true from rfl,if_pos rfl]
   subst hx
   exact⟨by omega,by omega⟩
theorem bad_fine{B:Nat}(hB:4*B<=2048):∀(fo:Fo) (ws:List Int) (blue:Bool),fo.bad ws blue=0->fo.len=ws.length->(∀x∈ws,1<=x/\x<=if blue=true then 4*B else B)->
  fo.Fine/\fo.sizes=ws.map Int.toNat
 |.nil,ws,blue,_,hl,_=>by
   have:ws=[]:=List.eq_nil_of_length_eq_zero hl.symm
   subst this
   exact⟨trivial,rfl⟩
 |.cons kind n r kids rest,ws,blue,h,hl,hw=>by
   rcases ws with _|⟨w,ws⟩
   ·simp[Fo.len] at hl
   unfold Fo.bad at h
   by_cases h1:nodeE kind n r kids.len ((w::ws).headD 0) blue≠0
   ·rw[if_pos h1] at h;exact absurd h h1
   rw[if_neg h1] at h
   by_cases h2:kids.bad (wantsF kind n r) (blue||kind==4)≠0
   ·rw[if_pos h2] at h;exact absurd h h2
   rw[if_neg h2] at h
   have h1':nodeE kind n r kids.len w blue=0:=Decidable.not_not.1 h1
   have hw0:=hw w (List.mem_cons_self ..)
   obtain⟨f1,f2⟩:=node_fine hB h1' hw0.1 hw0.2
   obtain⟨_,_,_,e3,_,e5,_⟩:=nodeE_zero h1'
   obtain⟨g1,g2⟩:=bad_fine hB kids (wantsF kind n r) (blue||kind==4) (Decidable.not_not.1 h2) e5 f2
   obtain⟨i1,i2⟩:=bad_fine hB rest ws blue h (by simpa[Fo.len] using hl) (λx hx=>hw x (List.mem_cons_of_mem _ hx))
   refine⟨⟨by rw[g2];exact f1,g1,i1⟩,?_⟩
   unfold Fo.sizes
   rw[i2,e3]
   rfl
theorem check_fine{B:Nat}(hB:4*B<=2048){kind n r:Int}{kids:Fo}{want:Int}(h:checkE kind n r kids want=0)(hw:want<=B):(Fo.cons kind n r kids .nil).Fine/\n=want/\1<=want:=by
 unfold checkE at h
 by_cases h1:want<1\/32768<want
 ·rw[if_pos h1] at h;omega
 rw[if_neg h1] at h
 by_cases h2:64<1+kids.count
 ·rw[if_pos h2] at h;omega
 rw[if_neg h2] at h
 refine⟨(bad_fine hB _ _ _ h rfl ?_).1,?_,by omega⟩
 ·intro x hx
  simp only[List.mem_cons,List.not_mem_nil,or_false] at hx
  subst hx
  rw[if_neg (by simp)]
  omega
 ·unfold Fo.bad at h
  by_cases h3:nodeE kind n r kids.len ([want].headD 0) false≠0
  ·rw[if_pos h3] at h;exact absurd h h3
  exact(nodeE_zero (Decidable.not_not.1 h3)).2.2.2.1
end Go.Proofs.Yteaimnemobnknaa
namespace Go.Proofs.Yteaimnemobnknaa
open Go.RowKit Go.Lib
def Fo.drop:Nat->Fo->Fo
 |0,fo=>fo
 |_+1,.nil=>.nil
 |i+1,.cons _ _ _ _ rest=>rest.drop i
theorem drop_nil(i:Nat):Fo.nil.drop i=.nil:=by cases i<;>rfl
theorem drop_lt:∀(i:Nat) (fo:Fo),i<fo.len->∃k n r q rest,fo.drop i=.cons k n r q rest
 |_,.nil,h=>by simp[Fo.len] at h
 |0,.cons k n r q rest,_=>⟨k,n,r,q,rest,rfl⟩
 |i+1,.cons k n r q rest,h=>drop_lt i rest (by simp[Fo.len] at h;omega)
theorem drop_succ:∀(i:Nat) (fo:Fo) {k n r:Int} {q rest:Fo},fo.drop i=.cons k n r q rest->fo.drop (i+1)=rest
 |i,.nil,_,_,_,_,_,h=>by rw[drop_nil] at h;cases h
 |0,.cons k n r q rest,_,_,_,_,_,h=>by
   injection h with h1 h2 h3 h4 h5
 |i+1,.cons k n r q rest,_,_,_,_,_,h=>drop_succ i rest h
theorem drop_len:∀(i:Nat) (fo:Fo),(fo.drop i).len=fo.len-i
 |0,_=>rfl
 |i+1,.nil=>by simp[Fo.drop,Fo.len]
 |i+1,.cons _ _ _ _ rest=>by rw[Fo.drop,drop_len i rest];simp[Fo.len]
theorem drop_end(fo:Fo)(i:Nat)(h:fo.len<=i):fo.drop i=.nil:=by
 have:=drop_len i fo
 rcases hd:fo.drop i with _|⟨_,_,_,_,_⟩
 ·rfl
 ·rw[hd] at this;simp[Fo.len] at this;omega
theorem Kids.drop{w:World}{A:Option Addr}:∀(i j:Nat) (fo:Fo),Kids w A j fo->Kids w A (j+i) (fo.drop i)
 |0,_,_,h=>h
 |_+1,_,.nil,_=>trivial
 |i+1,j,.cons _ _ _ _ rest,h=>by
   have:=Kids.drop i (j+1) rest h.2
   rwa [show j+1+i=j+(i+1) by omega] at this
theorem Kids.below{w w':World}{A:Option Addr}{i:Nat}{fo:Fo}(h:Kids w A i fo)(hb:Below w.heap.size w w'):Kids w' A i fo:=Kids.keep Mem.plain_ok ⟨trivial,hb⟩ trivial h
theorem Kids.at'{w:World}{A:Option Addr}{i:Nat}{fo:Fo}{k n r:Int}{q rest:Fo}(h:Kids w A 0 fo)(hd:fo.drop i=.cons k n r q rest):
  ∃b o B c,A=some ⟨b,o,none⟩/\w.cell? ⟨b,o+i*4,none⟩=some (.int .i64 k)/\w.cell? ⟨b,o+i*4+1,none⟩=some (.int .i64 n)/\w.cell? ⟨b,o+i*4+2,none⟩=some (.int .i64 r)/\
   w.cell? ⟨b,o+i*4+3,none⟩=some (.slice B q.len c)/\Kids w B 0 q:=by
 have:=Kids.drop i 0 fo h
 rw[hd,Nat.zero_add] at this
 exact this.1
def Fo.all(P:Int->Int->Int->Fo->Prop):Fo->Prop
 |.nil=>True
 |.cons k n r q rest=>P k n r q/\rest.all P
theorem Fo.all_of{P:Int->Int->Int->Fo->Prop}(h:∀k n r q,q.all P->P k n r q):∀fo:Fo,fo.all P
 |.nil=>trivial
 |.cons k n r q rest=>⟨h k n r q (Fo.all_of h q),Fo.all_of h rest⟩
theorem Fo.all_drop{P:Int->Int->Int->Fo->Prop}:∀(i:Nat) {fo:Fo},fo.all P->(fo.drop i).all P
 |0,_,h=>h
 |_+1,.nil,_=>trivial
 |i+1,.cons _ _ _ _ _,h=>Fo.all_drop i h.2
theorem Fo.all_at{P:Int->Int->Int->Fo->Prop}{fo:Fo}(h:fo.all P){i:Nat}{k n r:Int}{q rest:Fo}(hd:fo.drop i=.cons k n r q rest):P k n r q:=by
 have:=Fo.all_drop i h
 rw[hd] at this
 exact this.1
def Fo.flat:Fo->List (Int×Int×Int)
 |.nil=>[]
 |.cons k n r q rest=>(k,n,r)::(q.flat++rest.flat)
theorem flat_len:∀fo:Fo,fo.flat.length=fo.count
 |.nil=>rfl
 |.cons k n r q rest=>by
   have h1:=flat_len q
   have h2:=flat_len rest
   simp only[Fo.flat,Fo.count,List.length_cons,List.length_append]
   omega
def Fo.upto:Nat->Fo->List (Int×Int×Int)
 |0,_=>[]
 |_+1,.nil=>[]
 |i+1,.cons k n r q rest=>(k,n,r)::(q.flat++rest.upto i)
theorem upto_succ:∀(i:Nat) (fo:Fo) {k n r:Int} {q rest:Fo},fo.drop i=.cons k n r q rest->fo.upto (i+1)=fo.upto i++((k,n,r)::q.flat)
 |i,.nil,_,_,_,_,_,h=>by rw[drop_nil] at h;cases h
 |0,.cons k n r q rest,_,_,_,_,_,h=>by
   injection h with h1 h2 h3 h4 h5
   subst h1 h2 h3 h4
   simp[Fo.upto]
 |i+1,.cons k n r q rest,_,_,_,_,_,h=>by
   have:=upto_succ i rest h
   rw[Fo.upto,this]
   simp[Fo.upto]
theorem upto_len:∀(i:Nat) (fo:Fo),fo.len<=i->fo.upto i=fo.flat
 |0,.nil,_=>rfl
 |_+1,.nil,_=>rfl
 |0,.cons _ _ _ _ _,h=>by simp[Fo.len] at h
 |i+1,.cons k n r q rest,h=>by
   have:=upto_len i rest (by simp[Fo.len] at h;omega)
   simp[Fo.upto,Fo.flat,this]
theorem upto_pre:∀(i:Nat) (fo:Fo),fo.upto i <+: fo.flat
 |0,_=>List.nil_prefix
 |_+1,.nil=>List.nil_prefix
 |i+1,.cons k n r q rest=>by
   obtain⟨t,ht⟩:=upto_pre i rest
   exact⟨t,by simp[Fo.upto,Fo.flat,<-ht]⟩
theorem upto_all(fo:Fo)(i:Nat):(fo.upto i).length<=fo.count:=by
 obtain⟨t,ht⟩:=upto_pre i fo
 have:=congrArg List.length ht
 rw[flat_len,List.length_append] at this
 omega
def Fo.badTo:Nat->Fo->List Int->Bool->Int
 |0,_,_,_=>0
 |_+1,.nil,_,_=>0
 |i+1,.cons kind n r kids rest,ws,blue=>
   if(Fo.cons kind n r kids .nil).bad [ws.headD 0] blue≠0 then(Fo.cons kind n r kids .nil).bad [ws.headD 0] blue else rest.badTo i ws.tail blue
theorem bad_cons(kind n r:Int)(kids rest:Fo)(ws:List Int)(blue:Bool):
  (Fo.cons kind n r kids rest).bad ws blue=if(Fo.cons kind n r kids .nil).bad [ws.headD 0] blue≠0 then(Fo.cons kind n r kids .nil).bad [ws.headD 0] blue else rest.bad ws.tail blue:=by
 simp only[Fo.bad,List.headD_cons]
 (repeat' split)<;>first|rfl|omega
theorem badTo_len:∀(i:Nat) (fo:Fo) (ws:List Int) (blue:Bool),fo.len<=i->fo.badTo i ws blue=fo.bad ws blue
 |0,.nil,_,_,_=>rfl
 |_+1,.nil,_,_,_=>rfl
 |0,.cons _ _ _ _ _,_,_,h=>by simp[Fo.len] at h
 |i+1,.cons k n r q rest,ws,blue,h=>by rw[bad_cons,Fo.badTo,badTo_len i rest _ _ (by simp[Fo.len] at h;omega)]
theorem badTo_step:∀(i:Nat) (fo:Fo) (ws:List Int) (blue:Bool) {k n r:Int} {q rest:Fo},fo.drop i=.cons k n r q rest->
  fo.badTo (i+1) ws blue=if fo.badTo i ws blue≠0 then fo.badTo i ws blue else(Fo.cons k n r q .nil).bad [(ws.drop i).headD 0] blue
 |i,.nil,_,_,_,_,_,_,_,h=>by rw[drop_nil] at h;cases h
 |0,.cons k n r q rest,ws,blue,_,_,_,_,_,h=>by
   injection h with h1 h2 h3 h4 h5
   subst h1 h2 h3 h4
   simp only[Fo.badTo,List.drop_zero]
   (repeat' split)<;>first|rfl|omega
 |i+1,.cons k n r q rest,ws,blue,_,_,_,_,_,h=>by
   have:=badTo_step i rest ws.tail blue h
   rw[Fo.badTo,this,Fo.badTo]
   have e:(ws.tail.drop i)=ws.drop (i+1):=by simp
   rw[e]
   (repeat' split)<;>first|rfl|omega
theorem badTo_stop:∀(i:Nat) (fo:Fo) (ws:List Int) (blue:Bool),fo.badTo i ws blue≠0->fo.bad ws blue=fo.badTo i ws blue
 |0,_,_,_,h=>by simp[Fo.badTo] at h
 |_+1,.nil,_,_,h=>by simp[Fo.badTo] at h
 |i+1,.cons k n r q rest,ws,blue,h=>by
   rw[bad_cons]
   rw[Fo.badTo] at h|-
   by_cases h1:(Fo.cons k n r q .nil).bad [ws.headD 0] blue≠0
   ·rw[if_pos h1,if_pos h1]
   ·rw[if_neg h1,if_neg h1]
    rw[if_neg h1] at h
    exact badTo_stop i rest _ _ h
theorem bs_int1(v:Int)(w:World):(Instr.buildSlice 43 1 #[(0,.int .i64 v)]).run Try.prog w=.ok (.slice (some ⟨w.heap.size,0,none⟩) 1 1) (w.alloc (.cells #[.int .i64 v] 3)):=by
 obtain⟨i0,hi,hz0,hz1,hz2⟩:=info_parts info_int
 refine run_buildSlice w 43 3 1 _ #[.int .i64 v] i0 _ Try.underlying43 hi hz0 (by rw[hz1];decide) (by rw[hz1];decide) ?_
 rw[hz1]
 have hr:Array.range 1=#[0]:=by decide
 simp[Instr.fill,Value.cells,hr]
theorem bs_int2(v u:Int)(w:World):(Instr.buildSlice 43 2 #[(0,.int .i64 v),(1,.int .i64 u)]).run Try.prog w=.ok (.slice (some ⟨w.heap.size,0,none⟩) 2 2) (w.alloc (.cells #[.int .i64 v,.int .i64 u] 3)):=by
 obtain⟨i0,hi,hz0,hz1,hz2⟩:=info_parts info_int
 refine run_buildSlice w 43 3 2 _ #[.int .i64 v,.int .i64 u] i0 _ Try.underlying43 hi hz0 (by rw[hz1];decide) (by rw[hz1];decide) ?_
 rw[hz1]
 have hr:Array.range 2=#[0,1]:=by decide
 simp[Instr.fill,Value.cells,hr]
theorem ints_one(w:World)(v:Int)(t:TypeId)(b:Nat)(hb:b=w.heap.size):IntsAt (w.alloc (.cells #[.int .i64 v] t)) (some ⟨b,0,none⟩) 1 (λi=>[v].getD i 0):=λi hi=>by
 subst hb
 obtain rfl:i=0:=by omega
 exact⟨_,_,rfl,by simp[go_sem]⟩
theorem ints_two(w:World)(v u:Int)(t:TypeId)(b:Nat)(hb:b=w.heap.size):IntsAt (w.alloc (.cells #[.int .i64 v,.int .i64 u] t)) (some ⟨b,0,none⟩) 2 (λi=>[v,u].getD i 0):=λi hi=>by
 subst hb
 rcases i with _|_|i
 ·exact⟨_,_,rfl,by simp[go_sem]⟩
 ·exact⟨_,_,rfl,by simp[go_sem]⟩
 ·omega
def WantsC(w:World)(l:List Int)(z:Ending)(w':World):Prop:=(∃A',z=.returned (.slice A' l.length l.length)/\IntsAt w' A' l.length (λi=>l.getD i 0)/\∀b o,A'=some ⟨b,o,none⟩->w.heap.size<=b)/\Below w.heap.size w w'
theorem Wants_any(kind n r:Int)(A:Option Addr)(l c:Nat)(w:World)(h1:1<=n)(h2:n<=32768)(h4:kind=4->n<=16384):
  Calls Try.prog 105 #[plV kind n r A l c] w (WantsC w (wantsF kind n r)):=by
 have bs1:=bs_int1
 have bs2:=bs_int2
 by_cases k1:kind=1
 ·subst k1
  clear h4
  by_cases r1:r<1
  ·have e:wantsF 1 n r=[0,0]:=by unfold wantsF;rw[if_pos rfl,if_pos r1]
   rw[e]
   clear e
   go_enter Try.func105,Try.ntmps105
   go_wp2
   go_ret
   exact⟨⟨_,rfl,ints_two _ _ _ _ _ (by simp),λb o e=>by cases e;first|(simp;done)|exact HB.drew.size|omega⟩,((Below.refl _ w).alloc (Nat.le_refl _) _).alloc (by simp) _⟩
  ·have e:wantsF 1 n r=[r,n/r]:=by unfold wantsF;rw[if_pos rfl,if_neg r1]
   rw[e]
   clear e
   have hb:=Int.ediv_le_self r (show 0<=n by omega)
   have hb0:=Int.ediv_nonneg (show 0<=n by omega) (show 0<=r by omega)
   have ht:n.tdiv r=n/r:=Int.tdiv_eq_ediv_of_nonneg (by omega)
   have hr0:(r==0)=false:=by rw[beq_eq_false_iff_ne];omega
   have hr1:¬r=0:=by omega
   generalize n/r=q at*
   have hw:IntKind.i64.wrap q=q:=by rw[IntKind.wrap_i64];omega
   clear hb hb0
   go_enter Try.func105,Try.ntmps105
   go_upto_region 5 with(fail)
   obtain⟨W,hW⟩:∃W,W=w.alloc (.cells #[.int .i64 1,.int .i64 n,.int .i64 r,.slice A l c] 26):=⟨_,rfl⟩
   have HP:PlBox W w.heap.size 1 n r A l c:=by rw[hW];exact PlBox.new w 1 n r A l c 26
   have HB:Below w.heap.size w W:=by rw[hW];exact(Below.refl _ w).alloc (Nat.le_refl _) _
   rw[<-hW]
   clear hW
   refine wp_region_S (λw'=>w'.cell? ⟨w.heap.size,0,none⟩=some (.int .i64 1)/\w'.cell? ⟨w.heap.size,1,none⟩=some (.int .i64 n)/\w'.cell? ⟨w.heap.size,2,none⟩=some (.int .i64 r)/\w'.cell? ⟨w.heap.size,3,none⟩=some (.slice A l c)) 7 (by kernel_rfl) ?_
   have hS0:=(HP:PlBox W.drew w.heap.size 1 n r A l c)
   refine Takes.intro [0,1,2,3,4,5,6] ?_
   repeat(refine Takes.go (v:=?_) hS0 ?_;try simp only[nrm,Act.put])
   refine Takes.nil ?_
   refine wpAnyS_fin 2 7 ?_
   simp only[nrd]
   go_wp2
   go_ret
   exact⟨⟨_,rfl,ints_two _ _ _ _ _ (by simp),λb o e=>by cases e;first|(simp;done)|exact HB.drew.size|omega⟩,HB.drew.alloc HB.drew.size _⟩
 ·by_cases k3:kind=3
  ·subst k3
   clear h4 k1
   have e:wantsF 3 n r=[n-1]:=rfl
   rw[e]
   clear e
   go_enter Try.func105,Try.ntmps105
   go_wp2
   go_ret
   exact⟨⟨_,rfl,ints_one _ _ _ _ (by simp),λb o e=>by cases e;first|(simp;done)|exact HB.drew.size|omega⟩,((Below.refl _ w).alloc (Nat.le_refl _) _).alloc (by simp) _⟩
  ·by_cases k4:kind=4
   ·subst k4
    obtain⟨m,rfl⟩:∃m:Nat,n=m:=⟨n.toNat,by omega⟩
    have hP:=Padded_ok m (by omega) (by have:=h4 rfl;omega)
    have e:wantsF 4 m r=[(padF m:Int)]:=rfl
    rw[e]
    generalize padF m=p at*
    have HP:=aZ hP
    clear hP e h4
    go_enter Try.func105,Try.ntmps105
    go_wp2_with fail
    refine(HP.out _).mono ?_
    rintro z w' ⟨rfl,rfl⟩
    go_wp2
    go_ret
    exact⟨⟨_,rfl,ints_one _ _ _ _ (by simp),λb o e=>by cases e;first|(simp;done)|exact HB.drew.size|omega⟩,((Below.refl _ w).alloc (Nat.le_refl _) _).alloc (by simp) _⟩
   ·have e:wantsF kind n r=[]:=by unfold wantsF;rw[if_neg k1,if_neg k3,if_neg k4]
    rw[e]
    clear e h4
    go_enter Try.func105,Try.ntmps105
    go_wp2
    go_ret
    exact⟨⟨none,rfl,IntsAt.nil _ _ _,λb o e=>by cases e⟩,(Below.refl _ w).alloc (Nat.le_refl _) _⟩
theorem i64_and_nat(a b:Nat)(ha:a<9223372036854775808)(hb:b<9223372036854775808):bits .and .i64 (a:Int) (b:Int)=((a &&& b:Nat):Int):=by
 have h1:(BitVec.ofInt 64 (a:Int)).toNat=a:=by rw[BitVec.toNat_ofInt];omega
 have h2:(BitVec.ofInt 64 (b:Int)).toNat=b:=by rw[BitVec.toNat_ofInt];omega
 have key:(BitVec.ofInt 64 (a:Int) &&& BitVec.ofInt 64 (b:Int)).toNat=a &&& b:=by rw[BitVec.toNat_and,h1,h2]
 have hle:a &&& b<=a:=Nat.and_le_left
 show IntKind.i64.wrap ((BitVec.ofInt 64 (a:Int) &&& BitVec.ofInt 64 (b:Int)).toNat:Nat)=_
 rw[key,IntKind.wrap_i64]
 omega
def andB(n:Nat):Bool:=bif pow4 n then(bif Nat.ble 4 n then Nat.beq (Nat.land n (n-1)) 0 else false) else(bif Nat.ble 4 n then !Nat.beq (Nat.land n (n-1)) 0 else true)
theorem and0:allR andB 14 0=true:=by decide+kernel
theorem and1:allR andB 14 16384=true:=by decide+kernel
theorem and2:andB 32768=true:=by decide+kernel
theorem and_ok(n:Nat)(h4:4<=n)(hn:n<=32768):(pow4 n=true/\n &&& (n-1)=0)\/(pow4 n=false/\n &&& (n-1)≠0):=by
 have h:andB n=true:=by
  rcases Nat.lt_or_ge n 16384 with h|h
  ·exact allR_at 14 0 n and0 (by omega) (by omega)
  ·rcases Nat.lt_or_ge n 32768 with h'|h'
   ·exact allR_at 14 16384 n and1 (by omega) (by omega)
   ·obtain rfl:n=32768:=by omega
    exact and2
 unfold andB at h
 have e4:Nat.ble 4 n=true:=Nat.ble_eq_true_of_le h4
 rw[e4] at h
 show(pow4 n=true/\Nat.land n (n-1)=0)\/(pow4 n=false/\Nat.land n (n-1)≠0)
 cases hp:pow4 n
 ·rw[hp] at h
  refine .inr ⟨rfl,λe=>?_⟩
  rw[e] at h
  exact absurd h (by decide)
 ·rw[hp] at h
  exact .inl ⟨rfl,Nat.eq_of_beq_eq_true h⟩
theorem pow4_small(n:Nat)(h:n<4):pow4 n=false:=by
 have:n=0\/n=1\/n=2\/n=3:=by omega
 rcases this with rfl|rfl|rfl|rfl<;>rfl
abbrev Ret(w:World)(v:Value)(z:Ending)(w':World):Prop:=z=.returned v/\Below w.heap.size w w'
theorem size_any(kind n r:Int)(A:Option Addr)(l c:Nat)(w:World)(h1:1<=n)(h2:n<=32768):
  Calls Try.prog 122 #[plV kind n r A l c] w (Ret w (.int .i64 (sizeE kind n))):=by
 have fin:∀t,Below w.heap.size w (w.alloc (.cells #[.int .i64 kind,.int .i64 n,.int .i64 r,.slice A l c] t)):=λt=>(Below.refl _ w).alloc (Nat.le_refl _) _
 have FIN:=aZ fin
 clear fin
 by_cases k0:kind=0
 ·subst k0
  by_cases hn:32<n
  ·have e:sizeE 0 n=22:=by unfold sizeE;rw[if_pos rfl,if_pos hn]
   rw[e];clear e
   go_enter Try.func122,Try.ntmps122
   go_wp2
   go_ret
   exact⟨rfl,FIN.out _⟩
  ·have e:sizeE 0 n=0:=by unfold sizeE;rw[if_pos rfl,if_neg hn]
   rw[e];clear e
   go_enter Try.func122,Try.ntmps122
   go_wp2
   go_ret
   exact⟨rfl,FIN.out _⟩
 ·by_cases k2:kind=2
  ·subst k2
   obtain⟨m,rfl⟩:∃m:Nat,n=m:=⟨n.toNat,by omega⟩
   have e:sizeE 2 m=if pow4 m=true then 0 else 24:=by unfold sizeE;rw[if_neg k0,if_pos rfl];rfl
   rw[e];clear e
   by_cases hn:m<4
   ·have hni:(m:Int)<4:=by omega
    rw[pow4_small m hn,if_neg (by decide)]
    clear hn
    go_enter Try.func122,Try.ntmps122
    go_wp2
    go_ret
    exact⟨rfl,FIN.out _⟩
   ·have hni:¬(m:Int)<4:=by omega
    have ew:IntKind.i64.wrap ((m:Int)-1)=((m-1:Nat):Int):=by rw[IntKind.wrap_i64];omega
    have eb:=i64_and_nat m (m-1) (by omega) (by omega)
    obtain⟨y,hy⟩:∃y,m-1=y:=⟨_,rfl⟩
    have ho:=and_ok m (by omega) (by omega)
    rw[hy] at ew eb ho
    have em:(m:Int)-1=y:=by omega
    clear hn hy
    rcases ho with⟨hp,ha⟩|⟨hp,ha⟩
    ·rw[hp,if_pos rfl]
     rw[ha] at eb
     have eb':bits .and .i64 (m:Int) (y:Int)=0:=eb
     clear hp ha eb
     go_enter Try.func122,Try.ntmps122
     go_wp2
     go_ret
     exact⟨rfl,FIN.out _⟩
    ·rw[hp,if_neg (by decide)]
     obtain⟨q,hq⟩:∃q,m &&& y=q:=⟨_,rfl⟩
     rw[hq] at eb ha
     have hqi:((q:Int) != 0)=true:=by simp;omega
     clear hp ha hq
     go_enter Try.func122,Try.ntmps122
     go_wp2
     go_ret
     exact⟨rfl,FIN.out _⟩
  ·by_cases k3:kind=3
   ·subst k3
    obtain⟨m,rfl⟩:∃m:Nat,n=m:=⟨n.toNat,by omega⟩
    have e:sizeE 3 m=if(m:Int)<3\/primeB m=false then 25 else 0:=by unfold sizeE;rw[if_neg k0,if_neg k2,if_pos rfl];rfl
    rw[e];clear e
    by_cases hn:(m:Int)<3
    ·rw[if_pos (.inl hn)]
     go_enter Try.func122,Try.ntmps122
     go_wp2
     go_ret
     exact⟨rfl,FIN.out _⟩
    ·have hP:=λw=>is_any m (by omega) w
     rw[is_prime m (by omega)] at hP
     have hR:(if(m:Int)<3\/primeB m=false then(25:Int) else 0)=if primeB m=false then 25 else 0:=by simp[hn]
     rw[hR]
     generalize primeB m=b at*
     have HP:=aZ hP
     clear hP hR
     cases b
     all_goals
      go_enter Try.func122,Try.ntmps122
      go_wp2_with fail
      refine(HP.out _).mono ?_
      rintro z w' ⟨rfl,hb⟩
      have HB:=aZ ((FIN.out _).trans (hb.mono (by simp)))
      clear hb
      go_wp2
      go_ret
      exact⟨rfl,HB.out⟩
   ·by_cases k4:kind=4
    ·subst k4
     have e:sizeE 4 n=if n<2\/16384<n then 3 else 0:=by unfold sizeE;rw[if_neg k0,if_neg k2,if_neg k3,if_pos rfl]
     rw[e];clear e
     by_cases hn:n<2
     ·rw[if_pos (.inl hn)]
      go_enter Try.func122,Try.ntmps122
      go_wp2
      go_ret
      exact⟨rfl,FIN.out _⟩
     ·by_cases hm:16384<n
      ·rw[if_pos (.inr hm)]
       go_enter Try.func122,Try.ntmps122
       go_wp2
       go_ret
       exact⟨rfl,FIN.out _⟩
      ·rw[if_neg (by omega)]
       go_enter Try.func122,Try.ntmps122
       go_wp2
       go_ret
       exact⟨rfl,FIN.out _⟩
    ·have e:sizeE kind n=0:=by unfold sizeE;rw[if_neg k0,if_neg k2,if_neg k3,if_neg k4]
     rw[e];clear e
     go_enter Try.func122,Try.ntmps122
     go_wp2
     go_ret
     exact⟨rfl,FIN.out _⟩
theorem radix_any(kind n r:Int)(A:Option Addr)(l c:Nat)(w:World)(h1:1<=n)(h2:n<=32768):
  Calls Try.prog 123 #[plV kind n r A l c] w (Ret w (.bool (radixB kind n r))):=by
 have fin:∀t,Below w.heap.size w (w.alloc (.cells #[.int .i64 kind,.int .i64 n,.int .i64 r,.slice A l c] t)):=λt=>(Below.refl _ w).alloc (Nat.le_refl _) _
 have FIN:=aZ fin
 clear fin
 by_cases k1:kind=1
 ·subst k1
  by_cases r2:2<=r
  ·by_cases rn:r<n
   ·have ht:n.tmod r=n%r:=Int.tmod_eq_emod_of_nonneg (by omega)
    have hr1:¬r=0:=by omega
    have hr0:(r==0)=false:=by rw[beq_eq_false_iff_ne];omega
    have e:radixB 1 n r=decide (n%r=0):=by unfold radixB;rw[if_pos rfl];simp[r2,rn]
    rw[e];clear e
    have b0:=Int.emod_nonneg n hr1
    have b1:=Int.emod_lt_of_pos n (show 0<r by omega)
    generalize n%r=q at*
    by_cases hq:q=0
    ·subst hq
     clear b0 b1
     go_enter Try.func123,Try.ntmps123
     go_wp2
     go_ret
     exact⟨rfl,FIN.out _⟩
    ·have hd:decide (q=0)=false:=decide_eq_false hq
     have hd2:(q==0)=false:=by rw[beq_eq_false_iff_ne];omega
     have hw:IntKind.i64.wrap q=q:=by rw[IntKind.wrap_i64];omega
     rw[hd]
     clear b0 b1
     go_enter Try.func123,Try.ntmps123
     go_wp2
     go_ret
     exact⟨rfl,FIN.out _⟩
   ·have e:radixB 1 n r=false:=by unfold radixB;rw[if_pos rfl];simp[rn]
    rw[e];clear e
    go_enter Try.func123,Try.ntmps123
    go_wp2
    go_ret
    exact⟨rfl,FIN.out _⟩
  ·have e:radixB 1 n r=false:=by unfold radixB;rw[if_pos rfl];simp[r2]
   rw[e];clear e
   go_enter Try.func123,Try.ntmps123
   go_wp2
   go_ret
   exact⟨rfl,FIN.out _⟩
 ·have e:radixB kind n r=decide (r=0):=by unfold radixB;rw[if_neg k1]
  rw[e];clear e
  by_cases hr:r=0
  ·subst hr
   go_enter Try.func123,Try.ntmps123
   go_wp2
   go_ret
   exact⟨rfl,FIN.out _⟩
  ·have hd:decide (r=0)=false:=decide_eq_false hr
   have hd2:(r==0)=false:=by rw[beq_eq_false_iff_ne];omega
   rw[hd]
   go_enter Try.func123,Try.ntmps123
   go_wp2
   go_ret
   exact⟨rfl,FIN.out _⟩
end Go.Proofs.Yteaimnemobnknaa
