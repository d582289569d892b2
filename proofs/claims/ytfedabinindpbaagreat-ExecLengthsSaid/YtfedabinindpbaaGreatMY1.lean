/- A region that draws: calls one behind another, and beside them two places of memory that are made at any time ahead of the tail. -/
import Derived.Test.YtfedabinindpbaaGreatX0
import Derived.Test.YtfedabinindpbaaGreatMW1
import Derived.Test.YtfedabinindpbaaGreatMQ1
import Derived.Test.YtfedabinindpbaaGreatZ3
import Derived.Test.YtfedabinindpbaaGreatMQ3
set_option linter.unusedSimpArgs false
set_option linter.unusedVariables false
set_option maxRecDepth 100000
set_option maxHeartbeats 4000000
namespace Go.Proofs.YtfedabinindpbaaGreat
open Go Go.RowKit
section
variable {P : Program} {md : Region.Mode} {ops : Array Oper} {Q : Exit -> Act -> World -> Prop} {S : World -> Prop} {t : Nat}
def flL(listed:Array Bool)(f1 f2:Nat):Bool->Bool->Array Bool
 |false,false=>listed
 |true,false=>listed.setIfInBounds f1 true
 |false,true=>listed.setIfInBounds f2 true
 |true,true=>(listed.setIfInBounds f1 true).setIfInBounds f2 true
def flN:Bool->Bool->Nat
 |false,false=>2
 |true,false=>1
 |false,true=>1
 |true,true=>0
abbrev ptA(a:Act)(d1 d2:Tmp)(x1 x2:Value):Act:=(a.put (some d1) x1).put (some d2) x2
def wpFl(P:Program)(md:Region.Mode)(ops:Array Oper)(Q:Exit->Act->World->Prop)(S:World->Prop)(t:Nat)(F:Bool->Value->Bool->Value->World->Prop)(f1 f2:Nat)(d1 d2:Tmp)(fuel:Nat)(listed:Array Bool)(a:Act):Prop:=
 ∀b1 x1 b2 x2 w,S w->F b1 x1 b2 x2 w->wpAnyS P md ops Q S t (fuel+flN b1 b2) (flL listed f1 f2 b1 b2) (ptA a d1 d2 x1 x2) w
def flIn(md:Region.Mode)(ops:Array Oper)(listed:Array Bool)(f1 f2:Nat)(b1 b2:Bool)(is:List Nat):Bool:=
 (Region.ready md ops (flL listed f1 f2 b1 b2)).all (λk=>is.contains k||((k==f1&&!b1)||(k==f2&&!b2)))
def flOut(md:Region.Mode)(ops:Array Oper)(listed:Array Bool)(f1 f2:Nat)(b1 b2:Bool):Bool:=!(Region.ready md ops (flL listed f1 f2 b1 b2)).isEmpty
def flOk(md:Region.Mode)(ops:Array Oper)(listed:Array Bool)(f1 f2 i:Nat):Bool:=
 (flIn md ops listed f1 f2 false false [i]&&(flIn md ops listed f1 f2 true false [i]&&(flIn md ops listed f1 f2 false true [i]&&flIn md ops listed f1 f2 true true [i])))&&
 (flOut md ops listed f1 f2 false false&&(flOut md ops listed f1 f2 true false&&(flOut md ops listed f1 f2 false true&&flOut md ops listed f1 f2 true true)))
theorem flOk_spec{listed:Array Bool}{f1 f2 i:Nat}(h:flOk md ops listed f1 f2 i=true)(b1 b2:Bool):Region.ready md ops (flL listed f1 f2 b1 b2)≠[]/\∀k∈Region.ready md ops (flL listed f1 f2 b1 b2),k=i\/(k=f1/\b1=false)\/(k=f2/\b2=false):=by
 unfold flOk at h
 simp only[Bool.and_eq_true] at h
 obtain⟨⟨a1,a2,a3,a4⟩,c1,c2,c3,c4⟩:=h
 have ha:flIn md ops listed f1 f2 b1 b2 [i]=true:=by cases b1<;>cases b2<;>assumption
 have hc:flOut md ops listed f1 f2 b1 b2=true:=by cases b1<;>cases b2<;>assumption
 refine⟨λe=>?_,λk hk=>?_⟩
 ·unfold flOut at hc
  rw[e] at hc
  cases hc
 ·unfold flIn at ha
  have:=List.all_eq_true.1 ha k hk
  simp only[Bool.or_eq_true,Bool.and_eq_true,List.contains_cons,List.contains_nil,Bool.or_false,beq_iff_eq,Bool.not_eq_true'] at this
  exact this
theorem flL_set{listed:Array Bool}{f1 f2 i:Nat}(b1 b2:Bool)(h1:i≠f1)(h2:i≠f2):(flL listed f1 f2 b1 b2).setIfInBounds i true=flL (listed.setIfInBounds i true) f1 f2 b1 b2:=by
 cases b1<;>cases b2<;>unfold flL
 ·rfl
 ·exact(Array.setIfInBounds_comm _ _ (Ne.symm h2))
 ·exact(Array.setIfInBounds_comm _ _ (Ne.symm h1))
 ·show((listed.setIfInBounds f1 true).setIfInBounds f2 true).setIfInBounds i true=((listed.setIfInBounds i true).setIfInBounds f1 true).setIfInBounds f2 true
  rw[Array.setIfInBounds_comm _ _ (Ne.symm h2),Array.setIfInBounds_comm _ _ (Ne.symm h1)]
theorem flL_1(listed:Array Bool)(f1 f2:Nat)(h:f1≠f2)(b2:Bool):(flL listed f1 f2 false b2).setIfInBounds f1 true=flL listed f1 f2 true b2:=by
 cases b2<;>unfold flL
 ·rfl
 ·exact Array.setIfInBounds_comm _ _ (Ne.symm h)
theorem flL_2(listed:Array Bool)(f1 f2:Nat)(b1:Bool):(flL listed f1 f2 b1 false).setIfInBounds f2 true=flL listed f1 f2 b1 true:=by cases b1<;>rfl
theorem flN_1(b2:Bool):flN false b2=flN true b2+1:=by cases b2<;>rfl
theorem flN_2(b1:Bool):flN b1 false=flN b1 true+1:=by cases b1<;>rfl
theorem ptA_1(a:Act)(d1 d2:Tmp)(h:d1≠d2)(x1 x2 v:Value):(ptA a d1 d2 x1 x2).put (some d1) v=ptA a d1 d2 v x2:=by
 simp only[ptA,Act.put]
 rw[Array.setIfInBounds_comm _ _ (Ne.symm h),Array.setIfInBounds_setIfInBounds]
theorem ptA_2(a:Act)(d1 d2:Tmp)(x1 x2 v:Value):(ptA a d1 d2 x1 x2).put (some d2) v=ptA a d1 d2 x1 v:=by
 simp only[ptA,Act.put]
 rw[Array.setIfInBounds_setIfInBounds]
theorem ptA_o(a:Act)(d1 d2 d:Tmp)(h1:d≠d1)(h2:d≠d2)(x1 x2 v:Value):(ptA a d1 d2 x1 x2).put (some d) v=ptA (a.put (some d) v) d1 d2 x1 x2:=by
 simp only[ptA,Act.put]
 rw[Array.setIfInBounds_comm _ _ (Ne.symm h2),Array.setIfInBounds_comm _ _ (Ne.symm h1)]
structure Floats(P:Program)(ops:Array Oper)(S:World->Prop)(F:Bool->Value->Bool->Value->World->Prop)(f1 f2:Nat)(d1 d2:Tmp):Prop where
 ne:f1≠f2
 dn:d1≠d2
 o1:∃o,ops[f1]?=some o/\o.guard=none/\o.dst=some d1/\∀(a:Act) w x1 b2 x2,S w->F false x1 b2 x2 w->∃v w',(execOp a.eval o).run P w=.ok (.value v) w'/\S w'/\F true v b2 x2 w'
 o2:∃o,ops[f2]?=some o/\o.guard=none/\o.dst=some d2/\∀(a:Act) w b1 x1 x2,S w->F b1 x1 false x2 w->∃v w',(execOp a.eval o).run P w=.ok (.value v) w'/\S w'/\F b1 x1 true v w'
variable {F : Bool -> Value -> Bool -> Value -> World -> Prop} {f1 f2 : Nat} {d1 d2 : Tmp}
theorem fl_go1(H:Floats P ops S F f1 f2 d1 d2){n:Nat}{listed:Array Bool}{a:Act}{x1 x2:Value}{b2:Bool}{w:World}(hS:S w)(hF:F false x1 b2 x2 w)(h:∀v w',S w'->F true v b2 x2 w'->wpAnyS P md ops Q S t (n+flN true b2) (flL listed f1 f2 true b2) (ptA a d1 d2 v x2) w'):
  wpOp P ops Q f1 (λa' w'=>(f1<t->S w')/\wpAnyS P md ops Q S t (n+flN true b2) ((flL listed f1 f2 false b2).setIfInBounds f1 true) a' w') (ptA a d1 d2 x1 x2) w:=by
 obtain⟨o,h1,h2,h3,h4⟩:=H.o1
 obtain⟨v,w',hr,hS',hF'⟩:=h4 (ptA a d1 d2 x1 x2) w x1 b2 x2 hS hF
 unfold wpOp
 rw[h1]
 have hwt:Region.wanted o (yielded ops (ptA a d1 d2 x1 x2).tmps)=true:=by unfold Region.wanted;rw[h2]
 simp only[hwt,if_true]
 refine .inl ?_
 unfold Oper.wp
 rw[hr,Oper.upon_value,h3,ptA_1 _ _ _ H.dn,flL_1 _ _ _ H.ne]
 exact⟨λ_=>hS',h v w' hS' hF'⟩
theorem fl_go2(H:Floats P ops S F f1 f2 d1 d2){n:Nat}{listed:Array Bool}{a:Act}{x1 x2:Value}{b1:Bool}{w:World}(hS:S w)(hF:F b1 x1 false x2 w)(h:∀v w',S w'->F b1 x1 true v w'->wpAnyS P md ops Q S t (n+flN b1 true) (flL listed f1 f2 b1 true) (ptA a d1 d2 x1 v) w'):
  wpOp P ops Q f2 (λa' w'=>(f2<t->S w')/\wpAnyS P md ops Q S t (n+flN b1 true) ((flL listed f1 f2 b1 false).setIfInBounds f2 true) a' w') (ptA a d1 d2 x1 x2) w:=by
 obtain⟨o,h1,h2,h3,h4⟩:=H.o2
 obtain⟨v,w',hr,hS',hF'⟩:=h4 (ptA a d1 d2 x1 x2) w b1 x1 x2 hS hF
 unfold wpOp
 rw[h1]
 have hwt:Region.wanted o (yielded ops (ptA a d1 d2 x1 x2).tmps)=true:=by unfold Region.wanted;rw[h2]
 simp only[hwt,if_true]
 refine .inl ?_
 unfold Oper.wp
 rw[hr,Oper.upon_value,h3,ptA_2,flL_2]
 exact⟨λ_=>hS',h v w' hS' hF'⟩
theorem wpFl_one(i:Nat)(di:Tmp){oi:Oper}{fuel:Nat}{listed:Array Bool}{a:Act}(H:Floats P ops S F f1 f2 d1 d2)(hk:flOk md ops listed f1 f2 i=true)(hi:ops[i]?=some oi)(hd:oi.dst=some di)(hg:oi.guard=none)(hn1:i≠f1)(hn2:i≠f2)(hd1:di≠d1)(hd2:di≠d2)(h:∀b1 x1 b2 x2 w,S w->F b1 x1 b2 x2 w->∀K:Act->World->Prop,Hid (∀v w',S w'->F b1 x1 b2 x2 w'->wpFl P md ops Q S t F f1 f2 d1 d2 fuel (listed.setIfInBounds i true) (a.put (some di) v)->K ((ptA a d1 d2 x1 x2).put (some di) v) w')->Oper.wp P oi (ptA a d1 d2 x1 x2) w K Q):
  wpFl P md ops Q S t F f1 f2 d1 d2 (fuel+1) listed a:=by
 have main:∀b1 x1 b2 x2 w,S w->F b1 x1 b2 x2 w->∀m,m=fuel+flN b1 b2->wpOp P ops Q i (λa' w'=>(i<t->S w')/\wpAnyS P md ops Q S t m ((flL listed f1 f2 b1 b2).setIfInBounds i true) a' w') (ptA a d1 d2 x1 x2) w:=by
  intro b1 x1 b2 x2 w hS hF m hm
  unfold wpOp
  rw[hi]
  have hwt:Region.wanted oi (yielded ops (ptA a d1 d2 x1 x2).tmps)=true:=by unfold Region.wanted;rw[hg]
  simp only[hwt,if_true]
  refine .inl (h b1 x1 b2 x2 w hS hF _ (aZ λv w' hS' hF' hc=>⟨λ_=>hS',?_⟩))
  rw[flL_set _ _ hn1 hn2,ptA_o _ _ _ _ hd1 hd2,hm]
  exact hc b1 x1 b2 x2 w' hS' hF'
 have h11:∀x1 x2 w,S w->F true x1 true x2 w->wpAnyS P md ops Q S t (fuel+1+flN true true) (flL listed f1 f2 true true) (ptA a d1 d2 x1 x2) w:=by
  intro x1 x2 w hS hF
  obtain⟨hne,hin⟩:=flOk_spec hk true true
  refine⟨λe=>absurd e hne,λk hk'=>?_⟩
  rcases hin k hk' with rfl|⟨-,h⟩|⟨-,h⟩
  ·exact main true x1 true x2 w hS hF fuel rfl
  ·cases h
  ·cases h
 have h10:∀x1 x2 w,S w->F true x1 false x2 w->wpAnyS P md ops Q S t (fuel+1+flN true false) (flL listed f1 f2 true false) (ptA a d1 d2 x1 x2) w:=by
  intro x1 x2 w hS hF
  obtain⟨hne,hin⟩:=flOk_spec hk true false
  refine⟨λe=>absurd e hne,λk hk'=>?_⟩
  rcases hin k hk' with rfl|⟨-,h⟩|⟨rfl,-⟩
  ·exact main true x1 false x2 w hS hF (fuel+1) rfl
  ·cases h
  ·exact fl_go2 (n:=fuel+1) H hS hF λv w' hS' hF'=>h11 x1 v w' hS' hF'
 have h01:∀x1 x2 w,S w->F false x1 true x2 w->wpAnyS P md ops Q S t (fuel+1+flN false true) (flL listed f1 f2 false true) (ptA a d1 d2 x1 x2) w:=by
  intro x1 x2 w hS hF
  obtain⟨hne,hin⟩:=flOk_spec hk false true
  refine⟨λe=>absurd e hne,λk hk'=>?_⟩
  rcases hin k hk' with rfl|⟨rfl,-⟩|⟨-,h⟩
  ·exact main false x1 true x2 w hS hF (fuel+1) rfl
  ·exact fl_go1 (n:=fuel+1) H hS hF λv w' hS' hF'=>h11 v x2 w' hS' hF'
  ·cases h
 intro b1 x1 b2 x2 w hS hF
 rcases b1 with _|_<;>rcases b2 with _|_
 ·obtain⟨hne,hin⟩:=flOk_spec hk false false
  refine⟨λe=>absurd e hne,λk hk'=>?_⟩
  rcases hin k hk' with rfl|⟨rfl,-⟩|⟨rfl,-⟩
  ·exact main false x1 false x2 w hS hF (fuel+2) rfl
  ·exact fl_go1 (n:=fuel+1) H hS hF λv w' hS' hF'=>h10 v x2 w' hS' hF'
  ·exact fl_go2 (n:=fuel+1) H hS hF λv w' hS' hF'=>h01 x1 v w' hS' hF'
 ·exact h01 x1 x2 w hS hF
 ·exact h10 x1 x2 w hS hF
 ·exact h11 x1 x2 w hS hF
def flEnd(md:Region.Mode)(ops:Array Oper)(listed:Array Bool)(f1 f2 n k:Nat):Bool:=
 (flIn md ops listed f1 f2 false false []&&(flIn md ops listed f1 f2 true false []&&flIn md ops listed f1 f2 false true []))&&
 ((flOut md ops listed f1 f2 false false&&(flOut md ops listed f1 f2 true false&&flOut md ops listed f1 f2 false true))&&tailOk md ops n k (flL listed f1 f2 true true))
theorem wpFl_end(n k:Nat){listed:Array Bool}{a:Act}(H:Floats P ops S F f1 f2 d1 d2)(hk:flEnd md ops listed f1 f2 n k=true)(ht:t<=k)(hn:ops.size=k+n)(h:∀x1 x2 w,S w->F true x1 true x2 w->wpList P ops Q (ops.toList.drop k) (ptA a d1 d2 x1 x2) w):wpFl P md ops Q S t F f1 f2 d1 d2 n listed a:=by
 unfold flEnd at hk
 simp only[Bool.and_eq_true] at hk
 obtain⟨⟨a1,a2,a3⟩,⟨c1,c2,c3⟩,ht'⟩:=hk
 have spec:∀b1 b2,flIn md ops listed f1 f2 b1 b2 []=true->flOut md ops listed f1 f2 b1 b2=true->Region.ready md ops (flL listed f1 f2 b1 b2)≠[]/\∀k∈Region.ready md ops (flL listed f1 f2 b1 b2),(k=f1/\b1=false)\/(k=f2/\b2=false):=by
  intro b1 b2 ha hc
  refine⟨λe=>?_,λk hk=>?_⟩
  ·unfold flOut at hc
   rw[e] at hc
   cases hc
  ·unfold flIn at ha
   have:=List.all_eq_true.1 ha k hk
   simp only[Bool.or_eq_true,Bool.and_eq_true,List.contains_nil,Bool.false_eq_true,false_or,beq_iff_eq,Bool.not_eq_true'] at this
   exact this
 have h11:∀x1 x2 w,S w->F true x1 true x2 w->wpAnyS P md ops Q S t (n+flN true true) (flL listed f1 f2 true true) (ptA a d1 d2 x1 x2) w:=λx1 x2 w hS hF=>wpAnyS_end n k ht' ht hn (h x1 x2 w hS hF)
 have h10:∀x1 x2 w,S w->F true x1 false x2 w->wpAnyS P md ops Q S t (n+flN true false) (flL listed f1 f2 true false) (ptA a d1 d2 x1 x2) w:=by
  intro x1 x2 w hS hF
  obtain⟨hne,hin⟩:=spec true false a2 c2
  refine⟨λe=>absurd e hne,λk hk'=>?_⟩
  rcases hin k hk' with⟨-,h⟩|⟨rfl,-⟩
  ·cases h
  ·exact fl_go2 (n:=n) H hS hF λv w' hS' hF'=>h11 x1 v w' hS' hF'
 have h01:∀x1 x2 w,S w->F false x1 true x2 w->wpAnyS P md ops Q S t (n+flN false true) (flL listed f1 f2 false true) (ptA a d1 d2 x1 x2) w:=by
  intro x1 x2 w hS hF
  obtain⟨hne,hin⟩:=spec false true a3 c3
  refine⟨λe=>absurd e hne,λk hk'=>?_⟩
  rcases hin k hk' with⟨rfl,-⟩|⟨-,h⟩
  ·exact fl_go1 (n:=n) H hS hF λv w' hS' hF'=>h11 v x2 w' hS' hF'
  ·cases h
 intro b1 x1 b2 x2 w hS hF
 rcases b1 with _|_<;>rcases b2 with _|_
 ·obtain⟨hne,hin⟩:=spec false false a1 c1
  refine⟨λe=>absurd e hne,λk hk'=>?_⟩
  rcases hin k hk' with⟨rfl,-⟩|⟨rfl,-⟩
  ·exact fl_go1 (n:=n) H hS hF λv w' hS' hF'=>h10 v x2 w' hS' hF'
  ·exact fl_go2 (n:=n) H hS hF λv w' hS' hF'=>h01 x1 v w' hS' hF'
 ·exact h01 x1 x2 w hS hF
 ·exact h10 x1 x2 w hS hF
 ·exact h11 x1 x2 w hS hF
theorem wpFl_start(f1 f2:Nat)(d1 d2:Tmp)(F:Bool->Value->Bool->Value->World->Prop)(x1 x2:Value){fuel:Nat}{listed:Array Bool}{a:Act}{w:World}(ha:ptA a d1 d2 x1 x2=a)(hS:S w)(hF:F false x1 false x2 w)(h:wpFl P md ops Q S t F f1 f2 d1 d2 fuel listed a):wpAnyS P md ops Q S t (fuel+2) listed a w:=by
 have:=h false x1 false x2 w hS hF
 rw[ha] at this
 exact this
theorem ptA_self(a:Act)(d1 d2:Tmp)(h1:d1<a.tmps.size)(h2:d2<a.tmps.size):ptA a d1 d2 a.tmps[d1] a.tmps[d2]=a:=by
 have key:∀(l:Array Value) (d:Nat) (h:d<l.size),l.setIfInBounds d l[d]=l:=λl d h=>by
  apply Array.ext
  ·simp
  ·intro i hi hi2
   rw[Array.getElem_setIfInBounds]
   split
   ·rename_i e;subst e;rfl
   ·rfl
 rcases a with⟨l,ds⟩
 simp only[ptA,Act.put]
 dsimp only at h1 h2|-
 rw[key l d1 h1,key l d2 h2]
theorem wpFl_begin(f1 f2:Nat)(d1 d2:Tmp)(F:Bool->Value->Bool->Value->World->Prop){fuel:Nat}{listed:Array Bool}{a:Act}{w:World}(h1:d1<a.tmps.size)(h2:d2<a.tmps.size)(hS:S w)(hF:∀x1 x2,F false x1 false x2 w)(h:wpFl P md ops Q S t F f1 f2 d1 d2 fuel listed a):wpAnyS P md ops Q S t (fuel+2) listed a w:=wpFl_start f1 f2 d1 d2 F _ _ (ptA_self a d1 d2 h1 h2) hS (hF _ _) h
end
end Go.Proofs.YtfedabinindpbaaGreat
namespace Go.Proofs.YtfedabinindpbaaGreat
open Go.RowKit Go.Lib
def cxV:List Rx->List Value
 |[]=>[]
 |u::L=>.float .f64 (u.1:Nat)::.float .f64 (u.2:Nat)::cxV L
theorem cxV_app:∀(L:List Rx) (u:Rx),cxV L++[Value.float .f64 (u.1:Nat),Value.float .f64 (u.2:Nat)]=cxV (L++[u])
 |[],u=>rfl
 |v::L,u=>by
   show _::_::(cxV L++_)=_
   rw[cxV_app L u]
   rfl
theorem cxV_get:∀(L:List Rx) (i:Nat) (h:i<L.length),(cxV L)[i*2]?=some (.float .f64 (L[i].1:Nat))/\(cxV L)[i*2+1]?=some (.float .f64 (L[i].2:Nat))
 |[],i,h=>absurd h (by simp)
 |v::L,0,h=>⟨rfl,rfl⟩
 |v::L,i+1,h=>by
   rw[show(i+1)*2=i*2+1+1 by omega]
   exact cxV_get L i (by simpa using h)
def OwnX(w:World)(base:Nat)(v:Value)(L:List Rx):Prop:=w.ownsRow base 29 2 v L.length (cxV L)
theorem OwnX.nil(w:World)(base:Nat):OwnX w base (.slice none 0 0) []:=World.ownsRow_nil _ _ _ _
theorem OwnX.cs{w:World}{base:Nat}{v:Value}{L:List Rx}(h:OwnX w base v L):∃A c,v=.slice A L.length c/\CsAt w A L.length (λi=>nC (L.getD i (0,0)))/\L.length<=c/\c<=maxLen/\(∀b o,A=some ⟨b,o,none⟩->base<=b):=by
 obtain⟨A,c,rfl,hc,h1,h2,h3⟩:=owns_cells h
 refine⟨A,c,rfl,λi hi=>?_,h1,h2,h3⟩
 obtain⟨g1,g2⟩:=cxV_get L i hi
 obtain⟨b,o,e,hx⟩:=hc _ _ g1
 obtain⟨b',o',e',hy⟩:=hc _ _ g2
 rw[e] at e'
 simp only[Option.some.injEq,Addr.mk.injEq,and_true] at e'
 obtain⟨rfl,rfl⟩:=e'
 exact⟨b,o,L[i],e,hx,hy,by show _=nC (L.getD i (0,0));rw[List.getD_eq_getElem?_getD,List.getElem?_eq_getElem hi];rfl⟩
theorem cxV_len:∀L:List Rx,(cxV L).length=L.length*2
 |[]=>rfl
 |u::L=>by
   show(cxV L).length+1+1=(L.length+1)*2
   rw[cxV_len L]
   omega
theorem cxV_one:∀(L:List Rx) (u:Value),u∈cxV L->u.oneCell'=true
 |[],u,h=>by cases h
 |v::L,u,h=>by
   rcases List.mem_cons.1 h with rfl|h
   ·rfl
   ·rcases List.mem_cons.1 h with rfl|h
    ·rfl
    ·exact cxV_one L u h
theorem cxV_snoc(L:List Rx)(u:Rx):cxV (L++[u])=cxV L++[Value.float .f64 (u.1:Nat),Value.float .f64 (u.2:Nat)]:=(cxV_app L u).symm
theorem RowC.list{w:World}{b:Nat}{f:Nat->Cx}:∀n:Nat,RowC w b n f->∃L:List Rx,L.length=n/\(∀j u,(cxV L)[j]?=some u->w.cell? ⟨b,j,none⟩=some u)/\∀i,i<n->nC (L.getD i (0,0))=f i
 |0,_=>⟨[],rfl,λj u h=>by simp[cxV] at h,λi hi=>by omega⟩
 |n+1,h=>by
   obtain⟨L,hl,hc,hf⟩:=RowC.list n (λi hi=>h i (by omega))
   obtain⟨u,h1,h2,-,-,h5⟩:=h n (by omega)
   have hlen:(cxV L).length=n*2:=by rw[cxV_len,hl]
   refine⟨L++[u],by rw[List.length_append,hl];rfl,λj v hj=>?_,λi hi=>?_⟩
   ·rw[cxV_snoc] at hj
    by_cases hlt:j<n*2
    ·rw[List.getElem?_append_left (by omega)] at hj
     exact hc j v hj
    ·rw[List.getElem?_append_right (by omega),hlen] at hj
     obtain⟨k,hk⟩:∃k,j=n*2+k:=⟨j-n*2,by omega⟩
     subst hk
     rw[Nat.add_sub_cancel_left] at hj
     rcases k with _|_|k
     ·obtain rfl:Value.float .f64 (u.1:Nat)=v:=by simpa using hj
      exact h1
     ·obtain rfl:Value.float .f64 (u.2:Nat)=v:=by simpa using hj
      exact h2
     ·simp at hj
   ·rw[List.getD_eq_getElem?_getD]
    by_cases hlt:i<n
    ·rw[List.getElem?_append_left (by omega)]
     have:=hf i hlt
     rwa [List.getD_eq_getElem?_getD] at this
    ·obtain rfl:i=n:=by omega
     rw[List.getElem?_append_right (by omega),hl,Nat.sub_self]
     exact h5
theorem zero_C(w:World):(zeroValue 29).run Tryz.prog w=.ok (.agg #[.float .f64 0,.float .f64 0]) w:=by kernel_rfl
theorem exec_allocC(eval:Operand->Value)(o:Oper)(w:World)(ho:o.op=.alloc 29):
  (execOp eval o).run Tryz.prog w=.ok (.value (.pointer (some ⟨w.heap.size,0,none⟩))) (w.alloc (.cells #[.float .f64 0,.float .f64 0] 29)):=by
 unfold execOp
 simp only[ho]
 have:=zero_C w
 go_simp
section
variable {M : Mem}
def FlC(M:Mem)(B:Nat)(b1:Bool)(x1:Value)(b2:Bool)(x2:Value)(w:World):Prop:=
 (b1=true->∃g,x1=.pointer (some ⟨g,0,none⟩)/\B<=g/\BoxC M w g (0,0))/\(b2=true->∃g,x2=.pointer (some ⟨g,0,none⟩)/\B<=g/\BoxC M w g (0,0))/\(b1=true->b2=true->x1≠x2)
theorem FlC.start(B:Nat)(x1 x2:Value)(w:World):FlC M B false x1 false x2 w:=⟨λh=>(by cases h),λh=>(by cases h),λh=>(by cases h)⟩
theorem FlC.keep(H:M.Ok){B:Nat}{b1 b2:Bool}{x1 x2:Value}{w w':World}(h:FlC M B b1 x1 b2 x2 w)(k:M.On w w')(hs:M.St w):FlC M B b1 x1 b2 x2 w':=
 ⟨λe=>(by obtain⟨g,e1,e2,e3⟩:=h.1 e;exact⟨g,e1,e2,e3.keep H k hs⟩),λe=>(by obtain⟨g,e1,e2,e3⟩:=h.2.1 e;exact⟨g,e1,e2,e3.keep H k hs⟩),h.2.2⟩
theorem FlC.swap{B:Nat}{b1 b2:Bool}{x1 x2:Value}{w:World}(h:FlC M B b1 x1 b2 x2 w):FlC M B b2 x2 b1 x1 w:=⟨h.2.1,h.1,λe1 e2 e=>h.2.2 e2 e1 e.symm⟩
theorem FlC.one(H:M.Ok){D:World}{b2:Bool}{x1 x2:Value}{w:World}(k:M.On D w)(h:FlC M D.heap.size false x1 b2 x2 w)(t:TypeId):
  FlC M D.heap.size true (.pointer (some ⟨w.heap.size,0,none⟩)) b2 x2 (w.alloc (.cells #[.float .f64 0,.float .f64 0] t)):=by
 obtain⟨h1,h2⟩:=BoxC.zero H (H.on_refl k.st) t
 refine⟨λ_=>⟨_,rfl,H.size k.fr,h1⟩,λe=>?_,λ_ e e'=>?_⟩
 ·obtain⟨g,e1,e2,e3⟩:=h.2.1 e
  exact⟨g,e1,e2,e3.keep H h2 k.st⟩
 ·obtain⟨g,e1,e2,e3⟩:=h.2.1 e
  rw[e1] at e'
  have:=e3.lt
  simp at e'
  done
theorem FlC.done{B:Nat}{x1 x2:Value}{w:World}(h:FlC M B true x1 true x2 w):∃g1 g2,x1=.pointer (some ⟨g1,0,none⟩)/\x2=.pointer (some ⟨g2,0,none⟩)/\g1≠g2/\B<=g1/\B<=g2/\BoxC M w g1 (0,0)/\BoxC M w g2 (0,0):=by
 obtain⟨g1,e1,l1,o1⟩:=h.1 rfl
 obtain⟨g2,e2,l2,o2⟩:=h.2.1 rfl
 refine⟨g1,g2,e1,e2,λe=>?_,l1,l2,o1,o2⟩
 subst e
 exact h.2.2 rfl rfl (e1.trans e2.symm)
theorem floatsC(H:M.Ok){ops:Array Oper}{S:World->Prop}{D:World}{f1 f2:Nat}{d1 d2:Tmp}(h1:∀w,S w->M.On D w)(h2:∀w,M.On D w->S w)(ne:f1≠f2)(dn:d1≠d2)(o1:∃o,ops[f1]?=some o/\o.guard=none/\o.dst=some d1/\o.op=.alloc 29)(o2:∃o,ops[f2]?=some o/\o.guard=none/\o.dst=some d2/\o.op=.alloc 29):
  Floats Tryz.prog ops S (FlC M D.heap.size) f1 f2 d1 d2:=by
 obtain⟨p1,a1,a2,a3,a4⟩:=o1
 obtain⟨p2,c1,c2,c3,c4⟩:=o2
 refine⟨ne,dn,⟨p1,a1,a2,a3,λa w x1 b2 x2 hS hF=>⟨_,_,exec_allocC a.eval p1 w a4,?_,(FlC.one H (h1 w hS) hF _)⟩⟩,⟨p2,c1,c2,c3,λa w b1 x1 x2 hS hF=>⟨_,_,exec_allocC a.eval p2 w c4,?_,(FlC.one H (h1 w hS) hF.swap _).swap⟩⟩⟩
 ·exact h2 _ ((h1 w hS).below H ((Below.refl _ w).alloc (Nat.le_refl _) _))
 ·exact h2 _ ((h1 w hS).below H ((Below.refl _ w).alloc (Nat.le_refl _) _))
theorem box2(H:M.Ok){D wa:World}{gu gv:Nat}(on:M.On D wa)(hs:M.St D)(lu:D.heap.size<=gu)(lv:D.heap.size<=gv)(ne:gu≠gv)(bu:BoxC M wa gu (0,0))(bv:BoxC M wa gv (0,0))(ru rv:Rx):
  BoxC M (setB wa gu ru) gv (0,0)/\BoxC M (setB (setB wa gu ru) gv rv) gu ru/\BoxC M (setB (setB wa gu ru) gv rv) gv rv/\M.On D (setB (setB wa gu ru) gv rv)/\(∀b u,BoxC M D b u->BoxC M (setB (setB wa gu ru) gv rv) b u)/\
   (∀b n f,OwnC M D b n f->OwnC M (setB (setB wa gu ru) gv rv) b n f):=by
 have o1:OnlyB gu wa (setB wa gu ru):=(OnlyB.refl gu wa).setB ru
 have o2:OnlyB gv (setB wa gu ru) (setB (setB wa gu ru) gv rv):=(OnlyB.refl gv _).setB rv
 have s1:=bu.set H on lu ru
 have s0:=bv.other H on.st bu.pv o1 (Ne.symm ne)
 have s2:=s0.set H s1.2 lv rv
 refine⟨s0,s1.1.other H s1.2.st s0.pv o2 ne,s2.1,s2.2,λb u hb=>?_,λb n f hb=>?_⟩
 ·have h1:=hb.lt
  exact(((hb.keep H on hs).other H on.st bu.pv o1 (by omega)).other H s1.2.st s0.pv o2 (by omega))
 ·have h1:=hb.lt
  exact(((hb.keep H on hs).other H on.st bu.pv o1 (by omega)).other H s1.2.st s0.pv o2 (by omega))
theorem own_put(H:M.Ok){D w:World}{b n:Nat}{f:Nat->Cx}(h:OwnC M w b n f)(k:M.On D w)(hD:D.heap.size<=b){j:Nat}(hj:j<n)(v:Rx):
  OwnC M (putC w b j v) b n (updT f j (nC v))/\M.On D (putC w b j v)/\(∀c u,c≠b->BoxC M w c u->BoxC M (putC w b j v) c u):=by
 have s:=h.set H k hD hj v
 exact⟨s.1,s.2,λc u hne hb=>hb.other H k.st h.pv (only_putC _ _ _ _) hne⟩
end
section
variable {M : Mem} {ρ : RingC}
theorem unit_wrap2(s:Int)(a b:Nat)(hab:a*b<=1073741824)(ha:a<=1073741824):IntKind.i64.wrap (unitI s*(a:Int)*(b:Int))=unitI s*(a:Int)*(b:Int)/\-1073741824<=unitI s*(a:Int)*(b:Int)/\unitI s*(a:Int)*(b:Int)<=1073741824:=by
 have e:(a:Int)*b=((a*b:Nat):Int):=(Int.natCast_mul a b).symm
 have:unitI s*(a:Int)*(b:Int)=unitI s*((a*b:Nat):Int):=by rw[Int.mul_assoc,e]
 rw[this]
 exact unit_wrap s (a*b) hab
theorem TwistC_r(H:ρ.Ok M)(A:Option Addr)(n c r d:Nat)(s:Int)(f:Nat->Cx)(w:World)(hA:CsAt w A n f)(hn:n<=32768)(h1:1<=r)(h2:1<=d)(hrd:r*d=n)(hw:M.St w):
  Calls Tryz.prog 132 #[.iface ρ.t ρ.v,.slice A n c,.int .i64 r,.int .i64 d,.int .i64 s] w λz w'=>z=.returned (.slice (some ⟨w.heap.size,0,none⟩) n n)/\OwnC M w' w.heap.size n (twistF ρ.R r d s f)/\M.On w w':=by
 have HH:=aZ H
 have HU:=aZ (unit_any s)
 have HA:=aZ hA
 have HW:=aZ hw
 have hmk:=mk_C n (by omega)
 have e4:=H.nr
 have e5:=H.mr
 have e6:=H.cr
 have e7:=H.nm
 have e8:=H.mm
 have e9:=H.cm
 have hrn:r<=n:=by rw[<-hrd];exact Nat.le_mul_of_pos_right _ h2
 have hdn:d<=n:=by rw[<-hrd];exact Nat.le_mul_of_pos_left _ h1
 have g1:n%r=0:=by rw[<-hrd];exact Nat.mul_mod_right _ _
 have g2:n/r=d:=by rw[<-hrd];exact Nat.mul_div_cancel_left _ (by omega)
 have g3:(n:Int)%r=0:=by rw[<-Int.natCast_emod,g1];rfl
 have g4:(n:Int)/r=d:=by rw[<-Int.natCast_ediv,g2]
 have g5:(n:Int).tmod r=0:=by rw[Int.tmod_eq_emod_of_nonneg (by omega),g3]
 have g6:(n:Int).tdiv r=d:=by rw[Int.tdiv_eq_ediv_of_nonneg (by omega),g4]
 have g7:¬(r:Int)=0:=by omega
 have g8:¬r=0:=by omega
 have g9:¬(r:Int)<1:=by omega
 have g10:¬(d:Int)<1:=by omega
 have HRD:=aZ hrd
 clear hA hw H hrd
 go_enter Tryz.func132,Tryz.ntmps132
 go_wp2
 clear g1 g2 g3 g4 g5 g6
 go_loopw [40] (λvi wr=>∃k:Nat,k<=r/\vi=.int .i64 k/\Hid (OwnC M wr w.heap.size n (upToC (k*d) (twistF ρ.R r d s f)))/\Hid (M.On w wr)) (λvi _=>r-(intOf vi).toNat)
 case atStart=>
  obtain⟨h1,h2⟩:=OwnC.make HH.out.mem (HH.out.mem.on_refl HW.out) n 29
  exact⟨0,by omega,rfl,aZ (by rw[Nat.zero_mul];exact h1.empty),aZ h2⟩
 case round=>
  obtain⟨k,hk,rfl,hr,hb⟩:=hrel
  by_cases hlt:k<r
  ·have hki:(k:Int)<r:=by omega
   go_wp2
   go_loopw [44] (λvj wx=>∃j:Nat,j<=d/\vj=.int .i64 j/\Hid (OwnC M wx w.heap.size n (upToC (k*d+j) (twistF ρ.R r d s f)))/\Hid (M.On w wx)) (λvj _=>d-(intOf vj).toNat)
   case atStart=>exact⟨0,by omega,rfl,hr,hb⟩
   case round=>
    clear hr hb
    rename World=>wx
    obtain⟨j,hj,rfl,hr,hb⟩:=hrel
    by_cases hjt:j<d
    ·have hji:(j:Int)<d:=by omega
     have hkd:k*d+d<=n:=by
      have:=Nat.mul_le_mul_right d (show k+1<=r by omega)
      rw[HRD.out,Nat.succ_mul] at this
      exact this
     obtain⟨x,hx⟩:∃x,k*d=x:=⟨_,rfl⟩
     rw[hx] at hkd hr
     have hyn:x+j<n:=by omega
     have hyi:((x+j:Nat):Int)<n:=by omega
     have hy0:(0:Int)<=((x+j:Nat):Int):=by omega
     have hkj:k*j<=1073741824:=by
      have:k*j<=32768*32768:=Nat.mul_le_mul (by omega) (by omega)
      omega
     obtain⟨hu1,hu2,hu3⟩:=unit_wrap s k (by omega)
     obtain⟨hv1,hv2,hv3⟩:=unit_wrap2 s k j hkj (by omega)
     have hn1:1<=n:=by omega
     have hn2:n<=65536:=by omega
     have HX:Hid (-4294967296<=unitI s*(k:Int)*(j:Int)/\unitI s*(k:Int)*(j:Int)<=4294967296):=aZ ⟨by omega,by omega⟩
     have HT:Hid (twistF ρ.R r d s f (x+j)=ρ.R.mul (f (x+j)) (ρ.R.root (unitI s*(k:Int)*(j:Int)) n)):=aZ (by
      unfold twistF
      rw[<-hx,HRD.out,Nat.mul_comm k d,Nat.mul_add_div (by omega),Nat.div_eq_of_lt hjt,Nat.add_zero,Nat.mul_add_mod,Nat.mod_eq_of_lt hjt])
     obtain⟨b,o,u,rfl,hcx,hcy,hu⟩:=HA.out.keepM HH.out.mem hb.out HW.out (x+j) hyn
     clear hu2 hu3 hv2 hv3 hkj hkd
     have hx63:x<9223372036854775808:=by omega
     have hxj63:x+j<9223372036854775808:=by omega
     have hy':Hid (x+(j+1)=(x+j)+1):=aZ (by omega)
     have hw3:wrap64 ((k:Int)*d)=(x:Int):=by rw[<-Int.natCast_mul,hx];exact wrap64_nat x hx63
     have hw4:wrap64 ((x:Int)+j)=((x+j:Nat):Int):=by rw[<-Int.natCast_add];exact wrap64_nat _ hxj63
     clear hx63 hxj63
     obtain⟨y,hy⟩:∃y,x+j=y:=⟨_,rfl⟩
     rw[hy] at hw4 hyn hyi hy0 HT hcx hcy hu hr
     rw[hy] at hy'
     have HUX:=aZ hu
     clear hy hu
     go_upto_region 11 with(fail)
     refine wp_region_T (λw'=>w'.cell? ⟨b,o+y*2,none⟩=some (.float .f64 u.1)/\w'.cell? ⟨b,o+y*2+1,none⟩=some (.float .f64 u.2)/\Hid (M.On wx w')) 24 ⟨hcx,hcy,aZ ((HH.out.mem.on_refl hb.out.st).drew HH.out.mem)⟩ (λhS0=>?_)
     refine Takes.intro [0,1,2,3,4,5,6,7,8,10,12,14,15,16,17,18,20,21,22] ?_
     repeat(refine Takes.go (v:=?_) hS0 ?_;try simp only[nrm,Act.put])
     refine Takes.nil ?_
     refine wpAnyS_1 9 (λK hK=>?_)
     go_simp
     refine(HU.out _).mono ?_
     rintro z w2 ⟨rfl,rfl⟩
     have hS1:=hS0
     refine hK.out _ _ (λ_=>hS1) ?_
     clear hK K
     try simp only[nrm,Act.put]
     refine Takes.intro [11,13] ?_
     repeat(refine Takes.go (v:=?_) hS1 ?_;try simp only[nrm,Act.put])
     refine Takes.nil ?_
     refine wpAnyS_1 19 (λK hK=>?_)
     go_simp
     refine(HH.out.root _ _ _ HX.out.1 HX.out.2 hn1 hn2 hS1.2.2.out.st).mono ?_
     rintro z w3 ⟨⟨q,rfl,hq⟩,hb2⟩
     have HO2:=aZ (hS1.2.2.out.trans HH.out.mem hb2)
     have hS2:w3.cell? ⟨b,o+y*2,none⟩=some (.float .f64 u.1)/\w3.cell? ⟨b,o+y*2+1,none⟩=some (.float .f64 u.2)/\Hid (M.On wx w3):=⟨on_cell HH.out.mem hb.out.st HO2 hcx,on_cell HH.out.mem hb.out.st HO2 hcy,HO2⟩
     clear hb2
     refine hK.out _ _ (λ_=>hS2) ?_
     clear hK K
     try simp only[nrm,Act.put]
     refine wpAnyS_1 23 (λK hK=>?_)
     go_simp
     refine(HH.out.mul _ _ _ hS2.2.2.out.st).mono ?_
     rintro z w4 ⟨⟨p,rfl,hp⟩,hb2⟩
     have HO3:=aZ (hS2.2.2.out.trans HH.out.mem hb2)
     have hS3:w4.cell? ⟨b,o+y*2,none⟩=some (.float .f64 u.1)/\w4.cell? ⟨b,o+y*2+1,none⟩=some (.float .f64 u.2)/\Hid (M.On wx w4):=⟨on_cell HH.out.mem hb.out.st HO3 hcx,on_cell HH.out.mem hb.out.st HO3 hcy,HO3⟩
     clear hb2
     refine hK.out _ _ (λ_=>hS3) ?_
     clear hK K
     try simp only[nrm,Act.put]
     refine wpAnyS_fin 2 24 ?_
     simp only[nrd]
     have hr2:=hr.out.keep HH.out.mem hS3.2.2.out hb.out.st
     have hb3:=hb.out.trans HH.out.mem hS3.2.2.out
     obtain⟨u0,r1,r2,r3,r4,-⟩:=hr2.row y hyn
     have HN:=aZ (hr2.set HH.out.mem hb3 (Nat.le_refl _) hyn p)
     have HQ:Hid (nC p=twistF ρ.R r d s f y):=aZ (by rw[hp,hq,HUX.out,HT.out])
     clear hr2 hb3 hS0 hS1 hS2 hS3 hp hq
     clear hu1 hv1 hw3 hw4
     go_wp2
     exact⟨⟨j+1,by omega,by go_num,aZ (by rw[hx,hy'.out];exact OwnC.nextC HN.out.1 HQ.out),aZ HN.out.2⟩,by simp[intOf];omega⟩
    ·obtain rfl:j=d:=by omega
     go_wp2
     exact⟨⟨k+1,by omega,by go_num,aZ (by rw[Nat.succ_mul];exact hr.out),hb⟩,by simp[intOf];omega⟩
  ·obtain rfl:k=r:=by omega
   have HR:Hid (OwnC M wr w.heap.size n (twistF ρ.R k d s f)):=aZ (by have:=hr.out;rw[HRD.out] at this;exact this.full)
   go_wp2
   go_ret
   exact⟨rfl,HR.out,hb.out⟩
end
section
variable {M : Mem} {ρ : RingC}
def RnBox(w:World)(b:Nat)(ρ:RingC)(s:Int):Prop:=w.cell? ⟨b,0,none⟩=some (.iface ρ.t ρ.v)/\w.cell? ⟨b,1,none⟩=some (.int .i64 s)
theorem RnBox.new(w:World)(ρ:RingC)(s:Int)(t:TypeId):RnBox (w.alloc (.cells #[.iface ρ.t ρ.v,.int .i64 s] t)) w.heap.size ρ s:=⟨by simp[go_sem],by simp[go_sem]⟩
theorem RnBox.keep(H:M.Ok){w w':World}{b:Nat}{ρ:RingC}{s:Int}(h:RnBox w b ρ s)(k:M.On w w')(hs:M.St w):RnBox w' b ρ s:=⟨H.cell hs k.fr h.1,H.cell hs k.fr h.2⟩
theorem withC_r(H:ρ.Ok M)(s:Int)(hs:s=1\/s=-1)(k:Int)(n:Nat)(w:World)(h1:-65536<=k)(h2:k<=65536)(n1:1<=n)(n2:n<=65536)(hw:M.St w):
  Calls Tryz.prog 133 #[rnC ρ s,.int .i64 k,.int .i64 n] w λz w'=>(∃q,z=.returned (cV q)/\nC q=ρ.R.root (s*k) n)/\M.On w w':=by
 obtain⟨hk,hk1,hk2⟩:=wrap_sign s hs k h1 h2
 have HK:=aZ (show-4294967296<=s*k/\s*k<=4294967296 from⟨hk1,hk2⟩)
 have HH:=aZ H
 have HW:=aZ hw
 have e1:=H.nr
 have e2:=H.mr
 have e3:=H.cr
 clear hk1 hk2 H hw hs
 go_enter Tryz.func133,Tryz.ntmps133
 go_wp2_with fail
 have hA:=(HH.out.mem.on_refl HW.out).below HH.out.mem ((Below.refl _ w).alloc (Nat.le_refl _) (.cells #[.iface ρ.t ρ.v,.int .i64 s] 131))
 obtain⟨h4,ho4⟩:=BoxC.zero HH.out.mem hA 29
 have hsz:(w.alloc (.cells #[.iface ρ.t ρ.v,.int .i64 s] 131)).heap.size=w.heap.size+1:=by simp
 rw[hsz] at h4
 obtain⟨W,hWW⟩:∃W,W=(w.alloc (.cells #[.iface ρ.t ρ.v,.int .i64 s] 131)).alloc (.cells #[.float .f64 0,.float .f64 0] 29):=⟨_,rfl⟩
 obtain⟨b4,hb4⟩:∃b4,b4=w.heap.size+1:=⟨_,rfl⟩
 rw[<-hWW] at h4 ho4|-
 rw[<-hb4] at h4|-
 have HX4:=aZ h4
 have HO4:=aZ ho4
 have HB4:Hid (w.heap.size<=b4):=aZ (by omega)
 clear hWW hb4 h4 ho4 hA hsz
 refine(HH.out.root _ _ _ HK.out.1 HK.out.2 n1 n2 HO4.out.st).mono ?_
 rintro z w1 ⟨⟨q,rfl,hq⟩,hb2⟩
 have HQ:=aZ hq
 have HX1:=HX4.out.keep HH.out.mem hb2 HO4.out.st
 have HE:=aZ (HX1.set HH.out.mem (HO4.out.trans HH.out.mem hb2) HB4.out q)
 obtain⟨q0,q1,-,-,-,-⟩:=HE.out.1
 obtain⟨d0,d1,d2,d3,-,-⟩:=HX1
 unfold setB at q0 q1
 clear hb2 hq
 go_wp2
 exact bodyPost_ret (v:=cV q) (by simp[results,Tryz.results133,go_sem,q0,q1]) rfl ⟨⟨q,rfl,HQ.out⟩,HE.out.2⟩
theorem turnedC_r(H:ρ.Ok M)(s t:Int)(w:World)(hw:M.St w):
  Calls Tryz.prog 159 #[rnC ρ s,.int .i64 t] w λz w'=>z=.returned (rnC ρ t)/\M.On w w':=by
 have HH:=aZ H
 have HW:=aZ hw
 clear H hw
 go_enter Tryz.func159,Tryz.ntmps159
 go_wp2
 exact bodyPost_ret (v:=rnC ρ t) (by simp[results,Tryz.results159,go_sem]) rfl ⟨rfl,(HH.out.mem.on_refl HW.out).below HH.out.mem (((Below.refl _ w).alloc (Nat.le_refl _) _).alloc (by simp) _)⟩
theorem gatherC_r(H:ρ.Ok M)(A:Option Addr)(n c off st cnt:Nat)(f:Nat->Cx)(w:World)(hA:CsAt w A n f)(hn:n<=4398046511104)(hst:1<=st)(hs2:st<=4398046511104)(hc:cnt<=4398046511104)(ho:off<=4398046511104)(h:Fits n off st cnt)(hw:M.St w):
  Calls Tryz.prog 131 #[.slice A n c,.int .i64 off,.int .i64 st,.int .i64 cnt] w λz w'=>z=.returned (.slice (some ⟨w.heap.size,0,none⟩) cnt cnt)/\OwnC M w' w.heap.size cnt (gathT f off st)/\M.On w w':=
 (gatherC_any A n c off st cnt f w hA hn hst hs2 hc ho h).mono λz w' ⟨e,hz,hr,hb⟩=>⟨e,⟨hr,hz,H.mem.new hw hb (Nat.le_refl _)⟩,(H.mem.on_refl hw).below H.mem hb⟩
theorem ScatterC_r(H:ρ.Ok M)(D:World)(b n c:Nat)(A':Option Addr)(m c' off st:Nat)(g f:Nat->Cx)(w:World)(hA:OwnC M w b n g)(hA':CsAt w A' m f)(hd:0<m->∀b' o,A'=some ⟨b',o,none⟩->b'≠b)(hn:n<=4398046511104)(hm:m<=4398046511104)(hst:1<=st)(hs2:st<=4398046511104)(ho:off<=4398046511104)(h:Fits n off st m)(hD:D.heap.size<=b)(hw:M.On D w):
  Calls Tryz.prog 130 #[.slice (some ⟨b,0,none⟩) n c,.slice A' m c',.int .i64 off,.int .i64 st] w λz w'=>z=.returned (.int .i64 0)/\OwnC M w' b n (scatT g f off st m)/\M.On D w':=
 (ScatterC_any b n c A' m c' off st g f w hA.row hA' hd hn hm hst hs2 ho h).mono λz w' ⟨e,hr,hb⟩=>⟨e,hA.write H.mem hw hD hb hr⟩
end
section
variable {M : Mem} {ρ : RingC}
theorem cs_part0{w:World}{b n:Nat}{f:Nat->Cx}(h:CsAt w (some ⟨b,0,none⟩) n f)(k m:Nat)(hk:k+m<=n):CsAt w (some ⟨b,k*2,none⟩) m (gathT f k 1):=λi hi=>by
 obtain⟨b',o',u,e,h1,h2,h3⟩:=h (k+i) (by omega)
 cases e
 refine⟨_,_,u,rfl,?_,?_,?_⟩
 ·rw[show k*2+i*2=0+(k+i)*2 by omega];exact h1
 ·rw[show k*2+i*2+1=0+(k+i)*2+1 by omega];exact h2
 ·unfold gathT;rw[Nat.mul_one];exact h3
theorem RadixC_r(H:ρ.Ok M)(s:Int)(hs:s=1\/s=-1)(n r d:Nat)(hr2:2<=r)(hd1:1<=d)(hrd:r*d=n)(hn:n<=32768)(a0 n0 r0 a1 n1 r1:Int)(q0 q1:Fo)(F0 F1:Tr Cx)(P0:PlanX M ρ a0 n0 r0 q0 r F0)(P1:PlanX M ρ a1 n1 r1 q1 d F1)(w:World)(A:Option Addr)(c:Nat)(X:Option Addr)(cx:Nat)(x:Nat->Cx)(hk:Kids w A 0 (.cons a0 n0 r0 q0 (.cons a1 n1 r1 q1 .nil)))(hX:CsAt w X n x)(hw:M.St w):
  Calls Tryz.prog 111 #[rnC ρ s,plV 1 n r A 2 c,.slice X n cx] w λz w'=>∃g,z=.returned (.slice (some ⟨g,0,none⟩) n n)/\w.heap.size<=g/\OwnC M w' g n (radixF ρ.R n r F0 F1 s x)/\M.On w w':=by
 obtain⟨⟨bA,oA,B0,c0,rfl,k1,k2,k3,k4,k5⟩,⟨bA',oA',B1,c1,eA,k6,k7,k8,k9,k10⟩,-⟩:=hk
 cases eA
 have hdd:n/r=d:=by rw[<-hrd];exact Nat.mul_div_cancel_left _ (by omega)
 have hrn:r<=n:=by rw[<-hrd];exact Nat.le_mul_of_pos_right _ hd1
 have hdn:d<=n:=by rw[<-hrd];exact Nat.le_mul_of_pos_left _ (by omega)
 have HH:=aZ H
 have HS:=aZ hs
 have HP0:=aZ P0
 have HP1:=aZ P1
 have HX:=aZ hX
 have HW:=aZ hw
 have HRD:=aZ hrd
 have HDD:=aZ hdd
 have hmk:=mk_C n (by omega)
 have HKC:Hid ((w.cell? ⟨bA,oA,none⟩=some (.int .i64 a0)/\w.cell? ⟨bA,oA+1,none⟩=some (.int .i64 n0)/\w.cell? ⟨bA,oA+2,none⟩=some (.int .i64 r0)/\w.cell? ⟨bA,oA+3,none⟩=some (.slice B0 q0.len c0))/\
   w.cell? ⟨bA,oA+4,none⟩=some (.int .i64 a1)/\w.cell? ⟨bA,oA+5,none⟩=some (.int .i64 n1)/\w.cell? ⟨bA,oA+6,none⟩=some (.int .i64 r1)/\w.cell? ⟨bA,oA+7,none⟩=some (.slice B1 q1.len c1)):=
  aZ ⟨⟨by simpa using k1,by simpa using k2,by simpa using k3,by simpa using k4⟩,by simpa using k6,by simpa using k7,by simpa using k8,by simpa using k9⟩
 have HKS:Hid (Kids w B0 0 q0/\Kids w B1 0 q1):=aZ ⟨k5,k10⟩
 have hq:(n:Int)/r=d:=by rw[<-Int.natCast_ediv,hdd]
 have hq':(n:Int).tdiv r=d:=by rw[Int.tdiv_eq_ediv_of_nonneg (by omega),hq]
 have hwd:IntKind.i64.wrap (d:Int)=(d:Int):=wrapI_nat d (by omega)
 have g7:¬(r:Int)=0:=by omega
 have g8:¬r=0:=by omega
 clear H hs P0 P1 hX hw hrd hdd k1 k2 k3 k4 k5 k6 k7 k8 k9 k10
 go_enter Tryz.func111,Tryz.ntmps111
 go_upto_region 1 with(fail)
 obtain⟨W,hW⟩:∃W,W=(w.alloc (.cells #[.iface ρ.t ρ.v,.int .i64 s] 131)).alloc (.cells #[.int .i64 1,.int .i64 n,.int .i64 r,.slice (some ⟨bA,oA,none⟩) 2 c] 46):=⟨_,rfl⟩
 obtain⟨bR,hbR⟩:∃bR,bR=w.heap.size:=⟨_,rfl⟩
 obtain⟨bP,hbP⟩:∃bP,bP=bR+1:=⟨_,rfl⟩
 have HB:Hid (Below w.heap.size w W):=aZ (by rw[hW];exact((Below.refl _ w).alloc (Nat.le_refl _) _).alloc (by simp) _)
 have HON:=aZ ((HH.out.mem.on_refl HW.out).below HH.out.mem HB.out)
 have HBX:Hid ((W.cell? ⟨bR,0,none⟩=some (.iface ρ.t ρ.v)/\W.cell? ⟨bR,1,none⟩=some (.int .i64 s))/\(W.cell? ⟨bP,0,none⟩=some (.int .i64 1)/\W.cell? ⟨bP,1,none⟩=some (.int .i64 n)/\W.cell? ⟨bP,2,none⟩=some (.int .i64 r)/\W.cell? ⟨bP,3,none⟩=some (.slice (some ⟨bA,oA,none⟩) 2 c))):=
  aZ (by subst hbP hbR hW;exact⟨⟨by simp[go_sem],by simp[go_sem]⟩,by simp[go_sem],by simp[go_sem],by simp[go_sem],by simp[go_sem]⟩)
 have HZ:Hid (w.heap.size<=W.heap.size):=aZ (by subst hW;simp;omega)
 rw[<-hW]
 simp only[<-hbR]
 simp only[<-hbP]
 have HST:=aZ HON.out.st
 have HXW:=aZ (HX.out.keepM HH.out.mem HON.out HW.out)
 have HK0:=aZ (Kids.keep HH.out.mem HON.out HW.out HKS.out.1)
 have HK1:=aZ (Kids.keep HH.out.mem HON.out HW.out HKS.out.2)
 have HSB:Hid (∀w',Hid (M.On W w')->(w'.cell? ⟨bR,0,none⟩=some (.iface ρ.t ρ.v)/\w'.cell? ⟨bR,1,none⟩=some (.int .i64 s)/\w'.cell? ⟨bP,0,none⟩=some (.int .i64 1)/\w'.cell? ⟨bP,1,none⟩=some (.int .i64 n)/\w'.cell? ⟨bP,2,none⟩=some (.int .i64 r)/\w'.cell? ⟨bP,3,none⟩=some (.slice (some ⟨bA,oA,none⟩) 2 c)/\Hid (M.On W w'))):=aZ (λw' h=>⟨on_cell HH.out.mem HST.out h HBX.out.1.1,on_cell HH.out.mem HST.out h HBX.out.1.2,on_cell HH.out.mem HST.out h HBX.out.2.1,on_cell HH.out.mem HST.out h HBX.out.2.2.1,on_cell HH.out.mem HST.out h HBX.out.2.2.2.1,on_cell HH.out.mem HST.out h HBX.out.2.2.2.2,h⟩)
 have HC0:Hid (∀w',Hid (M.On W w')->(w'.cell? ⟨bA,oA,none⟩=some (.int .i64 a0)/\w'.cell? ⟨bA,oA+1,none⟩=some (.int .i64 n0)/\w'.cell? ⟨bA,oA+2,none⟩=some (.int .i64 r0)/\w'.cell? ⟨bA,oA+3,none⟩=some (.slice B0 q0.len c0)/\w'.cell? ⟨bR,0,none⟩=some (.iface ρ.t ρ.v)/\w'.cell? ⟨bR,1,none⟩=some (.int .i64 s)/\w'.cell? ⟨bP,0,none⟩=some (.int .i64 1)/\w'.cell? ⟨bP,1,none⟩=some (.int .i64 n)/\w'.cell? ⟨bP,2,none⟩=some (.int .i64 r)/\w'.cell? ⟨bP,3,none⟩=some (.slice (some ⟨bA,oA,none⟩) 2 c)/\Hid (M.On W w'))):=aZ (λw' h=>⟨on_cell HH.out.mem HW.out (aZ (HON.out.trans HH.out.mem h.out)) HKC.out.1.1,on_cell HH.out.mem HW.out (aZ (HON.out.trans HH.out.mem h.out)) HKC.out.1.2.1,on_cell HH.out.mem HW.out (aZ (HON.out.trans HH.out.mem h.out)) HKC.out.1.2.2.1,on_cell HH.out.mem HW.out (aZ (HON.out.trans HH.out.mem h.out)) HKC.out.1.2.2.2,HSB.out w' h⟩)
 have HC1:Hid (∀w',Hid (M.On W w')->(w'.cell? ⟨bA,oA+4,none⟩=some (.int .i64 a1)/\w'.cell? ⟨bA,oA+5,none⟩=some (.int .i64 n1)/\w'.cell? ⟨bA,oA+6,none⟩=some (.int .i64 r1)/\w'.cell? ⟨bA,oA+7,none⟩=some (.slice B1 q1.len c1)/\w'.cell? ⟨bR,0,none⟩=some (.iface ρ.t ρ.v)/\w'.cell? ⟨bR,1,none⟩=some (.int .i64 s)/\w'.cell? ⟨bP,0,none⟩=some (.int .i64 1)/\w'.cell? ⟨bP,1,none⟩=some (.int .i64 n)/\w'.cell? ⟨bP,2,none⟩=some (.int .i64 r)/\w'.cell? ⟨bP,3,none⟩=some (.slice (some ⟨bA,oA,none⟩) 2 c)/\Hid (M.On W w'))):=aZ (λw' h=>⟨on_cell HH.out.mem HW.out (aZ (HON.out.trans HH.out.mem h.out)) HKC.out.2.1,on_cell HH.out.mem HW.out (aZ (HON.out.trans HH.out.mem h.out)) HKC.out.2.2.1,on_cell HH.out.mem HW.out (aZ (HON.out.trans HH.out.mem h.out)) HKC.out.2.2.2.1,on_cell HH.out.mem HW.out (aZ (HON.out.trans HH.out.mem h.out)) HKC.out.2.2.2.2,HSB.out w' h⟩)
 have HOR:=aZ (HH.out.mem.on_refl HST.out)
 clear HB HBX HKC HKS HX hW hbP hbR
 refine wp_region_S (λw'=>w'.cell? ⟨bR,0,none⟩=some (.iface ρ.t ρ.v)/\w'.cell? ⟨bR,1,none⟩=some (.int .i64 s)/\w'.cell? ⟨bP,0,none⟩=some (.int .i64 1)/\w'.cell? ⟨bP,1,none⟩=some (.int .i64 n)/\w'.cell? ⟨bP,2,none⟩=some (.int .i64 r)/\w'.cell? ⟨bP,3,none⟩=some (.slice (some ⟨bA,oA,none⟩) 2 c)/\Hid (M.On W w')) 8 (by kernel_rfl) ?_
 have hS0:=HSB.out _ (aZ (HOR.out.drew HH.out.mem))
 refine Takes.intro [0,1,2,3,4,5,6,7] ?_
 repeat(refine Takes.go (v:=?_) hS0 ?_;try simp only[nrm,Act.put])
 refine Takes.nil ?_
 refine wpAnyS_fin 1 8 ?_
 simp only[nrd]
 go_wp2
 clear hS0
 obtain⟨G,hG⟩:∃G,G=W.heap.size:=⟨_,rfl⟩
 go_loopw [24] (λvi wr=>∃k:Nat,k<=d/\vi=.int .i64 k/\Hid (OwnC M wr W.heap.size n (mid0F ρ.R d r s F0 x k))/\Hid (M.On W wr)) (λvi _=>d-(intOf vi).toNat)
 case atStart=>
  obtain⟨h1,h2⟩:=OwnC.make HH.out.mem HOR.out n 29
  have h3:=h1.keep HH.out.mem ((HH.out.mem.on_refl h2.st).drew HH.out.mem) h2.st
  exact⟨0,by omega,rfl,aZ (by simpa[mid0F,foldT,HH.out.z0] using h3),aZ (h2.drew HH.out.mem)⟩
 case round=>
  obtain⟨k,hk,rfl,hr,hb⟩:=hrel
  by_cases hlt:k<d
  ·have hki:(k:Int)<d:=by omega
   have HF:Hid (Fits n k d r):=aZ (.inr (by
    have e:r*d=(r-1)*d+d:=by rw[<-Nat.succ_mul];congr 1;omega
    have:=HRD.out
    omega))
   go_upto_region 6 with(fail)
   refine wp_region_S (λw'=>(w'.cell? ⟨bA,oA,none⟩=some (.int .i64 a0)/\w'.cell? ⟨bA,oA+1,none⟩=some (.int .i64 n0)/\w'.cell? ⟨bA,oA+2,none⟩=some (.int .i64 r0)/\w'.cell? ⟨bA,oA+3,none⟩=some (.slice B0 q0.len c0)/\w'.cell? ⟨bR,0,none⟩=some (.iface ρ.t ρ.v)/\w'.cell? ⟨bR,1,none⟩=some (.int .i64 s)/\w'.cell? ⟨bP,0,none⟩=some (.int .i64 1)/\w'.cell? ⟨bP,1,none⟩=some (.int .i64 n)/\w'.cell? ⟨bP,2,none⟩=some (.int .i64 r)/\w'.cell? ⟨bP,3,none⟩=some (.slice (some ⟨bA,oA,none⟩) 2 c)/\Hid (M.On W w'))) 14 (by kernel_rfl) ?_
   have hS0:=HC0.out _ (aZ (hb.out.drew HH.out.mem))
   refine Takes.intro [0,1,2,3,4,5,6,7,8,9,12,13] ?_
   repeat(refine Takes.go (v:=?_) hS0 ?_;try simp only[nrm,Act.put])
   refine Takes.nil ?_
   refine wpAnyS_1 10 (λK hK=>?_)
   go_simp
   have HO0:=aZ (hb.out.drew HH.out.mem)
   refine(gatherC_r HH.out X n cx k d r x _ (HXW.out.keepM HH.out.mem HO0.out HST.out) (by omega) (by omega) (by omega) (by omega) (by omega) HF.out HO0.out.st).mono ?_
   rintro z w1 ⟨rfl,ho1,hb1⟩
   have HO1:Hid (M.On W w1):=aZ (HO0.out.trans HH.out.mem hb1)
   have hS1:=HC0.out _ HO1
   have HW1:=aZ ho1
   have HB1:=aZ hb1
   clear ho1 hb1
   refine hK.out _ _ (λ_=>hS1) ?_
   clear hK K
   try simp only[nrm,Act.put]
   refine wpAnyS_1 11 (λK hK=>?_)
   go_simp
   refine(HP0.out.run s HS.out _ _ _ _ _ _ (HK0.out.keep' HH.out.mem HO1.out HST.out) HW1.out.cs HO1.out.st).mono ?_
   rintro z w2 ⟨g,rfl,hg,ho2,hb2⟩
   have HO2:Hid (M.On W w2):=aZ (HO1.out.trans HH.out.mem hb2)
   have hS2:=HC0.out _ HO2
   have HW2:=aZ ho2
   have HB2:=aZ (HB1.out.trans HH.out.mem hb2)
   have HG:Hid (g≠W.heap.size):=aZ (by have l1:=HW1.out.lt;have l2:=hr.out.lt;have l3:wr.drew.heap.size=wr.heap.size:=rfl;omega)
   clear ho2 hb2 hg
   refine hK.out _ _ (λ_=>hS2) ?_
   clear hK K
   try simp only[nrm,Act.put]
   refine wpAnyS_fin 1 14 ?_
   simp only[nrd]
   go_wp2_with fail
   have HR2:=hr.out.keep HH.out.mem ((HH.out.mem.on_refl hb.out.st).drew HH.out.mem |>.trans HH.out.mem HB2.out) hb.out.st
   refine(ScatterC_r HH.out W W.heap.size n n (some ⟨g,0,none⟩) r r k d _ (F0 s (gathT x k d)) _ HR2 HW2.out.cs (λ_ b' o e=>by cases e;exact HG.out) (by omega) (by omega) (by omega) (by omega) (by omega) HF.out (Nat.le_refl _) HO2.out).mono ?_
   rintro z w3 ⟨rfl,hn⟩
   have HN:=aZ hn
   have HO3:=aZ HN.out.2
   clear hn HR2
   go_wp2
   exact⟨⟨k+1,by omega,by go_num,aZ HN.out.1,HO3⟩,by simp[intOf];omega⟩
  ·obtain rfl:k=d:=by omega
   clear HC0 HK0
   obtain⟨x1,x2,x3,x4,x5,x6,-⟩:=HSB.out wr hb
   go_wp2_with fail
   refine(TwistC_r HH.out (some ⟨W.heap.size,0,none⟩) n n r k s _ _ hr.out.cs hn (by omega) (by omega) HRD.out hb.out.st).mono ?_
   rintro z w1 ⟨rfl,ho1,hb1⟩
   have HM1:Hid (OwnC M w1 wr.heap.size n (midF ρ.R n r s F0 x)):=aZ (by unfold midF;rw[HDD.out];exact ho1)
   have HB1:=aZ (hb.out.trans HH.out.mem hb1)
   have HLT:=aZ (show W.heap.size<=wr.heap.size from HH.out.mem.size hb.out.fr)
   obtain⟨gm,hgm⟩:∃gm,gm=wr.heap.size:=⟨_,rfl⟩
   rw[<-hgm] at HM1 HLT|-
   clear ho1 hb1 hr x1 x2 x3 x4 x5 x6 hgm
   go_wp2
   go_loopw [55] (λvi wx=>∃j:Nat,j<=r/\vi=.int .i64 j/\Hid (OwnC M wx w1.heap.size n (outF ρ.R n r s F0 F1 x j))/\Hid (M.On w1 wx)) (λvi _=>r-(intOf vi).toNat)
   case atStart=>
    obtain⟨h1,h2⟩:=OwnC.make HH.out.mem (HH.out.mem.on_refl HB1.out.st) n 29
    exact⟨0,by omega,rfl,aZ (by simpa[outF,foldT,HH.out.z0] using h1),aZ h2⟩
   case round=>
    clear hb
    rename World=>wx
    obtain⟨j,hj,rfl,hr,hb⟩:=hrel
    by_cases hlt:j<r
    ·have hji:(j:Int)<r:=by omega
     have hjd:j*k+k<=n:=by
      have:=Nat.mul_le_mul_right k (show j+1<=r by omega)
      rw[HRD.out,Nat.succ_mul] at this
      exact this
     have HF:Hid (Fits n j r k):=aZ (.inr (by
      have e:r*k=r+(k-1)*r:=by
       have h1:r*k=k*r:=Nat.mul_comm _ _
       have h2:k*r=(k-1+1)*r:=by congr 1;omega
       rw[h1,h2,Nat.succ_mul];omega
      have:=HRD.out
      omega))
     obtain⟨y,hy⟩:∃y,j*k=y:=⟨_,rfl⟩
     obtain⟨e,he⟩:∃e,y+k=e:=⟨_,rfl⟩
     have hye:y<=e:=by omega
     have hen:e<=n:=by omega
     have hyi:(y:Int)<=e:=by omega
     have hei:(e:Int)<=n:=by omega
     have hek:e-y=k:=by omega
     have hyn:¬y=n:=by omega
     have hny:¬n=y:=by omega
     have HN5:Hid (n<=4398046511104/\k<=4398046511104/\1<=r/\r<=4398046511104/\j<=4398046511104):=aZ ⟨by omega,by omega,by omega,by omega,by omega⟩
     have HYK:Hid (y+k<=n):=aZ (by omega)
     have hyw:IntKind.i64.wrap ((j:Int)*k)=(y:Int):=by rw[<-Int.natCast_mul,hy];exact wrapI_nat y (by omega)
     have hew:IntKind.i64.wrap (((j:Int)+1)*k)=(e:Int):=by
      have:((j:Int)+1)*k=((j*k+k:Nat):Int):=by rw[Int.add_mul,Int.one_mul,Int.natCast_add,Int.natCast_mul]
      rw[this,hy,he]
      exact wrapI_nat e (by omega)
     have hjw:IntKind.i64.wrap ((j:Int)+1)=(j:Int)+1:=by rw[IntKind.wrap_i64];omega
     have HY:=aZ hy
     have HE:=aZ he
     clear hy he hjd
     go_upto_region 13 with(fail)
     refine wp_region_S (λw'=>(w'.cell? ⟨bA,oA+4,none⟩=some (.int .i64 a1)/\w'.cell? ⟨bA,oA+5,none⟩=some (.int .i64 n1)/\w'.cell? ⟨bA,oA+6,none⟩=some (.int .i64 r1)/\w'.cell? ⟨bA,oA+7,none⟩=some (.slice B1 q1.len c1)/\w'.cell? ⟨bR,0,none⟩=some (.iface ρ.t ρ.v)/\w'.cell? ⟨bR,1,none⟩=some (.int .i64 s)/\w'.cell? ⟨bP,0,none⟩=some (.int .i64 1)/\w'.cell? ⟨bP,1,none⟩=some (.int .i64 n)/\w'.cell? ⟨bP,2,none⟩=some (.int .i64 r)/\w'.cell? ⟨bP,3,none⟩=some (.slice (some ⟨bA,oA,none⟩) 2 c)/\Hid (M.On W w'))) 18 (by kernel_rfl) ?_
     have hS0:=HC1.out _ (aZ (HB1.out.trans HH.out.mem (hb.out.drew HH.out.mem)))
     refine Takes.intro [0,1,2,3,4,5,6,7,8,9,10,11,12,13,14,16,17] ?_
     repeat(refine Takes.go (v:=?_) hS0 ?_;try simp only[nrm,Act.put])
     refine Takes.nil ?_
     refine wpAnyS_1 15 (λK hK=>?_)
     go_simp
     have HO0:=aZ (hb.out.drew HH.out.mem)
     refine(HP1.out.run s HS.out _ _ _ _ _ _ (HK1.out.keep' HH.out.mem (HB1.out.trans HH.out.mem HO0.out) HST.out) (cs_part0 (HM1.out.keep HH.out.mem HO0.out HB1.out.st).cs y k HYK.out) HO0.out.st).mono ?_
     rintro z w2 ⟨g,rfl,hg,ho2,hb2⟩
     have HO1:Hid (M.On w1 w2):=aZ (HO0.out.trans HH.out.mem hb2)
     have hS1:=HC1.out _ (aZ (HB1.out.trans HH.out.mem HO1.out))
     have HW2:=aZ ho2
     have HB2:=aZ hb2
     have HG:Hid (g≠w1.heap.size):=aZ (by have l2:=hr.out.lt;have l3:wx.drew.heap.size=wx.heap.size:=rfl;omega)
     clear ho2 hb2 hg
     refine hK.out _ _ (λ_=>hS1) ?_
     clear hK K
     try simp only[nrm,Act.put]
     refine wpAnyS_fin 1 18 ?_
     simp only[nrd]
     go_wp2_with fail
     have HR2:=hr.out.keep HH.out.mem ((HH.out.mem.on_refl hb.out.st).drew HH.out.mem |>.trans HH.out.mem HB2.out) hb.out.st
     refine(ScatterC_r HH.out w1 w1.heap.size n n (some ⟨g,0,none⟩) k k j r _ (F1 s (gathT (midF ρ.R n r s F0 x) y 1)) _ HR2 HW2.out.cs (λ_ b' o e=>by cases e;exact HG.out) HN5.out.1 HN5.out.2.1 HN5.out.2.2.1 HN5.out.2.2.2.1 HN5.out.2.2.2.2 HF.out (Nat.le_refl _) HO1.out).mono ?_
     rintro z w3 ⟨rfl,hn⟩
     have HN:=aZ hn
     have HO3:=aZ HN.out.2
     clear hn HR2
     clear hyw hew hjw hS0 hS1
     go_wp2
     exact⟨⟨j+1,by omega,by go_num,aZ (by have:=HN.out.1;rw[<-HY.out] at this;show OwnC M w3 _ n (scatT (outF ρ.R n r s F0 F1 x j) (F1 s (gathT (midF ρ.R n r s F0 x) (j*(n/r)) 1)) j r (n/r));rw[HDD.out];exact this),HO3⟩,by simp[intOf];omega⟩
    ·obtain rfl:j=r:=by omega
     go_wp2
     go_ret
     exact⟨_,rfl,by have:=HH.out.mem.size HB1.out.fr;have:=HZ.out;omega,hr.out,(HON.out.trans HH.out.mem HB1.out).trans HH.out.mem hb.out⟩
end
end Go.Proofs.YtfedabinindpbaaGreat
