/- Which numbers are orders of plans of sizes up to 100. -/
import Derived.Test.YteaimnemobnknaaMC6
import Derived.Test.YteaimnemobnknaaMS1
import Derived.Test.YteaimnemobnknaaMW1
set_option maxRecDepth 100000
set_option linter.unusedSimpArgs false
set_option linter.unusedVariables false
namespace Go.Proofs.Yteaimnemobnknaa
open Go.RowKit Go.Lib
def ordFo:Fo->Nat
 |.nil=>1
 |.cons k n _ q rest=>Nat.lcm (Nat.lcm (rootN k n) (ordFo q)) (ordFo rest)
theorem oroL_fold:∀(l:List (Int×Int×Int)) (a o:Nat),oroL l a=some o->o=l.foldl (λa x=>Nat.lcm a (rootN x.1 x.2.1)) a
 |[],a,o,h=>by injection h with h;exact h.symm
 |(k,n,r)::t,a,o,h=>by
   unfold oroL at h
   split at h
   ·cases h
   ·have:=oroL_fold t _ o h
    rw[this,List.foldl_cons]
    congr 1
    show a*(rootN k n/Nat.gcd a (rootN k n))=a*rootN k n/Nat.gcd a (rootN k n)
    rw[Nat.mul_div_assoc _ (Nat.gcd_dvd_right _ _)]
theorem fold_flat:∀(fo:Fo) (a:Nat),fo.flat.foldl (λa x=>Nat.lcm a (rootN x.1 x.2.1)) a=Nat.lcm a (ordFo fo)
 |.nil,a=>by show a=Nat.lcm a 1;rw[Nat.lcm_one_right]
 |.cons k n r q rest,a=>by
   show List.foldl _ a ((k,n,r)::(q.flat++rest.flat))=Nat.lcm a (Nat.lcm (Nat.lcm (rootN k n) (ordFo q)) (ordFo rest))
   rw[List.foldl_cons,List.foldl_append,fold_flat q,fold_flat rest,Nat.lcm_assoc,Nat.lcm_assoc,Nat.lcm_assoc]
theorem ordR_ord{kind n r:Int}{q:Fo}{o:Nat}(h:ordR kind n r q=(o,0)):checkE kind n r q n=0/\o=Nat.lcm (rootN kind n) (ordFo q):=by
 unfold ordR at h
 by_cases h0:checkE kind n r q n=0
 ·rw[if_neg (by simp[h0])] at h
  refine⟨h0,?_⟩
  rcases h2:oroL ((kind,n,r)::q.flat) 1 with _|o2
  ·rw[h2] at h
   exact absurd (congrArg Prod.snd h) (show ¬(28:Int)=0 by decide)
  ·rw[h2] at h
   have:o2=o:=congrArg Prod.fst h
   subst this
   have:=oroL_fold _ _ _ h2
   rw[this,List.foldl_cons,fold_flat,Nat.lcm_one_left]
 ·rw[if_pos h0] at h
  exact absurd (congrArg Prod.snd h) h0
def tabF:List (List Nat):=[[],
 [1],
 [2,4],
 [3,6,12,24],
 [4,8],
 [5,20,40,80],
 [6,12,24,48],
 [7,42,84,112,168,336],
 [8,16],
 [9,18,36,72,288],
 [10,20,40,80,160],
 [11,110,220,352,440,880,1760],
 [12,24,48,96],
 [13,156,312,416,624,1248],
 [14,28,42,84,112,168,224,336],
 [15,30,60,120,240,480],
 [16,32],
 [17,272,544,1088],
 [18,36,72,144,288,576],
 [19,342,684,1216,1368,2736,5472,10944],
 [20,40,80,160,320],
 [21,42,84,168,336,1344],
 [22,44,110,220,352,440,704,880,1760],
 [23,506,1012,1472,2530,5060,8096,10120,16192,20240,40480],
 [24,48,96,192],
 [25,100,200,400,1600],
 [26,52,156,312,416,624,832,1248],
 [27,54,108,216,864,1728],
 [28,56,84,112,168,224,336,448],
 [29,812,1624,1856,2436,3248,4872,6496,9744,12992],
 [30,60,120,240,480,960],
 [31,930,1860,1984,3720,7440,14880,29760],
 [32,64],
 [33,66,132,264,330,660,1056,1320,2640,4224,5280],
 [34,68,272,544,1088,2176],
 [35,140,210,280,420,560,840,1680,4480],
 [36,72,144,288,576,1152],
 [1332,2664,4736,5328,10656,21312,42624],
 [38,76,342,684,1216,1368,2432,2736,5472,10944],
 [39,78,156,312,624,1248,4992],
 [40,80,160,320,640],
 [1640,3280,5248,6560,13120,26240],
 [42,84,168,336,672,1344,2688],
 [1806,3612,5504,7224,14448,28896,57792,115584],
 [44,88,220,352,440,704,880,1408,1760],
 [45,90,180,360,720,1440,5760],
 [46,92,506,1012,1472,2530,2944,5060,8096,10120,16192,20240,40480],
 [2162,4324,6016,23782,47564,69184,118910,138368,237820,380512,475640,761024,951280,1902560],
 [48,96,192,384],
 [49,294,588,784,1176,2352,6272],
 [50,100,200,400,800,1600,3200],
 [51,102,204,408,816,1632,3264,6528],
 [52,104,156,312,416,624,832,1248,1664],
 [2756,5512,6784,8268,16536,22048,33072,44096,66144,88192],
 [54,108,216,432,864,1728,3456],
 [55,110,220,440,880,1760,7040],
 [56,112,168,224,336,448,896],
 [57,114,228,342,456,684,1368,2736,3648,5472,7296,10944],
 [58,116,812,1624,1856,2436,3248,3712,4872,6496,9744,12992],
 [3422,6844,7552,47908,95816,109504,143724,191632,219008,287448,383264,574896,766528],
 [60,120,240,480,960,1920],
 [3660,7320,7808,14640,29280,58560,117120],
 [62,124,930,1860,1984,3720,3968,7440,14880,29760],
 [63,126,252,504,1008,2016,4032,8064],
 [64,128],
 [65,260,520,780,1040,1560,2080,3120,6240,16640],
 [66,132,264,330,528,660,1056,1320,2112,2640,4224,5280,8448],
 [4422,8844,17152,17688,22110,35376,44220,70752,88440,141504,176880,283008,353760,566016],
 [68,136,272,544,1088,2176,4352],
 [69,138,276,552,1518,3036,4416,6072,7590,15180,17664,24288,30360,48576,60720,121440],
 [70,140,210,280,420,560,840,1120,1680,3360,4480,8960],
 [4970,9940,14910,18176,19880,29820,39760,59640,79520,119280,238560,318080,636160],
 [72,144,288,576,1152,2304],
 [5256,10512,18688,21024,42048,84096,168192],
 [1332,2664,4736,5328,9472,10656,21312,42624],
 [75,150,300,600,1200,2400,4800,19200],
 [76,152,684,1216,1368,2432,2736,4864,5472,10944],
 [77,462,770,924,1232,1540,1848,2310,2464,3080,3696,4620,6160,7392,9240,12320,18480,19712,36960],
 [78,156,312,624,1248,2496,4992,9984],
 [6162,12324,20224,24648,49296,98592,197184,394368,788736],
 [80,160,320,640,1280],
 [81,162,324,648,2592,5184,20736],
 [1640,3280,5248,6560,10496,13120,26240],
 [21248,136120,272240,435584,544480,871168,1088960,2177920],
 [84,168,336,672,1344,2688,5376],
 [85,340,680,1360,2720,5440,21760],
 [1806,3612,5504,7224,11008,14448,28896,57792,115584],
 [87,174,348,696,2436,4872,5568,9744,19488,22272,38976],
 [88,176,352,440,704,880,1408,1760,2816],
 [7832,15664,22784,31328,39160,62656,78320,125312,156640,250624],
 [90,180,360,720,1440,2880,5760,11520],
 [91,546,1092,1456,2184,2912,4368,8736,23296],
 [92,184,1012,1472,2024,2944,5060,5888,8096,10120,16192,20240,40480],
 [93,186,372,744,930,1860,3720,5952,7440,14880,23808,29760],
 [2162,4324,6016,12032,23782,47564,69184,118910,138368,237820,380512,475640,761024,951280,1902560],
 [95,380,760,1520,1710,3420,6080,6840,13680,24320,27360,54720],
 [96,192,384,768],
 [9312,18624,24832,37248,74496],
 [98,196,294,588,784,1176,1568,2352,4704,6272,12544],
 [99,198,396,792,990,1980,3168,3960,7920,12672,15840,25344],
 [100,200,400,800,1600,3200,6400]]
def tabB:List (List Nat):=[[],
 [1],
 [2],
 [3,6],
 [4],
 [5,20],
 [6],
 [7,42],
 [8],
 [9,18],
 [10,20],
 [11,110,220],
 [12],
 [13,156],
 [14,42],
 [15,30,60],
 [16],
 [17,272],
 [18],
 [19,342],
 [20],
 [21,42],
 [22,110,220],
 [23,506,2530,5060],
 [24],
 [25,100],
 [26,156],
 [27,54],
 [28,84],
 [29,812,2436],
 [30,60],
 [31,930,1860],
 [32],
 [33,66,330,660],
 [34,272],
 [35,140,210,420],
 [36],
 [1332],
 [38,342],
 [39,78,156],
 [40],
 [1640],
 [42],
 [1806],
 [44,220],
 [45,90,180],
 [46,506,2530,5060],
 [2162,23782,118910,237820],
 [48],
 [49,294],
 [50,100],
 [51,102,816],
 [52,156],
 [2756,8268],
 [54],
 [55,110,220],
 [56,168],
 [57,114,342],
 [58,812,2436],
 [3422,47908,143724],
 [60],
 [3660],
 [62,930,1860],
 [63,126],
 [64],
 [65,260,780],
 [66,330,660],
 [4422,22110,44220],
 [68,272],
 [69,138,1518,7590,15180],
 [70,140,210,420],
 [4970,9940,14910,29820],
 [72],
 [5256],
 [1332],
 [75,150,300],
 [76,684],
 [77,462,770,1540,2310,4620],
 [78,156],
 [6162,12324],
 [80],
 [81,162],
 [1640],
 [136120],
 [84],
 [85,340,1360],
 [1806],
 [87,174,2436],
 [88,440],
 [7832,39160],
 [90,180],
 [91,546,1092],
 [92,1012,5060],
 [93,186,930,1860],
 [2162,23782,118910,237820],
 [95,380,1710,3420],
 [96],
 [9312],
 [98,294],
 [99,198,990,1980],
 [100]]
def ordT(n:Nat)(b:Bool):List Nat:=bif b then(bif Nat.beq n 128 then [128] else bif Nat.beq n 256 then [256] else tabB.getD n []) else tabF.getD n []
def domT(n:Nat)(b:Bool):Bool:=(Nat.ble 1 n&&Nat.ble n 100)||(b&&(Nat.beq n 128||Nat.beq n 256))
def hasT(n:Nat)(b:Bool)(o:Nat):Bool:=(ordT n b).any (Nat.beq o)
def leafT(n:Nat)(b:Bool):Bool:=Nat.ble 33 n||hasT n b n
def splitT(n:Nat)(b:Bool):Bool:=!pow4 n||hasT n b n
def radT(n:Nat)(b:Bool)(r:Nat):Bool:=Nat.ble r 1||!(Nat.beq (n%r) 0)||(domT r b&&domT (n/r) b&&(ordT r b).all λx=>(ordT (n/r) b).all λy=>hasT n b (Nat.lcm n (Nat.lcm x (Nat.lcm y 1))))
def raderT(n:Nat)(b:Bool):Bool:=Nat.ble n 2||!primeB n||(domT (n-1) b&&(ordT (n-1) b).all λx=>hasT n b (Nat.lcm n (Nat.lcm x 1)))
def blueT(n:Nat)(b:Bool):Bool:=b||Nat.ble n 1||(domT (padF n) true&&(ordT (padF n) true).all λx=>hasT n b (Nat.lcm (2*n) (Nat.lcm x 1)))
def okT(n:Nat)(b:Bool):Bool:=leafT n b&&splitT n b&&(List.range n).all (radT n b)&&raderT n b&&blueT n b
def allT:Bool:=(List.range 101).all (λn=>Nat.beq n 0||(okT n false&&okT n true))&&okT 128 true&&okT 256 true
theorem allT_ok:allT=true:=by decide+kernel
theorem okT_of{n:Nat}{b:Bool}(h:domT n b=true):okT n b=true:=by
 have:=allT_ok
 unfold allT at this
 simp only[Bool.and_eq_true,List.all_eq_true] at this
 obtain⟨⟨h1,h2⟩,h3⟩:=this
 unfold domT at h
 simp only[Bool.or_eq_true,Bool.and_eq_true] at h
 rcases h with⟨ha,hb⟩|⟨hb,hc⟩
 ·have a1:=Nat.le_of_ble_eq_true ha
  have a2:=Nat.le_of_ble_eq_true hb
  have:=h1 n (List.mem_range.2 (by omega))
  simp only[Bool.or_eq_true,Bool.and_eq_true] at this
  rcases this with h0|⟨hf,ht⟩
  ·have:=Nat.eq_of_beq_eq_true h0;omega
  ·cases b
   ·exact hf
   ·exact ht
 ·subst hb
  rcases hc with hc|hc
  ·rw[Nat.eq_of_beq_eq_true hc];exact h2
  ·rw[Nat.eq_of_beq_eq_true hc];exact h3
theorem hasT_mem{n o:Nat}{b:Bool}(h:hasT n b o=true):o∈ordT n b:=by
 unfold hasT at h
 obtain⟨x,hx,he⟩:=List.any_eq_true.1 h
 rw[Nat.eq_of_beq_eq_true he]
 exact hx
def OrdsIn:Fo->List Int->Bool->Prop
 |.nil,_,_=>True
 |.cons k n _ q rest,ws,b=>Nat.lcm (rootN k n) (ordFo q)∈ordT (ws.headD 0).toNat b/\OrdsIn rest ws.tail b
theorem one_ord{fo:Fo}{w:Int}{b:Bool}(hl:fo.len=1)(h:OrdsIn fo [w] b):∃x,x∈ordT w.toNat b/\ordFo fo=Nat.lcm x 1:=by
 rcases fo with _|⟨k,n,r,q,rest⟩
 ·simp[Fo.len] at hl
 ·have:rest=.nil:=by rcases rest with _|⟨_,_,_,_,_⟩;rfl;simp[Fo.len] at hl
  subst this
  exact⟨_,h.1,rfl⟩
theorem two_ord{fo:Fo}{v w:Int}{b:Bool}(hl:fo.len=2)(h:OrdsIn fo [v,w] b):∃x y,x∈ordT v.toNat b/\y∈ordT w.toNat b/\ordFo fo=Nat.lcm x (Nat.lcm y 1):=by
 rcases fo with _|⟨k,n,r,q,rest⟩
 ·simp[Fo.len] at hl
 ·obtain⟨y,hy,e⟩:=one_ord (fo:=rest) (w:=w) (b:=b) (by simpa[Fo.len] using hl) h.2
  exact⟨_,y,h.1,hy,by show Nat.lcm _ (ordFo rest)=_;rw[e]⟩
theorem ords_in:∀(fo:Fo) (ws:List Int) (b:Bool),fo.bad ws b=0->fo.len=ws.length->(∀x∈ws,1<=x/\domT x.toNat b=true)->OrdsIn fo ws b
 |.nil,_,_,_,_,_=>trivial
 |.cons kind n r kids rest,ws,b,h,hl,hw=>by
   rcases ws with _|⟨w,ws⟩
   ·simp[Fo.len] at hl
   unfold Fo.bad at h
   by_cases h1:nodeE kind n r kids.len ((w::ws).headD 0) b≠0
   ·rw[if_pos h1] at h;exact absurd h h1
   rw[if_neg h1] at h
   by_cases h2:kids.bad (wantsF kind n r) (b||kind==4)≠0
   ·rw[if_pos h2] at h;exact absurd h h2
   rw[if_neg h2] at h
   have h1':nodeE kind n r kids.len w b=0:=Decidable.not_not.1 h1
   have h2':=Decidable.not_not.1 h2
   obtain⟨hw1,hwd⟩:=hw w (List.mem_cons_self ..)
   refine⟨?_,ords_in rest ws b h (by simpa[Fo.len] using hl) (λy hy=>hw y (List.mem_cons_of_mem _ hy))⟩
   show _∈ordT w.toNat b
   have hok:=okT_of hwd
   unfold okT at hok
   simp only[Bool.and_eq_true,List.all_eq_true] at hok
   obtain⟨⟨⟨⟨hlf,hsp⟩,hrd⟩,hra⟩,hbl⟩:=hok
   obtain⟨k0,k4,kb,rfl,hs,hkl,hr⟩:=nodeE_zero h1'
   have hk:kind=0\/kind=1\/kind=2\/kind=3\/kind=4:=by omega
   obtain⟨N,rfl⟩:∃N:Nat,n=N:=⟨n.toNat,by omega⟩
   rw[Int.toNat_natCast] at hlf hsp hrd hra hbl hwd|-
   rcases hk with rfl|rfl|rfl|rfl|rfl
   ·have e:wantsF 0 N r=[]:=rfl
    rw[e] at hkl
    have:kids=.nil:=by rcases kids with _|⟨_,_,_,_,_⟩;rfl;simp[Fo.len] at hkl
    subst this
    have h32:¬(32:Int)<N:=λhc=>by simp[sizeE,hc] at hs
    have:Nat.ble 33 N=false:=by rw[Bool.eq_false_iff];intro hc;have:=Nat.le_of_ble_eq_true hc;omega
    unfold leafT at hlf
    rw[this,Bool.false_or] at hlf
    have:=hasT_mem hlf
    show Nat.lcm (rootN 0 N) 1∈_
    rw[Nat.lcm_one_right]
    exact this
   ·have hrr:2<=r/\r<N/\(N:Int)%r=0:=by simpa[radixB] using hr
    obtain⟨R,rfl⟩:∃R:Nat,r=R:=⟨r.toNat,by omega⟩
    have e:wantsF 1 N R=[(R:Int),(N:Int)/R]:=by simp[wantsF];omega
    rw[e] at hkl h2'
    have hd:((N:Int)/R).toNat=N/R:=by rw[<-Int.natCast_ediv,Int.toNat_natCast]
    have hm:N%R=0:=by have:=hrr.2.2;rw[<-Int.natCast_emod] at this;omega
    have hrt:=hrd R (List.mem_range.2 (by omega))
    unfold radT at hrt
    rw[show Nat.ble R 1=false from by rw[Bool.eq_false_iff];intro hc;have:=Nat.le_of_ble_eq_true hc;omega,hm,show Nat.beq 0 0=true from rfl] at hrt
    simp only[Bool.not_true,Bool.false_or,Bool.and_eq_true,List.all_eq_true] at hrt
    obtain⟨⟨d1,d2⟩,hall⟩:=hrt
    have hq1:1<=N/R:=(Nat.le_div_iff_mul_le (by omega)).2 (by omega)
    have hin:=ords_in kids [(R:Int),(N:Int)/R] b (by simpa using h2') (by simpa using hkl) (by
     intro x hx
     simp only[List.mem_cons,List.not_mem_nil,or_false] at hx
     rcases hx with rfl|rfl
     ·exact⟨by omega,by rw[Int.toNat_natCast];exact d1⟩
     ·exact⟨by rw[<-Int.natCast_ediv];omega,by rw[hd];exact d2⟩)
    obtain⟨x,y,hx,hy,he⟩:=two_ord (by simpa using hkl) hin
    rw[Int.toNat_natCast] at hx
    rw[hd] at hy
    rw[he]
    exact hasT_mem (hall x hx y hy)
   ·have e:wantsF 2 N r=[]:=rfl
    rw[e] at hkl
    have:kids=.nil:=by rcases kids with _|⟨_,_,_,_,_⟩;rfl;simp[Fo.len] at hkl
    subst this
    have hp:pow4 N=true:=by
     cases hpw:pow4 N
     ·simp[sizeE,hpw] at hs
     ·rfl
    unfold splitT at hsp
    rw[hp] at hsp
    have:=hasT_mem (by simpa using hsp)
    show Nat.lcm (rootN 2 N) 1∈_
    rw[Nat.lcm_one_right]
    exact this
   ·have e:wantsF 3 N r=[(N:Int)-1]:=rfl
    rw[e] at hkl h2'
    have hc:¬((N:Int)<3\/primeB N=false):=λhc=>by simp[sizeE,hc] at hs
    have hp:primeB N=true:=by cases hpp:primeB N;exact absurd (.inr hpp) hc;rfl
    have h3:3<=N:=by have:¬(N:Int)<3:=λh=>hc (.inl h);omega
    unfold raderT at hra
    rw[show Nat.ble N 2=false from by rw[Bool.eq_false_iff];intro hc;have:=Nat.le_of_ble_eq_true hc;omega,hp] at hra
    simp only[Bool.not_true,Bool.false_or,Bool.and_eq_true,List.all_eq_true] at hra
    obtain⟨d1,hall⟩:=hra
    have hd:((N:Int)-1).toNat=N-1:=by omega
    have hin:=ords_in kids [(N:Int)-1] b (by simpa using h2') (by simpa using hkl) (by
     intro x hx
     simp only[List.mem_cons,List.not_mem_nil,or_false] at hx
     subst hx
     exact⟨by omega,by rw[hd];exact d1⟩)
    obtain⟨x,hx,he⟩:=one_ord (by simpa using hkl) hin
    rw[hd] at hx
    rw[he]
    exact hasT_mem (hall x hx)
   ·have e:wantsF 4 N r=[(padF N:Int)]:=rfl
    rw[e] at hkl h2'
    obtain rfl:=kb rfl
    have h2N:2<=N:=by
     have:¬((N:Int)<2\/16384<(N:Int)):=λhc=>by simp[sizeE,hc] at hs
     omega
    unfold blueT at hbl
    rw[show Nat.ble N 1=false from by rw[Bool.eq_false_iff];intro hc;have:=Nat.le_of_ble_eq_true hc;omega] at hbl
    simp only[Bool.false_or,Bool.and_eq_true,List.all_eq_true] at hbl
    obtain⟨d1,hall⟩:=hbl
    have hpp:1<=padF N:=by
     unfold domT at d1
     simp only[Bool.or_eq_true,Bool.and_eq_true,Bool.true_and] at d1
     rcases d1 with⟨h,-⟩|h|h
     ·exact Nat.le_of_ble_eq_true h
     ·have:=Nat.eq_of_beq_eq_true h;omega
     ·have:=Nat.eq_of_beq_eq_true h;omega
    have hin:=ords_in kids [(padF N:Int)] true (by simpa using h2') (by simpa using hkl) (by
     intro x hx
     simp only[List.mem_cons,List.not_mem_nil,or_false] at hx
     subst hx
     exact⟨by omega,by rw[Int.toNat_natCast];exact d1⟩)
    obtain⟨x,hx,he⟩:=one_ord (by simpa using hkl) hin
    rw[Int.toNat_natCast] at hx
    rw[he]
    exact hasT_mem (hall x hx)
theorem ord_in{kind r:Int}{N:Nat}{q:Fo}{o:Nat}(hN:N<=100)(h:ordR kind N r q=(o,0)):o∈ordT N false:=by
 obtain⟨hc,rfl⟩:=ordR_ord h
 unfold checkE at hc
 by_cases h1:(N:Int)<1\/32768<(N:Int)
 ·rw[if_pos h1] at hc;omega
 rw[if_neg h1] at hc
 by_cases h2:64<1+q.count
 ·rw[if_pos h2] at hc;omega
 rw[if_neg h2] at hc
 have:=(ords_in (.cons kind N r q .nil) [(N:Int)] false hc rfl (by
  intro x hx
  simp only[List.mem_cons,List.not_mem_nil,or_false] at hx
  subst hx
  refine⟨by omega,?_⟩
  rw[Int.toNat_natCast]
  unfold domT
  rw[show Nat.ble 1 N=true from Nat.ble_eq_true_of_le (by omega),show Nat.ble N 100=true from Nat.ble_eq_true_of_le hN]
  rfl)).1
 exact this
end Go.Proofs.Yteaimnemobnknaa
namespace Go.Proofs.Yteaimnemobnknaa
def prodL:List Nat->Nat
 |[]=>1
 |f::t=>f*prodL t
theorem list_fac:∀(fs:List Nat) (m:Nat),(∀f∈fs,Prm f)->m∣prodL fs->2<=m->∃r∈fs,r∣m
 |[],m,_,h,h2=>by
   have:m=1:=Nat.dvd_one.1 h
   omega
 |f::t,m,hp,h,h2=>by
   by_cases hf:f∣m
   ·exact⟨f,List.mem_cons_self ..,hf⟩
   ·have hc:=(hp f (List.mem_cons_self ..)).co hf
    have h3:m∣prodL t:=Nat.Coprime.dvd_of_dvd_mul_left (show Nat.gcd m f=1 by rw[Nat.gcd_comm];exact hc) h
    obtain⟨r,hr,hd⟩:=list_fac t m (λx hx=>hp x (List.mem_cons_of_mem _ hx)) h3 h2
    exact⟨r,List.mem_cons_of_mem _ hr,hd⟩
theorem ord_list{v o q:Nat}(q2:2<=q)(o1:1<=o)(fs:List Nat)(hp:∀f∈fs,Prm f)(ho:prodL fs=o)(h1:v^o%q=1)(h:∀p∈fs,v^(o/p)%q≠1):Ord v o q:=by
 refine⟨q2,o1,h1,λe he=>?_⟩
 have hd:=one_gcd q2 e o he h1
 have hed:=Nat.gcd_dvd_left e o
 obtain⟨c,hc⟩:=Nat.gcd_dvd_right e o
 generalize Nat.gcd e o=d at hd hed hc
 have hc0:c≠0:=by rintro rfl;omega
 by_cases c1:c=1
 ·rw[c1,Nat.mul_one] at hc
  rw[hc]
  exact hed
 ·exfalso
  obtain⟨r,hr,t,ht⟩:=list_fac fs c hp (by rw[ho];exact⟨d,by rw[Nat.mul_comm];exact hc⟩) (by omega)
  have hr0:0<r:=by
   apply Nat.pos_of_ne_zero
   rintro rfl
   omega
  refine h r hr ?_
  have:o/r=d*t:=by
   have h3:o=r*(d*t):=by rw[hc,ht,<-Nat.mul_assoc,Nat.mul_comm d r,Nat.mul_assoc]
   rw[h3]
   exact Nat.mul_div_cancel_left _ hr0
  rw[this]
  exact one_pow_mod q2 hd t
theorem prm_of_ord{g q:Nat}(O:Ord g (q-1) q):Prm q:=by
 have q2:=O.q2
 have pos:∀k,1<=g^k%q:=by
  intro k
  apply Nat.pos_of_ne_zero
  intro h0
  have h1:=one_pow_mod q2 O.one k
  rw[Nat.mul_comm,Nat.pow_mul,Nat.pow_mod,h0] at h1
  have hq1:q-1≠0:=by have:=O.o1;omega
  rw[Nat.zero_pow (by omega)] at h1
  simp at h1
 have inj:∀a b,a<q-1->b<q-1->a<=b->g^a%q=g^b%q->a=b:=by
  intro a b ha hb hab h
  have h1:g^(b+(q-1-a))%q=1:=by
   rw[Nat.pow_add,Nat.mul_mod,<-h,<-Nat.mul_mod,<-Nat.pow_add,show a+(q-1-a)=q-1 from by omega]
   exact O.one
  have h2:=O.least _ h1
  rw[show b+(q-1-a)=(q-1)+(b-a) from by omega] at h2
  have h3:=(Nat.dvd_add_right (Nat.dvd_refl (q-1))).1 h2
  rcases Nat.eq_zero_or_pos (b-a) with h4|h4
  ·omega
  ·have:=Nat.le_of_dvd h4 h3;omega
 refine⟨q2,λd hd=>?_⟩
 by_cases hdq:d=q
 ·exact .inr hdq
 left
 have hd1:1<=d:=Nat.pos_of_dvd_of_pos hd (by omega)
 have hdl:d<q:=Nat.lt_of_le_of_ne (Nat.le_of_dvd (by omega) hd) hdq
 obtain⟨k,hk,he⟩:=surj_of (n:=q-1) (s:=λk=>g^k%q-1) (λk _=>by
   have:=Nat.mod_lt (g^k) (show 0<q by omega)
   have:=pos k
   show g^k%q-1<q-1
   omega) (λa b ha hb h=>by
   have h1:=pos a
   have h2:=pos b
   have h3:g^a%q=g^b%q:=by
    have:g^a%q-1=g^b%q-1:=h
    omega
   rcases Nat.le_total a b with hab|hab
   ·exact inj a b ha hb hab h3
   ·exact(inj b a hb ha hab h3.symm).symm) (show d-1<q-1 by omega)
 have he':g^k%q=d:=by
  have:g^k%q-1=d-1:=he
  have:=pos k
  omega
 have h1:d∣g^k:=by
  have h2:d∣g^k%q:=by rw[he'];exact Nat.dvd_refl d
  exact(Nat.dvd_mod_iff hd).1 h2
 have h3:d∣g^(k*(q-1)):=by
  rw[Nat.pow_mul]
  have h4:=Nat.pow_dvd_pow (g^k) O.o1
  rw[Nat.pow_one] at h4
  exact Nat.dvd_trans h1 h4
 have h4:g^(k*(q-1))%q=1:=by rw[Nat.mul_comm];exact one_pow_mod q2 O.one k
 have h5:d∣1:=by rw[<-h4];exact(Nat.dvd_mod_iff hd).2 h3
 exact Nat.dvd_one.1 h5
def certB(c:Nat×Nat×List Nat)(acc:List Nat):Bool:=
 Nat.ble 2 c.1&&Nat.blt c.1 18446744073709551616&&Nat.beq (prodL c.2.2) (c.1-1)&&c.2.2.all (λf=>acc.any (Nat.beq f)||(Nat.blt f 1000000&&primeB f))&&Nat.beq (pmB c.2.1 (c.1-1) c.1) 1&&c.2.2.all (λf=>!(Nat.beq (pmB c.2.1 ((c.1-1)/f) c.1) 1))
theorem cert_ord{q g:Nat}{fs acc:List Nat}(h:certB (q,g,fs) acc=true)(ha:∀a∈acc,Prm a):Ord g (q-1) q:=by
 unfold certB at h
 simp only[Bool.and_eq_true,List.all_eq_true] at h
 obtain⟨⟨⟨⟨⟨h1,h2⟩,h3⟩,h4⟩,h5⟩,h6⟩:=h
 have q2:=Nat.le_of_ble_eq_true h1
 have q64:q<2^64:=by
  have:=Nat.le_of_ble_eq_true h2
  show q<18446744073709551616
  omega
 have e3:=Nat.eq_of_beq_eq_true h3
 have hp:∀f∈fs,Prm f:=by
  intro f hf
  have:=h4 f hf
  simp only[Bool.or_eq_true,Bool.and_eq_true] at this
  rcases this with h7|⟨_,h7⟩
  ·obtain⟨x,hx,he⟩:=List.any_eq_true.1 h7
   rw[Nat.eq_of_beq_eq_true he]
   exact ha x hx
  ·exact prm_of h7
 have e5:=Nat.eq_of_beq_eq_true h5
 rw[pmB_eq _ _ _ (by omega) (by omega)] at e5
 refine ord_list q2 (by omega) fs hp e3 e5 (λp hp'=>?_)
 have:=h6 p hp'
 intro hc
 have h7:pmB g ((q-1)/p) q=1:=by rw[pmB_eq _ _ _ (by omega) (Nat.lt_of_le_of_lt (Nat.div_le_self _ _) (by omega))];exact hc
 rw[h7] at this
 exact absurd this (by decide)
def chainB:List (Nat×Nat×List Nat)->List Nat->Bool
 |[],_=>true
 |c::t,acc=>certB c acc&&chainB t (c.1::acc)
theorem chain_all:∀(l:List (Nat×Nat×List Nat)) (acc:List Nat),chainB l acc=true->(∀a∈acc,Prm a)->∀c∈l,Ord c.2.1 (c.1-1) c.1
 |[],_,_,_,c,hc=>by cases hc
 |(q,g,fs)::t,acc,h,ha,c,hc=>by
   unfold chainB at h
   rw[Bool.and_eq_true] at h
   have O:=cert_ord h.1 ha
   rcases List.mem_cons.1 hc with rfl|hc
   ·exact O
   ·exact chain_all t (q::acc) h.2 (λa hm=>by
      rcases List.mem_cons.1 hm with rfl|hm
      ·exact prm_of_ord O
      ·exact ha a hm) c hc
theorem Ord.part{g q o:Nat}(O:Ord g (q-1) q)(ho:o∣q-1):Ord (g^((q-1)/o)) o q:=by
 obtain⟨c,hc⟩:=ho
 have h1:=O.o1
 have o1:1<=o:=by apply Nat.pos_of_ne_zero;rintro rfl;omega
 have c1:1<=c:=by apply Nat.pos_of_ne_zero;rintro rfl;omega
 have e:(q-1)/o=c:=by rw[hc];exact Nat.mul_div_cancel_left _ o1
 rw[e]
 refine⟨O.q2,o1,by rw[<-Nat.pow_mul,Nat.mul_comm,<-hc];exact O.one,λe he=>?_⟩
 rw[<-Nat.pow_mul] at he
 have h2:=O.least _ he
 rw[hc,Nat.mul_comm] at h2
 exact Nat.dvd_of_mul_dvd_mul_left c1 h2
theorem oddL_two(f:Nat):∀d,1<=d->d<2^f->∃t,t<=f/\d=oddL f d*2^t:=by
 induction f with
 |zero=>intro d h1 h2;exact absurd h2 (by simp;omega)
 |succ f ih=>
   intro d h1 h2
   rw[oddL_step]
   by_cases e:d%2=0
   ·rw[if_pos e]
    obtain⟨t,ht,he⟩:=ih (d/2) (by omega) (by rw[Nat.pow_succ] at h2;omega)
    refine⟨t+1,by omega,?_⟩
    rw[Nat.pow_succ,<-Nat.mul_assoc,<-he]
    omega
   ·rw[if_neg e]
    exact⟨0,by omega,by simp⟩
theorem sq_one{p x:Nat}(hp:Prm p)(x1:1<=x)(hx:x<p)(h:x*x%p=1):x=1\/x=p-1:=by
 have h1:p∣(x-1)*(x+1):=by
  have h2:(x-1)*(x+1)=x*x-1:=by
   obtain⟨y,rfl⟩:∃y,x=y+1:=⟨x-1,by omega⟩
   show y*(y+1+1)=(y+1)*(y+1)-1
   have:(y+1)*(y+1)=y*(y+1+1)+1:=by grind
   omega
  rw[h2]
  have h3:=Nat.div_add_mod (x*x) p
  exact⟨x*x/p,by omega⟩
 rcases hp.mul h1 with h2|h2
 ·rcases Nat.eq_zero_or_pos (x-1) with h3|h3
  ·left;omega
  ·have:=Nat.le_of_dvd h3 h2;omega
 ·have:=Nat.le_of_dvd (by omega) h2
  right;omega
theorem strL_true{n b:Nat}(hp:Prm n)(h1:b^(n-1)%n=1):∀(t f d:Nat),1<=d->d*2^t=n-1->t<=f->pmod b d n≠1->strL f d (pmod b d n) n=true
 |0,f,d,hd,he,_,hx=>by
   exfalso
   refine hx ?_
   rw[Nat.pow_zero,Nat.mul_one] at he
   rw[he]
   exact h1
 |t+1,f,d,hd,he,hf,hx=>by
   obtain⟨f,rfl⟩:∃g,f=g+1:=⟨f-1,by omega⟩
   have hlt:d<n-1:=by
    rw[<-he,Nat.pow_succ]
    have:=Nat.two_pow_pos t
    have h2:d*1<=d*2^t:=Nat.mul_le_mul_left d this
    rw[<-Nat.mul_assoc]
    omega
   rw[strL_step,if_neg (by omega)]
   by_cases hn:pmod b d n=n-1
   ·rw[if_pos hn]
   ·rw[if_neg hn]
    have e:pmod b d n*pmod b d n%n=pmod b (d*2) n:=by
     unfold pmod
     rw[<-Nat.mul_mod,<-Nat.pow_add,Nat.mul_two]
    have hp2:=hp.1
    have hlt2:pmod b d n<n:=Nat.mod_lt _ (by omega)
    have hpos:1<=pmod b d n:=by
     apply Nat.pos_of_ne_zero
     intro h0
     have h3:n∣b^d:=Nat.dvd_of_mod_eq_zero h0
     have h4:n∣b^(n-1):=Nat.dvd_trans h3 (Nat.pow_dvd_pow b (by omega))
     have:=Nat.mod_eq_zero_of_dvd h4
     omega
    rw[e]
    refine strL_true hp h1 t f (d*2) (by omega) (by rw[<-he,Nat.pow_succ,Nat.mul_assoc,Nat.mul_comm 2]) (by omega) ?_
    rw[<-e]
    intro hc
    rcases sq_one hp hpos hlt2 hc with h|h
    ·exact hx h
    ·exact hn h
theorem strong_prm{n b:Nat}(hp:Prm n)(hn:n<2^64)(hb:¬n∣b):strongB n b=true:=by
 have hq:NeZero n:=⟨by have:=hp.1;omega⟩
 have hp2:=hp.1
 have h1:b^(n-1)%n=1:=one_pw hp.1 (fermat hp hb)
 obtain⟨t,ht,he⟩:=oddL_two 64 (n-1) (by omega) (by omega)
 have hd:=oddL_bd 64 (n-1) (by omega)
 unfold strongB
 rw[bif_eq,pmB_eq _ _ _ (by omega) (by omega)]
 by_cases h:pmod b (oddL 64 (n-1)) n=1
 ·rw[if_pos h]
 ·rw[if_neg h]
  exact strL_true hp h1 t 64 _ hd.1 he.symm ht h
theorem bases_prm:∀b∈basesL,Prm b:=by
 intro b hb
 have:basesL.all primeB=true:=by decide+kernel
 exact prm_of (List.all_eq_true.1 this b hb)
theorem divL_prm{n:Nat}(hp:Prm n):∀(l:List Nat),(∀b∈l,Prm b)->divL n l=none\/divL n l=some true
 |[],_=>.inl rfl
 |b::l,h=>by
   rw[divL_step]
   by_cases e:n%b=0
   ·rw[if_pos e]
    have hb:=h b (List.mem_cons_self ..)
    rcases hp.2 b (Nat.dvd_of_mod_eq_zero e) with h1|h1
    ·have:=hb.1;omega
    ·rw[h1,Nat.beq_refl];exact .inr rfl
   ·rw[if_neg e]
    exact divL_prm hp l (λx hx=>h x (List.mem_cons_of_mem _ hx))
theorem divL_none{n:Nat}:∀(l:List Nat),divL n l=none->∀b∈l,n%b≠0
 |[],_,b,hb=>by cases hb
 |c::l,h,b,hb=>by
   rw[divL_step] at h
   by_cases e:n%c=0
   ·rw[if_pos e] at h;cases h
   ·rw[if_neg e] at h
    rcases List.mem_cons.1 hb with rfl|hb
    ·exact e
    ·exact divL_none l h b hb
theorem allS_prm{n:Nat}(hp:Prm n)(hn:n<2^64):∀(l:List Nat),(∀b∈l,¬n∣b)->allS n l=true
 |[],_=>rfl
 |b::l,h=>by
   show(bif strongB n b then _ else _)=_
   rw[strong_prm hp hn (h b (List.mem_cons_self ..))]
   exact allS_prm hp hn l (λx hx=>h x (List.mem_cons_of_mem _ hx))
theorem isB_prm{n:Nat}(hp:Prm n)(hn:n<2^64):isB n=true:=by
 have hp2:=hp.1
 unfold isB
 rw[show Nat.ble n 1=false from by rw[Bool.eq_false_iff];intro hc;have:=Nat.le_of_ble_eq_true hc;omega]
 show(match divL n basesL with|some r=>r|none=>allS n basesL)=true
 rcases divL_prm hp basesL bases_prm with h|h
 ·rw[h]
  refine allS_prm hp hn basesL (λb hb hd=>?_)
  rcases(bases_prm b hb).2 n hd with h1|h1
  ·omega
  ·exact divL_none basesL h b hb (by rw[h1];exact Nat.mod_self b)
 ·rw[h]
end Go.Proofs.Yteaimnemobnknaa
