/- How far off plans of sizes up to 300 are at most: tables, checked by the kernel; the induction over plans. (Printed by mkA19.py.) -/
import Derived.Test.YtmgfaeineklccaaGreatMA2
import Derived.Test.YtmgfaeineklccaaGreatMC1
import Derived.Test.YtmgfaeineklccaaGreatMW2
import Derived.Test.YtmgfaeineklccaaGreatMA1
set_option linter.unusedSimpArgs false
set_option linter.unusedVariables false
namespace Go.Proofs.YtmgfaeineklccaaGreat
namespace CG
def cbT:List Nat:=[10,38,85,219,580,1734,1784,1834,1965,2327,3483]
def rbT:List Nat:=[4,8,264,8456,270600,8659208,277094664,8867029256,283744936200,9079837958408,290554814669064]
def cnT:List Nat:=[0,10,1101,4992,3620,18168,14130,84986,14130,55912,62901,425461,62901,472736,86264,62901,55912,437031,86280,726238,86280,90162,
 427404,4111174,86280,86280,474771,86280,88788,889711,86280,907811,86280,431302,438996,125647,118256,1269617,728768,478670,125647,
 1456881,125647,1510840,429928,125647,4120315,53079087,125647,170312,125647,442895,477295,6097549,125647,444504,125647,732667,892560,
 12408625,125647,1794140,910696,141182,118256,491871,440458,6178640,441520,4124214,182091,2676078,182091,2736899,1273208,182091,
 731303,511452,487825,7820659,182091,182091,1460838,22394695,182091,456097,1514903,896459,440458,7149589,182091,558820,4129474,
 914594,53183869,745868,182091,3174826,182091,482322,182091,3035509,452051,7658965,487825,182091,6110570,106865811,182091,3234562,
 489324,1277107,182091,3334087,741823,4137416,895415,529689,12433972,523045,182091,852592,1798756,1464737,913586,182091,182091,
 3421193,182091,1518801,536692,10351827,489324,812817,6191819,309243,452051,9059020,4133381,83864791,309243,53187767,2682416,899960,
 299872,909661,2743356,309243,1276806,25684770,309243,6292649,741823,493914,513563,927796,536692,11292931,7837045,6114469,309243,
 4204364,309243,6721694,1464803,489324,22439546,498093600,309243,947327,500917,783686,1518973,32613414,905615,309243,482322,12437871,
 7164665,158443681,309243,6905599,561023,1802654,4138651,1290309,923750,864185,53288855,309243,790689,18504768,309243,7304002,3182138,
 536692,299872,6790813,512749,11713985,309243,6195718,3042549,976609,500917,1477938,7675036,4175233,529689,1153957,309243,7436830,
 6123616,2686315,107075645,1532003,309243,994745,3241991,2747255,512749,911552,1286263,32477665,309243,299872,3341711,80986036,790689,
 19311227,4182236,517461,905615,22458297,560116,53200969,12459369,7840944,525178,13320094,309243,7901665,855369,309243,1803381,309243,
 1473893,1201324,923750,22443445,309243,8192169,309243,4545504,3428987,500917,299872,7688781,1527957,1357257,644598,947478,10373157,
 271452211,644598,6127670,815516,7168563,6205024,165669205,644598,17324794,644598,644598,9077825,644598,4182236,114620530,84029701,
 965614,644598,17894691,53292761,1488830431,2688767,790689,902829,1544887,644598,875778,954481,3186037,2749826,75309388,644598,
 12451073,1286263,644598,25736047,4592871,644598]
def rnT:List Nat:=[0,4,2195456,1124074520,554696704,1278021215272,108627427328,375416388866360,141880721408,20429710295040,40896681084160,418782014301900888,
 27807105679360,341693714588123240,12013324445918976,61346142407576,36319484968960,929778815205785736,5229987867131904,150623650573399353752,
 5904165990629376,18019987789659800,13401024457663023872,471716060909738441068984,7118594596929536,7375100078260224,10934198866822139136,
 7901730800992256,384426382271602688,24800114773105634414824,8725726285266944,603122200837653243128,9297756208234496,20101536687615317144,
 29752922086587339008,1311128620082790400,1338876605283434496,151153813230078624924968,4819956818348781515520,16401298301353990040,
 1511466167683252224,189598316074187163996488,1571320460367364096,206961760475906265344600,428832782645218959360,1694515703561846784,
 15094913949111630116402944,2177531906643047314071829725816,1789962961555685376,1822359823858008064,1888025212919218176,44629383131001789848,
 349894363738310647808,74524700321350261508997544,2022842648867897344,33502562422173286312,12301644232693481472,7229935227524293054616,
 793603672739380303469824,188534837325349099934732927448,2233785447356563456,548975111542349049692648,19299910426804905975552,
 2343179336655437824,2380225076059439104,311372486311116275712,643249174003692344064,220083845390319313390015256,952093506770797043712,
 22642370923667446295385752,335648922208226508800,121800280890921235538746168,342752406323658227712,127931650155492786203923016,
 4836922023362515999794432,357182520652388630528,154238618187161010692096,368200359234570027008,524841545643329876736,
 212220728663971722349495160,383151147791656681472,386935333701317296128,6067146114373989250083072,3184038280823469558443639219864,
 402258032421515558912,406135195871954075648,6622776335229000493222656,1190405509109071575986072,13722649044647008894976,
 7728595941945195409700045512,429788682245852364800,433796014253379944448,483037246371572163727089664,28949865640208479744664,
 69681021012577514050298553421568,12049892047149969515432,458230511969812611072,281536826554252868301619976,466524108607201476608,
 964873761006659297432,479103969874451628032,371018114270775340825421608,1428140260192059470592,1128070853842585471187543096,
 11196619639625942925312,500442315482980155392,2384790410283208368290116864,1957588595346715554028098576462936,517847711116603424768,
 433102968887793507601893224,1072081997509547357440,7255383035043775120472984,535550634880715980800,464498061049821630292444040,
 231357927280777379943168,37737284872780353306733992,25395317527660169713229824,787262318466115596440,6033114794411171197911455873792,
 567246678531902799872,571849066800408952832,576470050577070686208,17567203569355169592360192,9100719171560984995905944,617597133657756993413120,
 595139940765273423872,599853902082713059328,696559948760879728046937080,609337611242059071488,9934164502843501860615320,79276370301885939712000,
 94979433731283506650308711448,80584899018672182394880,81463202059134435328000,7042683052490218028482683648,82346265549680494510080,
 83234089490310359941120,104323610149007237701731681352,724555869557358281454539520,921495951350004721220135173362776,85474476311001675857920,
 104521531518866271075448950913688,3897608988509479537242072832,87288207792931856711680,87744615944716780830720,1984009181849728774401192,
 4093812804975769158527731968,89582149677065992929280,154781504747600511995617280,247769279791806976386200518985896,91438725209750430023680,
 148350187780299097670661793208,4935635781989152344342528,93314342542770092113920,94259291884405632532480,94733551724004830085120,
 95209001676124979200000,160645767692118972904506419432,6791063317247095115186040576,3577185615424812553555956632,97604103124539998208000,
 52832198822266121788592568,99055445343840428359680,173564158887914447848688274968,194148675659967656004853760,101007229878200990433280,
 101889224986351025870196457231104,182937620337093867504799450314627110456,102483564460441403392000,102978056212896777502720,
 103970610055370380410880,347036890921167190696088,211928842727328015785320448,457250889345515652361902639453544,38092976291490290433749760,
 106976834283294026629120,439124769428704286834688,9049672191616756796868304592024,247315070142246253110403651840,
 552213002695851985825008807142656408,110025902561971929088000,248429685912727658126783387048,111051779555032175738880,26350805354032755509321624,
 15457191883890309239269064704,12092305058407568015212712,926395700486671354024704,114157973234715753185280,2229792672402480449609553711685632,
 115202892028111224832000,385596545508799026689280,919015382703851248250615220728,117307010965153586872320,282527835945002225995927782920,
 9009178449736091785654034688,118897596349405349806080,119430171702531173908480,337079716613223985239847143976,121035038437034355589120,
 345095101591672354656263483192,122110900155974567854080,10564024578735327043844806808,11872579656664810906415686912,2777612854963247443326648,
 124821381422441750855680,15167865285936251140934312,36098267322962735078003574528,1086833804336037423302590616,358291828468030175805440,
 127561615501932722913280,128113232655393772011520,387414415549910766563471521688,76313293129062667785285935104,5846413482764219306983890584,
 62642835051094897728899154449009408,16556940838073779248783272,132007875880207759441920,132569013933836421038080,13859295004409392243262778624,
 6140719207463653738912379288,134259568769848115200000,134825467273560583045120,232172257121400803857330944,742208271565694089771116271470584,
 136530303459823695953920,137100962413619970048000,14863937953594292169360404736,55037951631561687536032997726816024,7403453672984876160376832,
 27655986175026000110648847238952,1207593115928971305817683200,141128898240780532449280,812650160885125430825549824,
 3088954774738519653605828411262792,142873008140235046912000,174202552531443785127024399280552,193059673421157478333166590156800,
 10186594975870642673899842200,145215149581467721400320,566250792556778581087564662648,146393360977209768017920,575642118300145161410288027528,
 147576332823035620884480,148169603914729974661120,562150514219365426957721600,149359716435681536901120,291223013489951519871185664,
 150554589406716905390080,19763108277048223791415296,152833837479526538805295806627992,152355824707177094840320,624049458000597380466974722008,
 153562598803421978951680,83022027138895979930042072,22289918360348151297504182016,155381685791696441835520,155990428346163165921280,
 738610934448802282722490845192,317893264090992059541885696,20239186822835239230898176,20294750796210489943654400,57139464437235436771405976,
 3039341879401072212809880961792,14728504859167384691810468267827507512,20629734147690068606713856,5961976025708022198741018792,
 20798254080647905758150656,370972605213369379666726259096,225365857679686976911448072192,1117122330176455407087710470923005032,
 21080643979604371854852096,105275049582625864693384327616888,21250991925394294019457024,21307926908393608492089344,
 3338355524768231606455415998720,21479188860599573163278336,23185787825835465006547460096,118361035528956161970064104263183528,
 29487870443200151079044325549804288,21766148791636251792900096,21881465934460281373589504,113321486298657662000056660564168,
 3344689008603720674414366431433472,17445469748683905761499010267455237345752,124723487632303345191748526080,22229245375764455128825856,
 22345781193809874718294016,22404163353634589826351104,22462621680660641809956864,22579766836316756403814400,63488293819191320783033600,
 13513767674604137679601833368,131002009759224613072889618432,793205640915246220390396227087374632,22933030316117185198555136,
 15082786986027927996056655411112,4953008151923216383861948416,23170062646677541906022400,7928616953337823244358416609744128,
 98116941010919310330471912,23408313652459288622268416]
def sgT:List Nat:=[0,1,2,2,2,3,3,3,3,3,4,4,4,4,4,4,4,5,5,5,5,5,5,5,5,5,6,6,6,6,6,6,6,6,6,6,6,7,7,7,7,7,7,7,7,7,7,7,7,7,
 8,8,8,8,8,8,8,8,8,8,8,8,8,8,8,9,9,9,9,9,9,9,9,9,9,9,9,9,9,9,9,9,10,10,10,10,10,10,10,10,10,10,10,10,10,
 10,10,10,10,10,10,11,11,11,11,11,11,11,11,11,11,11,11,11,11,11,11,11,11,11,11,11,12,12,12,12,12,12,12,12,12,12,
 12,12,12,12,12,12,12,12,12,12,12,12,12,13,13,13,13,13,13,13,13,13,13,13,13,13,13,13,13,13,13,13,13,13,13,13,13,
 13,14,14,14,14,14,14,14,14,14,14,14,14,14,14,14,14,14,14,14,14,14,14,14,14,14,14,14,15,15,15,15,15,15,15,15,15,
 15,15,15,15,15,15,15,15,15,15,15,15,15,15,15,15,15,15,15,15,16,16,16,16,16,16,16,16,16,16,16,16,16,16,16,16,16,
 16,16,16,16,16,16,16,16,16,16,16,16,16,16,17,17,17,17,17,17,17,17,17,17,17,17,17,17,17,17,17,17,17,17,17,17,17,
 17,17,17,17,17,17,17,17,17,17,18,18,18,18,18,18,18,18,18,18,18]
def lbT:List Nat:=[0,0,4,7,8,13,14,15,16,24,26,27,28,29,30,31,32,47,48,50,51,52,54,55,56,57,58,59,60,61,62,63,64,92,94,95,96,98,
 99,100,102,103,104,105,107,108,109,110,111,112,114,115,116,117,118,119,120,121,122,123,124,125,126,127,128,183,184,186,
 187,188,190,191,192,194,195,196,198,199,200,202,203,204,205,207,208,209,210,212,213,214,215,216,218,219,220,221,222,223,
 224,226,227,228,229,230,231,232,233,235,236,237,238,239,240,241,242,243,244,245,246,247,248,249,250,251,252,253,254,255,
 256,364,365,367,368,370,371,372,374,375,376,378,379,380,382,383,384,386,387,388,390,391,392,394,395,396,398,399,400,401,
 403,404,405,407,408,409,410,412,413,414,415,416,418,419,420,421,423,424,425,426,427,429,430,431,432,433,435,436,437,438,
 439,440,442,443,444,445,446,447,448,450,451,452,453,454,455,456,458,459,460,461,462,463,464,465,466,468,469,470,471,472,
 473,474,475,476,477,478,479,480,482,483,484,485,486,487,488,489,490,491,492,493,494,495,496,497,498,499,500,501,502,503,
 504,505,506,507,508,509,510,511,512,726,727,729,730,732,733,734,736,737,739,740,741,743,744,745,747,748,750,751,752,754,
 755,756,758,759,760,762,763,764,766,767,768,770,771,772,774,775,776,778,779,780,782,783,784]
def nuT:List Nat:=[0,0,3,5,4,6,6,6,6,8,9,9,9,9,9,9,8,12,12,12,12,12,12,12,12,12,12,12,12,12,12,12,12,17,17,17,16,17,17,17,17,
 17,17,17,17,17,17,17,17,16,17,17,17,17,17,17,17,17,17,17,17,17,17,17,16,23,23,23,23,23,23,23,23,23,23,23,23,23,
 23,23,23,23,23,23,23,23,23,23,23,23,23,23,23,23,23,23,23,23,23,23,23,23,23,23,23,23,23,23,23,23,23,23,23,23,23,
 23,23,23,23,23,23,23,23,23,23,23,23,23,23,33,33,33,33,33,33,33,33,33,33,33,33,33,33,33,32,33,33,33,33,33,33,33,
 33,33,33,33,33,33,33,33,33,33,33,33,33,33,33,33,33,32,33,33,33,33,33,33,33,33,33,33,33,33,33,33,33,33,33,33,33,
 33,33,33,33,33,33,33,32,33,33,33,33,33,33,33,33,33,33,33,33,33,33,33,33,33,33,33,33,33,33,33,33,33,33,33,33,32,
 33,33,33,33,33,33,33,33,33,33,33,33,33,33,33,33,33,33,33,33,33,33,33,33,33,33,33,33,33,33,32,46,46,46,46,46,46,
 46,46,46,46,46,46,46,46,46,46,46,46,46,46,46,46,46,46,46,46,46,46,46,46,46,46,46,46,46,46,46,46,46,46,46,46,46,46]
def cb(k:Nat):Nat:=cbT.getD k 0
def rb(k:Nat):Nat:=rbT.getD k 0
def cn(n:Nat):Nat:=cnT.getD n 0
def rn(n:Nat):Nat:=rnT.getD n 0
def okL(n σ c R:Nat):Bool:=Nat.ble n (σ*σ)&&(Nat.ble (σ*(9*n+1)) c&&Nat.ble (4*n) R)
def okS(k n c R:Nat):Bool:=Nat.beq n (2^k)&&(Nat.ble (40+20*k) c&&Nat.ble (64*n) R)
def okR(r c0 c1 c R0 R1 R:Nat):Bool:=Nat.ble 1 c0&&(Nat.ble c0 1099511627776&&(Nat.ble 1 c1&&(Nat.ble c1 1099511627776&&(Nat.ble 1 R1&&(Nat.ble (513*(c0+c1+8)) (512*c)&&Nat.ble (R0+16*r*R1) R)))))
def okA(m l c0 d e c R0 R:Nat):Bool:=Nat.ble 1 c0&&(Nat.ble c0 1099511627776&&(Nat.ble 1 d&&(Nat.ble d 1099511627776&&(Nat.ble 1 l&&(Nat.ble (m+1) (l*l)&&(Nat.ble (4*(l*l)) (9*(m+1))&&(Nat.ble (m*(c0+3)) (d*l)&&
 (Nat.ble (513*(2*c0+d+8)) (512*e)&&(Nat.ble e 1099511627776&&(Nat.ble (3*e+4*m+10) (2*c)&&(Nat.ble (2*m*R0) (2^200)&&Nat.ble (64*(l*l)*m*(R0+m)+8*(m+1)) R)))))))))))
def okB(n m l ν c0 e e2 c R0 R:Nat):Bool:=Nat.ble (2*n-1) m&&(Nat.ble m 32768&&(Nat.ble 1 c0&&(Nat.ble (4*c0) 1099511627776&&(Nat.ble 1 l&&(Nat.ble (2*n*m) (l*l)&&(Nat.ble 1 ν&&(Nat.ble (l*l) (ν*ν*n)&&
 (Nat.ble (513*(4*c0+10)) (512*e)&&(Nat.ble e 1099511627776&&(Nat.ble (513*(e+15)) (512*e2)&&(Nat.ble (ν*e2) c&&(Nat.ble (3*n*R0) (2^200)&&Nat.ble (128*(l*l)*m*(R0+m)) R))))))))))))
def chkB(k:Nat):Bool:=(bif Nat.ble (2^k) 32 then okL (2^k) (sgT.getD (2^k) 0) (cb k) (rb k) else true)&&((bif Nat.ble 2 k then okS k (2^k) (cb k) (rb k)&&!primeB (2^k) else true)&&(List.range k).all λi=>bif Nat.beq i 0 then true else okR (2^i) (cb i) (cb (k-i)) (cb k) (rb i) (rb (k-i)) (rb k))
def chkN1(n:Nat):Bool:=(bif Nat.ble n 32 then okL n (sgT.getD n 0) (cn n) (rn n) else true)&&(bif pow4 n then okS (Nat.log2 n) n (cn n) (rn n) else true)
def chkN2(n:Nat):Bool:=(List.range n).all λr=>bif Nat.ble r 1 then true else bif Nat.beq (n%r) 0 then okR r (cn r) (cn (n/r)) (cn n) (rn r) (rn (n/r)) (rn n) else true
def chkN3(n:Nat):Bool:=bif Nat.ble 3 n&&primeB n then okA (n-1) (sgT.getD n 0) (cn (n-1)) ((n-1)*(cn (n-1)+3)/sgT.getD n 0+1) (513*(2*cn (n-1)+((n-1)*(cn (n-1)+3)/sgT.getD n 0+1)+8)/512+1) (cn n) (rn (n-1)) (rn n) else true
def chkN4(n:Nat):Bool:=bif Nat.ble 2 n then Nat.ble (Nat.log2 (padF n)) 10&&(Nat.beq (padF n) (2^Nat.log2 (padF n))&&okB n (2^Nat.log2 (padF n)) (lbT.getD n 0) (nuT.getD n 0) (cb (Nat.log2 (padF n))) (513*(4*cb (Nat.log2 (padF n))+10)/512+1) (513*(513*(4*cb (Nat.log2 (padF n))+10)/512+1+15)/512+1) (cn n) (rb (Nat.log2 (padF n))) (rn n)) else true
theorem chkB_all:(List.range 11).all chkB=true:=by decide+kernel
theorem chkN1_all:(List.range 301).all (λn=>bif Nat.beq n 0 then true else chkN1 n)=true:=by decide+kernel
theorem chkN2_all:(List.range 301).all chkN2=true:=by decide+kernel
theorem chkN3_all:(List.range 301).all chkN3=true:=by decide+kernel
theorem chkN4_all:(List.range 301).all chkN4=true:=by decide+kernel
theorem all_at{p:Nat->Bool}{N n:Nat}(h:(List.range N).all p=true)(hn:n<N):p n=true:=List.all_eq_true.1 h n (List.mem_range.2 hn)
theorem bad_cons{kind n r:Int}{kids rest:Fo}{w:Int}{ws:List Int}{b:Bool}(h:(Fo.cons kind n r kids rest).bad (w::ws) b=0):nodeE kind n r kids.len w b=0/\kids.bad (wantsF kind n r) (b||kind==4)=0/\rest.bad ws b=0:=by
 have h':(if nodeE kind n r kids.len w b≠0 then nodeE kind n r kids.len w b else if kids.bad (wantsF kind n r) (b||kind==4)≠0 then kids.bad (wantsF kind n r) (b||kind==4) else rest.bad ws b)=0:=h
 by_cases h1:nodeE kind n r kids.len w b=0
 ·rw[if_neg (by omega)] at h'
  by_cases h2:kids.bad (wantsF kind n r) (b||kind==4)=0
  ·rw[if_neg (by omega)] at h'
   exact⟨h1,h2,h'⟩
  ·rw[if_pos h2] at h'
   exact absurd h' h2
 ·rw[if_pos h1] at h'
  exact absurd h' h1
theorem len_one{fo:Fo}(h:fo.len=1):∃k n r q,fo=.cons k n r q .nil:=by
 rcases fo with _|⟨k,n,r,q,rest⟩
 ·cases h
 ·rcases rest with _|⟨k2,n2,r2,q2,rest⟩
  ·exact⟨k,n,r,q,rfl⟩
  ·have:rest.len+1+1=1:=h
   omega
theorem len_two{fo:Fo}(h:fo.len=2):∃k n r q k2 n2 r2 q2,fo=.cons k n r q (.cons k2 n2 r2 q2 .nil):=by
 rcases fo with _|⟨k,n,r,q,rest⟩
 ·cases h
 ·rcases rest with _|⟨k2,n2,r2,q2,rest⟩
  ·cases h
  ·rcases rest with _|⟨k3,n3,r3,q3,rest⟩
   ·exact⟨k,n,r,q,k2,n2,r2,q2,rfl⟩
   ·have:rest.len+1+1+1=2:=h
    omega
theorem dvd_pow2:∀(k d:Nat),d∣2^k->∃i,i<=k/\d=2^i
 |0,d,h=>⟨0,Nat.le_refl _,by rw[Nat.pow_zero] at*;exact Nat.dvd_one.1 h⟩
 |k+1,d,h=>by
   by_cases h2:d%2=0
   ·obtain⟨e,rfl⟩:∃e,d=2*e:=⟨d/2,by omega⟩
    rw[Nat.pow_succ,Nat.mul_comm (2^k) 2] at h
    obtain⟨i,hi,rfl⟩:=dvd_pow2 k e (Nat.dvd_of_mul_dvd_mul_left (by decide) h)
    exact⟨i+1,by omega,by rw[Nat.pow_succ,Nat.mul_comm]⟩
   ·have hc:Nat.Coprime d 2:=by
      have h3:Nat.gcd d 2∣2:=Nat.gcd_dvd_right d 2
      have h4:Nat.gcd d 2∣d:=Nat.gcd_dvd_left d 2
      have h5:=Nat.le_of_dvd (by decide) h3
      have h6:Nat.gcd d 2≠0:=λe=>by rw[e] at h3;have:=Nat.eq_zero_of_zero_dvd h3;omega
      have h7:Nat.gcd d 2≠2:=λe=>by rw[e] at h4;exact h2 (Nat.mod_eq_zero_of_dvd h4)
      show Nat.gcd d 2=1
      omega
    rw[Nat.pow_succ] at h
    obtain⟨i,hi,e⟩:=dvd_pow2 k d (hc.dvd_of_dvd_mul_right h)
    exact⟨i,by omega,e⟩
theorem ble_le{a b:Nat}(h:Nat.ble a b=true):a<=b:=Nat.le_of_ble_eq_true h
section
variable {T : Type} (F : FL T)
def AllB:Fo->List Nat->Prop
 |.cons kind n r kids rest,k::ks=>GoodN F (2^k) (nodeF F.R pwF kind n.toNat r.toNat kids.sizes (kids.runs F.R pwF)) (cb k) (rb k)/\AllB rest ks
 |_,_=>True
theorem okR_of{r d c0 c1 c R0 R1 R:Nat}(h:okR r c0 c1 c R0 R1 R=true)(r1:1<=r)(d1:1<=d)(n2:r*d<=32768){K0 K1:Tr T}(H0:GoodN F r K0 c0 R0)(H1:GoodN F d K1 c1 R1):GoodN F (r*d) (radixF F.R (r*d) r K0 K1) c R:=by
 unfold okR at h
 simp only[Bool.and_eq_true] at h
 obtain⟨h1,h2,h3,h4,h5,h6,h7⟩:=h
 exact goodN_radix F r1 d1 n2 H0 H1 (ble_le h1) (ble_le h2) (ble_le h3) (ble_le h4) (ble_le h5) (ble_le h6) (ble_le h7)
theorem okL_of{n σ c R:Nat}(h:okL n σ c R=true)(n1:1<=n)(n2:n<=32768):GoodN F n (directF F.R n) c R:=by
 unfold okL at h
 simp only[Bool.and_eq_true] at h
 exact goodN_leaf F n1 n2 (ble_le h.1) (ble_le h.2.1) (ble_le h.2.2)
theorem okS_of{k n c R:Nat}(h:okS k n c R=true)(n2:n<=32768):GoodN F n (splitF F.R n n) c R:=by
 unfold okS at h
 simp only[Bool.and_eq_true] at h
 exact goodN_split F (Nat.eq_of_beq_eq_true h.1) n2 (ble_le h.2.1) (ble_le h.2.2)
theorem blueSide:∀(fo:Fo) (ks:List Nat),fo.bad (ks.map λk=>((2^k:Nat):Int)) true=0->(∀k∈ks,k<=10)->AllB F fo ks
 |.nil,_,_,_=>by unfold AllB;trivial
 |.cons _ _ _ _ _,[],_,_=>by unfold AllB;trivial
 |.cons kind n r kids rest,k::ks,h,hk=>by
   have h:(Fo.cons kind n r kids rest).bad (((2^k:Nat):Int)::ks.map λk=>((2^k:Nat):Int)) true=0:=h
   obtain⟨h1,h2,h3⟩:=bad_cons h
   refine⟨?_,blueSide rest ks h3 λx hx=>hk x (List.mem_cons_of_mem _ hx)⟩
   have hk10:k<=10:=hk k List.mem_cons_self
   have hp:2^k<=2^10:=Nat.pow_le_pow_right (by decide) hk10
   have hp1:1<=2^k:=Nat.pow_pos (by decide)
   have hchk:=all_at chkB_all (n:=k) (by omega)
   unfold chkB at hchk
   simp only[Bool.and_eq_true] at hchk
   obtain⟨q1,q2,q3⟩:=hchk
   obtain⟨a1,a2,a3,rfl,a5,a6,a7⟩:=nodeE_zero h1
   have e:(((2^k:Nat):Int)).toNat=2^k:=Int.toNat_natCast _
   have hb:(true||kind==4)=true:=rfl
   rw[hb] at h2
   rw[e]
   unfold sizeE at a5
   unfold radixB at a7
   have hkind:kind=0\/kind=1\/kind=2\/kind=3:=by
    have:kind≠4:=λe=>by cases a3 e
    omega
   rcases hkind with rfl|rfl|rfl|rfl
   ·rw[if_pos rfl] at a5
    have h32:2^k<=32:=by
     apply Classical.byContradiction
     intro hc
     rw[if_pos (by omega)] at a5
     omega
    rw[show Nat.ble (2^k) 32=true from Nat.ble_eq_true_of_le h32] at q1
    exact okL_of F q1 hp1 (by omega)
   ·rw[if_pos rfl] at a7
    simp only[decide_eq_true_eq] at a7
    obtain⟨r2,r3,r4⟩:=a7
    obtain⟨p,rfl⟩:∃p:Nat,r=p:=⟨r.toNat,by omega⟩
    have hd:p∣2^k:=Nat.dvd_of_mod_eq_zero (by omega)
    obtain⟨i,hi,rfl⟩:=dvd_pow2 k p hd
    have hi0:i≠0:=λe=>by subst e;rw[Nat.pow_zero] at r2;omega
    have hik:i<k:=by
     apply Classical.byContradiction
     intro hc
     have:i=k:=by omega
     subst this
     omega
    have hdiv:((2^k:Nat):Int)/((2^i:Nat):Int)=((2^(k-i):Nat):Int):=by
     rw[<-Int.natCast_ediv,Nat.pow_div (by omega) (by decide)]
    have hw:wantsF 1 ((2^k:Nat):Int) ((2^i:Nat):Int)=[((2^i:Nat):Int),((2^(k-i):Nat):Int)]:=by
     unfold wantsF
     rw[if_pos rfl,if_neg (by omega),hdiv]
    rw[hw] at h2 a6
    obtain⟨k1,n1,r1,s1,k2,n2,r2',s2,rfl⟩:=len_two a6
    have hkids:=blueSide _ [i,k-i] h2 (λx hx=>by
     rcases List.mem_cons.1 hx with rfl|hx
     ·omega
     ·rcases List.mem_cons.1 hx with rfl|hx
      ·omega
      ·cases hx)
    obtain⟨g0,g1,-⟩:=hkids
    have hq:=List.all_eq_true.1 q3 i (List.mem_range.2 hik)
    rw[show Nat.beq i 0=false from Bool.eq_false_iff.2 λe=>hi0 (Nat.eq_of_beq_eq_true e)] at hq
    have hmul:2^i*2^(k-i)=2^k:=by rw[<-Nat.pow_add];congr 1;omega
    have:=okR_of F (d:=2^(k-i)) hq (Nat.pow_pos (by decide)) (Nat.pow_pos (by decide)) (by rw[hmul];omega) g0 g1
    rw[hmul] at this
    exact this
   ·have h4:pow4 (((2^k:Nat):Int)).toNat=true:=by
      rw[if_neg (by decide),if_pos rfl] at a5
      apply Classical.byContradiction
      intro hc
      rw[if_neg hc] at a5
      omega
    rw[e] at h4
    have hk2:2<=k:=by
     apply Classical.byContradiction
     intro hc
     have:k=0\/k=1:=by omega
     rcases this with rfl|rfl
     ·exact absurd h4 (by decide)
     ·exact absurd h4 (by decide)
    rw[show Nat.ble 2 k=true from Nat.ble_eq_true_of_le hk2] at q2
    simp only[cond_true,Bool.and_eq_true] at q2
    exact okS_of F q2.1 (by omega)
   ·rw[if_neg (by decide),if_neg (by decide),if_pos rfl] at a5
    have h4:¬(((2^k:Nat):Int)<3\/primeB (((2^k:Nat):Int)).toNat=false):=λhc=>by
     rw[if_pos hc] at a5
     omega
    rw[e] at h4
    have hk2:2<=k:=by
     apply Classical.byContradiction
     intro hc
     have:k=0\/k=1:=by omega
     rcases this with rfl|rfl
     ·exact h4 (.inl (by decide))
     ·exact h4 (.inl (by decide))
    rw[show Nat.ble 2 k=true from Nat.ble_eq_true_of_le hk2] at q2
    simp only[cond_true,Bool.and_eq_true,Bool.not_eq_true'] at q2
    exact absurd (.inr q2.2) h4
def AllN:Fo->List Nat->Prop
 |.cons kind n r kids rest,w::ws=>GoodN F w (nodeF F.R pwF kind n.toNat r.toNat kids.sizes (kids.runs F.R pwF)) (cn w) (rn w)/\AllN rest ws
 |_,_=>True
theorem plainSide(hpw:∀p,primeB p=true->3<=p->p<=300->Pws p (pwF p))(hbig:((2^200:Nat):RR)<=F.M)(h1t:F.τ<=65536*F.τ)(h2t:65536*F.τ<=F.u)(h3t:1000*(65536*F.τ)<=F.M):
  ∀(fo:Fo) (ws:List Nat),fo.bad (ws.map λk:Nat=>(k:Int)) false=0->(∀k∈ws,1<=k/\k<=300)->AllN (F.up (65536*F.τ) h1t h2t h3t) fo ws
 |.nil,_,_,_=>by unfold AllN;trivial
 |.cons _ _ _ _ _,[],_,_=>by unfold AllN;trivial
 |.cons kind n r kids rest,k::ks,h,hk=>by
   have h:(Fo.cons kind n r kids rest).bad ((k:Int)::ks.map λk:Nat=>(k:Int)) false=0:=h
   obtain⟨h1,h2,h3⟩:=bad_cons h
   refine⟨?_,plainSide hpw hbig h1t h2t h3t rest ks h3 λx hx=>hk x (List.mem_cons_of_mem _ hx)⟩
   obtain⟨hk1,hk2⟩:=hk k List.mem_cons_self
   have c1:=all_at chkN1_all (n:=k) (by omega)
   have c2:=all_at chkN2_all (n:=k) (by omega)
   have c3:=all_at chkN3_all (n:=k) (by omega)
   have c4:=all_at chkN4_all (n:=k) (by omega)
   rw[show Nat.beq k 0=false from Bool.eq_false_iff.2 λe=>by have:=Nat.eq_of_beq_eq_true e;omega] at c1
   simp only[cond_false] at c1
   unfold chkN1 at c1
   unfold chkN2 at c2
   unfold chkN3 at c3
   unfold chkN4 at c4
   simp only[Bool.and_eq_true] at c1
   obtain⟨q1,q2⟩:=c1
   obtain⟨a1,a2,a3,rfl,a5,a6,a7⟩:=nodeE_zero h1
   have e:((k:Nat):Int).toNat=k:=Int.toNat_natCast _
   rw[e]
   unfold sizeE at a5
   unfold radixB at a7
   have hkind:kind=0\/kind=1\/kind=2\/kind=3\/kind=4:=by omega
   rcases hkind with rfl|rfl|rfl|rfl|rfl
   ·rw[if_pos rfl] at a5
    have h32:k<=32:=by
     apply Classical.byContradiction
     intro hc
     rw[if_pos (by omega)] at a5
     omega
    rw[show Nat.ble k 32=true from Nat.ble_eq_true_of_le h32] at q1
    exact okL_of (F.up (65536*F.τ) h1t h2t h3t) q1 hk1 (by omega)
   ·rw[if_pos rfl] at a7
    simp only[decide_eq_true_eq] at a7
    obtain⟨r2,r3,r4⟩:=a7
    obtain⟨p,rfl⟩:∃p:Nat,r=p:=⟨r.toNat,by omega⟩
    have hm:k%p=0:=by omega
    have hmul:p*(k/p)=k:=by have:=Nat.mod_add_div k p;omega
    have hd1:1<=k/p:=by
     apply Classical.byContradiction
     intro hc
     have h0:k/p=0:=Nat.lt_one_iff.1 (Nat.lt_of_not_le hc)
     rw[h0,Nat.mul_zero] at hmul
     omega
    have hdle:k/p<=k:=Nat.div_le_self _ _
    have hw:wantsF 1 (k:Int) (p:Int)=[(p:Int),((k/p:Nat):Int)]:=by
     unfold wantsF
     rw[if_pos rfl,if_neg (show ¬((p:Int)<1) by omega),Int.natCast_ediv]
    rw[hw] at h2 a6
    obtain⟨k1,n1,r1,s1,k2,n2,r2',s2,rfl⟩:=len_two a6
    have hkids:=plainSide hpw hbig h1t h2t h3t _ [p,k/p] h2 (λx hx=>by
     rcases List.mem_cons.1 hx with rfl|hx
     ·omega
     ·rcases List.mem_cons.1 hx with rfl|hx
      ·omega
      ·cases hx)
    obtain⟨g0,g1,-⟩:=hkids
    have hq:=List.all_eq_true.1 c2 p (List.mem_range.2 (by omega))
    rw[show Nat.ble p 1=false from Bool.eq_false_iff.2 λe=>by have:=ble_le e;omega,hm] at hq
    have:=okR_of (F.up (65536*F.τ) h1t h2t h3t) (d:=k/p) hq (by omega) hd1 (by rw[hmul];omega) g0 g1
    rw[hmul] at this
    exact this
   ·have h4:pow4 ((k:Nat):Int).toNat=true:=by
      rw[if_neg (by decide),if_pos rfl] at a5
      apply Classical.byContradiction
      intro hc
      rw[if_neg hc] at a5
      omega
    rw[e] at h4
    rw[h4] at q2
    exact okS_of (F.up (65536*F.τ) h1t h2t h3t) q2 (by omega)
   ·rw[if_neg (by decide),if_neg (by decide),if_pos rfl] at a5
    have h4:¬(((k:Nat):Int)<3\/primeB ((k:Nat):Int).toNat=false):=λhc=>by
     rw[if_pos hc] at a5
     omega
    rw[e] at h4
    have hp:primeB k=true:=by
     cases hh:primeB k
     ·exact absurd (.inr hh) h4
     ·rfl
    have hk3:3<=k:=by
     apply Classical.byContradiction
     intro hc
     exact h4 (.inl (by omega))
    obtain⟨m,rfl⟩:∃m,k=m+1:=⟨k-1,by omega⟩
    have hw:wantsF 3 ((m+1:Nat):Int) r=[((m:Nat):Int)]:=by
     unfold wantsF
     rw[if_neg (by decide),if_pos rfl]
     congr 1
     omega
    rw[hw] at h2 a6
    obtain⟨k1,n1,r1,s1,rfl⟩:=len_one a6
    have hb:(false||(3:Int)==4)=false:=rfl
    rw[hb] at h2
    have hkids:=plainSide hpw hbig h1t h2t h3t _ [m] h2 (λx hx=>by
     rcases List.mem_cons.1 hx with rfl|hx
     ·omega
     ·cases hx)
    obtain⟨g0,-⟩:=hkids
    rw[show(Nat.ble 3 (m+1)&&primeB (m+1))=true by rw[hp,show Nat.ble 3 (m+1)=true from Nat.ble_eq_true_of_le hk3];rfl] at c3
    simp only[cond_true,Nat.add_sub_cancel] at c3
    unfold okA at c3
    simp only[Bool.and_eq_true] at c3
    obtain⟨b1,b2,b3,b4,b5,b6,b7,b8,b9,b10,b11,b12,b13⟩:=c3
    exact goodN_rader (F.up (65536*F.τ) h1t h2t h3t) (by omega) (by omega) (hpw (m+1) hp hk3 (by omega)) g0 (ble_le b1) (ble_le b2) (ble_le b3) (ble_le b4) (ble_le b5) (ble_le b6) (ble_le b7) (ble_le b8) (ble_le b9) (ble_le b10) (ble_le b11) (Std.IsPreorder.le_trans _ _ _ (RR.nat_le (ble_le b12)) hbig) (ble_le b13)
   ·rw[if_neg (by decide),if_neg (by decide),if_neg (by decide),if_pos rfl] at a5
    have h4:¬(((k:Nat):Int)<2\/16384<((k:Nat):Int)):=λhc=>by
     rw[if_pos hc] at a5
     omega
    have hk2':2<=k:=by omega
    rw[show Nat.ble 2 k=true from Nat.ble_eq_true_of_le hk2'] at c4
    simp only[cond_true,Bool.and_eq_true] at c4
    obtain⟨d1,d2,d3⟩:=c4
    obtain⟨j,hj⟩:∃j,Nat.log2 (padF k)=j:=⟨_,rfl⟩
    rw[hj] at d1 d2 d3
    have hpad:=Nat.eq_of_beq_eq_true d2
    have hw:wantsF 4 ((k:Nat):Int) r=[((2^j:Nat):Int)]:=by
     unfold wantsF
     rw[if_neg (by decide),if_neg (by decide),if_pos rfl,e,hpad]
    rw[hw] at h2 a6
    obtain⟨k1,n1,r1,s1,rfl⟩:=len_one a6
    have hb:(false||(4:Int)==4)=true:=rfl
    rw[hb] at h2
    have hkids:=blueSide F _ [j] h2 (λx hx=>by
     rcases List.mem_cons.1 hx with rfl|hx
     ·exact ble_le d1
     ·cases hx)
    obtain⟨g0,-⟩:=hkids
    have hn1:n1=((2^j:Nat):Int):=(nodeE_zero (bad_cons h2).1).2.2.2.1
    unfold okB at d3
    simp only[Bool.and_eq_true] at d3
    obtain⟨b1,b2,b3,b4,b5,b6,b7,b8,b9,b10,b11,b12,b13,b14⟩:=d3
    have:=goodN_blue F (n:=k) hk1 (by omega) (ble_le b1) (ble_le b2) g0 (ble_le b3) (ble_le b4) (ble_le b5) (ble_le b6) (ble_le b7) (ble_le b8) (ble_le b9) (ble_le b10) (ble_le b11) (ble_le b12) (Std.IsPreorder.le_trans _ _ _ (RR.nat_le (ble_le b13)) hbig) (ble_le b14) h1t h2t h3t
    have hs:(Fo.cons k1 n1 r1 s1 .nil).sizes.getD 0 0=2^j:=by
     show n1.toNat=2^j
     rw[hn1]
     exact Int.toNat_natCast _
    show GoodN (F.up (65536*F.τ) h1t h2t h3t) k (blueF F.R k ((Fo.cons k1 n1 r1 s1 .nil).sizes.getD 0 0) (nodeF F.R pwF k1 n1.toNat r1.toNat s1.sizes (s1.runs F.R pwF))) (cn k) (rn k)
    rw[hs]
    exact this
end
end CG
end Go.Proofs.YtmgfaeineklccaaGreat
namespace Go.Proofs.YtmgfaeineklccaaGreat
namespace CG
def chkP(p:Nat):Bool:=bif Nat.ble 3 p&&primeB p then(λg=>Nat.beq (g^(p-1)%p) 1&&(List.range (p-1)).all λk=>bif Nat.beq k 0 then true else !Nat.beq (g^k%p) 1) (rootB p) else true
theorem chkP_all:(List.range 301).all chkP=true:=by decide+kernel
theorem pow_one_mod{g p o:Nat}(p2:2<=p)(h:g^o%p=1)(k:Nat):g^(o*k)%p=1:=by
 induction k with
 |zero=>rw[Nat.mul_zero,Nat.pow_zero,Nat.mod_eq_of_lt (by omega)]
 |succ k ih=>rw[Nat.mul_succ,Nat.pow_add,Nat.mul_mod,ih,h,Nat.mod_eq_of_lt (by omega)]
theorem pws_small(p:Nat)(hp:primeB p=true)(h3:3<=p)(hle:p<=300):Pws p (pwF p):=by
 have hc:chkP p=true:=List.all_eq_true.1 chkP_all p (List.mem_range.2 (by omega))
 unfold chkP at hc
 rw[hp,show Nat.ble 3 p=true from Nat.ble_eq_true_of_le h3] at hc
 simp only[Bool.and_self,cond_true,Bool.and_eq_true] at hc
 obtain⟨h1,h2⟩:=hc
 have one:=Nat.eq_of_beq_eq_true h1
 have least:∀k,1<=k->k<p-1->rootB p^k%p≠1:=λk k1 k2 e=>by
  have:=List.all_eq_true.1 h2 k (List.mem_range.2 k2)
  rw[show Nat.beq k 0=false from Bool.eq_false_iff.2 λe=>by have:=Nat.eq_of_beq_eq_true e;omega,e] at this
  cases this
 have inj:∀k l,k<=l->l<p-1->rootB p^k%p=rootB p^l%p->k=l:=λk l hkl hl e=>by
  apply Classical.byContradiction
  intro hne
  have h4:rootB p^(k+(p-1-l))%p=1:=by
   rw[Nat.pow_add,Nat.mul_mod,e,<-Nat.mul_mod,<-Nat.pow_add,Nat.add_sub_cancel' (by omega)]
   exact one
  exact least (k+(p-1-l)) (by omega) (by omega) h4
 refine⟨λk hk=>?_,λk hk=>?_,λk l hk hl e=>?_,λk l hk hl=>?_⟩
 ·unfold pwF pmod
  apply Classical.byContradiction
  intro hn
  have h0:rootB p^k%p=0:=by omega
  have h4:=pow_one_mod (by omega) one k
  obtain⟨o,ho⟩:∃o,p-1=o+1:=⟨p-2,by omega⟩
  rw[ho,Nat.add_mul,Nat.one_mul,Nat.pow_add,Nat.mul_mod,h0,Nat.mul_zero,Nat.zero_mod] at h4
  omega
 ·exact Nat.mod_lt _ (by omega)
 ·unfold pwF pmod at e
  rcases Nat.le_total k l with h|h
  ·exact inj k l h hl e
  ·exact(inj l k h hk e.symm).symm
 ·unfold pwF pmod
  rw[Nat.mod_mod,<-Nat.mul_mod,<-Nat.pow_add]
  have h:=Nat.mod_add_div (k+l) (p-1)
  have:rootB p^(k+l)=rootB p^((k+l)%(p-1)+(p-1)*((k+l)/(p-1))):=by rw[h]
  rw[this,Nat.pow_add,Nat.mul_mod,pow_one_mod (by omega) one,Nat.mul_one,Nat.mod_mod]
end CG
end Go.Proofs.YtmgfaeineklccaaGreat
