/- Definitions and lemmas for the law TopEffect: what the program's functions come to. Conditions: as each lemma says. -/
import Derived.Test.YtbbnmhmfdbcmhaaGreatDoorF2
import Derived.Test.YtbbnmhmfdbcmhaaGreatDoorProg
set_option linter.all false
set_option linter.unusedVariables false
set_option linter.unusedSimpArgs false
set_option linter.deprecated false
namespace Go.Eng.Top
open Go.Proofs Go.Eng
abbrev qB:K:=(.slice (.int .u8))
abbrev qI:K:=(.int .i64)
abbrev aK:K:=(.strct (.prod qI qI))
abbrev ao:K:=(.strct (.prod qB .bool))
abbrev af:K:=(.strct (.prod qI (.prod qI qI)))
abbrev aq:K:=(.strct (.prod qI (.prod qI (.prod qI (.prod qI (.prod qI (.prod qI qI)))))))
abbrev ak:K:=(.strct (.prod qI (.prod qI (.prod qI (.prod qI (.prod qI (.prod qI (.prod qI qI))))))))
abbrev pL:K:=(.strct (.prod aq aK))
abbrev aH:K:=(.strct (.prod qI (.prod aq (.prod qI .bool))))
abbrev aW:K:=(.strct (.prod aq (.prod aK .bool)))
abbrev bn:K:=(.strct (.prod aq (.prod qI (.prod qI (.prod qI qI)))))
abbrev aD:K:=(.strct (.prod (.slice af) (.prod (.slice ak) (.prod (.slice bn) (.prod (.slice aW) qI)))))
abbrev aE:K:=(.strct aD)
def aOwn:Nat->List Bool:=λf=>match f with
 |14=>[true]
 |22=>[true]
 |29=>[true]
 |37=>[true]
 |67=>[true]
 |96=>[true]
 |113=>[true]
 |151=>[true]
 |157=>[true,false]
 |_=>[]
def aMv:Nat->List Bool:=λf=>match f with
 |96=>[true,false]
 |_=>[]
def Ns:Nat->List Nat:=λf=>match f with
 |22=>[3]
 |27=>[3]
 |29=>[1]
 |34=>[5]
 |37=>[1]
 |39=>[10]
 |48=>[3]
 |53=>[5]
 |67=>[3]
 |80=>[3]
 |83=>[6]
 |112=>[3]
 |113=>[4]
 |162=>[7]
 |_=>[]
def Nt:Nat->List Nat:=λf=>match f with
 |6=>[13]
 |9=>[2]
 |14=>[2]
 |16=>[5]
 |20=>[8]
 |22=>[2]
 |27=>[2]
 |29=>[0]
 |33=>[2]
 |37=>[0]
 |39=>[9]
 |48=>[2]
 |53=>[4]
 |56=>[4]
 |59=>[6]
 |66=>[2]
 |67=>[2]
 |68=>[2]
 |70=>[2]
 |79=>[2]
 |80=>[2]
 |83=>[2]
 |96=>[4]
 |97=>[2]
 |98=>[2]
 |104=>[4]
 |110=>[2]
 |111=>[3]
 |112=>[2]
 |113=>[2]
 |133=>[6]
 |136=>[6]
 |137=>[6]
 |146=>[3]
 |147=>[3]
 |151=>[2]
 |157=>[6]
 |158=>[4]
 |162=>[4,5]
 |_=>[]
def Nu:Nat->Nat->List Nat:=λf b=>match f,b with
 |3,0=>[4,5,21,22,23,1050240,1050241,1050242,1050243,1050244,1050245,1050246,1050251,1050432,1050433,1050434,1050435,1050496,1050497,1054912,1054913,1054914,1054915,1054916,1062592,1062593]
 |5,0=>[6,53,54,55,1050240,1050241,1050242,1050243,1050244,1050245,1050246,1050251,1050432,1050433,1050434,1050435,1050496,1050497,1054912,1054913,1054914,1054915,1054916,1062592,1062593]
 |6,0=>[1,5,6,1050240,1050241,1050242,1050243,1050244,1050245,1050246,1050251,1050432,1050433,1050434,1050435,1050496,1050497,1054912,1054913,1054914,1054915,1054916,1062592,1062593]
 |6,2=>[8,9,55,56,57,1050240,1050241,1050242,1050243,1050244,1050245,1050246,1050251,1050432,1050433,1050434,1050435,1050496,1050497,1054912,1054913,1054914,1054915,1054916,1062592,1062593]
 |6,5=>[8,9,55,56,57,158,159,160,1050240,1050241,1050242,1050243,1050244,1050245,1050246,1050251,1050432,1050433,1050434,1050435,1050496,1050497,1054912,1054913,1054914,1054915,1054916,1062592,1062593]
 |6,7=>[9,176,177,178,1050240,1050241,1050242,1050243,1050244,1050245,1050246,1050251,1050432,1050433,1050434,1050435,1050496,1050497,1054912,1054913,1054914,1054915,1054916,1062592,1062593]
 |13,0=>[0,5,11,12,13,1050240,1050241,1050242,1050243,1050244,1050245,1050246,1050251,1050432,1050433,1050434,1050435,1050496,1050497,1054912,1054913,1054914,1054915,1054916,1062592,1062593]
 |22,0=>[0,3,4]
 |25,0=>[1,2,17,18,19]
 |27,0=>[0,3]
 |29,0=>[1,2]
 |29,2=>[1,3]
 |34,0=>[0,1,5,18,19,20,1050432,1050433,1050434,1050435,1054912,1054913,1054915,1054916,1062592,1062593]
 |34,2=>[0,47,48,49,1050432,1050433,1050434,1050435,1054912,1054913,1054915,1054916,1062592,1062593]
 |37,0=>[1,3]
 |37,2=>[1,2,3,6]
 |38,0=>[1,7,8,9]
 |39,0=>[1,2,3,4,8,10,11]
 |40,0=>[3,7,8,9]
 |46,0=>[0,6,42,43,44,1050432,1050434,1050435,1050496,1050497,1054912,1054913,1054914,1054915,1054916,1062592,1062593]
 |48,0=>[3,7,8,9]
 |52,0=>[0,43,44,45,1050240,1050241,1050243,1050244,1050245,1050246,1050251,1050432,1050434,1050435,1050496,1050497,1054912,1054913,1054914,1054915,1054916,1062592,1062593]
 |53,0=>[0,1,5,9,10,11]
 |66,0=>[1,3,20,21,22]
 |66,2=>[1,3,43,44,45]
 |66,4=>[1,3,76,77,78]
 |66,6=>[3,106,107,108]
 |67,0=>[3,6,7,8]
 |76,0=>[0,4,67,68,69,1050432,1050434,1050435,1054912,1054913,1054914,1054915,1054916,1062592,1062593]
 |78,0=>[2,4,5,15,16,28]
 |78,2=>[2,4,5,28,32,33,68]
 |78,4=>[2,4,5,28,68,72,73,102]
 |78,6=>[2,4,5,28,68,102,106,107,120]
 |80,0=>[0,3,9,10,11,1054915]
 |82,0=>[0,1,12,1050432,1050434,1050435,1062592,1062593]
 |83,0=>[3,9,10,11]
 |83,2=>[3,6]
 |94,0=>[1,8,9,10]
 |96,0=>[0,5]
 |99,0=>[3,6,7,8]
 |111,0=>[0,5,6]
 |112,0=>[0,3,9,1050432]
 |113,0=>[0,4,5]
 |120,0=>[13,14,15]
 |132,0=>[0,7,8,9]
 |138,0=>[0,10]
 |139,0=>[0,3,10,1050432,1062592]
 |158,0=>[6,20,21,22]
 |158,2=>[6,48,49,50]
 |162,0=>[0,1,7]
 |164,0=>[0,5,13,14,15]
 |_,_=>[]
def aCut:Nat->Nat->Option (List Nat):=λf b=>match f,b with
 |4,7=>some [2,3,9,10,1050240,1050241,1050242,1050243,1050244,1050245,1050246,1050251,1050432,1050433,1050434,1050435,1050496,1050497,1054912,1054913,1054914,1054915,1054916,1062592,1062593]
 |5,6=>some [5,1050240,1050241,1050242,1050243,1050244,1050245,1050246,1050251,1050432,1050433,1050434,1050435,1050496,1050497,1054912,1054913,1054914,1054915,1054916,1062592,1062593]
 |5,18=>some [6,10,53,54,55,1050240,1050241,1050242,1050243,1050244,1050245,1050246,1050251,1050432,1050433,1050434,1050435,1050496,1050497,1054912,1054913,1054914,1054915,1054916,1062592,1062593]
 |6,17=>some [8,9,12,55,56,57,1050240,1050241,1050242,1050243,1050244,1050245,1050246,1050251,1050432,1050433,1050434,1050435,1050496,1050497,1054912,1054913,1054914,1054915,1054916,1062592,1062593]
 |6,28=>some [8,9,13,55,56,57,1050240,1050241,1050242,1050243,1050244,1050245,1050246,1050251,1050432,1050433,1050434,1050435,1050496,1050497,1054912,1054913,1054914,1054915,1054916,1062592,1062593]
 |8,4=>some [1,1050240,1050241,1050242,1050243,1050244,1050245,1050246,1050251,1050432,1050433,1050434,1050435,1050496,1050497,1054912,1054913,1054914,1054915,1054916,1062592,1062593]
 |15,12=>some [0,4,5,6,8,1050432,1050433,1050434,1050435,1050496,1050497,1054912,1054913,1054914,1054915,1054916,1062592,1062593]
 |20,9=>some [0,1,2,3]
 |20,15=>some [1,2,3,14,15,16,17]
 |39,5=>some [1,2,3,4,8,10,11]
 |39,8=>some [1,2,3,4,8,10,11,12,13]
 |39,10=>some [1,2,3,4,8,10,11,12,13]
 |39,12=>some [1,2,3,4,8,10,11,12,13]
 |46,10=>some [0,4,6,1050432,1050434,1050435,1050496,1050497,1054912,1054913,1054914,1054915,1054916,1062592,1062593]
 |55,3=>some [1]
 |55,5=>some [1]
 |63,9=>some [0,4,5]
 |64,16=>some [0,4,5,6]
 |76,7=>some [0,4,7,1050432,1050434,1050435,1054912,1054913,1054914,1054915,1054916,1062592,1062593]
 |76,10=>some [0,4,10,11,1050432,1050434,1050435,1054912,1054913,1054914,1054915,1054916,1062592,1062593]
 |76,11=>some [0,4,1050432,1050434,1050435,1054912,1054913,1054914,1054915,1054916,1062592,1062593]
 |81,9=>some [2,4,5]
 |82,7=>some [0,1,5,7,12,1050432,1050434,1050435,1062592,1062593]
 |96,7=>some [0,5]
 |100,10=>some [0,2,7,8,1050432,1050433,1050434,1050435,1062592,1062593]
 |110,6=>some [0,5]
 |111,5=>some [0,5,6]
 |111,7=>some [0,5,6,7]
 |111,10=>some [0,5,6]
 |114,10=>some [0,2,7,1050432,1050434,1050435,1062592,1062593]
 |118,3=>some [1]
 |120,3=>some [0]
 |120,8=>some [3,4,13,14,15]
 |127,7=>some [0,3,4]
 |131,12=>some [0,3,4,6,8]
 |140,3=>some [0,1050434,1050435]
 |147,4=>some [2,5,6]
 |153,3=>some [0,3,4,5]
 |163,6=>some [2,3,6,8]
 |164,8=>some [0,5,7,13,14,15]
 |164,11=>some [0,5,7,10,13,14,15]
 |_,_=>none
def Nv:Nat->List Nat:=λf=>match f with
 |3=>[1050240,1050241,1050242,1050243,1050244,1050245,1050246,1050251,1050432,1050433,1050434,1050435,1050496,1050497,1054912,1054913,1054914,1054915,1054916,1062592,1062593]
 |4=>[1050240,1050241,1050242,1050243,1050244,1050245,1050246,1050251,1050432,1050433,1050434,1050435,1050496,1050497,1054912,1054913,1054914,1054915,1054916,1062592,1062593]
 |5=>[1050240,1050241,1050242,1050243,1050244,1050245,1050246,1050251,1050432,1050433,1050434,1050435,1050496,1050497,1054912,1054913,1054914,1054915,1054916,1062592,1062593]
 |6=>[1050240,1050241,1050242,1050243,1050244,1050245,1050246,1050251,1050432,1050433,1050434,1050435,1050496,1050497,1054912,1054913,1054914,1054915,1054916,1062592,1062593]
 |8=>[1050240,1050241,1050242,1050243,1050244,1050245,1050246,1050251,1050432,1050433,1050434,1050435,1050496,1050497,1054912,1054913,1054914,1054915,1054916,1062592,1062593]
 |12=>[1050497]
 |13=>[1050240,1050241,1050242,1050243,1050244,1050245,1050246,1050251,1050432,1050433,1050434,1050435,1050496,1050497,1054912,1054913,1054914,1054915,1054916,1062592,1062593]
 |15=>[1050432,1050433,1050434,1050435,1050496,1050497,1054912,1054913,1054914,1054915,1054916,1062592,1062593]
 |23=>[1050240,1050241,1050242,1050243,1050244,1050245,1050246,1050251,1050432,1050433,1050434,1050435,1050496,1050497,1054912,1054913,1054914,1054915,1054916,1062592,1062593]
 |24=>[1050240,1050241,1050242,1050243,1050244,1050245,1050246,1050251,1050432,1050433,1050434,1050435,1050496,1050497,1054912,1054913,1054914,1054915,1054916,1062592,1062593]
 |30=>[1054916]
 |34=>[1050432,1050433,1050434,1050435,1054912,1054913,1054915,1054916,1062592,1062593]
 |35=>[1050432,1050433,1050434,1050435,1050496,1050497,1054912,1054913,1054914,1054915,1054916,1062592,1062593]
 |45=>[1050432,1050433,1050434,1050435]
 |46=>[1050432,1050434,1050435,1050496,1050497,1054912,1054913,1054914,1054915,1054916,1062592,1062593]
 |47=>[1050241,1050242,1050243,1050246,1050251,1050432,1050433,1050434,1050435,1050496,1050497,1054912,1054913,1054914,1054915,1054916,1062592,1062593]
 |49=>[1050241,1050243,1050246,1050251,1050432,1050433,1050434,1050435,1050496,1050497,1054912,1054913,1054914,1054915,1054916,1062592,1062593]
 |50=>[1050434]
 |51=>[1050435]
 |52=>[1050240,1050241,1050243,1050244,1050245,1050246,1050251,1050432,1050434,1050435,1050496,1050497,1054912,1054913,1054914,1054915,1054916,1062592,1062593]
 |71=>[1050432,1050433,1050434,1050435,1054912,1054916,1062592,1062593]
 |72=>[1050432,1050433,1050434,1050435,1054912,1054913,1054914,1054915,1054916,1062592,1062593]
 |76=>[1050432,1050434,1050435,1054912,1054913,1054914,1054915,1054916,1062592,1062593]
 |77=>[1054913]
 |79=>[1054914]
 |80=>[1054915]
 |82=>[1050432,1050434,1050435,1062592,1062593]
 |100=>[1050432,1050433,1050434,1050435,1062592,1062593]
 |101=>[1054916]
 |102=>[1050432,1050434,1050435,1062592,1062593]
 |103=>[1050432,1050434,1050435]
 |104=>[1050432,1062592]
 |105=>[1050432,1050434,1050435]
 |112=>[1050432]
 |114=>[1050432,1050434,1050435,1062592,1062593]
 |139=>[1050432,1062592]
 |140=>[1050434,1050435]
 |_=>[]
def aMan:Nat->List (Nat×Mode×K):=λf=>match f with
 |26=>[(0,.dat,(.ref 29)),(1,.dat,(.ref 30)),(2,.own,(.slice pL)),(3,.own,(.slice aH)),(4,.dat,qI),(5,.dat,.err),(6,.dat,aD),(11,.own,(.slice aH))]
 |29=>[(0,.mp,(.slice (.prod qI (.ref 219)))),(1,.dat,qI),(2,.dat,qI),(3,.dat,.bool)]
 |30=>[(0,.dat,(.ref 99)),(1,.dat,aD)]
 |99=>[(0,.dat,(.ref 29)),(1,.dat,qI),(2,.dat,qB),(3,.own,(.slice qB)),(4,.dat,.bool)]
 |219=>[(0,.own,qB),(1,.dat,qI)]
 |_=>[]
def Nr:Nat->Nat:=λf=>match f with
 |63=>141
 |64=>141
 |65=>141
 |_=>0
def A:Ann:=⟨46,aOwn,aMv,Ns,Nu,Nt,aCut,Nv,aMan,Nr⟩
abbrev Ca (x:List (K.T (.ref 29))):AV:=.val false [.co 1050240 26 0 .dat (.ref 29) x]
abbrev Cb (x:List (K.T (.ref 30))):AV:=.val false [.co 1050241 26 1 .dat (.ref 30) x]
abbrev Cc (x:List (K.T (.slice pL))):AV:=.val false [.co 1050242 26 2 .own (.slice pL) x]
abbrev Cd (x:List (K.T (.slice aH))):AV:=.val false [.co 1050243 26 3 .own (.slice aH) x]
abbrev Ce (x:List (K.T qI)):AV:=.val false [.co 1050244 26 4 .dat qI x]
abbrev Cf (x:List (K.T .err)):AV:=.val false [.co 1050245 26 5 .dat .err x]
abbrev Cg (x:List (K.T aD)):AV:=.val false [.co 1050246 26 6 .dat aD x]
abbrev Ch (x:List (K.T (.slice aH))):AV:=.val false [.co 1050251 26 11 .own (.slice aH) x]
abbrev Cm (x:List (K.T (.ref 99))):AV:=.val false [.co 1050496 30 0 .dat (.ref 99) x]
abbrev Cn (x:List (K.T aD)):AV:=.val false [.co 1050497 30 1 .dat aD x]
abbrev Co (x:List (K.T (.ref 29))):AV:=.val false [.co 1054912 99 0 .dat (.ref 29) x]
abbrev Cp (x:List (K.T qI)):AV:=.val false [.co 1054913 99 1 .dat qI x]
abbrev Cq (x:List (K.T qB)):AV:=.val false [.co 1054914 99 2 .dat qB x]
abbrev Cr (x:List (K.T (.slice qB))):AV:=.val false [.co 1054915 99 3 .own (.slice qB) x]
abbrev Cs (x:List (K.T .bool)):AV:=.val false [.co 1054916 99 4 .dat .bool x]
abbrev Ci (x:List (K.T (.slice (.prod qI (.ref 219))))):AV:=.val false [.co 1050432 29 0 .mp (.slice (.prod qI (.ref 219))) x]
abbrev Cj (x:List (K.T qI)):AV:=.val false [.co 1050433 29 1 .dat qI x]
abbrev Ck (x:List (K.T qI)):AV:=.val false [.co 1050434 29 2 .dat qI x]
abbrev Cl (x:List (K.T .bool)):AV:=.val false [.co 1050435 29 3 .dat .bool x]
abbrev Ct (x:List (K.T qB)):AV:=.val false [.co 1062592 219 0 .own qB x]
abbrev Cu (x:List (K.T qI)):AV:=.val false [.co 1062593 219 1 .dat qI x]
abbrev X:Hj:=(XTox 36 83 139 112 82 114)
noncomputable abbrev CF:Nat->ic:=D8 Tryz.prog A X
set_option maxRecDepth 1000000
set_option maxHeartbeats 0
abbrev ah:Type:=(Int)×Int
abbrev aw:Type:=(List (Int))×Bool
abbrev bu:Type:=(Int)×(Int)×Int
abbrev ae:Type:=(Int)×(Int)×(Int)×(Int)×(Int)×(Int)×Int
abbrev ag:Type:=(Int)×(Int)×(Int)×(Int)×(Int)×(Int)×(Int)×Int
abbrev dN:Type:=(ae)×ah
abbrev au:Type:=(Int)×(ae)×(Int)×Bool
abbrev aI:Type:=(ae)×(ah)×Bool
abbrev aZ:Type:=(ae)×(Int)×(Int)×(Int)×Int
abbrev ab:Type:=(List (bu))×(List (ag))×(List (aZ))×(List (aI))×Int
abbrev aA:Type:=ab
abbrev S1:Sig:=⟨[(false,(.ref 26))],[(.slice (.ref 29)),(.slice (.ref 30)),(.slice (.slice pL)),(.slice (.slice aH)),(.slice qI),(.slice .err),(.slice aD),(.slice (.slice aH)),(.slice (.slice (.prod qI (.ref 219)))),(.slice qI),(.slice qI),(.slice .bool),(.slice (.ref 99)),(.slice aD),(.slice (.ref 29)),(.slice qI),(.slice qB),(.slice (.slice qB)),(.slice .bool),(.slice qB),(.slice qI)]⟩
abbrev S2:Sig:=⟨[(false,.bool)],[(.slice (.ref 29)),(.slice (.ref 30)),(.slice (.slice pL)),(.slice (.slice aH)),(.slice qI),(.slice .err),(.slice aD),(.slice (.slice aH)),(.slice (.slice (.prod qI (.ref 219)))),(.slice qI),(.slice qI),(.slice .bool),(.slice (.ref 99)),(.slice aD),(.slice (.ref 29)),(.slice qI),(.slice qB),(.slice (.slice qB)),(.slice .bool),(.slice qB),(.slice qI)]⟩
abbrev S3:Sig:=⟨[(false,aK)],[(.slice (.ref 30)),(.slice (.slice aH)),(.slice aD),(.slice (.slice aH)),(.slice (.slice (.prod qI (.ref 219)))),(.slice qI),(.slice qI),(.slice .bool),(.slice (.ref 99)),(.slice aD),(.slice (.ref 29)),(.slice qI),(.slice qB),(.slice (.slice qB)),(.slice .bool),(.slice qB),(.slice qI)]⟩
abbrev S4:Sig:=⟨[(false,aK)],[(.slice (.slice (.prod qI (.ref 219)))),(.slice qI),(.slice qI),(.slice .bool),(.slice (.ref 99)),(.slice aD),(.slice (.ref 29)),(.slice qI),(.slice qB),(.slice (.slice qB)),(.slice .bool),(.slice qB),(.slice qI)]⟩
abbrev S5:Sig:=⟨[(false,.err)],[(.slice (.slice (.prod qI (.ref 219)))),(.slice qI),(.slice qI),(.slice .bool),(.slice (.ref 99)),(.slice aD),(.slice (.ref 29)),(.slice qI),(.slice qB),(.slice (.slice qB)),(.slice .bool),(.slice qB),(.slice qI)]⟩
abbrev S6:Sig:=⟨[(false,(.ref 30)),(false,.err)],[(.slice (.slice (.prod qI (.ref 219)))),(.slice qI),(.slice .bool),(.slice (.ref 99)),(.slice aD),(.slice (.ref 29)),(.slice qI),(.slice qB),(.slice (.slice qB)),(.slice .bool),(.slice qB),(.slice qI)]⟩
abbrev S7:Sig:=⟨[(false,.err)],[(.slice (.slice (.prod qI (.ref 219)))),(.slice qI),(.slice qI),(.slice .bool),(.slice (.ref 29)),(.slice qI),(.slice qB),(.slice (.slice qB)),(.slice .bool),(.slice qB),(.slice qI)]⟩
abbrev S8:Sig:=⟨[(false,(.ref 99)),(false,.err)],[(.slice (.slice (.prod qI (.ref 219)))),(.slice qI),(.slice .bool),(.slice (.ref 29)),(.slice qI),(.slice qB),(.slice (.slice qB)),(.slice .bool),(.slice qB),(.slice qI)]⟩
abbrev S9:Sig:=⟨[(false,.err)],[(.slice (.slice (.prod qI (.ref 219)))),(.slice qI),(.slice qI),(.slice .bool),(.slice (.ref 29)),(.slice qI),(.slice (.slice qB)),(.slice .bool),(.slice qB),(.slice qI)]⟩
abbrev S10:Sig:=⟨[(false,.err)],[(.slice (.slice (.prod qI (.ref 219)))),(.slice qI),(.slice qI),(.slice .bool),(.slice (.ref 29)),(.slice .bool),(.slice qB),(.slice qI)]⟩
abbrev S11:Sig:=⟨[(false,.err)],[(.slice (.slice (.prod qI (.ref 219)))),(.slice qI),(.slice qI),(.slice .bool),(.slice qB),(.slice qI)]⟩
abbrev S12:Sig:=⟨[(false,(.strct (.prod (.strct (.prod aK (.prod aK aK))) (.prod (.strct (.prod aK (.prod aK aK))) (.strct (.prod aK (.prod aK aK)))))))],[]⟩
abbrev S13:Sig:=⟨[(false,.err)],[(.slice (.slice (.prod qI (.ref 219)))),(.slice qI),(.slice .bool),(.slice qB),(.slice qI)]⟩
abbrev S14:Sig:=⟨[(false,(.ref 29))],[(.slice (.slice (.prod qI (.ref 219)))),(.slice qI),(.slice qI),(.slice .bool)]⟩
abbrev S15:Sig:=⟨[(false,qB),(false,.bool)],[(.slice (.slice (.prod qI (.ref 219)))),(.slice qB)]⟩
abbrev S16:Sig:=⟨[(false,.err)],[(.slice (.slice (.prod qI (.ref 219)))),(.slice qI),(.slice .bool)]⟩
abbrev S17:Sig:=⟨[(false,qI)],[(.slice (.slice (.prod qI (.ref 219)))),(.slice qB)]⟩
abbrev S18:Sig:=⟨[(false,(.slice qI))],[(.slice (.slice (.prod qI (.ref 219))))]⟩
abbrev S19:Sig:=⟨[(false,(.slice qI)),(false,qB),(false,.bool)],[]⟩
abbrev S20:Sig:=⟨[(false,(.slice qB))],[(.slice (.slice qB))]⟩
abbrev S21:Sig:=⟨[(false,qB),(false,qI),(false,.bool)],[]⟩
abbrev S22:Sig:=⟨[(false,qI),(false,qB),(false,.bool)],[]⟩
abbrev S23:Sig:=⟨[(false,aq),(false,qB),(false,.bool)],[]⟩
abbrev S24:Sig:=⟨[(false,aK),(false,qB),(false,.bool)],[]⟩
abbrev S25:Sig:=⟨[(false,ak),(false,ak),(false,.err)],[aE]⟩
abbrev S26:Sig:=⟨[(true,(.slice qB)),(false,qI)],[]⟩
abbrev S27:Sig:=⟨[(false,qI),(false,qI),(false,.err)],[]⟩
abbrev S28:Sig:=⟨[(false,qB)],[(.slice qB)]⟩
abbrev S30:Sig:=⟨[(false,.bool)],[(.slice qI),(.slice .bool)]⟩
abbrev S31:Sig:=⟨[(true,(.slice aK)),(false,.err)],[aE]⟩
abbrev S32:Sig:=⟨[(false,qB),(false,.bool)],[]⟩
abbrev S33:Sig:=⟨[(false,(.slice af)),(false,.err)],[]⟩
abbrev S34:Sig:=⟨[(false,qI)],[(.slice qI)]⟩
abbrev S35:Sig:=⟨[(false,(.slice aW)),(false,.err)],[]⟩
abbrev S36:Sig:=⟨[(false,(.slice aK)),(false,.err)],[]⟩
abbrev S37:Sig:=⟨[(false,qI),(false,.bool)],[]⟩
abbrev S38:Sig:=⟨[(false,qI),(false,.err)],[]⟩
abbrev S39:Sig:=⟨[(false,ak),(false,.bool)],[]⟩
abbrev S40:Sig:=⟨[(false,aD),(false,aK)],[]⟩
abbrev S41:Sig:=⟨[(false,ak),(false,.err)],[]⟩
abbrev S42:Sig:=⟨[(false,aK),(false,.bool)],[]⟩
abbrev S43:Sig:=⟨[(false,aH),(false,.bool)],[]⟩
abbrev S44:Sig:=⟨[(false,aD),(false,.bool)],[]⟩
abbrev S45:Sig:=⟨[(false,aD),(false,.err)],[]⟩
abbrev S46:Sig:=⟨[(false,aD)],[(.slice aD)]⟩
abbrev S47:Sig:=⟨[(false,(.slice qI))],[]⟩
abbrev S48:Sig:=⟨[(false,.bool)],[(.slice .bool)]⟩
abbrev S49:Sig:=⟨[(false,qB)],[]⟩
abbrev S50:Sig:=⟨[(false,.err)],[(.slice .bool)]⟩
abbrev S51:Sig:=⟨[(false,qI)],[ao]⟩
abbrev S52:Sig:=⟨[(true,qB)],[]⟩
abbrev S53:Sig:=⟨[(true,(.slice af))],[]⟩
abbrev S54:Sig:=⟨[(false,aq)],[ao]⟩
abbrev S55:Sig:=⟨[(false,(.slice aH))],[]⟩
abbrev S56:Sig:=⟨[(false,aK)],[aE]⟩
abbrev S57:Sig:=⟨[(true,(.slice aK))],[]⟩
abbrev S58:Sig:=⟨[(false,aK)],[ao]⟩
abbrev S59:Sig:=⟨[(false,.bool)],[aE]⟩
abbrev S60:Sig:=⟨[(false,qI)],[]⟩
abbrev S61:Sig:=⟨[(false,(.int .u32))],[]⟩
abbrev YF:Type:=List (List ((Int)×Option Nat))
abbrev YR:Type:=List (List (List (Int)))
abbrev YE:Type:=List (List (au))
abbrev YS:Type:=List (List (dN))
abbrev YB:Type:=List (List (Int))
abbrev YO:Type:=List (Option Nat)
abbrev YI:Type:=List (Option Int)
abbrev YT:Type:=List (ab)
abbrev YL:Type:=List (Bool)
abbrev YN:Type:=List (Int)
abbrev YA:Type:=List (bu)
abbrev YP:Type:=List (ag)
abbrev YG:Type:=List (aZ)
abbrev YK:Type:=List (aI)
abbrev Z0:Sig:=⟨[(false,.bool)],[]⟩
abbrev Z1:Sig:=⟨[],[(.slice (.ref 29)),(.slice (.ref 30)),(.slice (.slice aH)),(.slice qI),(.slice .err),(.slice aD),(.slice (.slice aH)),(.slice (.slice (.prod qI (.ref 219)))),(.slice qI),(.slice .bool),(.slice (.ref 99)),(.slice aD),(.slice (.ref 29)),(.slice qI),(.slice qB),(.slice (.slice qB)),(.slice .bool),(.slice qB),(.slice qI)]⟩
abbrev Z2:Sig:=⟨[(false,aK)],[]⟩
abbrev Z3:Sig:=⟨[(false,bn)],[]⟩
abbrev Z4:Sig:=⟨[(false,aD)],[]⟩
abbrev Z5:Sig:=⟨[(false,.fn)],[]⟩
abbrev Z6:Sig:=⟨[],[(.slice (.ref 30)),(.slice (.slice pL)),(.slice (.slice aH)),(.slice aD),(.slice (.slice aH)),(.slice (.slice (.prod qI (.ref 219)))),(.slice qI),(.slice qI),(.slice .bool),(.slice (.ref 99)),(.slice aD),(.slice (.ref 29)),(.slice qI),(.slice qB),(.slice (.slice qB)),(.slice .bool),(.slice qB),(.slice qI)]⟩
abbrev Z7:Sig:=⟨[],[(.slice (.ref 29)),(.slice (.ref 30)),(.slice (.slice pL)),(.slice (.slice aH)),(.slice qI),(.slice .err),(.slice aD),(.slice (.slice aH)),(.slice (.slice (.prod qI (.ref 219)))),(.slice qI),(.slice qI),(.slice .bool),(.slice (.ref 99)),(.slice aD),(.slice (.ref 29)),(.slice qI),(.slice qB),(.slice (.slice qB)),(.slice .bool),(.slice qB),(.slice qI)]⟩
abbrev R1:Type:=(Option Nat)×YO×YO×YS×YE×YN×YI×YT×YE×YF×YN×YN×YL×YO×YT×YO×YN×YB×YR×YL×YB×YN
abbrev R2:Type:=Bool×YO×YO×YS×YE×YN×YI×YT×YE×YF×YN×YN×YL×YO×YT×YO×YN×YB×YR×YL×YB×YN
abbrev R3:Type:=YO×YO×YS×YE×YN×YI×YT×YE×YF×YN×YN×YL×YO×YT×YO×YN×YB×YR×YL×YB×YN
abbrev R4:Type:=YO×YO×YE×YN×YI×YT×YE×YF×YN×YL×YO×YT×YO×YN×YB×YR×YL×YB×YN
abbrev R5:Type:=YO×YS×YE×YT×YE×YF×YN×YN×YL×YO×YT×YO×YN×YB×YR×YL×YB×YN
abbrev R6:Type:=ah×YO×YE×YT×YE×YF×YN×YN×YL×YO×YT×YO×YN×YB×YR×YL×YB×YN
abbrev R7:Type:=(Option Nat)×(Option Int)×YF×YN×YL×YO×YT×YO×YN×YB×YR×YL×YB×YN
abbrev R8:Type:=(Option Int)×YF×YN×YN×YL×YO×YT×YO×YN×YB×YR×YL×YB×YN
abbrev R9:Type:=ah×YF×YN×YN×YL×YO×YT×YO×YN×YB×YR×YL×YB×YN
abbrev R10:Type:=(Option Nat)×(Option Int)×YF×YN×YL×YO×YN×YB×YR×YL×YB×YN
abbrev R11:Type:=(Option Int)×YF×YN×YN×YL×YO×YN×YB×YR×YL×YB×YN
abbrev R12:Type:=(Option Int)×YF×YN×YN×YL×YO×YN×YR×YL×YB×YN
abbrev R13:Type:=(Option Int)×YF×YN×YN×YL×YO×YL×YB×YN
abbrev R14:Type:=(Option Int)×YF×YN×YN×YL×YB×YN
abbrev R15:Type:=(Option Int)×YF×YN×YL×YB×YN
abbrev R16:Type:=YF×YN×YL×YB×YN
abbrev R17:Type:=(((ah)×(ah)×ah)×((ah)×(ah)×ah)×(ah)×(ah)×ah)
abbrev R18:Type:=(Option Nat)×YF×YN×YN×YL
abbrev R19:Type:=(Option Int)×YF×YN×YL
abbrev R20:Type:=YN×Bool×YF×YB
abbrev R21:Type:=Int×YF×YB
abbrev xt:Nat:=124
abbrev pa:Nat:=125
abbrev mT:Nat:=126
abbrev xu:Nat:=127
abbrev pb:Nat:=128
abbrev xr:Nat:=129
abbrev qP:Nat:=130
abbrev qQ:Nat:=131
abbrev iT:Nat:=181
abbrev j5:Nat:=182
abbrev j6:Nat:=183
abbrev lR:Nat:=184
abbrev n_tw:Nat:=8
abbrev b5:Nat:=12
abbrev n_wO:Nat:=23
abbrev xq:Nat:=17
abbrev vF:Nat:=24
abbrev od:Nat:=25
abbrev oh:Nat:=18
abbrev c8:Nat:=151
abbrev iU:Nat:=150
abbrev dQ:Nat:=132
abbrev cd:Nat:=21
abbrev mU:Nat:=152
abbrev pW:Nat:=133
abbrev iV:Nat:=153
abbrev bL:Nat:=154
abbrev n_eV:Nat:=20
abbrev mX:Nat:=136
abbrev lA:Nat:=155
abbrev fg:Nat:=156
abbrev gw:Nat:=137
abbrev mV:Nat:=157
abbrev lB:Nat:=158
abbrev iu:Nat:=159
abbrev dA:Nat:=145
abbrev jB:Nat:=14
abbrev n_wR:Nat:=13
abbrev n_sA:Nat:=27
abbrev qW:Nat:=45
abbrev n_dO:Nat:=46
abbrev pT:Nat:=47
abbrev fj:Nat:=51
abbrev nX:Nat:=52
abbrev iK:Nat:=48
abbrev kp:Nat:=49
abbrev kC:Nat:=35
abbrev vJ:Nat:=50
abbrev vG:Nat:=53
abbrev pV:Nat:=54
abbrev n_rM:Nat:=55
abbrev og:Nat:=56
abbrev cU:Nat:=36
abbrev ff:Nat:=57
abbrev gx:Nat:=59
abbrev gy:Nat:=38
abbrev b6:Nat:=160
abbrev aV:Nat:=42
abbrev n_pD:Nat:=163
abbrev fZ:Nat:=41
abbrev mW:Nat:=44
abbrev ed:Nat:=43
abbrev im:Nat:=22
abbrev fA:Nat:=164
abbrev gv:Nat:=165
abbrev pc:Nat:=29
abbrev kv:Nat:=60
abbrev n_jO:Nat:=76
abbrev qR:Nat:=77
abbrev qT:Nat:=79
abbrev eU:Nat:=78
abbrev kB:Nat:=80
abbrev eV:Nat:=81
abbrev eT:Nat:=31
abbrev iq:Nat:=82
abbrev n_cS:Nat:=66
abbrev vH:Nat:=15
abbrev qS:Nat:=72
abbrev mZ:Nat:=83
abbrev mR:Nat:=84
abbrev jA:Nat:=85
abbrev ky:Nat:=87
abbrev ig:Nat:=88
abbrev nZ:Nat:=89
abbrev kA:Nat:=90
abbrev l0:Nat:=91
abbrev oa:Nat:=92
abbrev kz:Nat:=168
abbrev dZ:Nat:=75
abbrev dG:Nat:=169
abbrev gz:Nat:=104
abbrev jD:Nat:=110
abbrev nY:Nat:=111
abbrev oi:Nat:=112
abbrev cT:Nat:=105
abbrev ij:Nat:=113
abbrev vI:Nat:=114
abbrev aa:Nat:=115
abbrev dY:Nat:=116
abbrev aC:Nat:=117
abbrev dP:Nat:=118
abbrev aN:Nat:=119
abbrev bI:Nat:=120
abbrev l7:Nat:=63
abbrev qU:Nat:=64
abbrev xw:Nat:=65
abbrev gq:Nat:=67
abbrev kq:Nat:=96
abbrev cS:Nat:=68
abbrev gu:Nat:=97
abbrev ir:Nat:=69
abbrev l6:Nat:=30
abbrev n_ds:Nat:=32
abbrev jG:Nat:=33
abbrev jC:Nat:=34
abbrev il:Nat:=70
abbrev pX:Nat:=71
abbrev jF:Nat:=103
abbrev ee:Nat:=101
abbrev kx:Nat:=135
abbrev jz:Nat:=134
abbrev m5:Nat:=99
abbrev dR:Nat:=140
abbrev iJ:Nat:=146
abbrev dE:Nat:=147
abbrev jE:Nat:=94
abbrev mY:Nat:=95
abbrev iS:Nat:=98
abbrev dH:Nat:=100
abbrev m4:Nat:=102
abbrev om:Nat:=138
abbrev pU:Nat:=162
abbrev qX:Nat:=139
abbrev vf:=AV.val false
noncomputable section
def cl0:List Nat:=[1050240,1050241,1050242,1050243,1050244,1050245,1050246,1050251,1050432,1050433,1050434,1050435,1050496,1050497,1054912,1054913,1054914,1054915,1054916,1062592,1062593]
def cu0:List (Nat×AV):=[(1050240,.undef),(1050241,.undef),(1050242,.undef),(1050243,.undef),(1050244,.undef),(1050245,.undef),(1050246,.undef),(1050251,.undef),(1050432,.undef),(1050433,.undef),(1050434,.undef),(1050435,.undef),(1050496,.undef),(1050497,.undef),(1054912,.undef),(1054913,.undef),(1054914,.undef),(1054915,.undef),(1054916,.undef),(1062592,.undef),(1062593,.undef)]
def cw0 (ua:YO)(ub:YO)(uc:YS)(ud:YE)(ue:YN)(uf:YI)(ug:YT)(uh:YE)(ui:YF)(uj:YN)(uk:YN)(ul:YL)(um:YO)(un:YT)(uo:YO)(up:YN)(uq:YB)(ur:YR)(us:YL)(ut:YB)(uu:YN):List (Nat×Go.Eng.Obj):=[(1050240,.col 26 0 .dat (.ref 29) ua 0 none),(1050241,.col 26 1 .dat (.ref 30) ub 0 none),(1050242,.col 26 2 .own (.slice pL) uc 0 none),(1050243,.col 26 3 .own (.slice aH) ud 0 none),(1050244,.col 26 4 .dat qI ue 0 none),(1050245,.col 26 5 .dat .err uf 0 none),(1050246,.col 26 6 .dat aD ug 0 none),(1050251,.col 26 11 .own (.slice aH) uh 0 none),(1050432,.col 29 0 .mp (.slice (.prod qI (.ref 219))) ui 0 none),(1050433,.col 29 1 .dat qI uj 0 none),(1050434,.col 29 2 .dat qI uk 0 none),(1050435,.col 29 3 .dat .bool ul 0 none),(1050496,.col 30 0 .dat (.ref 99) um 0 none),(1050497,.col 30 1 .dat aD un 0 none),(1054912,.col 99 0 .dat (.ref 29) uo 0 none),(1054913,.col 99 1 .dat qI up 0 none),(1054914,.col 99 2 .dat qB uq 0 none),(1054915,.col 99 3 .own (.slice qB) ur 0 none),(1054916,.col 99 4 .dat .bool us 0 none),(1062592,.col 219 0 .own qB ut 0 none),(1062593,.col 219 1 .dat qI uu 0 none)]
abbrev hb (k:Nat):=Nh Tryz.prog A (CF k) k
def rI (k m:Nat)(d_:YA)(d_1:YP)(d_2:YG)(d_3:YK)(d_4:Int)(r_:Int)(r_1:Int)(r_2:Int)(r_3:Int)(r_4:Int)(r_5:Int)(r_6:Int)(t4:Int)(t41:Int):Option (ah×aA):=hb k S56 127 [0] [.r,.r,.l] m ⟨[(0,vf [.ptr 0 0 0 []]),(3,vf [.ptr 3 0 0 []]),(4,vf [.ptr 4 0 0 []])],[(0,.box [.sl af d_,.sl ak d_1,.sl bn d_2,.sl aW d_3,.int .i64 d_4]),(3,.box [.int .i64 r_,.int .i64 r_1,.int .i64 r_2,.int .i64 r_3,.int .i64 r_4,.int .i64 r_5,.int .i64 r_6]),(4,.box [.int .i64 t4,.int .i64 t41])]⟩
def gL (k m:Nat)(d_:YA)(d_1:YP)(d_2:YG)(d_3:YK)(d_4:Int)(r_:Int)(r_1:Int)(r_2:Int)(r_3:Int)(r_4:Int)(r_5:Int)(r_6:Int)(t4:Int)(t41:Int)(q_:Int)(q_1:Int)(q_2:Int)(q_3:Int)(q_4:Int)(q_5:Int)(q_6:Int)(q_7:Int)(un:List (ah)):Option (ah×aA):=hb k S56 131 [0] [.r,.r,.r,.r,.r,.r,.r,.l] m ⟨[(0,vf [.ptr 0 0 0 []]),(3,vf [.ptr 3 0 0 []]),(4,vf [.ptr 4 0 0 []]),(6,vf [.ptr 6 0 0 []]),(8,vf [.vw 8 0])],[(0,.box [.sl af d_,.sl ak d_1,.sl bn d_2,.sl aW d_3,.int .i64 d_4]),(3,.box [.int .i64 r_,.int .i64 r_1,.int .i64 r_2,.int .i64 r_3,.int .i64 r_4,.int .i64 r_5,.int .i64 r_6]),(4,.box [.int .i64 t4,.int .i64 t41]),(6,.box [.int .i64 q_,.int .i64 q_1,.int .i64 q_2,.int .i64 q_3,.int .i64 q_4,.int .i64 q_5,.int .i64 q_6,.int .i64 q_7]),(8,.row aK un 0 [] false)]⟩
def lH (k m:Nat)(t17:YN)(t18:Int)(t19:Int)(s_:YA)(s_1:YP)(s_2:YG)(s_3:YK)(s_4:Int)(t2:Int):Option (ab):=hb k Z4 25 [] [.r,.r,.r,.l,.r,.l] m ⟨[(1,vf [.ptr 1 0 0 []]),(2,vf [.ptr 2 0 0 []]),(17,vf [.sl qI t17]),(18,vf [.int .i64 t18]),(19,vf [.int .i64 t19])],[(1,.box [.sl af s_,.sl ak s_1,.sl bn s_2,.sl aW s_3,.int .i64 s_4]),(2,.box [.nilS,.nilS,.nilS,.nilS,.int .i64 t2])]⟩
def iy (k m:Nat)(t7:YN)(t8:Int)(t9:Int)(d_:YA)(d_1:YP)(d_2:YG)(d_3:YK)(d_4:Int):Option (Bool×aA):=hb k S59 132 [0] [.r,.l,.r,.l] m ⟨[(0,vf [.ptr 0 0 0 []]),(7,vf [.sl qI t7]),(8,vf [.int .i64 t8]),(9,vf [.int .i64 t9])],[(0,.box [.sl af d_,.sl ak d_1,.sl bn d_2,.sl aW d_3,.int .i64 d_4])]⟩
def rH (k m:Nat)(d_:YA)(d_1:YP)(d_2:YG)(d_3:YK)(d_4:Int)(r_:Int)(r_1:Int)(r_2:Int)(r_3:Int)(r_4:Int)(r_5:Int)(r_6:Int)(t4:Int)(t41:Int)(t42:Int)(t43:Int)(t44:Int)(t45:Int)(t46:Int)(t47:Int)(t5:Int)(t51:Int)(t52:Int)(t53:Int)(t54:Int)(t55:Int)(t56:Int)(t57:Int):Option (ag×ag×(Option Int)×aA):=hb k S25 153 [0] [.r,.r,.l] m ⟨[(0,vf [.ptr 0 0 0 []]),(3,vf [.ptr 3 0 0 []]),(4,vf [.ptr 4 0 0 []]),(5,vf [.ptr 5 0 0 []])],[(0,.box [.sl af d_,.sl ak d_1,.sl bn d_2,.sl aW d_3,.int .i64 d_4]),(3,.box [.int .i64 r_,.int .i64 r_1,.int .i64 r_2,.int .i64 r_3,.int .i64 r_4,.int .i64 r_5,.int .i64 r_6]),(4,.box [.int .i64 t4,.int .i64 t41,.int .i64 t42,.int .i64 t43,.int .i64 t44,.int .i64 t45,.int .i64 t46,.int .i64 t47]),(5,.box [.int .i64 t5,.int .i64 t51,.int .i64 t52,.int .i64 t53,.int .i64 t54,.int .i64 t55,.int .i64 t56,.int .i64 t57])]⟩
def h_eV (k m:Nat)(as_:YA)(from_:Int)(to_:Int)(amount_:Int):Option ((List (ah))×(Option Int)):=hb k S36 20 [] [.r,.r,.r,.r,.l] m ⟨[(0,vf [.sl af as_]),(1,vf [.int .i64 from_]),(2,vf [.int .i64 to_]),(3,vf [.int .i64 amount_])],[]⟩
def FR (k m:Nat)(from_:Int)(to_:Int)(amount_:Int)(a_:Int)(b_:Int)(x_:Int)(y_:Int):Option ((List (ah))×(Option Int)):=hb k S36 20 [] [.r,.r,.r,.r,.r,.r,.r,.r,.l] m ⟨[(1,vf [.int .i64 from_]),(2,vf [.int .i64 to_]),(3,vf [.int .i64 amount_]),(14,vf [.int .i64 a_]),(15,vf [.int .i64 b_]),(16,vf [.int .i64 x_]),(17,vf [.int .i64 y_])],[]⟩
def nf (k m:Nat)(t20:List (ah))(t21:Int)(t22:Int)(out_:YA):Option (YA×(Option Int)):=hb k S33 158 [] [.r,.r,.r,.l,.r,.l] m ⟨[(6,vf [.vw 6 0]),(20,vf [.sl aK t20]),(21,vf [.int .i64 t21]),(22,vf [.int .i64 t22])],[(6,.row af out_ 0 [] false)]⟩
def gf (k m:Nat)(t49:Int)(t50:Int)(out_:YA):Option (YA×(Option Int)):=hb k S33 158 [] [.r,.r,.r,.r,.l,.r,.l] m ⟨[(6,vf [.vw 6 0]),(48,vf [.vw 6 0]),(49,vf [.int .i64 t49]),(50,vf [.int .i64 t50])],[(6,.row af out_ 0 [] false)]⟩
def h_wR (k m:Nat)(b_:YN)(w_:Option Nat)(t11:List (au))(t12:Int)(t13:Int)(ua:YO)(ub:YO)(uc:YS)(ud:YE)(ue:YN)(uf:YI)(ug:YT)(uh:YE)(ui:YF)(uj:YN)(uk:YN)(ul:YL)(um:YO)(un:YT)(uo:YO)(up:YN)(uq:YB)(ur:YR)(us:YL)(ut:YB)(uu:YN):Option (R1):=hb k S1 13 cl0 [.r,.r,.l,.r,.l] m ⟨[(0,vf [.sl (.int .u8) b_]),(5,vf [.ref 26 w_]),(11,vf [.sl aH t11]),(12,vf [.int .i64 t12]),(13,vf [.int .i64 t13])]++cu0,cw0 ua ub uc ud ue uf ug uh ui uj uk ul um un uo up uq ur us ut uu⟩
def h_sA (k m:Nat)(b_:YN)(out_:List (au)):Option ((List (au))):=hb k S55 27 [] [.r,.r,.l,.l] m ⟨[(0,vf [.sl (.int .u8) b_]),(3,vf [.vw 3 0])],[(3,.row aH out_ 0 [] false)]⟩
def h_dO (k m:Nat)(d_:Option Nat)(j_:Option Nat)(x_:Nat)(ui:YF)(uk:YN)(ul:YL)(um:YO)(un:YT)(uo:YO)(up:YN)(uq:YB)(ur:YR)(us:YL)(ut:YB)(uu:YN):Option (R7):=hb k S6 46 [1050432,1050434,1050435,1050496,1050497,1054912,1054913,1054914,1054915,1054916,1062592,1062593] [.r,.r,.r,.r,.r,.l,.l] m ⟨[(0,vf [.ref 29 d_]),(4,vf [.ref 99 j_]),(6,vf [.rb 30 x_]),(1050432,.undef),(1050434,.undef),(1050435,.undef),(1050496,.undef),(1050497,.undef),(1054912,.undef),(1054913,.undef),(1054914,.undef),(1054915,.undef),(1054916,.undef),(1062592,.undef),(1062593,.undef)],[(1050432,.col 29 0 .mp (.slice (.prod qI (.ref 219))) ui 0 none),(1050434,.col 29 2 .dat qI uk 0 none),(1050435,.col 29 3 .dat .bool ul 0 none),(1050496,.col 30 0 .dat (.ref 99) um 0 none),(1050497,.col 30 1 .dat aD un 0 none),(1054912,.col 99 0 .dat (.ref 29) uo 0 none),(1054913,.col 99 1 .dat qI up 0 none),(1054914,.col 99 2 .dat qB uq 0 none),(1054915,.col 99 3 .own (.slice qB) ur 0 none),(1054916,.col 99 4 .dat .bool us 0 none),(1062592,.col 219 0 .own qB ut 0 none),(1062593,.col 219 1 .dat qI uu 0 none)]⟩
def Cv (k m:Nat)(d_:Option Nat)(x_:Nat)(t42:YB)(t43:Int)(t44:Int)(ui:YF)(uk:YN)(ul:YL)(um:YO)(un:YT)(uo:YO)(up:YN)(uq:YB)(ur:YR)(us:YL)(ut:YB)(uu:YN):Option (R7):=hb k S6 46 [1050432,1050434,1050435,1050496,1050497,1054912,1054913,1054914,1054915,1054916,1062592,1062593] [.r,.r,.r,.r,.r,.l,.r,.l] m ⟨[(0,vf [.ref 29 d_]),(6,vf [.rb 30 x_]),(42,vf [.sl qB t42]),(43,vf [.int .i64 t43]),(44,vf [.int .i64 t44]),(1050432,.undef),(1050434,.undef),(1050435,.undef),(1050496,.undef),(1050497,.undef),(1054912,.undef),(1054913,.undef),(1054914,.undef),(1054915,.undef),(1054916,.undef),(1062592,.undef),(1062593,.undef)],[(1050432,.col 29 0 .mp (.slice (.prod qI (.ref 219))) ui 0 none),(1050434,.col 29 2 .dat qI uk 0 none),(1050435,.col 29 3 .dat .bool ul 0 none),(1050496,.col 30 0 .dat (.ref 99) um 0 none),(1050497,.col 30 1 .dat aD un 0 none),(1054912,.col 99 0 .dat (.ref 29) uo 0 none),(1054913,.col 99 1 .dat qI up 0 none),(1054914,.col 99 2 .dat qB uq 0 none),(1054915,.col 99 3 .own (.slice qB) ur 0 none),(1054916,.col 99 4 .dat .bool us 0 none),(1062592,.col 219 0 .own qB ut 0 none),(1062593,.col 219 1 .dat qI uu 0 none)]⟩
def gb (k m:Nat)(w_:Option Nat)(t43:Nat)(t44:Int)(t45:Int)(ua:YO)(ub:YO)(ud:YE)(ue:YN)(uf:YI)(ug:YT)(uh:YE)(ui:YF)(uk:YN)(ul:YL)(um:YO)(un:YT)(uo:YO)(up:YN)(uq:YB)(ur:YR)(us:YL)(ut:YB)(uu:YN):Option (R4):=hb k Z1 52 [1050240,1050241,1050243,1050244,1050245,1050246,1050251,1050432,1050434,1050435,1050496,1050497,1054912,1054913,1054914,1054915,1054916,1062592,1062593] [.r,.r,.r,.r,.l,.r,.l] m ⟨[(0,vf [.ref 26 w_]),(43,vf [.ov 1050251 0 t43]),(44,vf [.int .i64 t44]),(45,vf [.int .i64 t45]),(1050240,.undef),(1050241,.undef),(1050243,.undef),(1050244,.undef),(1050245,.undef),(1050246,.undef),(1050251,.undef),(1050432,.undef),(1050434,.undef),(1050435,.undef),(1050496,.undef),(1050497,.undef),(1054912,.undef),(1054913,.undef),(1054914,.undef),(1054915,.undef),(1054916,.undef),(1062592,.undef),(1062593,.undef)],[(1050240,.col 26 0 .dat (.ref 29) ua 0 none),(1050241,.col 26 1 .dat (.ref 30) ub 0 none),(1050243,.col 26 3 .own (.slice aH) ud 0 none),(1050244,.col 26 4 .dat qI ue 0 none),(1050245,.col 26 5 .dat .err uf 0 none),(1050246,.col 26 6 .dat aD ug 0 none),(1050251,.col 26 11 .own (.slice aH) uh 0 none),(1050432,.col 29 0 .mp (.slice (.prod qI (.ref 219))) ui 0 none),(1050434,.col 29 2 .dat qI uk 0 none),(1050435,.col 29 3 .dat .bool ul 0 none),(1050496,.col 30 0 .dat (.ref 99) um 0 none),(1050497,.col 30 1 .dat aD un 0 none),(1054912,.col 99 0 .dat (.ref 29) uo 0 none),(1054913,.col 99 1 .dat qI up 0 none),(1054914,.col 99 2 .dat qB uq 0 none),(1054915,.col 99 3 .own (.slice qB) ur 0 none),(1054916,.col 99 4 .dat .bool us 0 none),(1062592,.col 219 0 .own qB ut 0 none),(1062593,.col 219 1 .dat qI uu 0 none)]⟩
def fh (k m:Nat)(t7:YG)(t8:Int)(t9:Int)(out_:YN):Option (YN):=hb k S47 48 [] [.r,.r,.l,.r,.l] m ⟨[(3,vf [.vw 3 0]),(7,vf [.sl bn t7]),(8,vf [.int .i64 t8]),(9,vf [.int .i64 t9])],[(3,.row qI out_ 0 [] false)]⟩
def qb (k m:Nat)(ps_:YP)(now_:Int)(t9:YN)(t10:Int)(t11:Int)(out_:YN):Option (YN):=hb k S47 53 [] [.r,.r,.l,.r,.l] m ⟨[(0,vf [.sl ak ps_]),(1,vf [.int .i64 now_]),(5,vf [.vw 5 0]),(9,vf [.sl qI t9]),(10,vf [.int .i64 t10]),(11,vf [.int .i64 t11])],[(5,.row qI out_ 0 [] false)]⟩
def h_rM (k m:Nat)(r_:Int)(r_1:Int)(r_2:Int)(r_3:Int)(r_4:Int)(r_5:Int)(r_6:Int):Option (Bool):=hb k Z0 55 [] [.r,.r,.l,.l] m ⟨[(1,vf [.ptr 1 0 0 []])],[(1,.box [.int .i64 r_,.int .i64 r_1,.int .i64 r_2,.int .i64 r_3,.int .i64 r_4,.int .i64 r_5,.int .i64 r_6])]⟩
def xP (k m:Nat)(r_:Int)(r_1:Int)(r_2:Int)(r_3:Int)(r_4:Int)(r_5:Int)(r_6:Int):Option (Bool):=hb k Z0 55 [] [.r,.r,.r,.l,.l] m ⟨[(1,vf [.ptr 1 0 0 []])],[(1,.box [.int .i64 r_,.int .i64 r_1,.int .i64 r_2,.int .i64 r_3,.int .i64 r_4,.int .i64 r_5,.int .i64 r_6])]⟩
def jJ (k m:Nat)(key_:Int)(t7:YK)(t8:Int)(t9:Int):Option (Int):=hb k S60 38 [] [.r,.l,.r,.l] m ⟨[(1,vf [.int .i64 key_]),(7,vf [.sl aW t7]),(8,vf [.int .i64 t8]),(9,vf [.int .i64 t9])],[]⟩
def h_pD (k m:Nat)(n_:Int)(do_:Option Nat)(p_:Int)(p_1:Int)(p_2:Int)(p_3:Int)(p_4:Int)(p_5:Int)(p_6:Int)(p_7:Int)(t6:Int)(t61:Int)(t62:Int)(t63:Int)(t64:Int)(t65:Int)(t66:Int)(t67:Int):Option (ag×(Option Int)):=hb k S41 163 [] [.r,.r,.r,.l] m ⟨[(2,vf [.int .i64 n_]),(3,vf [.ptr 3 0 0 []]),(6,vf [.ptr 6 0 0 []]),(8,vf [.fn do_])],[(3,.box [.int .i64 p_,.int .i64 p_1,.int .i64 p_2,.int .i64 p_3,.int .i64 p_4,.int .i64 p_5,.int .i64 p_6,.int .i64 p_7]),(6,.box [.int .i64 t6,.int .i64 t61,.int .i64 t62,.int .i64 t63,.int .i64 t64,.int .i64 t65,.int .i64 t66,.int .i64 t67])]⟩
def iC (k m:Nat)(un:List (ah))(k_:Int)(out_:List (ah)):Option ((List (ah))):=hb k S57 22 [] [.r,.r,.l,.r,.l] m ⟨[(0,vf [.sl aK un]),(3,vf [.vw 3 0]),(4,vf [.int .i64 k_])],[(3,.row aK out_ 0 [] false)]⟩
def dD (k m:Nat)(as_:YA)(t13:List (ah))(t14:Int)(t15:Int)(sums_:Int)(sums_1:Int)(sums_2:Int):Option (Bool):=hb k Z0 164 [] [.r,.r,.l,.r,.l] m ⟨[(0,vf [.sl af as_]),(5,vf [.ptr 5 0 0 []]),(13,vf [.sl aK t13]),(14,vf [.int .i64 t14]),(15,vf [.int .i64 t15])],[(5,.box [.int .i64 sums_,.int .i64 sums_1,.int .i64 sums_2])]⟩
def eh (k m1 m:Nat)(as_:YA)(t13:List (ah))(t14:Int)(t15:Int)(sums_:Int)(sums_1:Int)(sums_2:Int)(e_:Int)(e_1:Int):Option (Bool):=hb k Z0 164 [] [.r,.r,.l,.r,.l,.lp m1,.r,.r,.l,.l,.r,.r,.l] m ⟨[(0,vf [.sl af as_]),(5,vf [.ptr 5 0 0 []]),(7,vf [.ptr 7 0 0 []]),(13,vf [.sl aK t13]),(14,vf [.int .i64 t14]),(15,vf [.int .i64 t15])],[(5,.box [.int .i64 sums_,.int .i64 sums_1,.int .i64 sums_2]),(7,.box [.int .i64 e_,.int .i64 e_1])]⟩
def cQ (k m1 m:Nat)(as_:YA)(c_:Int)(t13:List (ah))(t14:Int)(t15:Int)(sums_:Int)(sums_1:Int)(sums_2:Int)(e_:Int)(e_1:Int):Option (Bool):=hb k Z0 164 [] [.r,.r,.l,.r,.l,.lp m1,.r,.r,.l,.l,.r,.r,.r,.r,.l] m ⟨[(0,vf [.sl af as_]),(5,vf [.ptr 5 0 0 []]),(7,vf [.ptr 7 0 0 []]),(10,vf [.int .i64 c_]),(13,vf [.sl aK t13]),(14,vf [.int .i64 t14]),(15,vf [.int .i64 t15])],[(5,.box [.int .i64 sums_,.int .i64 sums_1,.int .i64 sums_2]),(7,.box [.int .i64 e_,.int .i64 e_1])]⟩
def h_jO (k m:Nat)(d_:Option Nat)(j_:Nat)(x_:YN)(ui:YF)(uk:YN)(ul:YL)(uo:YO)(up:YN)(uq:YB)(ur:YR)(us:YL)(ut:YB)(uu:YN):Option (R10):=hb k S8 76 [1050432,1050434,1050435,1054912,1054913,1054914,1054915,1054916,1062592,1062593] [.r,.r,.l,.r,.r,.l,.r,.r,.l] m ⟨[(0,vf [.ref 29 d_]),(4,vf [.rb 99 j_]),(7,vf [.sl (.int .u8) x_]),(1050432,.undef),(1050434,.undef),(1050435,.undef),(1054912,.undef),(1054913,.undef),(1054914,.undef),(1054915,.undef),(1054916,.undef),(1062592,.undef),(1062593,.undef)],[(1050432,.col 29 0 .mp (.slice (.prod qI (.ref 219))) ui 0 none),(1050434,.col 29 2 .dat qI uk 0 none),(1050435,.col 29 3 .dat .bool ul 0 none),(1054912,.col 99 0 .dat (.ref 29) uo 0 none),(1054913,.col 99 1 .dat qI up 0 none),(1054914,.col 99 2 .dat qB uq 0 none),(1054915,.col 99 3 .own (.slice qB) ur 0 none),(1054916,.col 99 4 .dat .bool us 0 none),(1062592,.col 219 0 .own qB ut 0 none),(1062593,.col 219 1 .dat qI uu 0 none)]⟩
def xQ (k m:Nat)(d_:Option Nat)(j_:Nat)(ui:YF)(uk:YN)(ul:YL)(uo:YO)(up:YN)(uq:YB)(ur:YR)(us:YL)(ut:YB)(uu:YN):Option (R10):=hb k S8 76 [1050432,1050434,1050435,1054912,1054913,1054914,1054915,1054916,1062592,1062593] [.r,.r,.r,.l,.l] m ⟨[(0,vf [.ref 29 d_]),(4,vf [.rb 99 j_]),(1050432,.undef),(1050434,.undef),(1050435,.undef),(1054912,.undef),(1054913,.undef),(1054914,.undef),(1054915,.undef),(1054916,.undef),(1062592,.undef),(1062593,.undef)],[(1050432,.col 29 0 .mp (.slice (.prod qI (.ref 219))) ui 0 none),(1050434,.col 29 2 .dat qI uk 0 none),(1050435,.col 29 3 .dat .bool ul 0 none),(1054912,.col 99 0 .dat (.ref 29) uo 0 none),(1054913,.col 99 1 .dat qI up 0 none),(1054914,.col 99 2 .dat qB uq 0 none),(1054915,.col 99 3 .own (.slice qB) ur 0 none),(1054916,.col 99 4 .dat .bool us 0 none),(1062592,.col 219 0 .own qB ut 0 none),(1062593,.col 219 1 .dat qI uu 0 none)]⟩
def FQ (k m:Nat)(d_:Option Nat)(j_:Nat)(turn_:Int)(rest_:YN)(ui:YF)(uk:YN)(ul:YL)(uo:YO)(up:YN)(uq:YB)(ur:YR)(us:YL)(ut:YB)(uu:YN):Option (R10):=hb k S8 76 [1050432,1050434,1050435,1054912,1054913,1054914,1054915,1054916,1062592,1062593] [.r,.r,.l,.r,.r,.l,.r,.r,.r,.r] m ⟨[(0,vf [.ref 29 d_]),(4,vf [.rb 99 j_]),(10,vf [.int .i64 turn_]),(11,vf [.sl (.int .u8) rest_]),(1050432,.undef),(1050434,.undef),(1050435,.undef),(1054912,.undef),(1054913,.undef),(1054914,.undef),(1054915,.undef),(1054916,.undef),(1062592,.undef),(1062593,.undef)],[(1050432,.col 29 0 .mp (.slice (.prod qI (.ref 219))) ui 0 none),(1050434,.col 29 2 .dat qI uk 0 none),(1050435,.col 29 3 .dat .bool ul 0 none),(1054912,.col 99 0 .dat (.ref 29) uo 0 none),(1054913,.col 99 1 .dat qI up 0 none),(1054914,.col 99 2 .dat qB uq 0 none),(1054915,.col 99 3 .own (.slice qB) ur 0 none),(1054916,.col 99 4 .dat .bool us 0 none),(1062592,.col 219 0 .own qB ut 0 none),(1062593,.col 219 1 .dat qI uu 0 none)]⟩
def uI (k m:Nat)(d_:Option Nat)(j_:Nat)(t67:YN)(t68:Int)(t69:Int)(ui:YF)(uk:YN)(ul:YL)(uo:YO)(up:YN)(uq:YB)(ur:YR)(us:YL)(ut:YB)(uu:YN):Option (R10):=hb k S8 76 [1050432,1050434,1050435,1054912,1054913,1054914,1054915,1054916,1062592,1062593] [.r,.r,.r,.l,.r,.l] m ⟨[(0,vf [.ref 29 d_]),(4,vf [.rb 99 j_]),(67,vf [.sl qI t67]),(68,vf [.int .i64 t68]),(69,vf [.int .i64 t69]),(1050432,.undef),(1050434,.undef),(1050435,.undef),(1054912,.undef),(1054913,.undef),(1054914,.undef),(1054915,.undef),(1054916,.undef),(1062592,.undef),(1062593,.undef)],[(1050432,.col 29 0 .mp (.slice (.prod qI (.ref 219))) ui 0 none),(1050434,.col 29 2 .dat qI uk 0 none),(1050435,.col 29 3 .dat .bool ul 0 none),(1054912,.col 99 0 .dat (.ref 29) uo 0 none),(1054913,.col 99 1 .dat qI up 0 none),(1054914,.col 99 2 .dat qB uq 0 none),(1054915,.col 99 3 .own (.slice qB) ur 0 none),(1054916,.col 99 4 .dat .bool us 0 none),(1062592,.col 219 0 .own qB ut 0 none),(1062593,.col 219 1 .dat qI uu 0 none)]⟩
def iz (k m:Nat)(j_:Option Nat)(t9:Nat)(t10:Int)(t11:Int)(out_:YB)(ur:YR):Option (YB×YR):=hb k S20 80 [1054915] [.r,.r,.l,.r,.l] m ⟨[(0,vf [.ref 99 j_]),(3,vf [.vw 3 0]),(9,vf [.ov 1054915 0 t9]),(10,vf [.int .i64 t10]),(11,vf [.int .i64 t11]),(1054915,.undef)],[(3,.row qB out_ 0 [] false),(1054915,.col 99 3 .own (.slice qB) ur 0 none)]⟩
def cy (k m:Nat)(t2:Int)(t21:Int)(t22:Int)(t23:Int)(t24:Int)(t25:Int)(t26:Int)(t27:Int)(t28:Int)(t29:Bool)(r_:YN)(r_1:Bool)(e_:Int)(e_1:Int)(e_2:Int)(e_3:Int)(e_4:Int)(e_5:Int)(e_6:Int)(e_7:Int)(e_8:Int)(e_9:Bool):Option (au×Bool):=hb k S43 81 [] [.r,.r,.r,.r,.l,.l] m ⟨[(2,vf [.ptr 2 0 0 []]),(4,vf [.ptr 4 0 0 []]),(5,vf [.ptr 5 0 0 []])],[(2,.box [.int .i64 t2,.int .i64 t21,.int .i64 t22,.int .i64 t23,.int .i64 t24,.int .i64 t25,.int .i64 t26,.int .i64 t27,.int .i64 t28,.bool t29]),(4,.box [.sl (.int .u8) r_,.bool r_1]),(5,.box [.int .i64 e_,.int .i64 e_1,.int .i64 e_2,.int .i64 e_3,.int .i64 e_4,.int .i64 e_5,.int .i64 e_6,.int .i64 e_7,.int .i64 e_8,.bool e_9])]⟩
def h_cS (k m:Nat)(t20:YA)(t21:Int)(t22:Int)(s_:YA)(s_1:YP)(s_2:YG)(s_3:YK)(s_4:Int)(out_:YN):Option (YN):=hb k S49 66 [] [.r,.r,.l,.r,.l] m ⟨[(1,vf [.ptr 1 0 0 []]),(3,vf [.vw 3 0]),(20,vf [.sl af t20]),(21,vf [.int .i64 t21]),(22,vf [.int .i64 t22])],[(1,.box [.sl af s_,.sl ak s_1,.sl bn s_2,.sl aW s_3,.int .i64 s_4]),(3,.row (.int .u8) out_ 0 [] false)]⟩
def CC (k m:Nat)(t43:YP)(t44:Int)(t45:Int)(s_:YA)(s_1:YP)(s_2:YG)(s_3:YK)(s_4:Int)(out_:YN):Option (YN):=hb k S49 66 [] [.r,.r,.r,.r,.l,.r,.l] m ⟨[(1,vf [.ptr 1 0 0 []]),(3,vf [.vw 3 0]),(43,vf [.sl ak t43]),(44,vf [.int .i64 t44]),(45,vf [.int .i64 t45])],[(1,.box [.sl af s_,.sl ak s_1,.sl bn s_2,.sl aW s_3,.int .i64 s_4]),(3,.row (.int .u8) out_ 0 [] false)]⟩
def CA (k m:Nat)(t76:YG)(t77:Int)(t78:Int)(s_:YA)(s_1:YP)(s_2:YG)(s_3:YK)(s_4:Int)(out_:YN):Option (YN):=hb k S49 66 [] [.r,.r,.r,.r,.r,.r,.l,.r,.l] m ⟨[(1,vf [.ptr 1 0 0 []]),(3,vf [.vw 3 0]),(76,vf [.sl bn t76]),(77,vf [.int .i64 t77]),(78,vf [.int .i64 t78])],[(1,.box [.sl af s_,.sl ak s_1,.sl bn s_2,.sl aW s_3,.int .i64 s_4]),(3,.row (.int .u8) out_ 0 [] false)]⟩
def Cy (k m:Nat)(t106:YK)(t107:Int)(t108:Int)(out_:YN):Option (YN):=hb k S49 66 [] [.r,.r,.r,.r,.r,.r,.r,.r,.l,.r,.l] m ⟨[(3,vf [.vw 3 0]),(106,vf [.sl aW t106]),(107,vf [.int .i64 t107]),(108,vf [.int .i64 t108])],[(3,.row (.int .u8) out_ 0 [] false)]⟩
def jM (k m:Nat)(x_:Option Nat)(err_:Option Int)(t4:Int)(t41:Int)(t_:YA)(t_1:YP)(t_2:YG)(t_3:YK)(t_4:Int)(out_:Int)(out_1:Int)(ui:YF)(uj:YN)(uk:YN)(ul:YL)(um:YO)(un:YT)(uo:YO)(up:YN)(uq:YB)(ur:YR)(us:YL)(ut:YB)(uu:YN):Option (R9):=hb k S4 15 [1050432,1050433,1050434,1050435,1050496,1050497,1054912,1054913,1054914,1054915,1054916,1062592,1062593] [.r,.r,.r,.r,.r,.r,.r,.l,.l] m ⟨[(0,vf [.ref 30 x_]),(4,vf [.ptr 4 0 0 []]),(5,vf [.ptr 5 0 0 []]),(6,vf [.ptr 6 0 0 []]),(8,vf [.err err_]),(1050432,.undef),(1050433,.undef),(1050434,.undef),(1050435,.undef),(1050496,.undef),(1050497,.undef),(1054912,.undef),(1054913,.undef),(1054914,.undef),(1054915,.undef),(1054916,.undef),(1062592,.undef),(1062593,.undef)],[(4,.box [.int .i64 t4,.int .i64 t41]),(5,.box [.sl af t_,.sl ak t_1,.sl bn t_2,.sl aW t_3,.int .i64 t_4]),(6,.box [.int .i64 out_,.int .i64 out_1]),(1050432,.col 29 0 .mp (.slice (.prod qI (.ref 219))) ui 0 none),(1050433,.col 29 1 .dat qI uj 0 none),(1050434,.col 29 2 .dat qI uk 0 none),(1050435,.col 29 3 .dat .bool ul 0 none),(1050496,.col 30 0 .dat (.ref 99) um 0 none),(1050497,.col 30 1 .dat aD un 0 none),(1054912,.col 99 0 .dat (.ref 29) uo 0 none),(1054913,.col 99 1 .dat qI up 0 none),(1054914,.col 99 2 .dat qB uq 0 none),(1054915,.col 99 3 .own (.slice qB) ur 0 none),(1054916,.col 99 4 .dat .bool us 0 none),(1062592,.col 219 0 .own qB ut 0 none),(1062593,.col 219 1 .dat qI uu 0 none)]⟩
def mg (k m:Nat)(b_:YN)(n_:Int):Option (YN×Int×Bool):=hb k S21 110 [] [.r,.r,.r,.r,.l] m ⟨[(0,vf [.sl (.int .u8) b_]),(5,vf [.int .i64 n_])],[]⟩
def rG (k m:Nat)(b_:YN)(u_:Int)(k_:Int):Option (Int×YN×Bool):=hb k S22 111 [] [.r,.r,.l,.r,.l] m ⟨[(0,vf [.sl (.int .u8) b_]),(5,vf [.int .u64 u_]),(6,vf [.int .i64 k_])],[]⟩
def rF (k m1 m:Nat)(b_:YN)(u_:Int)(k_:Int):Option (Int×YN×Bool):=hb k S22 111 [] [.r,.r,.l,.r,.l,.lp m1,.r,.l,.l,.l] m ⟨[(0,vf [.sl (.int .u8) b_]),(5,vf [.int .u64 u_]),(6,vf [.int .i64 k_])],[]⟩
def iZ (k m1 m:Nat)(b_:YN)(u_:Int)(k_:Int)(c_:Int):Option (Int×YN×Bool):=hb k S22 111 [] [.r,.r,.l,.r,.l,.lp m1,.r,.l,.l,.r,.r,.l] m ⟨[(0,vf [.sl (.int .u8) b_]),(5,vf [.int .u64 u_]),(6,vf [.int .i64 k_]),(7,vf [.int .u8 c_])],[]⟩
def kH (k m1 m:Nat)(b_:YN)(u_:Int)(k_:Int):Option (Int×YN×Bool):=hb k S22 111 [] [.r,.r,.l,.r,.l,.lp m1,.r,.l,.l,.r,.r,.r,.r,.r,.l] m ⟨[(0,vf [.sl (.int .u8) b_]),(5,vf [.int .u64 u_]),(6,vf [.int .i64 k_])],[]⟩
def iA (k m:Nat)(b_:YN)(at_:Int)(out_:YB):Option (YB×Int):=hb k S26 113 [] [.r,.r,.r,.l] m ⟨[(0,vf [.sl (.int .u8) b_]),(4,vf [.vw 4 0]),(5,vf [.int .i64 at_])],[(4,.row qB out_ 0 [] false)]⟩
def kI (k m:Nat)(s_:Int)(s_1:Int)(s_2:Int)(s_3:Int)(s_4:Int)(s_5:Int)(s_6:Int)(s_7:Int)(s_8:Int)(s_9:Int)(s_10:Int):Option (Bool):=hb k Z0 118 [] [.r,.r,.l,.l] m ⟨[(1,vf [.ptr 1 0 0 []])],[(1,.box [.int .i64 s_,.int .i64 s_1,.int .i64 s_2,.int .i64 s_3,.int .i64 s_4,.int .i64 s_5,.int .i64 s_6,.int .i64 s_7,.int .i64 s_8,.int .i64 s_9,.int .i64 s_10])]⟩
def jO (k m:Nat)(as_:YA):Option (Bool):=hb k Z0 120 [] [.r,.r,.l,.l] m ⟨[(0,vf [.sl af as_])],[]⟩
def bV (k m:Nat)(t13:YA)(t14:Int)(t15:Int):Option (Bool):=hb k Z0 120 [] [.r,.r,.l,.r,.l] m ⟨[(13,vf [.sl af t13]),(14,vf [.int .i64 t14]),(15,vf [.int .i64 t15])],[]⟩
def gO (k m1 m:Nat)(k_:Int)(t13:YA)(t14:Int)(t15:Int)(a_:Int)(a_1:Int)(a_2:Int):Option (Bool):=hb k Z0 120 [] [.r,.r,.l,.r,.l,.lp m1,.r,.r,.l,.l,.r,.r,.l] m ⟨[(3,vf [.int .i64 k_]),(4,vf [.ptr 4 0 0 []]),(13,vf [.sl af t13]),(14,vf [.int .i64 t14]),(15,vf [.int .i64 t15])],[(4,.box [.int .i64 a_,.int .i64 a_1,.int .i64 a_2])]⟩
def gN (k m:Nat)(m_:YA)(m_1:YP)(m_2:YG)(m_3:YK)(m_4:Int)(t4:Int)(t41:Int)(r_:Int)(r_1:Int)(r_2:Int)(r_3:Int)(r_4:Int)(r_5:Int)(r_6:Int):Option (ah×aA):=hb k S56 63 [0] [.r,.r,.r,.r,.r,.l] m ⟨[(0,vf [.ptr 0 0 0 []]),(4,vf [.ptr 4 0 0 []]),(5,vf [.ptr 5 0 0 []])],[(0,.box [.sl af m_,.sl ak m_1,.sl bn m_2,.sl aW m_3,.int .i64 m_4]),(4,.box [.int .i64 t4,.int .i64 t41]),(5,.box [.int .i64 r_,.int .i64 r_1,.int .i64 r_2,.int .i64 r_3,.int .i64 r_4,.int .i64 r_5,.int .i64 r_6])]⟩
def kM (k m:Nat)(k_:Int)(m_:YA)(m_1:YP)(m_2:YG)(m_3:YK)(m_4:Int)(t4:Int)(t41:Int)(g_:Int)(g_1:Int)(g_2:Int)(g_3:Int)(g_4:Int)(g_5:Int)(g_6:Int)(g_7:Int)(g_8:Int)(g_9:Int)(g_10:Int):Option (ah×aA):=hb k S56 64 [0] [.r,.r,.r,.r,.r,.l] m ⟨[(0,vf [.ptr 0 0 0 []]),(4,vf [.ptr 4 0 0 []]),(5,vf [.int .i64 k_]),(6,vf [.ptr 6 0 0 []])],[(0,.box [.sl af m_,.sl ak m_1,.sl bn m_2,.sl aW m_3,.int .i64 m_4]),(4,.box [.int .i64 t4,.int .i64 t41]),(6,.box [.int .i64 g_,.int .i64 g_1,.int .i64 g_2,.int .i64 g_3,.int .i64 g_4,.int .i64 g_5,.int .i64 g_6,.int .i64 g_7,.int .i64 g_8,.int .i64 g_9,.int .i64 g_10])]⟩
def vV (k m:Nat)(t6:YN)(t7:Int)(t8:Int)(out_:YN):Option (YN):=hb k S52 67 [] [.r,.r,.l,.r,.l] m ⟨[(3,vf [.vw 3 0]),(6,vf [.sl qI t6]),(7,vf [.int .i64 t7]),(8,vf [.int .i64 t8])],[(3,.row (.int .u8) out_ 0 [] false)]⟩
def rC (k m:Nat)(u_:Int)(b_:YN):Option (YN):=hb k S52 96 [] [.r,.r,.r,.l,.l] m ⟨[(0,vf [.vw 0 0]),(5,vf [.int .u64 u_])],[(0,.row (.int .u8) b_ 0 [] false)]⟩
def rB (k m:Nat)(u_:Int)(b_:YN):Option (YN):=hb k S52 96 [] [.r,.r,.r,.r,.l] m ⟨[(0,vf [.vw 0 0]),(5,vf [.int .u64 u_])],[(0,.row (.int .u8) b_ 0 [] false)]⟩
def gM (k m:Nat)(j_:Option Nat)(rs_:YB)(t18:YB)(t19:Int)(t20:Int)(all_:YN)(ui:YF)(uj:YN)(uk:YN)(ul:YL)(uo:YO)(up:YN)(ur:YR)(us:YL)(ut:YB)(uu:YN):Option (R12):=hb k S9 34 [1050432,1050433,1050434,1050435,1054912,1054913,1054915,1054916,1062592,1062593] [.r,.r,.r,.l,.r,.l] m ⟨[(0,vf [.ref 99 j_]),(1,vf [.sl qB rs_]),(5,vf [.vw 5 0]),(18,vf [.sl qB t18]),(19,vf [.int .i64 t19]),(20,vf [.int .i64 t20]),(1050432,.undef),(1050433,.undef),(1050434,.undef),(1050435,.undef),(1054912,.undef),(1054913,.undef),(1054915,.undef),(1054916,.undef),(1062592,.undef),(1062593,.undef)],[(5,.row (.int .u8) all_ 0 [] false),(1050432,.col 29 0 .mp (.slice (.prod qI (.ref 219))) ui 0 none),(1050433,.col 29 1 .dat qI uj 0 none),(1050434,.col 29 2 .dat qI uk 0 none),(1050435,.col 29 3 .dat .bool ul 0 none),(1054912,.col 99 0 .dat (.ref 29) uo 0 none),(1054913,.col 99 1 .dat qI up 0 none),(1054915,.col 99 3 .own (.slice qB) ur 0 none),(1054916,.col 99 4 .dat .bool us 0 none),(1062592,.col 219 0 .own qB ut 0 none),(1062593,.col 219 1 .dat qI uu 0 none)]⟩
def ef (k m:Nat)(j_:Option Nat)(t47:YB)(t48:Int)(t49:Int)(ui:YF)(uj:YN)(uk:YN)(ul:YL)(uo:YO)(up:YN)(ur:YR)(us:YL)(ut:YB)(uu:YN):Option (R12):=hb k S9 34 [1050432,1050433,1050434,1050435,1054912,1054913,1054915,1054916,1062592,1062593] [.r,.r,.r,.r,.r,.l,.r,.l] m ⟨[(0,vf [.ref 99 j_]),(47,vf [.sl qB t47]),(48,vf [.int .i64 t48]),(49,vf [.int .i64 t49]),(1050432,.undef),(1050433,.undef),(1050434,.undef),(1050435,.undef),(1054912,.undef),(1054913,.undef),(1054915,.undef),(1054916,.undef),(1062592,.undef),(1062593,.undef)],[(1050432,.col 29 0 .mp (.slice (.prod qI (.ref 219))) ui 0 none),(1050433,.col 29 1 .dat qI uj 0 none),(1050434,.col 29 2 .dat qI uk 0 none),(1050435,.col 29 3 .dat .bool ul 0 none),(1054912,.col 99 0 .dat (.ref 29) uo 0 none),(1054913,.col 99 1 .dat qI up 0 none),(1054915,.col 99 3 .own (.slice qB) ur 0 none),(1054916,.col 99 4 .dat .bool us 0 none),(1062592,.col 219 0 .own qB ut 0 none),(1062593,.col 219 1 .dat qI uu 0 none)]⟩
def nr (k m:Nat)(r_:Int)(t6:YN)(t7:Int)(t8:Int):Option (Int):=hb k S61 99 [] [.r,.r,.l,.r,.l] m ⟨[(3,vf [.int .u32 r_]),(6,vf [.sl (.int .u8) t6]),(7,vf [.int .i64 t7]),(8,vf [.int .i64 t8])],[]⟩
def fa (k m:Nat)(d_:Option Nat)(uk:YN)(ul:YL):Option (Bool×YN×YL):=hb k S30 140 [1050434,1050435] [.r,.r,.l,.l] m ⟨[(0,vf [.ref 29 d_]),(1050434,.undef),(1050435,.undef)],[(1050434,.col 29 2 .dat qI uk 0 none),(1050435,.col 29 3 .dat .bool ul 0 none)]⟩
def dI (k m:Nat)(ns_:YN)(rest_:YN)(t2:Int)(t21:Int):Option (ah×YN×Bool):=hb k S24 147 [] [.r,.r,.r,.l] m ⟨[(2,vf [.ptr 2 0 0 []]),(5,vf [.sl qI ns_]),(6,vf [.sl (.int .u8) rest_])],[(2,.box [.int .i64 t2,.int .i64 t21])]⟩
def fN (k m:Nat)(key_:Int)(t8:YG)(t9:Int)(t10:Int):Option (Int):=hb k S60 94 [] [.r,.l,.r,.l] m ⟨[(1,vf [.int .i64 key_]),(8,vf [.sl bn t8]),(9,vf [.int .i64 t9]),(10,vf [.int .i64 t10])],[]⟩
def jN (k m:Nat)(d_:Option Nat)(b_:YN)(works_:Bool)(f_:Nat)(ui:YF)(uj:YN)(uk:YN)(ul:YL)(ut:YB)(uu:YN):Option (R14):=hb k S11 100 [1050432,1050433,1050434,1050435,1062592,1062593] [.r,.r,.r,.r,.r,.r,.l] m ⟨[(0,vf [.ref 29 d_]),(2,vf [.sl (.int .u8) b_]),(7,vf [.bool works_]),(8,vf [.rb 219 f_]),(1050432,.undef),(1050433,.undef),(1050434,.undef),(1050435,.undef),(1062592,.undef),(1062593,.undef)],[(1050432,.col 29 0 .mp (.slice (.prod qI (.ref 219))) ui 0 none),(1050433,.col 29 1 .dat qI uj 0 none),(1050434,.col 29 2 .dat qI uk 0 none),(1050435,.col 29 3 .dat .bool ul 0 none),(1062592,.col 219 0 .own qB ut 0 none),(1062593,.col 219 1 .dat qI uu 0 none)]⟩
def fS (k m:Nat)(d_:Option Nat)(b_:YN)(works_:Bool)(f_:Option Nat)(ui:YF)(uj:YN)(uk:YN)(ul:YL)(ut:YB)(uu:YN):Option (R14):=hb k S11 100 [1050432,1050433,1050434,1050435,1062592,1062593] [.r,.r,.r,.r,.r,.r,.l] m ⟨[(0,vf [.ref 29 d_]),(2,vf [.sl (.int .u8) b_]),(7,vf [.bool works_]),(8,vf [.ref 219 f_]),(1050432,.undef),(1050433,.undef),(1050434,.undef),(1050435,.undef),(1062592,.undef),(1062593,.undef)],[(1050432,.col 29 0 .mp (.slice (.prod qI (.ref 219))) ui 0 none),(1050433,.col 29 1 .dat qI uj 0 none),(1050434,.col 29 2 .dat qI uk 0 none),(1050435,.col 29 3 .dat .bool ul 0 none),(1062592,.col 219 0 .own qB ut 0 none),(1062593,.col 219 1 .dat qI uu 0 none)]⟩
def jc (k m:Nat)(r_:Int)(t10:Int):Option (Int):=hb k S61 138 [] [.r,.r,.l,.r,.l] m ⟨[(0,vf [.int .u32 r_]),(10,vf [.int .i64 t10])],[]⟩
def qa (k m:Nat)(b_:YN)(n_:Int)(out_:YN):Option (YN×YN×Bool):=hb k S19 162 [] [.r,.r,.l,.l] m ⟨[(0,vf [.sl (.int .u8) b_]),(1,vf [.int .i64 n_]),(7,vf [.vw 7 0])],[(7,.row qI out_ 0 [] false)]⟩
theorem Gt (k:Nat)(d_:aA)(r_:ae)(e1:(List (Int×(Int×Int))))(h_e1:e1=[(r_.2.2.1,0,0)])(e2:Int)(h_e2:e2=(d_.1.length:Int)):CF (k+1) S56 xt [vf [.io aE d_],inj aq r_]=((bif decide (64<=e2)then some ((7,0),d_)else((CF k S53 c8 [inj (.slice af) d_.1]).bind λ(r:YA)=>(bif decide (((r.length+e1.length)*24)<=211106232532992)then((CF k S56 iU [vf [.io aE d_],inj (.slice af) (r++e1),inj .err none,inj qI e2]).bind λ(r_1:ah×aA)=>some r_1)else none))):Option (ah×aA)):=by
 subst h_e1 h_e2;kernel_rfl
theorem yC (k:Nat)(d_:aA)(r_:ae):CF (k+1) S56 pa [vf [.io aE d_],inj aq r_]=(((CF k S59 dQ [vf [.io aE d_],inj (.slice qI) [r_.2.2.1]]).bind λ(r:Bool×aA)=>(bif(!r.1)then some ((2,0),r.2)else(bif(inb r_.2.2.1 r.2.1.length)then((CF k S60 cd [inj qI 0,inj qI (List.getD r.2.1 (Int.toNat r_.2.2.1) (0,0,0)).1]).bind λ(r_1:Int)=>((CF k S56 mU [vf [.io aE r.2],inj qI r_1,inj qI r_.2.2.1,inj qI r_.2.2.2.2.1]).bind λ(r_2:ah×aA)=>some r_2))else none))):Option (ah×aA)):=by kernel_rfl
theorem wv (k:Nat)(d_:aA)(r_:ae):CF (k+1) S56 mT [vf [.io aE d_],inj aq r_]=(((CF k S59 dQ [vf [.io aE d_],inj (.slice qI) [r_.2.2.1,r_.2.2.2.1]]).bind λ(r:Bool×aA)=>(bif(!r.1)then some ((2,0),r.2)else((CF k S56 mU [vf [.io aE r.2],inj qI r_.2.2.1,inj qI r_.2.2.2.1,inj qI r_.2.2.2.2.1]).bind λ(r_1:ah×aA)=>some r_1))):Option (ah×aA)):=by kernel_rfl
theorem Gw (k:Nat)(d_:aA)(r_:ae):CF (k+1) S56 xu [vf [.io aE d_],inj aq r_]=(((CF k S59 dQ [vf [.io aE d_],inj (.slice qI) [r_.2.2.1,r_.2.2.2.1]]).bind λ(r:Bool×aA)=>(bif(!r.1)then some ((2,0),r.2)else(bif decide (r_.2.2.1=r_.2.2.2.1)then some ((1,0),r.2)else(bif decide (r_.2.2.2.2.2.2<=r.2.2.2.2.2)then some ((1,0),r.2)else(bif decide (64<=(r.2.2.1.length:Int))then some ((7,0),r.2)else(rI k k r.2.1 r.2.2.1 r.2.2.2.1 r.2.2.2.2.1 r.2.2.2.2.2 r_.1 r_.2.1 r_.2.2.1 r_.2.2.2.1 r_.2.2.2.2.1 r_.2.2.2.2.2.1 r_.2.2.2.2.2.2 0 0)))))):Option (ah×aA)):=by kernel_rfl
theorem Ac (k m:Nat)(d_:YA)(d_1:YP)(d_2:YG)(d_3:YK)(d_4:Int)(r_:Int)(r_1:Int)(r_2:Int)(r_3:Int)(r_4:Int)(r_5:Int)(r_6:Int)(t4:Int)(t41:Int)(e1:(List (Int×(Int×(Int×(Int×(Int×(Int×(Int×Int)))))))))(h_e1:e1=[(r_2,r_3,r_4,0,0,0,r_6,0)]):rI k (m+1) d_ d_1 d_2 d_3 d_4 r_ r_1 r_2 r_3 r_4 r_5 r_6 t4 t41=((CF k S33 pW [inj (.slice af) d_,inj qI r_2,inj qI r_4]).bind λ(r:YA×(Option Int))=>((CF k S56 iU [vf [.io aE (d_,d_1,d_2,d_3,d_4)],inj (.slice af) r.1,inj .err r.2,inj qI (d_1.length:Int)]).bind λ(r_7:ah×aA)=>(bif(!r.2.isSome)then(bif decide ((r_7.2.2.1.length*64)<=211106232532992)then(bif decide (((r_7.2.2.1.length+e1.length)*64)<=211106232532992)then some (r_7.1,r_7.2.1,(r_7.2.2.1++e1),r_7.2.2.2)else none)else none)else some r_7))):=by
 subst h_e1;kernel_rfl
theorem yE (k:Nat)(d_:aA)(r_:ae):CF (k+1) S56 pb [vf [.io aE d_],inj aq r_]=(((CF k S25 iV [vf [.io aE d_],inj aq r_]).bind λ(r:ag×ag×(Option Int)×aA)=>(bif r.2.2.1.isSome then((CF k Z2 bL [inj .err r.2.2.1]).bind λ(r_1:ah)=>some (r_1,r.2.2.2))else((CF k S36 n_eV [inj (.slice af) r.2.2.2.1,inj qI r.1.1,inj qI r.1.2.1,inj qI r_.2.2.2.2.1]).bind λ(r_1:(List (ah))×(Option Int))=>(bif r_1.2.isSome then((CF k Z2 bL [inj .err r_1.2]).bind λ(r_2:ah)=>some (r_2,r.2.2.2))else((CF k S33 mX [inj (.slice af) r.2.2.2.1,inj qI r_.2.2.2.2.1,inj (.slice aK) r_1.1]).bind λ(r_2:YA×(Option Int))=>((CF k S56 lA [vf [.io aE r.2.2.2],inj qI r_.2.2.1,inj ak r.2.1,inj (.slice af) r_2.1,inj .err r_2.2]).bind λ(r_3:ah×aA)=>some r_3)))))):Option (ah×aA)):=by kernel_rfl
theorem Gq (k:Nat)(d_:aA)(r_:ae):CF (k+1) S56 xr [vf [.io aE d_],inj aq r_]=(((CF k S25 iV [vf [.io aE d_],inj aq r_]).bind λ(r:ag×ag×(Option Int)×aA)=>(bif r.2.2.1.isSome then((CF k Z2 bL [inj .err r.2.2.1]).bind λ(r_1:ah)=>some (r_1,r.2.2.2))else((CF k S60 fg [inj ak r.1]).bind λ(r_1:Int)=>((CF k S33 gw [inj (.slice af) r.2.2.2.1,inj qI r.1.1,inj qI r_1]).bind λ(r_2:YA×(Option Int))=>((CF k S56 lA [vf [.io aE r.2.2.2],inj qI r_.2.2.1,inj ak r.2.1,inj (.slice af) r_2.1,inj .err r_2.2]).bind λ(r_3:ah×aA)=>some r_3))))):Option (ah×aA)):=by kernel_rfl
theorem Ax (k:Nat)(d_:aA)(r_:ae):CF (k+1) S56 qP [vf [.io aE d_],inj aq r_]=(((CF k S25 iV [vf [.io aE d_],inj aq r_]).bind λ(r:ag×ag×(Option Int)×aA)=>(bif r.2.2.1.isSome then((CF k Z2 bL [inj .err r.2.2.1]).bind λ(r_1:ah)=>some (r_1,r.2.2.2))else((CF k S31 mV [vf [.io aE r.2.2.2],inj ak r.1,inj qI r_.2.2.2.2.1]).bind λ(r_1:(List (ah))×(Option Int)×aA)=>(bif r_1.2.1.isSome then((CF k Z2 bL [inj .err r_1.2.1]).bind λ(r_2:ah)=>some (r_2,r_1.2.2))else((CF k S33 lB [inj (.slice af) r_1.2.2.1,inj (.slice aK) r_1.1]).bind λ(r_2:YA×(Option Int))=>((CF k S56 lA [vf [.io aE r_1.2.2],inj qI r_.2.2.1,inj ak r.2.1,inj (.slice af) r_2.1,inj .err r_2.2]).bind λ(r_3:ah×aA)=>some r_3)))))):Option (ah×aA)):=by kernel_rfl
theorem Ay (k:Nat)(d_:aA)(r_:ae):CF (k+1) S56 qQ [vf [.io aE d_],inj aq r_]=(((CF k S25 iV [vf [.io aE d_],inj aq r_]).bind λ(r:ag×ag×(Option Int)×aA)=>(bif r.2.2.1.isSome then((CF k Z2 bL [inj .err r.2.2.1]).bind λ(r_1:ah)=>some (r_1,r.2.2.2))else((CF k S31 mV [vf [.io aE r.2.2.2],inj ak r.1,inj qI r_.2.2.2.2.1]).bind λ(r_1:(List (ah))×(Option Int)×aA)=>(bif r_1.2.1.isSome then((CF k Z2 bL [inj .err r_1.2.1]).bind λ(r_2:ah)=>some (r_2,r_1.2.2))else(bif(inb r.1.2.1 r_1.2.2.1.length)then(bif(inb 0 r_1.1.length)then((CF k S60 iu [inj af (List.getD r_1.2.2.1 (Int.toNat r.1.2.1) (0,0,0))]).bind λ(r_2:Int)=>(bif decide (0<(w64 ((w64 (0-(List.getD r_1.1 0 (0,0)).2))-r_2)))then(bif(inb 0 r_1.1.length)then(bif(inb 0 r_1.1.length)then((CF k S60 cd [inj qI 2,inj qI (List.getD r_1.2.2.1 (Int.toNat r.1.2.1) (0,0,0)).1]).bind λ(r_3:Int)=>(bif decide ((((List.set r_1.1 0 ((List.getD r_1.1 0 (0,0)).1,(w64 ((List.getD r_1.1 0 (0,0)).2+(w64 ((w64 (0-(List.getD r_1.1 0 (0,0)).2))-r_2)))))).length+[(r_3,(w64 (0-(w64 ((w64 (0-(List.getD r_1.1 0 (0,0)).2))-r_2)))))].length)*16)<=211106232532992)then(gL k k r_1.2.2.1 r_1.2.2.2.1 r_1.2.2.2.2.1 r_1.2.2.2.2.2.1 r_1.2.2.2.2.2.2 r_.1 r_.2.1 r_.2.2.1 r_.2.2.2.1 r_.2.2.2.2.1 r_.2.2.2.2.2.1 r_.2.2.2.2.2.2 0 0 r.2.1.1 r.2.1.2.1 r.2.1.2.2.1 r.2.1.2.2.2.1 r.2.1.2.2.2.2.1 r.2.1.2.2.2.2.2.1 r.2.1.2.2.2.2.2.2.1 r.2.1.2.2.2.2.2.2.2 ((List.set r_1.1 0 ((List.getD r_1.1 0 (0,0)).1,(w64 ((List.getD r_1.1 0 (0,0)).2+(w64 ((w64 (0-(List.getD r_1.1 0 (0,0)).2))-r_2))))))++[(r_3,(w64 (0-(w64 ((w64 (0-(List.getD r_1.1 0 (0,0)).2))-r_2)))))]))else none))else none)else none)else(gL k k r_1.2.2.1 r_1.2.2.2.1 r_1.2.2.2.2.1 r_1.2.2.2.2.2.1 r_1.2.2.2.2.2.2 r_.1 r_.2.1 r_.2.2.1 r_.2.2.2.1 r_.2.2.2.2.1 r_.2.2.2.2.2.1 r_.2.2.2.2.2.2 0 0 r.2.1.1 r.2.1.2.1 r.2.1.2.2.1 r.2.1.2.2.2.1 r.2.1.2.2.2.2.1 r.2.1.2.2.2.2.2.1 r.2.1.2.2.2.2.2.2.1 r.2.1.2.2.2.2.2.2.2 r_1.1)))else none)else none))))):Option (ah×aA)):=by kernel_rfl
theorem vW (k m:Nat)(d_:YA)(d_1:YP)(d_2:YG)(d_3:YK)(d_4:Int)(r_:Int)(r_1:Int)(r_2:Int)(r_3:Int)(r_4:Int)(r_5:Int)(r_6:Int)(t4:Int)(t41:Int)(q_:Int)(q_1:Int)(q_2:Int)(q_3:Int)(q_4:Int)(q_5:Int)(q_6:Int)(q_7:Int)(un:List (ah)):gL k (m+1) d_ d_1 d_2 d_3 d_4 r_ r_1 r_2 r_3 r_4 r_5 r_6 t4 t41 q_ q_1 q_2 q_3 q_4 q_5 q_6 q_7 un=((CF k S33 lB [inj (.slice af) d_,inj (.slice aK) un]).bind λ(r:YA×(Option Int))=>((CF k S56 lA [vf [.io aE (d_,d_1,d_2,d_3,d_4)],inj qI r_2,inj ak (q_,q_1,q_2,q_3,q_4,q_5,q_6,q_7),inj (.slice af) r.1,inj .err r.2]).bind λ(r_7:ah×aA)=>some r_7)):=by kernel_rfl
theorem oK (k:Nat)(p_:ag)(n_:Int)(e1:Int)(h_e1:e1=(w64 (p_.2.2.2.1+n_))):CF (k+1) S39 iT [inj ak p_,inj qI n_]=(((CF k S60 fg [inj ak p_]).bind λ(r:Int)=>(bif decide (e1=p_.2.2.1)then some ((p_.1,p_.2.1,p_.2.2.1,e1,p_.2.2.2.2.1,p_.2.2.2.2.2.1,p_.2.2.2.2.2.2.1,1),decide (n_<=r))else some ((p_.1,p_.2.1,p_.2.2.1,e1,p_.2.2.2.2),decide (n_<=r)))):Option (ag×Bool)):=by
 subst h_e1;kernel_rfl
theorem pF (k:Nat)(p_:ag)(n_:Int):CF (k+1) S39 j5 [inj ak p_,inj qI n_]=(((CF k S60 dA [inj ak p_]).bind λ(r:Int)=>some ((p_.1,p_.2.1,p_.2.2.1,p_.2.2.2.1,(w64 (p_.2.2.2.2.1+n_)),p_.2.2.2.2.2),decide (n_<=r))):Option (ag×Bool)):=by kernel_rfl
theorem pG (k:Nat)(p_:ag)(n_:Int):CF (k+1) S39 j6 [inj ak p_,inj qI n_]=(((CF k S60 dA [inj ak p_]).bind λ(r:Int)=>some ((p_.1,p_.2.1,p_.2.2.1,p_.2.2.2.1,p_.2.2.2.2.1,(w64 (p_.2.2.2.2.2.1+n_)),p_.2.2.2.2.2.2),decide (n_<=r))):Option (ag×Bool)):=by kernel_rfl
theorem tl (k:Nat)(p_:ag)(a1_:Int):CF (k+1) S39 lR [inj ak p_,inj qI a1_]=(some ((p_.1,p_.2.1,p_.2.2.1,p_.2.2.2.1,p_.2.2.2.2.1,p_.2.2.2.2.2.1,p_.2.2.2.2.2.2.1,1),decide (p_.2.2.2.2.2.2.2=0)):Option (ag×Bool)):=by kernel_rfl
theorem DR (k:Nat)(x_:Option Nat)(un:YT):CF (k+1) S46 b5 [inj (.ref 30) x_,Cn un]=((bif x_.isSome then some ((List.getD un (x_.getD 0) ([],[],[],[],0)),un)else none):Option (ab×YT)):=by kernel_rfl
theorem f_wO (k:Nat)(room_:Int)(ua:YO)(ub:YO)(uc:YS)(ud:YE)(ue:YN)(uf:YI)(ug:YT)(uh:YE)(ui:YF)(uj:YN)(uk:YN)(ul:YL)(um:YO)(un:YT)(uo:YO)(up:YN)(uq:YB)(ur:YR)(us:YL)(ut:YB)(uu:YN):CF (k+1) S1 n_wO [inj qI room_,Ca ua,Cb ub,Cc uc,Cd ud,Ce ue,Cf uf,Cg ug,Ch uh,Ci ui,Cj uj,Ck uk,Cl ul,Cm um,Cn un,Co uo,Cp up,Cq uq,Cr ur,Cs us,Ct ut,Cu uu]=(((CF k S14 qW [inj qI room_,Ci ui,Cj uj,Ck uk,Cl ul]).bind λ(r:R18)=>((CF k S6 n_dO [inj (.ref 29) (List.getD (ua++[r.1]) ua.length none),Ci r.2.1,Ck r.2.2.2.1,Cl r.2.2.2.2,Cm um,Cn un,Co uo,Cp up,Cq uq,Cr ur,Cs us,Ct ut,Cu uu]).bind λ(r_1:R7)=>some (some ua.length,(ua++[r.1]),(List.set (ub++[none]) ua.length r_1.1),(uc++[[]]),(ud++[[]]),(ue++[0]),(List.set (uf++[none]) ua.length r_1.2.1),(ug++[([],[],[],[],0)]),(uh++[[]]),r_1.2.2.1,r.2.2.1,r_1.2.2.2))):Option (R1)):=by kernel_rfl
abbrev nL (k:Nat)(w_:Option Nat)(keep_:Int)(ua:YO)(ub:YO)(uc:YS)(ud:YE)(ue:YN)(uf:YI)(ug:YT)(uh:YE)(ui:YF)(uj:YN)(uk:YN)(ul:YL)(um:YO)(un:YT)(uo:YO)(up:YN)(uq:YB)(ur:YR)(us:YL)(ut:YB)(uu:YN):Option R3:=(bif w_.isSome then((CF k S48 fj [inj (.ref 29) (List.getD ua (w_.getD 0) none),Cl ul]).bind λ(r:Bool×YL)=>(bif r.1 then((CF k Z1 nX [inj (.ref 26) w_,inj qI keep_,Ca ua,Cb ub,Cd ud,Ce ue,Cf uf,Cg ug,Ch uh,Ci ui,Ck uk,Cl r.2,Cm um,Cn un,Co uo,Cp up,Cq uq,Cr ur,Cs us,Ct ut,Cu uu]).bind λ(r_1:R4)=>some (r_1.1,r_1.2.1,uc,r_1.2.2.1,r_1.2.2.2.1,r_1.2.2.2.2.1,r_1.2.2.2.2.2.1,r_1.2.2.2.2.2.2.1,r_1.2.2.2.2.2.2.2.1,uj,r_1.2.2.2.2.2.2.2.2))else some (ua,ub,uc,ud,ue,uf,ug,uh,ui,uj,uk,r.2,um,un,uo,up,uq,ur,us,ut,uu)))else none)
theorem IJ (k:Nat)(w_:Option Nat)(a_:au)(keep_:Int)(ua:YO)(ub:YO)(uc:YS)(ud:YE)(ue:YN)(uf:YI)(ug:YT)(uh:YE)(ui:YF)(uj:YN)(uk:YN)(ul:YL)(um:YO)(un:YT)(uo:YO)(up:YN)(uq:YB)(ur:YR)(us:YL)(ut:YB)(uu:YN)(e1:(List ((Int×(Int×(Int×(Int×(Int×(Int×Int))))))×(Int×Int))))(h_e1:e1=(List.getD uc (w_.getD 0) []))(e2:Int)(h_e2:e2=(e1.length:Int))(e3:Int)(h_e3:e3=(Int.tmod a_.2.2.1 e2)):CF (k+1) Z7 vF [inj (.ref 26) w_,inj aH a_,inj qI keep_,Ca ua,Cb ub,Cc uc,Cd ud,Ce ue,Cf uf,Cg ug,Ch uh,Ci ui,Cj uj,Ck uk,Cl ul,Cm um,Cn un,Co uo,Cp up,Cq uq,Cr ur,Cs us,Ct ut,Cu uu]=((bif w_.isSome then(bif(List.getD uf (w_.getD 0) none).isSome then some (ua,ub,uc,ud,ue,uf,ug,uh,ui,uj,uk,ul,um,un,uo,up,uq,ur,us,ut,uu)else(bif decide (a_.1=0)then((CF k Z6 pT [inj (.ref 26) w_,inj aq a_.2.1,Cb ub,Cc uc,Cd ud,Cg ug,Ch uh,Ci ui,Cj uj,Ck uk,Cl ul,Cm um,Cn un,Co uo,Cp up,Cq uq,Cr ur,Cs us,Ct ut,Cu uu]).bind λ(r:R5)=>(nL k w_ keep_ ua r.1 r.2.1 r.2.2.1 ue uf r.2.2.2.1 r.2.2.2.2.1 r.2.2.2.2.2.1 r.2.2.2.2.2.2.1 r.2.2.2.2.2.2.2.1 r.2.2.2.2.2.2.2.2.1 r.2.2.2.2.2.2.2.2.2.1 r.2.2.2.2.2.2.2.2.2.2.1 r.2.2.2.2.2.2.2.2.2.2.2.1 r.2.2.2.2.2.2.2.2.2.2.2.2.1 r.2.2.2.2.2.2.2.2.2.2.2.2.2.1 r.2.2.2.2.2.2.2.2.2.2.2.2.2.2.1 r.2.2.2.2.2.2.2.2.2.2.2.2.2.2.2.1 r.2.2.2.2.2.2.2.2.2.2.2.2.2.2.2.2.1 r.2.2.2.2.2.2.2.2.2.2.2.2.2.2.2.2.2))else(bif decide (a_.1=1)then(bif w_.isSome then(bif decide (0<e2)then(bif w_.isSome then(bif w_.isSome then(bif(!decide (e2=0))then(bif(inb e3 e1.length)then((CF k Z6 pT [inj (.ref 26) w_,inj aq (List.getD e1 (Int.toNat e3) ((0,0,0,0,0,0,0),0,0)).1,Cb ub,Cc uc,Cd ud,Cg ug,Ch uh,Ci ui,Cj uj,Ck uk,Cl ul,Cm um,Cn un,Co uo,Cp up,Cq uq,Cr ur,Cs us,Ct ut,Cu uu]).bind λ(r:R5)=>(nL k w_ keep_ ua r.1 r.2.1 r.2.2.1 ue uf r.2.2.2.1 r.2.2.2.2.1 r.2.2.2.2.2.1 r.2.2.2.2.2.2.1 r.2.2.2.2.2.2.2.1 r.2.2.2.2.2.2.2.2.1 r.2.2.2.2.2.2.2.2.2.1 r.2.2.2.2.2.2.2.2.2.2.1 r.2.2.2.2.2.2.2.2.2.2.2.1 r.2.2.2.2.2.2.2.2.2.2.2.2.1 r.2.2.2.2.2.2.2.2.2.2.2.2.2.1 r.2.2.2.2.2.2.2.2.2.2.2.2.2.2.1 r.2.2.2.2.2.2.2.2.2.2.2.2.2.2.2.1 r.2.2.2.2.2.2.2.2.2.2.2.2.2.2.2.2.1 r.2.2.2.2.2.2.2.2.2.2.2.2.2.2.2.2.2))else none)else none)else none)else none)else(nL k w_ keep_ ua ub uc ud ue uf ug uh ui uj uk ul um un uo up uq ur us ut uu))else none)else(bif decide (a_.1=2)then(bif w_.isSome then((CF k S46 b5 [inj (.ref 30) (List.getD ub (w_.getD 0) none),Cn un]).bind λ(r:ab×YT)=>((CF k S47 iK [inj aD r.1]).bind λ(r_1:YN)=>(bif decide (0<(r_1.length:Int))then(bif(!decide ((r_1.length:Int)=0))then(bif(inb (Int.tmod a_.2.2.1 (r_1.length:Int)) r_1.length)then((CF k S3 kp [inj (.ref 26) w_,inj aH (1,(0,0,0,0,0,0,0),(List.getD r_1 (Int.toNat (Int.tmod a_.2.2.1 (r_1.length:Int))) 0),a_.2.2.2),Cb ub,Cd ud,Cg ug,Ch uh,Ci ui,Cj uj,Ck uk,Cl ul,Cm um,Cn r.2,Co uo,Cp up,Cq uq,Cr ur,Cs us,Ct ut,Cu uu]).bind λ(r_2:R6)=>(nL k w_ keep_ ua r_2.2.1 uc r_2.2.2.1 ue uf r_2.2.2.2.1 r_2.2.2.2.2.1 r_2.2.2.2.2.2.1 r_2.2.2.2.2.2.2.1 r_2.2.2.2.2.2.2.2.1 r_2.2.2.2.2.2.2.2.2.1 r_2.2.2.2.2.2.2.2.2.2.1 r_2.2.2.2.2.2.2.2.2.2.2.1 r_2.2.2.2.2.2.2.2.2.2.2.2.1 r_2.2.2.2.2.2.2.2.2.2.2.2.2.1 r_2.2.2.2.2.2.2.2.2.2.2.2.2.2.1 r_2.2.2.2.2.2.2.2.2.2.2.2.2.2.2.1 r_2.2.2.2.2.2.2.2.2.2.2.2.2.2.2.2.1 r_2.2.2.2.2.2.2.2.2.2.2.2.2.2.2.2.2.1 r_2.2.2.2.2.2.2.2.2.2.2.2.2.2.2.2.2.2))else none)else none)else(nL k w_ keep_ ua ub uc ud ue uf ug uh ui uj uk ul um r.2 uo up uq ur us ut uu))))else none)else(bif decide (a_.1=3)then((CF k S3 kp [inj (.ref 26) w_,inj aH (2,(0,0,0,0,0,0,0),0,false),Cb ub,Cd ud,Cg ug,Ch uh,Ci ui,Cj uj,Ck uk,Cl ul,Cm um,Cn un,Co uo,Cp up,Cq uq,Cr ur,Cs us,Ct ut,Cu uu]).bind λ(r:R6)=>(nL k w_ keep_ ua r.2.1 uc r.2.2.1 ue uf r.2.2.2.1 r.2.2.2.2.1 r.2.2.2.2.2.1 r.2.2.2.2.2.2.1 r.2.2.2.2.2.2.2.1 r.2.2.2.2.2.2.2.2.1 r.2.2.2.2.2.2.2.2.2.1 r.2.2.2.2.2.2.2.2.2.2.1 r.2.2.2.2.2.2.2.2.2.2.2.1 r.2.2.2.2.2.2.2.2.2.2.2.2.1 r.2.2.2.2.2.2.2.2.2.2.2.2.2.1 r.2.2.2.2.2.2.2.2.2.2.2.2.2.2.1 r.2.2.2.2.2.2.2.2.2.2.2.2.2.2.2.1 r.2.2.2.2.2.2.2.2.2.2.2.2.2.2.2.2.1 r.2.2.2.2.2.2.2.2.2.2.2.2.2.2.2.2.2))else(bif decide (a_.1=4)then(bif w_.isSome then((CF k S5 kC [inj (.ref 30) (List.getD ub (w_.getD 0) none),Ci ui,Cj uj,Ck uk,Cl ul,Cm um,Cn un,Co uo,Cp up,Cq uq,Cr ur,Cs us,Ct ut,Cu uu]).bind λ(r:R8)=>(nL k w_ keep_ ua ub uc ud ue uf ug uh r.2.1 r.2.2.1 r.2.2.2.1 r.2.2.2.2.1 r.2.2.2.2.2.1 r.2.2.2.2.2.2.1 r.2.2.2.2.2.2.2.1 r.2.2.2.2.2.2.2.2.1 r.2.2.2.2.2.2.2.2.2.1 r.2.2.2.2.2.2.2.2.2.2.1 r.2.2.2.2.2.2.2.2.2.2.2.1 r.2.2.2.2.2.2.2.2.2.2.2.2.1 r.2.2.2.2.2.2.2.2.2.2.2.2.2))else none)else(bif decide (a_.1=5)then(bif w_.isSome then((CF k ⟨[],[(.slice qI)]⟩ vJ [inj (.ref 29) (List.getD ua (w_.getD 0) none),inj qI a_.2.2.1,Ck uk]).bind λ(r:YN)=>(nL k w_ keep_ ua ub uc ud ue uf ug uh ui uj r ul um un uo up uq ur us ut uu))else none)else(nL k w_ keep_ ua ub uc ud ue uf ug uh ui uj uk ul um un uo up uq ur us ut uu))))))))else none):Option (R3)):=by
 subst h_e1 h_e2 h_e3;kernel_rfl
theorem DO (k:Nat)(s_:ab)(e1:Int)(h_e1:e1=(w64 (s_.2.2.2.2+1))):CF (k+1) Z4 od [inj aD s_]=((bif decide (1073741824<=s_.2.2.2.2)then some s_ else((CF k S47 vG [inj (.slice ak) s_.2.1,inj qI e1]).bind λ(r:YN)=>(lH k k r (r.length:Int) 0 s_.1 s_.2.1 s_.2.2.1 s_.2.2.2.1 e1 0))):Option (ab)):=by
 subst h_e1;kernel_rfl
theorem ph (k m:Nat)(t17:YN)(t18:Int)(t19:Int)(s_:YA)(s_1:YP)(s_2:YG)(s_3:YK)(s_4:Int)(t2:Int)(e1:((List (Int×(Int×Int)))×((List (Int×(Int×(Int×(Int×(Int×(Int×(Int×Int))))))))×((List ((Int×(Int×(Int×(Int×(Int×(Int×Int))))))×(Int×(Int×(Int×Int)))))×((List ((Int×(Int×(Int×(Int×(Int×(Int×Int))))))×((Int×Int)×Bool)))×Int)))))(h_e1:e1=(s_,s_1,s_2,s_3,s_4)):lH k (m+1) t17 t18 t19 s_ s_1 s_2 s_3 s_4 t2=(bif decide (t19<t18)then(bif(inb t19 t17.length)then((CF k S40 pV [inj aD e1,inj aq (0,5,(List.getD t17 (Int.toNat t19) 0),0,0,0,0)]).bind λ(r:ab×ah)=>(lH k m t17 t18 (w64 (t19+1)) r.1.1 r.1.2.1 r.1.2.2.1 r.1.2.2.2.1 r.1.2.2.2.2 t2))else none)else some e1):=by
 subst h_e1;kernel_rfl
theorem DQ (k:Nat)(ks_:YK)(r_:ae):CF (k+1) S42 oh [inj (.slice aW) ks_,inj aq r_]=(((CF k S60 gy [inj (.slice aW) ks_,inj qI r_.1]).bind λ(r:Int)=>(bif decide (r<0)then some ((0,0),false)else(bif(inb r ks_.length)then(bif(!(decide ((List.getD ks_ (Int.toNat r) ((0,0,0,0,0,0,0),(0,0),false)).1.1=r_.1)&&(decide ((List.getD ks_ (Int.toNat r) ((0,0,0,0,0,0,0),(0,0),false)).1.2.1=r_.2.1)&&(decide ((List.getD ks_ (Int.toNat r) ((0,0,0,0,0,0,0),(0,0),false)).1.2.2.1=r_.2.2.1)&&(decide ((List.getD ks_ (Int.toNat r) ((0,0,0,0,0,0,0),(0,0),false)).1.2.2.2.1=r_.2.2.2.1)&&(decide ((List.getD ks_ (Int.toNat r) ((0,0,0,0,0,0,0),(0,0),false)).1.2.2.2.2.1=r_.2.2.2.2.1)&&(decide ((List.getD ks_ (Int.toNat r) ((0,0,0,0,0,0,0),(0,0),false)).1.2.2.2.2.2.1=r_.2.2.2.2.2.1)&&(decide ((List.getD ks_ (Int.toNat r) ((0,0,0,0,0,0,0),(0,0),false)).1.2.2.2.2.2.2=r_.2.2.2.2.2.2)&&true))))))))then some ((5,0),true)else(bif(inb r ks_.length)then(bif(!(List.getD ks_ (Int.toNat r) ((0,0,0,0,0,0,0),(0,0),false)).2.2)then some ((10,0),true)else(bif(inb r ks_.length)then some ((List.getD ks_ (Int.toNat r) ((0,0,0,0,0,0,0),(0,0),false)).2.1,true)else none))else none))else none))):Option (ah×Bool)):=by kernel_rfl
theorem wD (k:Nat)(as_:YA):CF (k+1) S53 c8 [inj (.slice af) as_]=((bif decide ((as_.length*24)<=211106232532992)then some as_ else none):Option (YA)):=by kernel_rfl
theorem Gr (k:Nat)(d_:aA)(as_:YA)(e_:Option Int)(id_:Int):CF (k+1) S56 iU [vf [.io aE d_],inj (.slice af) as_,inj .err e_,inj qI id_]=((bif e_.isSome then((CF k Z2 bL [inj .err e_]).bind λ(r:ah)=>some (r,d_))else some ((0,id_),as_,d_.2)):Option (ah×aA)):=by kernel_rfl
theorem yD (k:Nat)(d_:aA)(ks_:YN):CF (k+1) S59 dQ [vf [.io aE d_],inj (.slice qI) ks_]=((iy k k ks_ (ks_.length:Int) 0 d_.1 d_.2.1 d_.2.2.1 d_.2.2.2.1 d_.2.2.2.2):Option (Bool×aA)):=by kernel_rfl
theorem lS (k m:Nat)(t7:YN)(t8:Int)(t9:Int)(d_:YA)(d_1:YP)(d_2:YG)(d_3:YK)(d_4:Int):iy k (m+1) t7 t8 t9 d_ d_1 d_2 d_3 d_4=(bif decide (t9<t8)then(bif(inb t9 t7.length)then((CF k Z0 b6 [inj (.slice af) d_,inj qI (List.getD t7 (Int.toNat t9) 0)]).bind λ(r:Bool)=>(bif(!r)then some (false,d_,d_1,d_2,d_3,d_4)else(iy k m t7 t8 (w64 (t9+1)) d_ d_1 d_2 d_3 d_4)))else none)else some (true,d_,d_1,d_2,d_3,d_4)):=by kernel_rfl
theorem tx (k:Nat)(k_:Int)(cur_:Int):CF (k+1) S60 cd [inj qI k_,inj qI cur_]=((bif decide (k_<0)then some (-1:Int)else(bif decide (2<k_)then some (-1:Int)else(bif decide (cur_<0)then some (-1:Int)else(bif decide (3<=cur_)then some (-1:Int)else some (w64 ((w64 (3*cur_))+k_)))))):Option (Int)):=by kernel_rfl
theorem Gs (k:Nat)(d_:aA)(from_:Int)(to_:Int)(amount_:Int):CF (k+1) S56 mU [vf [.io aE d_],inj qI from_,inj qI to_,inj qI amount_]=(((CF k S36 n_eV [inj (.slice af) d_.1,inj qI from_,inj qI to_,inj qI amount_]).bind λ(r:(List (ah))×(Option Int))=>(bif r.2.isSome then((CF k Z2 bL [inj .err r.2]).bind λ(r_1:ah)=>some (r_1,d_))else((CF k S33 lB [inj (.slice af) d_.1,inj (.slice aK) r.1]).bind λ(r_1:YA×(Option Int))=>((CF k S56 iU [vf [.io aE d_],inj (.slice af) r_1.1,inj .err r_1.2,inj qI 0]).bind λ(r_2:ah×aA)=>some r_2)))):Option (ah×aA)):=by kernel_rfl
theorem IP (k:Nat)(as_:YA)(k_:Int)(amount_:Int):CF (k+1) S33 pW [inj (.slice af) as_,inj qI k_,inj qI amount_]=(((CF k Z0 b6 [inj (.slice af) as_,inj qI k_]).bind λ(r:Bool)=>(bif(!r)then some ([],some 2)else((CF k Z0 aV [inj qI amount_]).bind λ(r_1:Bool)=>(bif(!r_1)then some ([],some 1)else(bif(inb k_ as_.length)then((CF k S60 iu [inj af (List.getD as_ (Int.toNat k_) (0,0,0))]).bind λ(r_2:Int)=>(bif decide (r_2<amount_)then some ([],some 3)else((CF k S53 c8 [inj (.slice af) as_]).bind λ(r_3:YA)=>(bif(inb k_ r_3.length)then(bif(inb k_ r_3.length)then some ((List.set r_3 (Int.toNat k_) ((List.getD r_3 (Int.toNat k_) (0,0,0)).1,(List.getD r_3 (Int.toNat k_) (0,0,0)).2.1,(w64 ((List.getD r_3 (Int.toNat k_) (0,0,0)).2.2+amount_)))),none)else none)else none))))else none))))):Option (YA×(Option Int))):=by kernel_rfl
theorem Gu (k:Nat)(d_:aA)(r_:ae):CF (k+1) S25 iV [vf [.io aE d_],inj aq r_]=((bif decide (r_.2.2.1<0)then some ((0,0,0,0,0,0,0,0),(0,0,0,0,0,0,0,0),some 2,d_)else(bif decide ((d_.2.1.length:Int)<=r_.2.2.1)then some ((0,0,0,0,0,0,0,0),(0,0,0,0,0,0,0,0),some 2,d_)else(rH k k d_.1 d_.2.1 d_.2.2.1 d_.2.2.2.1 d_.2.2.2.2 r_.1 r_.2.1 r_.2.2.1 r_.2.2.2.1 r_.2.2.2.2.1 r_.2.2.2.2.2.1 r_.2.2.2.2.2.2 0 0 0 0 0 0 0 0 0 0 0 0 0 0 0 0))):Option (ag×ag×(Option Int)×aA)):=by kernel_rfl
theorem Ab (k m:Nat)(d_:YA)(d_1:YP)(d_2:YG)(d_3:YK)(d_4:Int)(r_:Int)(r_1:Int)(r_2:Int)(r_3:Int)(r_4:Int)(r_5:Int)(r_6:Int)(t4:Int)(t41:Int)(t42:Int)(t43:Int)(t44:Int)(t45:Int)(t46:Int)(t47:Int)(t5:Int)(t51:Int)(t52:Int)(t53:Int)(t54:Int)(t55:Int)(t56:Int)(t57:Int)(e1:(Int×(Int×(Int×(Int×(Int×(Int×(Int×Int))))))))(h_e1:e1=(List.getD d_1 (Int.toNat r_2) (0,0,0,0,0,0,0,0))):rH k (m+1) d_ d_1 d_2 d_3 d_4 r_ r_1 r_2 r_3 r_4 r_5 r_6 t4 t41 t42 t43 t44 t45 t46 t47 t5 t51 t52 t53 t54 t55 t56 t57=(bif(inb r_2 d_1.length)then((CF k S41 n_pD [inj ak e1,inj qI r_1,inj qI r_4]).bind λ(r:ag×(Option Int))=>some (e1,r.1,r.2,d_,d_1,d_2,d_3,d_4))else none):=by
 subst h_e1;kernel_rfl
theorem yA (k:Nat)(e_:Option Int):CF (k+1) Z2 bL [inj .err e_]=(((CF k S60 cU [inj .err e_]).bind λ(r:Int)=>some (r,0)):Option (ah)):=by kernel_rfl
theorem f_eV (k:Nat)(as_:YA)(from_:Int)(to_:Int)(amount_:Int):CF (k+1) S36 n_eV [inj (.slice af) as_,inj qI from_,inj qI to_,inj qI amount_]=(((CF k S37 fZ [inj (.slice af) as_,inj qI from_]).bind λ(r:Int×Bool)=>(bif(!r.2)then some ([],some 2)else((CF k S37 fZ [inj (.slice af) as_,inj qI to_]).bind λ(r_1:Int×Bool)=>(bif(!r_1.2)then some ([],some 2)else(bif decide (from_=to_)then some ([],some 1)else((CF k Z0 aV [inj qI amount_]).bind λ(r_2:Bool)=>(bif(!r_2)then some ([],some 1)else(h_eV k k as_ from_ to_ amount_)))))))):Option ((List (ah))×(Option Int))):=by kernel_rfl
theorem Mj (k m:Nat)(as_:YA)(from_:Int)(to_:Int)(amount_:Int)(e1:Int)(h_e1:e1=(List.getD as_ (Int.toNat to_) (0,0,0)).1)(e2:Int)(h_e2:e2=(List.getD as_ (Int.toNat from_) (0,0,0)).1):h_eV k (m+1) as_ from_ to_ amount_=(bif(inb from_ as_.length)then(bif(inb to_ as_.length)then(bif decide (e2=e1)then some ([(from_,(w64 (0-amount_))),(to_,amount_)],none)else((CF k S60 cd [inj qI 1,inj qI e2]).bind λ(r:Int)=>((CF k S60 cd [inj qI 1,inj qI e1]).bind λ(r_1:Int)=>(bif decide (r<0)then some ([],some 2)else(bif decide (r_1<0)then some ([],some 2)else(FR k k from_ to_ amount_ e2 e1 r r_1))))))else none)else none):=by
 subst h_e1 h_e2;kernel_rfl
theorem It (k m:Nat)(from_:Int)(to_:Int)(amount_:Int)(a_:Int)(b_:Int)(x_:Int)(y_:Int):FR k (m+1) from_ to_ amount_ a_ b_ x_ y_=((CF k S12 mW []).bind λ(r:R17)=>(bif(inb a_ 3)then(bif(inb b_ 3)then((CF k S27 ed [inj qI amount_,inj aK ((cH b_ [(cH a_ [r.1.1.1,r.2.1.1.1,r.2.2.1.1]),(cH a_ [r.1.2.1.1,r.2.1.2.1.1,r.2.2.2.1.1]),(cH a_ [r.1.2.2.1,r.2.1.2.2.1,r.2.2.2.2.1])]),(cH b_ [(cH a_ [r.1.1.2,r.2.1.1.2,r.2.2.1.2]),(cH a_ [r.1.2.1.2,r.2.1.2.1.2,r.2.2.2.1.2]),(cH a_ [r.1.2.2.2,r.2.1.2.2.2,r.2.2.2.2.2])]))]).bind λ(r_1:Int×Int×(Option Int))=>(bif r_1.2.2.isSome then some ([],r_1.2.2)else(bif decide (r_1.1=0)then some ([],some 1)else some ([(from_,(w64 (0-amount_))),(x_,amount_),(y_,(w64 (0-r_1.1))),(to_,r_1.1)],none))))else none)else none)):=by kernel_rfl
theorem Gx (k:Nat)(as_:YA)(amount_:Int)(un:List (ah)):CF (k+1) S33 mX [inj (.slice af) as_,inj qI amount_,inj (.slice aK) un]=((bif decide ((un.length:Int)=0)then some ([],some 13)else(bif(inb 0 un.length)then((CF k S33 gw [inj (.slice af) as_,inj qI (List.getD un 0 (0,0)).1,inj qI amount_]).bind λ(r:YA×(Option Int))=>(bif r.2.isSome then some ([],r.2)else((CF k S33 lB [inj (.slice af) r.1,inj (.slice aK) un]).bind λ(r_1:YA×(Option Int))=>some r_1)))else none)):Option (YA×(Option Int))):=by kernel_rfl
theorem IM (k:Nat)(d_:aA)(k_:Int)(p_:ag)(as_:YA)(e_:Option Int):CF (k+1) S56 lA [vf [.io aE d_],inj qI k_,inj ak p_,inj (.slice af) as_,inj .err e_]=(((CF k S56 iU [vf [.io aE d_],inj (.slice af) as_,inj .err e_,inj qI 0]).bind λ(r:ah×aA)=>(bif(!e_.isSome)then(bif decide ((r.2.2.1.length*64)<=211106232532992)then(bif(inb k_ r.2.2.1.length)then some (r.1,r.2.1,(List.set r.2.2.1 (Int.toNat k_) p_),r.2.2.2)else none)else none)else some r)):Option (ah×aA)):=by kernel_rfl
theorem tn (k:Nat)(p_:ag):CF (k+1) S60 fg [inj ak p_]=((bif(!decide (p_.2.2.2.2.2.2.2=0))then some 0 else some (w64 (p_.2.2.1-p_.2.2.2.1))):Option (Int)):=by kernel_rfl
theorem AD (k:Nat)(as_:YA)(k_:Int)(amount_:Int):CF (k+1) S33 gw [inj (.slice af) as_,inj qI k_,inj qI amount_]=(((CF k Z0 b6 [inj (.slice af) as_,inj qI k_]).bind λ(r:Bool)=>(bif(!r)then some ([],some 2)else((CF k Z0 aV [inj qI amount_]).bind λ(r_1:Bool)=>(bif(!r_1)then some ([],some 1)else(bif(inb k_ as_.length)then(bif decide ((List.getD as_ (Int.toNat k_) (0,0,0)).2.2<amount_)then some ([],some 6)else((CF k S53 c8 [inj (.slice af) as_]).bind λ(r_2:YA)=>(bif(inb k_ r_2.length)then(bif(inb k_ r_2.length)then some ((List.set r_2 (Int.toNat k_) ((List.getD r_2 (Int.toNat k_) (0,0,0)).1,(List.getD r_2 (Int.toNat k_) (0,0,0)).2.1,(w64 ((List.getD r_2 (Int.toNat k_) (0,0,0)).2.2-amount_)))),none)else none)else none)))else none))))):Option (YA×(Option Int))):=by kernel_rfl
theorem Gv (k:Nat)(d_:aA)(p_:ag)(n_:Int):CF (k+1) S31 mV [vf [.io aE d_],inj ak p_,inj qI n_]=(((CF k S36 n_eV [inj (.slice af) d_.1,inj qI p_.1,inj qI p_.2.1,inj qI n_]).bind λ(r:(List (ah))×(Option Int))=>((CF k S57 im [inj (.slice aK) r.1]).bind λ(r_1:(List (ah)))=>some (r_1,r.2,d_))):Option ((List (ah))×(Option Int)×aA)):=by kernel_rfl
theorem IN (k:Nat)(as_:YA)(un:List (ah)):CF (k+1) S33 lB [inj (.slice af) as_,inj (.slice aK) un]=(((CF k Z0 fA [inj (.slice af) as_,inj (.slice aK) un]).bind λ(r:Bool)=>(bif(!r)then some ([],some 13)else((CF k S53 c8 [inj (.slice af) as_]).bind λ(r_1:YA)=>(nf k k un (un.length:Int) 0 r_1)))):Option (YA×(Option Int))):=by kernel_rfl
theorem uH (k m:Nat)(t20:List (ah))(t21:Int)(t22:Int)(out_:YA)(e1:(Int×Int))(h_e1:e1=(List.getD t20 (Int.toNat t22) (0,0)))(e2:Nat)(h_e2:e2=(Int.toNat e1.1))(e3:(Int×(Int×Int)))(h_e3:e3=(List.getD out_ e2 (0,0,0))):nf k (m+1) t20 t21 t22 out_=(bif decide (t22<t21)then(bif(inb t22 t20.length)then(bif(inb e1.1 out_.length)then((CF k S38 gv [inj qI e3.2.1,inj qI e1.2]).bind λ(r:Int×(Option Int))=>(bif r.2.isSome then some ([],r.2)else(bif(inb e1.1 out_.length)then(nf k m t20 t21 (w64 (t22+1)) (List.set out_ e2 (e3.1,r.1,e3.2.2)))else none)))else none)else none)else(gf k k (out_.length:Int) 0 out_)):=by
 subst h_e1 h_e2 h_e3;kernel_rfl
theorem pj (k m:Nat)(t49:Int)(t50:Int)(out_:YA)(e1:Int)(h_e1:e1=(w64 (t50+1))):gf k (m+1) t49 t50 out_=(bif decide (t50<t49)then(bif(inb t50 out_.length)then((CF k Z0 b6 [inj (.slice af) out_,inj qI t50]).bind λ(r:Bool)=>(bif r then((CF k S60 iu [inj af (List.getD out_ (Int.toNat t50) (0,0,0))]).bind λ(r_1:Int)=>(bif decide (r_1<0)then some ([],some 3)else(gf k m t49 e1 out_)))else(gf k m t49 e1 out_)))else none)else some (out_,none)):=by
 subst h_e1;kernel_rfl
theorem kW (k:Nat)(a_:bu):CF (k+1) S60 iu [inj af a_]=(some (w64 (a_.2.1-a_.2.2)):Option (Int)):=by kernel_rfl
theorem tq (k:Nat)(p_:ag):CF (k+1) S60 dA [inj ak p_]=(some (w64 ((w64 (p_.2.2.2.1-p_.2.2.2.2.1))-p_.2.2.2.2.2.1)):Option (Int)):=by kernel_rfl
theorem f_wR (k:Nat)(b_:YN)(room_:Int)(ua:YO)(ub:YO)(uc:YS)(ud:YE)(ue:YN)(uf:YI)(ug:YT)(uh:YE)(ui:YF)(uj:YN)(uk:YN)(ul:YL)(um:YO)(un:YT)(uo:YO)(up:YN)(uq:YB)(ur:YR)(us:YL)(ut:YB)(uu:YN):CF (k+1) S1 n_wR [inj qB b_,inj qI room_,Ca ua,Cb ub,Cc uc,Cd ud,Ce ue,Cf uf,Cg ug,Ch uh,Ci ui,Cj uj,Ck uk,Cl ul,Cm um,Cn un,Co uo,Cp up,Cq uq,Cr ur,Cs us,Ct ut,Cu uu]=(((CF k S1 n_wO [inj qI room_,Ca ua,Cb ub,Cc uc,Cd ud,Ce ue,Cf uf,Cg ug,Ch uh,Ci ui,Cj uj,Ck uk,Cl ul,Cm um,Cn un,Co uo,Cp up,Cq uq,Cr ur,Cs us,Ct ut,Cu uu]).bind λ(r:R1)=>((CF k S55 n_sA [inj qB b_]).bind λ(r_1:(List (au)))=>(h_wR k k b_ r.1 r_1 (r_1.length:Int) 0 r.2.1 r.2.2.1 r.2.2.2.1 r.2.2.2.2.1 r.2.2.2.2.2.1 r.2.2.2.2.2.2.1 r.2.2.2.2.2.2.2.1 r.2.2.2.2.2.2.2.2.1 r.2.2.2.2.2.2.2.2.2.1 r.2.2.2.2.2.2.2.2.2.2.1 r.2.2.2.2.2.2.2.2.2.2.2.1 r.2.2.2.2.2.2.2.2.2.2.2.2.1 r.2.2.2.2.2.2.2.2.2.2.2.2.2.1 r.2.2.2.2.2.2.2.2.2.2.2.2.2.2.1 r.2.2.2.2.2.2.2.2.2.2.2.2.2.2.2.1 r.2.2.2.2.2.2.2.2.2.2.2.2.2.2.2.2.1 r.2.2.2.2.2.2.2.2.2.2.2.2.2.2.2.2.2.1 r.2.2.2.2.2.2.2.2.2.2.2.2.2.2.2.2.2.2.1 r.2.2.2.2.2.2.2.2.2.2.2.2.2.2.2.2.2.2.2.1 r.2.2.2.2.2.2.2.2.2.2.2.2.2.2.2.2.2.2.2.2.1 r.2.2.2.2.2.2.2.2.2.2.2.2.2.2.2.2.2.2.2.2.2))):Option (R1)):=by kernel_rfl
theorem JD (k m:Nat)(b_:YN)(w_:Option Nat)(t11:List (au))(t12:Int)(t13:Int)(ua:YO)(ub:YO)(uc:YS)(ud:YE)(ue:YN)(uf:YI)(ug:YT)(uh:YE)(ui:YF)(uj:YN)(uk:YN)(ul:YL)(um:YO)(un:YT)(uo:YO)(up:YN)(uq:YB)(ur:YR)(us:YL)(ut:YB)(uu:YN)(e1:Int)(h_e1:e1=(w64 ((w64 (6*t13))+5))):h_wR k (m+1) b_ w_ t11 t12 t13 ua ub uc ud ue uf ug uh ui uj uk ul um un uo up uq ur us ut uu=(bif decide (t13<t12)then(bif(inb t13 t11.length)then(bif(inb e1 b_.length)then((CF k Z7 vF [inj (.ref 26) w_,inj aH (List.getD t11 (Int.toNat t13) (0,(0,0,0,0,0,0,0),0,false)),inj qI (w64 ((w64 (List.getD b_ (Int.toNat e1) 0))*7)),Ca ua,Cb ub,Cc uc,Cd ud,Ce ue,Cf uf,Cg ug,Ch uh,Ci ui,Cj uj,Ck uk,Cl ul,Cm um,Cn un,Co uo,Cp up,Cq uq,Cr ur,Cs us,Ct ut,Cu uu]).bind λ(r:R3)=>(h_wR k m b_ w_ t11 t12 (w64 (t13+1)) r.1 r.2.1 r.2.2.1 r.2.2.2.1 r.2.2.2.2.1 r.2.2.2.2.2.1 r.2.2.2.2.2.2.1 r.2.2.2.2.2.2.2.1 r.2.2.2.2.2.2.2.2.1 r.2.2.2.2.2.2.2.2.2.1 r.2.2.2.2.2.2.2.2.2.2.1 r.2.2.2.2.2.2.2.2.2.2.2.1 r.2.2.2.2.2.2.2.2.2.2.2.2.1 r.2.2.2.2.2.2.2.2.2.2.2.2.2.1 r.2.2.2.2.2.2.2.2.2.2.2.2.2.2.1 r.2.2.2.2.2.2.2.2.2.2.2.2.2.2.2.1 r.2.2.2.2.2.2.2.2.2.2.2.2.2.2.2.2.1 r.2.2.2.2.2.2.2.2.2.2.2.2.2.2.2.2.2.1 r.2.2.2.2.2.2.2.2.2.2.2.2.2.2.2.2.2.2.1 r.2.2.2.2.2.2.2.2.2.2.2.2.2.2.2.2.2.2.2.1 r.2.2.2.2.2.2.2.2.2.2.2.2.2.2.2.2.2.2.2.2))else none)else none)else some (w_,ua,ub,uc,ud,ue,uf,ug,uh,ui,uj,uk,ul,um,un,uo,up,uq,ur,us,ut,uu)):=by
 subst h_e1;kernel_rfl
theorem f_sA (k:Nat)(b_:YN):CF (k+1) S55 n_sA [inj qB b_]=((h_sA k k b_ []):Option ((List (au)))):=by kernel_rfl
theorem JE (k m:Nat)(b_:YN)(out_:List (au))(e1:Int)(h_e1:e1=(b_.length:Int)):h_sA k (m+1) b_ out_=(bif decide (6<=e1)then(bif decide (6<=e1)then((CF k ⟨[(false,aH)],[]⟩ kv [inj qB (List.take 6 b_),inj qI (out_.length:Int)]).bind λ(r:au)=>(bif decide (((out_.length+[r].length)*80)<=211106232532992)then(bif decide (6<=e1)then(h_sA k m (List.drop 6 b_) (out_++[r]))else none)else none))else none)else some out_):=by
 subst h_e1;kernel_rfl
theorem GD (k:Nat)(room_:Int)(ui:YF)(uj:YN)(uk:YN)(ul:YL):CF (k+1) S14 qW [inj qI room_,Ci ui,Cj uj,Ck uk,Cl ul]=(some (some ui.length,(ui++[[]]),(uj++[(maxI 0 (minI room_ 262144))]),(uk++[(-1:Int)]),(ul++[false])):Option (R18)):=by kernel_rfl
theorem f_dO (k:Nat)(d_:Option Nat)(ui:YF)(uk:YN)(ul:YL)(um:YO)(un:YT)(uo:YO)(up:YN)(uq:YB)(ur:YR)(us:YL)(ut:YB)(uu:YN):CF (k+1) S6 n_dO [inj (.ref 29) d_,Ci ui,Ck uk,Cl ul,Cm um,Cn un,Co uo,Cp up,Cq uq,Cr ur,Cs us,Ct ut,Cu uu]=(((CF k S8 n_jO [inj (.ref 29) d_,Ci ui,Ck uk,Cl ul,Co uo,Cp up,Cq uq,Cr ur,Cs us,Ct ut,Cu uu]).bind λ(r:R10)=>(bif r.2.1.isSome then some (none,r.2.1,r.2.2.1,r.2.2.2.1,r.2.2.2.2.1,um,un,r.2.2.2.2.2)else((CF k Z4 xq []).bind λ(r_1:ab)=>((CF k S34 qR [inj (.ref 99) r.1,Cp r.2.2.2.2.2.2.1]).bind λ(r_2:Int×YN)=>(bif decide (0<r_2.1)then((CF k S28 qT [inj (.ref 99) r.1,Cq r.2.2.2.2.2.2.2.1]).bind λ(r_3:YN×YB)=>((CF k S44 eU [inj qB r_3.1]).bind λ(r_4:ab×Bool)=>(bif(!r_4.2)then some (none,some 11,r.2.2.1,r.2.2.2.1,r.2.2.2.2.1,(um++[r.1]),(un++[r_1]),r.2.2.2.2.2.1,r_2.2,r_3.2,r.2.2.2.2.2.2.2.2)else(h_dO k k d_ r.1 um.length r.2.2.1 r.2.2.2.1 r.2.2.2.2.1 (um++[r.1]) (List.set (un++[r_1]) um.length r_4.1) r.2.2.2.2.2.1 r_2.2 r_3.2 r.2.2.2.2.2.2.2.2.1 r.2.2.2.2.2.2.2.2.2.1 r.2.2.2.2.2.2.2.2.2.2.1 r.2.2.2.2.2.2.2.2.2.2.2))))else(h_dO k k d_ r.1 um.length r.2.2.1 r.2.2.2.1 r.2.2.2.2.1 (um++[r.1]) (un++[r_1]) r.2.2.2.2.2.1 r_2.2 r.2.2.2.2.2.2.2.1 r.2.2.2.2.2.2.2.2.1 r.2.2.2.2.2.2.2.2.2.1 r.2.2.2.2.2.2.2.2.2.2.1 r.2.2.2.2.2.2.2.2.2.2.2)))))):Option (R7)):=by kernel_rfl
theorem Mk (k m:Nat)(d_:Option Nat)(j_:Option Nat)(x_:Nat)(ui:YF)(uk:YN)(ul:YL)(um:YO)(un:YT)(uo:YO)(up:YN)(uq:YB)(ur:YR)(us:YL)(ut:YB)(uu:YN):h_dO k (m+1) d_ j_ x_ ui uk ul um un uo up uq ur us ut uu=((CF k S20 kB [inj (.ref 99) j_,Cr ur]).bind λ(r:YB×YR)=>(Cv k k d_ x_ r.1 (r.1.length:Int) 0 ui uk ul um un uo up uq r.2 us ut uu)):=by kernel_rfl
theorem B9 (k m:Nat)(d_:Option Nat)(x_:Nat)(t42:YB)(t43:Int)(t44:Int)(ui:YF)(uk:YN)(ul:YL)(um:YO)(un:YT)(uo:YO)(up:YN)(uq:YB)(ur:YR)(us:YL)(ut:YB)(uu:YN):Cv k (m+1) d_ x_ t42 t43 t44 ui uk ul um un uo up uq ur us ut uu=(bif decide (t44<t43)then(bif(inb t44 t42.length)then((CF k S43 eV [inj qB (List.getD t42 (Int.toNat t44) [])]).bind λ(r:au×Bool)=>(bif(!r.2)then some (none,some 11,ui,uk,ul,um,un,uo,up,uq,ur,us,ut,uu)else((CF k S40 eT [inj aD (List.getD un x_ ([],[],[],[],0)),inj aH r.1]).bind λ(r_1:ab×ah)=>(Cv k m d_ x_ t42 t43 (w64 (t44+1)) ui uk ul um (List.set un x_ r_1.1) uo up uq ur us ut uu))))else none)else some (some x_,none,ui,uk,ul,um,un,uo,up,uq,ur,us,ut,uu)):=by kernel_rfl
theorem II (k:Nat)(w_:Option Nat)(r_:ae)(ub:YO)(uc:YS)(ud:YE)(ug:YT)(uh:YE)(ui:YF)(uj:YN)(uk:YN)(ul:YL)(um:YO)(un:YT)(uo:YO)(up:YN)(uq:YB)(ur:YR)(us:YL)(ut:YB)(uu:YN)(e1:(List ((Int×(Int×(Int×(Int×(Int×(Int×Int))))))×(Int×Int))))(h_e1:e1=(List.getD uc (w_.getD 0) [])):CF (k+1) Z6 pT [inj (.ref 26) w_,inj aq r_,Cb ub,Cc uc,Cd ud,Cg ug,Ch uh,Ci ui,Cj uj,Ck uk,Cl ul,Cm um,Cn un,Co uo,Cp up,Cq uq,Cr ur,Cs us,Ct ut,Cu uu]=((bif w_.isSome then((CF k S3 kp [inj (.ref 26) w_,inj aH (0,r_,0,false),Cb ub,Cd ud,Cg ug,Ch uh,Ci ui,Cj uj,Ck uk,Cl ul,Cm um,Cn un,Co uo,Cp up,Cq uq,Cr ur,Cs us,Ct ut,Cu uu]).bind λ(r:R6)=>(bif decide (((e1.length+[(r_,r.1)].length)*72)<=211106232532992)then(bif w_.isSome then(bif(decide ((w_.getD 0)=(w_.getD 0))&&decide ((w_.getD 0)=(w_.getD 0)))then some (r.2.1,(List.set uc (w_.getD 0) (e1++[(r_,r.1)])),r.2.2)else none)else none)else none))else none):Option (R5)):=by
 subst h_e1;kernel_rfl
theorem pr (k:Nat)(d_:Option Nat)(ul:YL):CF (k+1) S48 fj [inj (.ref 29) d_,Cl ul]=((bif d_.isSome then some ((List.getD ul (d_.getD 0) false),ul)else none):Option (Bool×YL)):=by kernel_rfl
theorem DL (k:Nat)(w_:Option Nat)(keep_:Int)(ua:YO)(ub:YO)(ud:YE)(ue:YN)(uf:YI)(ug:YT)(uh:YE)(ui:YF)(uk:YN)(ul:YL)(um:YO)(un:YT)(uo:YO)(up:YN)(uq:YB)(ur:YR)(us:YL)(ut:YB)(uu:YN)(e1:(List Int))(h_e1:e1=(List.set ue (w_.getD 0) (w64 ((List.getD ue (w_.getD 0) 0)+1)))):CF (k+1) Z1 nX [inj (.ref 26) w_,inj qI keep_,Ca ua,Cb ub,Cd ud,Ce ue,Cf uf,Cg ug,Ch uh,Ci ui,Ck uk,Cl ul,Cm um,Cn un,Co uo,Cp up,Cq uq,Cr ur,Cs us,Ct ut,Cu uu]=((bif w_.isSome then(bif w_.isSome then(bif w_.isSome then((CF k ⟨[],[(.slice (.slice (.prod qI (.ref 219)))),(.slice qI),(.slice .bool),(.slice qB),(.slice qI)]⟩ iq [inj (.ref 29) (List.getD ua (w_.getD 0) none),inj qI keep_,Ci ui,Ck uk,Cl ul,Ct ut,Cu uu]).bind λ(r:R16)=>(bif w_.isSome then((CF k S6 n_dO [inj (.ref 29) (List.getD ua (w_.getD 0) none),Ci r.1,Ck r.2.1,Cl r.2.2.1,Cm um,Cn un,Co uo,Cp up,Cq uq,Cr ur,Cs us,Ct r.2.2.2.1,Cu r.2.2.2.2]).bind λ(r_1:R7)=>(bif w_.isSome then(bif w_.isSome then(bif w_.isSome then(bif(List.getD (List.set uf (w_.getD 0) r_1.2.1) (w_.getD 0) none).isSome then some (ua,(List.set ub (w_.getD 0) r_1.1),ud,e1,(List.set uf (w_.getD 0) r_1.2.1),ug,uh,r_1.2.2)else(bif w_.isSome then(gb k k w_ (w_.getD 0) ((List.getD uh (w_.getD 0) []).length:Int) 0 ua (List.set ub (w_.getD 0) r_1.1) ud e1 (List.set uf (w_.getD 0) r_1.2.1) ug uh r_1.2.2.1 r_1.2.2.2.1 r_1.2.2.2.2.1 r_1.2.2.2.2.2.1 r_1.2.2.2.2.2.2.1 r_1.2.2.2.2.2.2.2.1 r_1.2.2.2.2.2.2.2.2.1 r_1.2.2.2.2.2.2.2.2.2.1 r_1.2.2.2.2.2.2.2.2.2.2.1 r_1.2.2.2.2.2.2.2.2.2.2.2.1 r_1.2.2.2.2.2.2.2.2.2.2.2.2.1 r_1.2.2.2.2.2.2.2.2.2.2.2.2.2)else none))else none)else none)else none))else none))else none)else none)else none):Option (R4)):=by
 subst h_e1;kernel_rfl
theorem pg (k m:Nat)(w_:Option Nat)(t43:Nat)(t44:Int)(t45:Int)(ua:YO)(ub:YO)(ud:YE)(ue:YN)(uf:YI)(ug:YT)(uh:YE)(ui:YF)(uk:YN)(ul:YL)(um:YO)(un:YT)(uo:YO)(up:YN)(uq:YB)(ur:YR)(us:YL)(ut:YB)(uu:YN)(e1:Int)(h_e1:e1=(w64 (t45+1)))(e2:(List (Int×((Int×(Int×(Int×(Int×(Int×(Int×Int))))))×(Int×Bool)))))(h_e2:e2=(List.getD uh t43 []))(e3:(List (Int×((Int×(Int×(Int×(Int×(Int×(Int×Int))))))×(Int×Bool)))))(h_e3:e3=(List.getD ud (w_.getD 0) []))(e4:(Int×((Int×(Int×(Int×(Int×(Int×(Int×Int))))))×(Int×Bool))))(h_e4:e4=(List.getD e2 (Int.toNat t45) (0,(0,0,0,0,0,0,0),0,false))):gb k (m+1) w_ t43 t44 t45 ua ub ud ue uf ug uh ui uk ul um un uo up uq ur us ut uu=(bif decide (t45<t44)then(bif(inb t45 e2.length)then(bif w_.isSome then((CF k S40 eT [inj aD (List.getD ug (w_.getD 0) ([],[],[],[],0)),inj aH e4]).bind λ(r:ab×ah)=>((CF k S49 n_cS [inj aD r.1]).bind λ(r_1:YN)=>(bif w_.isSome then((CF k S46 b5 [inj (.ref 30) (List.getD ub (w_.getD 0) none),Cn un]).bind λ(r_2:ab×YT)=>((CF k S49 n_cS [inj aD r_2.1]).bind λ(r_3:YN)=>(bif decide (r_1=r_3)then(bif w_.isSome then(bif decide (((e3.length+[e4].length)*80)<=211106232532992)then(bif w_.isSome then(bif(decide ((w_.getD 0)=(w_.getD 0))&&decide ((w_.getD 0)=(w_.getD 0)))then(gb k m w_ t43 t44 e1 ua ub (List.set ud (w_.getD 0) (e3++[e4])) ue uf ug uh ui uk ul um r_2.2 uo up uq ur us ut uu)else none)else none)else none)else none)else(gb k m w_ t43 t44 e1 ua ub ud ue uf ug uh ui uk ul um r_2.2 uo up uq ur us ut uu))))else none)))else none)else none)else(bif w_.isSome then some (ua,ub,ud,ue,uf,ug,(List.set uh (w_.getD 0) []),ui,uk,ul,um,un,uo,up,uq,ur,us,ut,uu)else none)):=by
 subst h_e1 h_e2 h_e3 h_e4;kernel_rfl
theorem tv (k:Nat)(s_:ab):CF (k+1) S47 iK [inj aD s_]=((fh k k s_.2.2.1 (s_.2.2.1.length:Int) 0 []):Option (YN)):=by kernel_rfl
theorem j7 (k m:Nat)(t7:YG)(t8:Int)(t9:Int)(out_:YN)(e1:(List Int))(h_e1:e1=[(List.getD t7 (Int.toNat t9) ((0,0,0,0,0,0,0),0,0,0,0)).1.1]):fh k (m+1) t7 t8 t9 out_=(bif decide (t9<t8)then(bif(inb t9 t7.length)then(bif decide (((out_.length+e1.length)*8)<=211106232532992)then(fh k m t7 t8 (w64 (t9+1)) (out_++e1))else none)else none)else some out_):=by
 subst h_e1;kernel_rfl
theorem Gp (k:Nat)(w_:Option Nat)(e_:au)(ub:YO)(ud:YE)(ug:YT)(uh:YE)(ui:YF)(uj:YN)(uk:YN)(ul:YL)(um:YO)(un:YT)(uo:YO)(up:YN)(uq:YB)(ur:YR)(us:YL)(ut:YB)(uu:YN)(e1:(List (Int×((Int×(Int×(Int×(Int×(Int×(Int×Int))))))×(Int×Bool)))))(h_e1:e1=(List.getD ud (w_.getD 0) []))(e2:(List (Int×((Int×(Int×(Int×(Int×(Int×(Int×Int))))))×(Int×Bool)))))(h_e2:e2=(List.getD uh (w_.getD 0) [])):CF (k+1) S3 kp [inj (.ref 26) w_,inj aH e_,Cb ub,Cd ud,Cg ug,Ch uh,Ci ui,Cj uj,Ck uk,Cl ul,Cm um,Cn un,Co uo,Cp up,Cq uq,Cr ur,Cs us,Ct ut,Cu uu]=((bif w_.isSome then((CF k S46 b5 [inj (.ref 30) (List.getD ub (w_.getD 0) none),Cn un]).bind λ(r:ab×YT)=>(bif w_.isSome then(bif w_.isSome then((CF k S4 vH [inj (.ref 30) (List.getD ub (w_.getD 0) none),inj aH e_,Ci ui,Cj uj,Ck uk,Cl ul,Cm um,Cn r.2,Co uo,Cp up,Cq uq,Cr ur,Cs us,Ct ut,Cu uu]).bind λ(r_1:R9)=>(bif decide (r_1.1.1=12)then(bif w_.isSome then(bif decide (((e2.length+[e_].length)*80)<=211106232532992)then(bif w_.isSome then(bif(decide ((w_.getD 0)=(w_.getD 0))&&decide ((w_.getD 0)=(w_.getD 0)))then some (r_1.1,ub,ud,(List.set ug (w_.getD 0) r.1),(List.set uh (w_.getD 0) (e2++[e_])),r_1.2)else none)else none)else none)else none)else(bif decide (r_1.1.1=8)then some (r_1.1,ub,ud,(List.set ug (w_.getD 0) r.1),uh,r_1.2)else(bif w_.isSome then(bif decide (((e1.length+[e_].length)*80)<=211106232532992)then(bif w_.isSome then(bif(decide ((w_.getD 0)=(w_.getD 0))&&decide ((w_.getD 0)=(w_.getD 0)))then some (r_1.1,ub,(List.set ud (w_.getD 0) (e1++[e_])),(List.set ug (w_.getD 0) r.1),uh,r_1.2)else none)else none)else none)else none))))else none)else none))else none):Option (R6)):=by
 subst h_e1 h_e2;kernel_rfl
theorem GF (k:Nat)(x_:Option Nat)(ui:YF)(uj:YN)(uk:YN)(ul:YL)(um:YO)(un:YT)(uo:YO)(up:YN)(uq:YB)(ur:YR)(us:YL)(ut:YB)(uu:YN):CF (k+1) S5 kC [inj (.ref 30) x_,Ci ui,Cj uj,Ck uk,Cl ul,Cm um,Cn un,Co uo,Cp up,Cq uq,Cr ur,Cs us,Ct ut,Cu uu]=((bif x_.isSome then(bif x_.isSome then((CF k S49 n_cS [inj aD (List.getD un (x_.getD 0) ([],[],[],[],0))]).bind λ(r:YN)=>((CF k S7 qS [inj (.ref 99) (List.getD um (x_.getD 0) none),inj qB r,Ci ui,Cj uj,Ck uk,Cl ul,Co uo,Cp up,Cq uq,Cr ur,Cs us,Ct ut,Cu uu]).bind λ(r_1:R11)=>some (r_1.1,r_1.2.1,r_1.2.2.1,r_1.2.2.2.1,r_1.2.2.2.2.1,um,un,r_1.2.2.2.2.2)))else none)else none):Option (R8)):=by kernel_rfl
theorem IT (k:Nat)(d_:Option Nat)(n_:Int)(uk:YN):CF (k+1) ⟨[],[(.slice qI)]⟩ vJ [inj (.ref 29) d_,inj qI n_,Ck uk]=((bif d_.isSome then some (List.set uk (d_.getD 0) (maxI 0 n_))else none):Option (YN)):=by kernel_rfl
theorem IS (k:Nat)(ps_:YP)(now_:Int):CF (k+1) S47 vG [inj (.slice ak) ps_,inj qI now_]=(((CF k S47 mZ [inj (.slice ak) ps_]).bind λ(r:YN)=>(qb k k ps_ now_ r (r.length:Int) 0 [])):Option (YN)):=by kernel_rfl
theorem uJ (k m:Nat)(ps_:YP)(now_:Int)(t9:YN)(t10:Int)(t11:Int)(out_:YN)(e1:Int)(h_e1:e1=(List.getD t9 (Int.toNat t11) 0)):qb k (m+1) ps_ now_ t9 t10 t11 out_=(bif decide (t11<t10)then(bif(inb t11 t9.length)then(bif(inb e1 ps_.length)then(bif decide (now_<(List.getD ps_ (Int.toNat e1) (0,0,0,0,0,0,0,0)).2.2.2.2.2.2.1)then some out_ else(bif decide (((out_.length+[e1].length)*8)<=211106232532992)then(qb k m ps_ now_ t9 t10 (w64 (t11+1)) (out_++[e1]))else none))else none)else none)else some out_):=by
 subst h_e1;kernel_rfl
theorem IL (k:Nat)(s_:ab)(r_:ae):CF (k+1) S40 pV [inj aD s_,inj aq r_]=(((CF k Z5 mR [inj qI r_.2.1]).bind λ(r:(Option Nat))=>(bif(!r.isSome)then some (s_,1,0)else(bif r.isSome then((CF k S56 (r.getD 0) [vf [.io aE s_],inj aq r_]).bind λ(r_1:ah×aA)=>some (r_1.2,r_1.1))else none))):Option (ab×ah)):=by kernel_rfl
theorem f_rM (k:Nat)(r_:ae):CF (k+1) Z0 n_rM [inj aq r_]=((bif decide (r_.1<0)then some false else(bif decide (1073741824<=r_.1)then some false else(bif decide (r_.2.2.2.2.2.1<0)then some false else(bif decide (4<r_.2.2.2.2.2.1)then some false else(bif decide (r_.2.2.2.2.2.2<0)then some false else(bif decide (1073741824<r_.2.2.2.2.2.2)then some false else(h_rM k k r_.1 r_.2.1 r_.2.2.1 r_.2.2.2.1 r_.2.2.2.2.1 r_.2.2.2.2.2.1 r_.2.2.2.2.2.2))))))):Option (Bool)):=by kernel_rfl
theorem Mg (k m:Nat)(r_:Int)(r_1:Int)(r_2:Int)(r_3:Int)(r_4:Int)(r_5:Int)(r_6:Int):h_rM k (m+1) r_ r_1 r_2 r_3 r_4 r_5 r_6=(bif decide (0<r_5)then(bif(!decide (r_1=2))then some false else(xP k k r_ r_1 r_2 r_3 r_4 r_5 r_6))else(xP k k r_ r_1 r_2 r_3 r_4 r_5 r_6)):=by kernel_rfl
theorem Iq (k m:Nat)(r_:Int)(r_1:Int)(r_2:Int)(r_3:Int)(r_4:Int)(r_5:Int)(r_6:Int):xP k (m+1) r_ r_1 r_2 r_3 r_4 r_5 r_6=(bif decide (r_1=0)then(bif decide (0<=r_2)then some (decide (r_2<3))else some false)else(bif decide (r_1=5)then some true else(bif decide (r_1=1)then(bif decide (r_1=1)then((CF k Z0 aV [inj qI r_4]).bind λ(r:Bool)=>some r)else some false)else(bif decide (r_1=2)then(bif decide (r_1=2)then((CF k Z0 aV [inj qI r_4]).bind λ(r:Bool)=>some r)else some false)else(bif decide (r_1=3)then(bif decide (r_1=3)then((CF k Z0 aV [inj qI r_4]).bind λ(r:Bool)=>some r)else some false)else(bif decide (r_1=4)then(bif decide (r_1=4)then((CF k Z0 aV [inj qI r_4]).bind λ(r:Bool)=>some r)else some false)else(bif decide (r_1=6)then(bif decide (r_1=6)then((CF k Z0 aV [inj qI r_4]).bind λ(r:Bool)=>some r)else some false)else(bif decide (r_1=7)then((CF k Z0 aV [inj qI r_4]).bind λ(r:Bool)=>some r)else some false)))))))):=by kernel_rfl
theorem DP (k:Nat)(ks_:YK)(r_:ae)(e1:(List ((Int×(Int×(Int×(Int×(Int×(Int×Int))))))×((Int×Int)×Bool))))(h_e1:e1=[(r_,(0,0),false)]):CF (k+1) S35 og [inj (.slice aW) ks_,inj aq r_]=(((CF k S60 gy [inj (.slice aW) ks_,inj qI r_.1]).bind λ(r:Int)=>(bif decide (0<=r)then some ([],some 5)else(bif decide (256<=(ks_.length:Int))then some ([],some 7)else(bif decide ((ks_.length*80)<=211106232532992)then(bif decide (((ks_.length+e1.length)*80)<=211106232532992)then some ((ks_++e1),none)else none)else none)))):Option (YK×(Option Int))):=by
 subst h_e1;kernel_rfl
theorem tk (k:Nat)(r_:ae):CF (k+1) Z0 ff [inj aq r_]=((bif decide (0<r_.2.2.2.2.2.1)then some (decide (r_.2.1=2))else some false):Option (Bool)):=by kernel_rfl
theorem AF (k:Nat)(ks_:YK)(key_:Int)(r_:ah):CF (k+1) S35 gx [inj (.slice aW) ks_,inj qI key_,inj aK r_]=(((CF k S60 gy [inj (.slice aW) ks_,inj qI key_]).bind λ(r:Int)=>(bif decide (r<0)then some ([],some 2)else(bif(inb r ks_.length)then(bif(List.getD ks_ (Int.toNat r) ((0,0,0,0,0,0,0),(0,0),false)).2.2 then some ([],some 6)else(bif decide ((ks_.length*80)<=211106232532992)then(bif(inb r ks_.length)then(bif(inb r (List.set ks_ (Int.toNat r) ((List.getD ks_ (Int.toNat r) ((0,0,0,0,0,0,0),(0,0),false)).1,r_,(List.getD ks_ (Int.toNat r) ((0,0,0,0,0,0,0),(0,0),false)).2.2)).length)then some ((List.set (List.set ks_ (Int.toNat r) ((List.getD ks_ (Int.toNat r) ((0,0,0,0,0,0,0),(0,0),false)).1,r_,(List.getD ks_ (Int.toNat r) ((0,0,0,0,0,0,0),(0,0),false)).2.2)) (Int.toNat r) ((List.getD (List.set ks_ (Int.toNat r) ((List.getD ks_ (Int.toNat r) ((0,0,0,0,0,0,0),(0,0),false)).1,r_,(List.getD ks_ (Int.toNat r) ((0,0,0,0,0,0,0),(0,0),false)).2.2)) (Int.toNat r) ((0,0,0,0,0,0,0),(0,0),false)).1,(List.getD (List.set ks_ (Int.toNat r) ((List.getD ks_ (Int.toNat r) ((0,0,0,0,0,0,0),(0,0),false)).1,r_,(List.getD ks_ (Int.toNat r) ((0,0,0,0,0,0,0),(0,0),false)).2.2)) (Int.toNat r) ((0,0,0,0,0,0,0),(0,0),false)).2.1,true)),none)else none)else none)else none))else none))):Option (YK×(Option Int))):=by kernel_rfl
theorem AG (k:Nat)(ks_:YK)(key_:Int):CF (k+1) S60 gy [inj (.slice aW) ks_,inj qI key_]=((jJ k k key_ ks_ (ks_.length:Int) 0):Option (Int)):=by kernel_rfl
theorem ng (k m:Nat)(key_:Int)(t7:YK)(t8:Int)(t9:Int):jJ k (m+1) key_ t7 t8 t9=(bif decide (t9<t8)then(bif(inb t9 t7.length)then(bif decide ((List.getD t7 (Int.toNat t9) ((0,0,0,0,0,0,0),(0,0),false)).1.1=key_)then some t9 else(jJ k m key_ t7 t8 (w64 (t9+1))))else none)else some (-1:Int)):=by kernel_rfl
theorem pI (k:Nat)(as_:YA)(k_:Int):CF (k+1) Z0 b6 [inj (.slice af) as_,inj qI k_]=(((CF k S37 fZ [inj (.slice af) as_,inj qI k_]).bind λ(r:Int×Bool)=>(bif r.2 then some (decide (r.1=3))else some false)):Option (Bool)):=by kernel_rfl
theorem tu (k:Nat)(n_:Int):CF (k+1) Z0 aV [inj qI n_]=((bif decide (1<=n_)then some (decide (n_<=1099511627776))else some false):Option (Bool)):=by kernel_rfl
theorem f_pD (k:Nat)(p_:ag)(op_:Int)(n_:Int)(e1:Int)(h_e1:e1=p_.2.2.2.2.2.2.1)(e2:Int)(h_e2:e2=p_.2.2.2.2.2.2.2):CF (k+1) S41 n_pD [inj ak p_,inj qI op_,inj qI n_]=(((CF k Z5 kz [inj qI op_]).bind λ(r:(Option Nat))=>(bif(!r.isSome)then some ((0,0,0,0,0,0,0,0),some 13)else(bif(!decide (op_=5))then(bif decide (n_<1)then some ((0,0,0,0,0,0,0,0),some 1)else(h_pD k k n_ r p_.1 p_.2.1 p_.2.2.1 p_.2.2.2.1 p_.2.2.2.2.1 p_.2.2.2.2.2.1 e1 e2 0 0 0 0 0 0 0 0))else(h_pD k k n_ r p_.1 p_.2.1 p_.2.2.1 p_.2.2.2.1 p_.2.2.2.2.1 p_.2.2.2.2.2.1 e1 e2 0 0 0 0 0 0 0 0)))):Option (ag×(Option Int))):=by
 subst h_e1 h_e2;kernel_rfl
theorem Mh (k m:Nat)(n_:Int)(do_:Option Nat)(p_:Int)(p_1:Int)(p_2:Int)(p_3:Int)(p_4:Int)(p_5:Int)(p_6:Int)(p_7:Int)(t6:Int)(t61:Int)(t62:Int)(t63:Int)(t64:Int)(t65:Int)(t66:Int)(t67:Int):h_pD k (m+1) n_ do_ p_ p_1 p_2 p_3 p_4 p_5 p_6 p_7 t6 t61 t62 t63 t64 t65 t66 t67=(bif do_.isSome then((CF k S39 (do_.getD 0) [inj ak (p_,p_1,p_2,p_3,p_4,p_5,p_6,p_7),inj qI n_]).bind λ(r:ag×Bool)=>(bif(!r.2)then some ((0,0,0,0,0,0,0,0),some 6)else some (r.1,none)))else none):=by kernel_rfl
theorem DT (k:Nat)(as_:YA)(k_:Int):CF (k+1) S37 fZ [inj (.slice af) as_,inj qI k_]=((bif decide (k_<0)then some (0,false)else(bif decide ((as_.length:Int)<=k_)then some (0,false)else(bif decide (k_<9)then some ((Int.tmod k_ 3),true)else some (3,true)))):Option (Int×Bool)):=by kernel_rfl
theorem wx (k:Nat):CF (k+1) S12 mW []=(some (((1,1),(9,10),150,1),((11,10),(1,1),160,1),(1,151),(1,161),1,1):Option (R17)):=by kernel_rfl
theorem sk (k:Nat)(n_:Int)(r_:ah)(e1:Int)(h_e1:e1=(w64 (n_*r_.1)))(e2:Int)(h_e2:e2=(w64 (Int.tdiv e1 r_.2))):CF (k+1) S27 ed [inj qI n_,inj aK r_]=(((CF k Z0 aV [inj qI n_]).bind λ(r:Bool)=>(bif(!r)then some (0,0,some 13)else((CF k Z0 dZ [inj aK r_]).bind λ(r_1:Bool)=>(bif(!r_1)then some (0,0,some 13)else(bif(!decide (r_.2=0))then(bif decide (1099511627776<e2)then some (0,0,some 4)else(bif(!decide (r_.2=0))then(bif(!decide (r_.2=0))then some (e2,(Int.tmod e1 r_.2),none)else none)else none))else none))))):Option (Int×Int×(Option Int))):=by
 subst h_e1 h_e2;kernel_rfl
theorem yI (k:Nat)(un:List (ah)):CF (k+1) S57 im [inj (.slice aK) un]=((iC k k un (w64 ((un.length:Int)-1)) []):Option ((List (ah)))):=by kernel_rfl
theorem lV (k m:Nat)(un:List (ah))(k_:Int)(out_:List (ah))(e1:(Int×Int))(h_e1:e1=(List.getD un (Int.toNat k_) (0,0)))(e2:(List (Int×Int)))(h_e2:e2=[(e1.1,(w64 (0-e1.2)))]):iC k (m+1) un k_ out_=(bif decide (0<=k_)then(bif(inb k_ un.length)then(bif(inb k_ un.length)then(bif decide (((out_.length+e2.length)*16)<=211106232532992)then(iC k m un (w64 (k_-1)) (out_++e2))else none)else none)else none)else some out_):=by
 subst h_e1 h_e2;kernel_rfl
theorem pH (k:Nat)(as_:YA)(un:List (ah)):CF (k+1) Z0 fA [inj (.slice af) as_,inj (.slice aK) un]=((dD k k as_ un (un.length:Int) 0 0 0 0):Option (Bool)):=by kernel_rfl
theorem iB (k m:Nat)(as_:YA)(t13:List (ah))(t14:Int)(t15:Int)(sums_:Int)(sums_1:Int)(sums_2:Int)(e1:(Int×Int))(h_e1:e1=(List.getD t13 (Int.toNat t15) (0,0))):dD k (m+1) as_ t13 t14 t15 sums_ sums_1 sums_2=(bif decide (t15<t14)then(bif(inb t15 t13.length)then((CF k S37 fZ [inj (.slice af) as_,inj qI e1.1]).bind λ(r:Int×Bool)=>(bif(!r.2)then some false else((CF k Z0 dG [inj qI e1.2]).bind λ(r_1:Bool)=>(bif(!r_1)then some false else(eh k m k as_ t13 t14 t15 sums_ sums_1 sums_2 e1.1 e1.2)))))else none)else some (decide (sums_=0)&&(decide (sums_1=0)&&(decide (sums_2=0)&&true)))):=by
 subst h_e1;kernel_rfl
theorem lM (k m1 m:Nat)(as_:YA)(t13:List (ah))(t14:Int)(t15:Int)(sums_:Int)(sums_1:Int)(sums_2:Int)(e_:Int)(e_1:Int)(e1:Int)(h_e1:e1=(List.getD as_ (Int.toNat e_) (0,0,0)).1):eh k m1 (m+1) as_ t13 t14 t15 sums_ sums_1 sums_2 e_ e_1=(bif(inb e_ as_.length)then(bif decide (e1<0)then some false else(bif decide (3<=e1)then some false else(cQ k m1 k as_ e1 t13 t14 t15 sums_ sums_1 sums_2 e_ e_1)))else none):=by
 subst h_e1;kernel_rfl
theorem lL (k m1 m:Nat)(as_:YA)(c_:Int)(t13:List (ah))(t14:Int)(t15:Int)(sums_:Int)(sums_1:Int)(sums_2:Int)(e_:Int)(e_1:Int):cQ k m1 (m+1) as_ c_ t13 t14 t15 sums_ sums_1 sums_2 e_ e_1=(bif(inb c_ 3)then((CF k S38 gv [inj qI (cH c_ [sums_,sums_1,sums_2]),inj qI e_1]).bind λ(r:Int×(Option Int))=>(bif r.2.isSome then some false else(bif(inb c_ 3)then(dD k m1 as_ t13 t14 (w64 (t15+1)) (bif decide (c_=0)then r.1 else sums_) (bif decide (c_=1)then r.1 else sums_1) (bif decide (c_=2)then r.1 else sums_2))else none)))else none):=by kernel_rfl
theorem AA (k:Nat)(a_:Int)(b_:Int):CF (k+1) S38 gv [inj qI a_,inj qI b_]=(((CF k Z0 dG [inj qI a_]).bind λ(r:Bool)=>(bif(!r)then some (0,some 4)else((CF k Z0 dG [inj qI b_]).bind λ(r_1:Bool)=>(bif(!r_1)then some (0,some 4)else((CF k Z0 dG [inj qI (w64 (a_+b_))]).bind λ(r_2:Bool)=>(bif(!r_2)then some (0,some 4)else some ((w64 (a_+b_)),none))))))):Option (Int×(Option Int))):=by kernel_rfl
theorem yu (k:Nat)(b_:YN)(n_:Int)(e1:Int)(h_e1:e1=(List.getD b_ 5 0))(e2:Int)(h_e2:e2=(List.getD b_ 2 0))(e3:Int)(h_e3:e3=(List.getD b_ 1 0))(e4:Int)(h_e4:e4=(Int.tmod (List.getD b_ 0 0) 12))(e5:Int)(h_e5:e5=(Int.tmod e3 4))(e6:Int)(h_e6:e6=(Int.tmod e2 4))(e7:Int)(h_e7:e7=(w64 (Int.tmod e3 8)))(e8:Int)(h_e8:e8=(w64 (9+(w64 (Int.tmod (List.getD b_ 3 0) 6)))))(e9:Int)(h_e9:e9=(w64 (9+(w64 (Int.tmod e2 6)))))(e10:Int)(h_e10:e10=(w64 (1+(w64 ((w64 (List.getD b_ 4 0))*7)))))(e11:(Int×((Int×(Int×(Int×(Int×(Int×(Int×Int))))))×(Int×Bool))))(h_e11:e11=(5,(0,0,0,0,0,0,0),(w64 e6),false))(e12:(Int×((Int×(Int×(Int×(Int×(Int×(Int×Int))))))×(Int×Bool))))(h_e12:e12=(2,(0,0,0,0,0,0,0),(w64 e3),decide (0<e6)))(e13:(Int×((Int×(Int×(Int×(Int×(Int×(Int×Int))))))×(Int×Bool))))(h_e13:e13=(0,(n_,e7,(w64 e6),e8,e10,0,0),0,false))(e14:(Int×((Int×(Int×(Int×(Int×(Int×(Int×Int))))))×(Int×Bool))))(h_e14:e14=(0,(n_,e7,(w64 (Int.tmod e2 3)),e8,e10,0,0),0,false))(e15:(Int×((Int×(Int×(Int×(Int×(Int×(Int×Int))))))×(Int×Bool))))(h_e15:e15=(0,(n_,e7,e9,e8,e10,0,0),0,false))(e16:(Int×((Int×(Int×(Int×(Int×(Int×(Int×Int))))))×(Int×Bool))))(h_e16:e16=(0,(n_,e7,e9,e8,e10,(w64 (Int.tmod e1 4)),0),0,false))(e17:(Int×((Int×(Int×(Int×(Int×(Int×(Int×Int))))))×(Int×Bool))))(h_e17:e17=(0,(n_,e7,e9,e8,e10,0,(w64 (1+(w64 (Int.tmod e1 8))))),0,false)):CF (k+1) ⟨[(false,aH)],[]⟩ kv [inj qB b_,inj qI n_]=((bif(inb 0 b_.length)then(bif decide (e4=0)then(bif(inb 1 b_.length)then some (1,(0,0,0,0,0,0,0),(w64 e3),false)else none)else(bif decide (e4=1)then(bif decide (e4=1)then(bif(inb 1 b_.length)then(bif(inb 2 b_.length)then some e12 else none)else none)else(bif decide (e4=4)then some (3,(0,0,0,0,0,0,0),0,false)else(bif decide (e4=5)then(bif(inb 1 b_.length)then(bif decide (0<e5)then some (4,(0,0,0,0,0,0,0),0,false)else(bif(inb 2 b_.length)then some e11 else none))else none)else(bif(inb 1 b_.length)then(bif(inb 2 b_.length)then(bif(inb 3 b_.length)then(bif(inb 4 b_.length)then(bif decide (e7=0)then(bif(inb 2 b_.length)then some e14 else none)else(bif decide (e7=2)then(bif(inb 5 b_.length)then some e16 else none)else(bif decide (e7=3)then(bif(inb 5 b_.length)then some e17 else none)else(bif decide (e7=4)then(bif decide (e7=4)then(bif(inb 2 b_.length)then some e13 else none)else some e15)else(bif decide (e7=5)then(bif decide (e7=5)then(bif(inb 2 b_.length)then some e13 else none)else some e15)else(bif decide (e7=6)then(bif decide (e7=6)then(bif(inb 2 b_.length)then some e13 else none)else some e15)else(bif decide (e7=7)then(bif(inb 2 b_.length)then some e13 else none)else some e15)))))))else none)else none)else none)else none))))else(bif decide (e4=2)then(bif decide (e4=2)then(bif(inb 1 b_.length)then(bif(inb 2 b_.length)then some e12 else none)else none)else(bif decide (e4=4)then some (3,(0,0,0,0,0,0,0),0,false)else(bif decide (e4=5)then(bif(inb 1 b_.length)then(bif decide (0<e5)then some (4,(0,0,0,0,0,0,0),0,false)else(bif(inb 2 b_.length)then some e11 else none))else none)else(bif(inb 1 b_.length)then(bif(inb 2 b_.length)then(bif(inb 3 b_.length)then(bif(inb 4 b_.length)then(bif decide (e7=0)then(bif(inb 2 b_.length)then some e14 else none)else(bif decide (e7=2)then(bif(inb 5 b_.length)then some e16 else none)else(bif decide (e7=3)then(bif(inb 5 b_.length)then some e17 else none)else(bif decide (e7=4)then(bif decide (e7=4)then(bif(inb 2 b_.length)then some e13 else none)else some e15)else(bif decide (e7=5)then(bif decide (e7=5)then(bif(inb 2 b_.length)then some e13 else none)else some e15)else(bif decide (e7=6)then(bif decide (e7=6)then(bif(inb 2 b_.length)then some e13 else none)else some e15)else(bif decide (e7=7)then(bif(inb 2 b_.length)then some e13 else none)else some e15)))))))else none)else none)else none)else none))))else(bif decide (e4=3)then(bif(inb 1 b_.length)then(bif(inb 2 b_.length)then some e12 else none)else none)else(bif decide (e4=4)then some (3,(0,0,0,0,0,0,0),0,false)else(bif decide (e4=5)then(bif(inb 1 b_.length)then(bif decide (0<e5)then some (4,(0,0,0,0,0,0,0),0,false)else(bif(inb 2 b_.length)then some e11 else none))else none)else(bif(inb 1 b_.length)then(bif(inb 2 b_.length)then(bif(inb 3 b_.length)then(bif(inb 4 b_.length)then(bif decide (e7=0)then(bif(inb 2 b_.length)then some e14 else none)else(bif decide (e7=2)then(bif(inb 5 b_.length)then some e16 else none)else(bif decide (e7=3)then(bif(inb 5 b_.length)then some e17 else none)else(bif decide (e7=4)then(bif decide (e7=4)then(bif(inb 2 b_.length)then some e13 else none)else some e15)else(bif decide (e7=5)then(bif decide (e7=5)then(bif(inb 2 b_.length)then some e13 else none)else some e15)else(bif decide (e7=6)then(bif decide (e7=6)then(bif(inb 2 b_.length)then some e13 else none)else some e15)else(bif decide (e7=7)then(bif(inb 2 b_.length)then some e13 else none)else some e15)))))))else none)else none)else none)else none)))))))else none):Option (au)):=by
 subst h_e1 h_e2 h_e3 h_e4 h_e5 h_e6 h_e7 h_e8 h_e9 h_e10 h_e11 h_e12 h_e13 h_e14 h_e15 h_e16 h_e17;kernel_rfl
theorem f_jO (k:Nat)(d_:Option Nat)(ui:YF)(uk:YN)(ul:YL)(uo:YO)(up:YN)(uq:YB)(ur:YR)(us:YL)(ut:YB)(uu:YN)(e1:(List Bool))(h_e1:e1=(us++[false]))(e2:(List Int))(h_e2:e2=(up++[0]))(e3:(List (List Int)))(h_e3:e3=(uq++[[]]))(e4:(List (List (List Int))))(h_e4:e4=(ur++[[]])):CF (k+1) S8 n_jO [inj (.ref 29) d_,Ci ui,Ck uk,Cl ul,Co uo,Cp up,Cq uq,Cr ur,Cs us,Ct ut,Cu uu]=(((CF k S15 gz [inj (.ref 29) d_,inj qI 0,Ci ui,Ct ut]).bind λ(r:R20)=>(bif r.2.1 then((CF k S21 jD [inj qB r.1]).bind λ(r_1:YN×Int×Bool)=>(bif(!r_1.2.2)then some (none,some 11,r.2.2.1,uk,ul,(uo++[d_]),e2,e3,e4,e1,r.2.2.2,uu)else(bif(!decide (r_1.2.1=(r.1.length:Int)))then some (none,some 11,r.2.2.1,uk,ul,(uo++[d_]),e2,e3,e4,e1,r.2.2.2,uu)else(h_jO k k d_ uo.length r_1.1 r.2.2.1 uk ul (uo++[d_]) e2 e3 e4 e1 r.2.2.2 uu))))else(xQ k k d_ uo.length r.2.2.1 uk ul (uo++[d_]) e2 e3 e4 e1 r.2.2.2 uu))):Option (R10)):=by
 subst h_e1 h_e2 h_e3 h_e4;kernel_rfl
theorem Mi (k m:Nat)(d_:Option Nat)(j_:Nat)(x_:YN)(ui:YF)(uk:YN)(ul:YL)(uo:YO)(up:YN)(uq:YB)(ur:YR)(us:YL)(ut:YB)(uu:YN):h_jO k (m+1) d_ j_ x_ ui uk ul uo up uq ur us ut uu=((CF k S22 nY [inj qB x_]).bind λ(r:Int×YN×Bool)=>(bif(!r.2.2)then some (none,some 11,ui,uk,ul,uo,up,uq,ur,us,ut,uu)else(bif decide (r.1<1)then some (none,some 11,ui,uk,ul,uo,up,uq,ur,us,ut,uu)else(FQ k k d_ j_ r.1 r.2.1 ui uk ul uo up uq ur us ut uu)))):=by kernel_rfl
theorem Is (k m:Nat)(d_:Option Nat)(j_:Nat)(ui:YF)(uk:YN)(ul:YL)(uo:YO)(up:YN)(uq:YB)(ur:YR)(us:YL)(ut:YB)(uu:YN):xQ k (m+1) d_ j_ ui uk ul uo up uq ur us ut uu=((CF k S18 oi [inj (.ref 29) d_,Ci ui]).bind λ(r:YN×YF)=>(uI k k d_ j_ r.1 (r.1.length:Int) 0 r.2 uk ul uo up uq ur us ut uu)):=by kernel_rfl
theorem Ir (k m:Nat)(d_:Option Nat)(j_:Nat)(turn_:Int)(rest_:YN)(ui:YF)(uk:YN)(ul:YL)(uo:YO)(up:YN)(uq:YB)(ur:YR)(us:YL)(ut:YB)(uu:YN):FQ k (m+1) d_ j_ turn_ rest_ ui uk ul uo up uq ur us ut uu=(bif decide ((rest_.length*1)<=211106232532992)then(xQ k k d_ j_ ui uk ul uo (List.set up j_ turn_) (List.set uq j_ rest_) ur us ut uu)else none):=by kernel_rfl
theorem B8 (k m:Nat)(d_:Option Nat)(j_:Nat)(t67:YN)(t68:Int)(t69:Int)(ui:YF)(uk:YN)(ul:YL)(uo:YO)(up:YN)(uq:YB)(ur:YR)(us:YL)(ut:YB)(uu:YN)(e1:Int)(h_e1:e1=(List.getD t67 (Int.toNat t69) 0))(e2:Int)(h_e2:e2=(w64 (t69+1)))(e3:Int)(h_e3:e3=(w64 (2+(List.getD up j_ 0)))):uI k (m+1) d_ j_ t67 t68 t69 ui uk ul uo up uq ur us ut uu=(bif decide (t69<t68)then(bif(inb t69 t67.length)then(bif(!decide (e1=0))then(bif(!decide (e1=e3))then((CF k S16 cT [inj (.ref 29) d_,inj qI e1,Ci ui,Ck uk,Cl ul]).bind λ(r:R19)=>(bif r.1.isSome then some (none,r.1,r.2.1,r.2.2.1,r.2.2.2,uo,up,uq,ur,us,ut,uu)else(uI k m d_ j_ t67 t68 e2 r.2.1 r.2.2.1 r.2.2.2 uo up uq ur us ut uu)))else(uI k m d_ j_ t67 t68 e2 ui uk ul uo up uq ur us ut uu))else(uI k m d_ j_ t67 t68 e2 ui uk ul uo up uq ur us ut uu))else none)else((CF k S15 gz [inj (.ref 29) d_,inj qI e3,Ci ui,Ct ut]).bind λ(r:R20)=>((CF k S26 ij [inj qB r.1]).bind λ(r_1:YB×Int)=>(bif r.2.1 then(bif decide (r_1.2<(r.1.length:Int))then((CF k S13 vI [inj (.ref 29) d_,inj qI e3,inj qI r_1.2,Ci r.2.2.1,Ck uk,Cl ul,Ct r.2.2.2,Cu uu]).bind λ(r_2:R15)=>(bif r_2.1.isSome then some (none,r_2.1,r_2.2.1,r_2.2.2.1,r_2.2.2.2.1,uo,up,uq,(List.set ur j_ r_1.1),us,r_2.2.2.2.2)else some (some j_,none,r_2.2.1,r_2.2.2.1,r_2.2.2.2.1,uo,up,uq,(List.set ur j_ r_1.1),us,r_2.2.2.2.2)))else some (some j_,none,r.2.2.1,uk,ul,uo,up,uq,(List.set ur j_ r_1.1),us,r.2.2.2,uu))else some (some j_,none,r.2.2.1,uk,ul,uo,up,uq,(List.set ur j_ r_1.1),us,r.2.2.2,uu))))):=by
 subst h_e1 h_e2 h_e3;kernel_rfl
theorem Gy (k:Nat)(j_:Option Nat)(up:YN):CF (k+1) S34 qR [inj (.ref 99) j_,Cp up]=((bif j_.isSome then some ((List.getD up (j_.getD 0) 0),up)else none):Option (Int×YN)):=by kernel_rfl
theorem GA (k:Nat)(j_:Option Nat)(uq:YB)(e1:(List Int))(h_e1:e1=(List.getD uq (j_.getD 0) [])):CF (k+1) S28 qT [inj (.ref 99) j_,Cq uq]=((bif j_.isSome then(bif decide ((e1.length*1)<=211106232532992)then some (e1,uq)else none)else none):Option (YN×YB)):=by
 subst h_e1;kernel_rfl
theorem yF (k:Nat)(j_:Option Nat)(ur:YR):CF (k+1) S20 kB [inj (.ref 99) j_,Cr ur]=((bif j_.isSome then(iz k k j_ (j_.getD 0) ((List.getD ur (j_.getD 0) []).length:Int) 0 [] ur)else none):Option (YB×YR)):=by kernel_rfl
theorem lT (k m:Nat)(j_:Option Nat)(t9:Nat)(t10:Int)(t11:Int)(out_:YB)(ur:YR)(e1:(List (List Int)))(h_e1:e1=(List.getD ur t9 []))(e2:(List Int))(h_e2:e2=(List.getD e1 (Int.toNat t11) [])):iz k (m+1) j_ t9 t10 t11 out_ ur=(bif decide (t11<t10)then(bif(inb t11 e1.length)then(bif decide ((e2.length*1)<=211106232532992)then(bif decide (((out_.length+[e2].length)*24)<=211106232532992)then(iz k m j_ t9 t10 (w64 (t11+1)) (out_++[e2]) ur)else none)else none)else none)else some (out_,ur)):=by
 subst h_e1 h_e2;kernel_rfl
theorem fc (k:Nat)(b_:YN):CF (k+1) S43 eV [inj qB b_]=(((CF k S51 aa [vf [.io ao (b_,false)],inj qI 0,inj qI 2]).bind λ(r:Int×aw)=>(bif decide (r.1=0)then((CF k S54 aC [vf [.io ao r.2]]).bind λ(r_1:ae×aw)=>(cy k k 0 0 0 0 0 0 0 0 0 false r_1.2.1 r_1.2.2 r.1 r_1.1.1 r_1.1.2.1 r_1.1.2.2.1 r_1.1.2.2.2.1 r_1.1.2.2.2.2.1 r_1.1.2.2.2.2.2.1 r_1.1.2.2.2.2.2.2 0 false))else(bif decide (r.1=1)then((CF k S51 aa [vf [.io ao r.2],inj qI (-4611686018427387904:Int),inj qI 4611686018427387904]).bind λ(r_1:Int×aw)=>((CF k S51 aa [vf [.io ao r_1.2],inj qI 0,inj qI 1]).bind λ(r_2:Int×aw)=>(cy k k 0 0 0 0 0 0 0 0 0 false r_2.2.1 r_2.2.2 r.1 0 0 0 0 0 0 0 r_1.1 (decide (r_2.1=1)))))else(cy k k 0 0 0 0 0 0 0 0 0 false r.2.1 r.2.2 r.1 0 0 0 0 0 0 0 0 false)))):Option (au×Bool)):=by kernel_rfl
theorem mj (k m:Nat)(t2:Int)(t21:Int)(t22:Int)(t23:Int)(t24:Int)(t25:Int)(t26:Int)(t27:Int)(t28:Int)(t29:Bool)(r_:YN)(r_1:Bool)(e_:Int)(e_1:Int)(e_2:Int)(e_3:Int)(e_4:Int)(e_5:Int)(e_6:Int)(e_7:Int)(e_8:Int)(e_9:Bool):cy k (m+1) t2 t21 t22 t23 t24 t25 t26 t27 t28 t29 r_ r_1 e_ e_1 e_2 e_3 e_4 e_5 e_6 e_7 e_8 e_9=(bif r_1 then some ((0,(0,0,0,0,0,0,0),0,false),false)else(bif decide (0<(r_.length:Int))then some ((0,(0,0,0,0,0,0,0),0,false),false)else some ((e_,(e_1,e_2,e_3,e_4,e_5,e_6,e_7),e_8,e_9),true))):=by kernel_rfl
theorem AK (k:Nat)(s_:ab)(e_:au):CF (k+1) S40 eT [inj aD s_,inj aH e_]=((bif decide (e_.1=0)then((CF k S56 l7 [vf [.io aE s_],inj aH e_]).bind λ(r:ah×aA)=>some (r.2,r.1))else(bif decide (e_.1=1)then((CF k S56 qU [vf [.io aE s_],inj aH e_]).bind λ(r:ah×aA)=>some (r.2,r.1))else(bif decide (e_.1=2)then((CF k S56 xw [vf [.io aE s_],inj aH e_]).bind λ(r:ah×aA)=>some (r.2,r.1))else some (s_,1,0)))):Option (ab×ah)):=by kernel_rfl
theorem f_cS (k:Nat)(s_:ab)(e1:Int)(h_e1:e1=(s_.1.length:Int)):CF (k+1) S49 n_cS [inj aD s_]=(((CF k S52 gq [inj (.slice qI) [s_.2.2.2.2,e1]]).bind λ(r:YN)=>(h_cS k k s_.1 e1 0 s_.1 s_.2.1 s_.2.2.1 s_.2.2.2.1 s_.2.2.2.2 r)):Option (YN)):=by
 subst h_e1;kernel_rfl
theorem JF (k m:Nat)(t20:YA)(t21:Int)(t22:Int)(s_:YA)(s_1:YP)(s_2:YG)(s_3:YK)(s_4:Int)(out_:YN)(e1:Int)(h_e1:e1=(s_1.length:Int))(e2:(Int×(Int×Int)))(h_e2:e2=(List.getD t20 (Int.toNat t22) (0,0,0))):h_cS k (m+1) t20 t21 t22 s_ s_1 s_2 s_3 s_4 out_=(bif decide (t22<t21)then(bif(inb t22 t20.length)then((CF k S52 gq [inj (.slice qI) [e2.1,e2.2.1,e2.2.2]]).bind λ(r:YN)=>(bif decide (((out_.length+r.length)*1)<=211106232532992)then(h_cS k m t20 t21 (w64 (t22+1)) s_ s_1 s_2 s_3 s_4 (out_++r))else none))else none)else((CF k S52 kq [vf [.mv (.int .u8) out_],inj qI e1]).bind λ(r:YN)=>(CC k k s_1 e1 0 s_ s_1 s_2 s_3 s_4 r))):=by
 subst h_e1 h_e2;kernel_rfl
theorem CB (k m:Nat)(t43:YP)(t44:Int)(t45:Int)(s_:YA)(s_1:YP)(s_2:YG)(s_3:YK)(s_4:Int)(out_:YN)(e1:Int)(h_e1:e1=(s_2.length:Int))(e2:(Int×(Int×(Int×(Int×(Int×(Int×(Int×Int))))))))(h_e2:e2=(List.getD t43 (Int.toNat t45) (0,0,0,0,0,0,0,0))):CC k (m+1) t43 t44 t45 s_ s_1 s_2 s_3 s_4 out_=(bif decide (t45<t44)then(bif(inb t45 t43.length)then((CF k S52 gq [inj (.slice qI) [e2.1,e2.2.1,e2.2.2.1,e2.2.2.2.1,e2.2.2.2.2.1,e2.2.2.2.2.2.1,e2.2.2.2.2.2.2.1,e2.2.2.2.2.2.2.2]]).bind λ(r:YN)=>(bif decide (((out_.length+r.length)*1)<=211106232532992)then(CC k m t43 t44 (w64 (t45+1)) s_ s_1 s_2 s_3 s_4 (out_++r))else none))else none)else((CF k S52 kq [vf [.mv (.int .u8) out_],inj qI e1]).bind λ(r:YN)=>(CA k k s_2 e1 0 s_ s_1 s_2 s_3 s_4 r))):=by
 subst h_e1 h_e2;kernel_rfl
theorem Cz (k m:Nat)(t76:YG)(t77:Int)(t78:Int)(s_:YA)(s_1:YP)(s_2:YG)(s_3:YK)(s_4:Int)(out_:YN)(e1:Int)(h_e1:e1=(s_3.length:Int))(e2:((Int×(Int×(Int×(Int×(Int×(Int×Int))))))×(Int×(Int×(Int×Int)))))(h_e2:e2=(List.getD t76 (Int.toNat t78) ((0,0,0,0,0,0,0),0,0,0,0))):CA k (m+1) t76 t77 t78 s_ s_1 s_2 s_3 s_4 out_=(bif decide (t78<t77)then(bif(inb t78 t76.length)then((CF k S49 cS [inj aq e2.1]).bind λ(r:YN)=>(bif decide (((out_.length+r.length)*1)<=211106232532992)then((CF k S52 gq [inj (.slice qI) [e2.2.1,e2.2.2.1,e2.2.2.2.1,e2.2.2.2.2]]).bind λ(r_1:YN)=>(bif decide ((((out_++r).length+r_1.length)*1)<=211106232532992)then(CA k m t76 t77 (w64 (t78+1)) s_ s_1 s_2 s_3 s_4 ((out_++r)++r_1))else none))else none))else none)else((CF k S52 kq [vf [.mv (.int .u8) out_],inj qI e1]).bind λ(r:YN)=>(Cy k k s_3 e1 0 r))):=by
 subst h_e1 h_e2;kernel_rfl
theorem Cw (k m:Nat)(t106:YK)(t107:Int)(t108:Int)(out_:YN)(e1:((Int×(Int×(Int×(Int×(Int×(Int×Int))))))×((Int×Int)×Bool)))(h_e1:e1=(List.getD t106 (Int.toNat t108) ((0,0,0,0,0,0,0),(0,0),false))):Cy k (m+1) t106 t107 t108 out_=(bif decide (t108<t107)then(bif(inb t108 t106.length)then((CF k S49 cS [inj aq e1.1]).bind λ(r:YN)=>(bif decide (((out_.length+r.length)*1)<=211106232532992)then((CF k S49 gu [inj aK e1.2.1]).bind λ(r_1:YN)=>(bif decide ((((out_++r).length+r_1.length)*1)<=211106232532992)then((CF k S60 ir [inj .bool e1.2.2]).bind λ(r_2:Int)=>((CF k S52 kq [vf [.mv (.int .u8) ((out_++r)++r_1)],inj qI r_2]).bind λ(r_3:YN)=>(Cy k m t106 t107 (w64 (t108+1)) r_3)))else none))else none))else none)else some out_):=by
 subst h_e1;kernel_rfl
theorem GG (k:Nat)(x_:Option Nat)(e_:au)(ui:YF)(uj:YN)(uk:YN)(ul:YL)(um:YO)(un:YT)(uo:YO)(up:YN)(uq:YB)(ur:YR)(us:YL)(ut:YB)(uu:YN)(e1:((List (Int×(Int×Int)))×((List (Int×(Int×(Int×(Int×(Int×(Int×(Int×Int))))))))×((List ((Int×(Int×(Int×(Int×(Int×(Int×Int))))))×(Int×(Int×(Int×Int)))))×((List ((Int×(Int×(Int×(Int×(Int×(Int×Int))))))×((Int×Int)×Bool)))×Int)))))(h_e1:e1=(List.getD un (x_.getD 0) ([],[],[],[],0))):CF (k+1) S4 vH [inj (.ref 30) x_,inj aH e_,Ci ui,Cj uj,Ck uk,Cl ul,Cm um,Cn un,Co uo,Cp up,Cq uq,Cr ur,Cs us,Ct ut,Cu uu]=((bif x_.isSome then((CF k S48 l6 [inj (.ref 99) (List.getD um (x_.getD 0) none),Cs us]).bind λ(r:Bool×YL)=>(bif r.1 then some ((12,0),ui,uj,uk,ul,um,un,uo,up,uq,ur,r.2,ut,uu)else(bif x_.isSome then((CF k S40 eT [inj aD e1,inj aH e_]).bind λ(r_1:ab×ah)=>(bif x_.isSome then((CF k Z0 n_ds [inj aD e1,inj aD r_1.1]).bind λ(r_2:Bool)=>(bif r_2 then some (r_1.2,ui,uj,uk,ul,um,un,uo,up,uq,ur,r.2,ut,uu)else((CF k S49 jG [inj aH e_]).bind λ(r_3:YN)=>(bif x_.isSome then((CF k S9 jC [inj (.ref 99) (List.getD um (x_.getD 0) none),inj (.slice qB) [r_3],Ci ui,Cj uj,Ck uk,Cl ul,Co uo,Cp up,Cr ur,Cs r.2,Ct ut,Cu uu]).bind λ(r_4:R12)=>(bif(r_4.1.isSome || (some 8).isSome)then(bif decide (r_4.1=some 8)then((CF k S5 kC [inj (.ref 30) x_,Ci r_4.2.1,Cj r_4.2.2.1,Ck r_4.2.2.2.1,Cl r_4.2.2.2.2.1,Cm um,Cn un,Co r_4.2.2.2.2.2.1,Cp r_4.2.2.2.2.2.2.1,Cq uq,Cr r_4.2.2.2.2.2.2.2.1,Cs r_4.2.2.2.2.2.2.2.2.1,Ct r_4.2.2.2.2.2.2.2.2.2.1,Cu r_4.2.2.2.2.2.2.2.2.2.2]).bind λ(r_5:R8)=>(bif(!r_5.1.isSome)then(bif x_.isSome then((CF k S9 jC [inj (.ref 99) (List.getD r_5.2.2.2.2.2.1 (x_.getD 0) none),inj (.slice qB) [r_3],Ci r_5.2.1,Cj r_5.2.2.1,Ck r_5.2.2.2.1,Cl r_5.2.2.2.2.1,Co r_5.2.2.2.2.2.2.2.1,Cp r_5.2.2.2.2.2.2.2.2.1,Cr r_5.2.2.2.2.2.2.2.2.2.2.1,Cs r_5.2.2.2.2.2.2.2.2.2.2.2.1,Ct r_5.2.2.2.2.2.2.2.2.2.2.2.2.1,Cu r_5.2.2.2.2.2.2.2.2.2.2.2.2.2]).bind λ(r_6:R12)=>(jM k k x_ r_6.1 0 0 r_1.1.1 r_1.1.2.1 r_1.1.2.2.1 r_1.1.2.2.2.1 r_1.1.2.2.2.2 r_1.2.1 r_1.2.2 r_6.2.1 r_6.2.2.1 r_6.2.2.2.1 r_6.2.2.2.2.1 r_5.2.2.2.2.2.1 r_5.2.2.2.2.2.2.1 r_6.2.2.2.2.2.1 r_6.2.2.2.2.2.2.1 r_5.2.2.2.2.2.2.2.2.2.1 r_6.2.2.2.2.2.2.2.1 r_6.2.2.2.2.2.2.2.2.1 r_6.2.2.2.2.2.2.2.2.2.1 r_6.2.2.2.2.2.2.2.2.2.2))else none)else(jM k k x_ r_5.1 0 0 r_1.1.1 r_1.1.2.1 r_1.1.2.2.1 r_1.1.2.2.2.1 r_1.1.2.2.2.2 r_1.2.1 r_1.2.2 r_5.2.1 r_5.2.2.1 r_5.2.2.2.1 r_5.2.2.2.2.1 r_5.2.2.2.2.2.1 r_5.2.2.2.2.2.2.1 r_5.2.2.2.2.2.2.2.1 r_5.2.2.2.2.2.2.2.2.1 r_5.2.2.2.2.2.2.2.2.2.1 r_5.2.2.2.2.2.2.2.2.2.2.1 r_5.2.2.2.2.2.2.2.2.2.2.2.1 r_5.2.2.2.2.2.2.2.2.2.2.2.2.1 r_5.2.2.2.2.2.2.2.2.2.2.2.2.2)))else(jM k k x_ r_4.1 0 0 r_1.1.1 r_1.1.2.1 r_1.1.2.2.1 r_1.1.2.2.2.1 r_1.1.2.2.2.2 r_1.2.1 r_1.2.2 r_4.2.1 r_4.2.2.1 r_4.2.2.2.1 r_4.2.2.2.2.1 um un r_4.2.2.2.2.2.1 r_4.2.2.2.2.2.2.1 uq r_4.2.2.2.2.2.2.2.1 r_4.2.2.2.2.2.2.2.2.1 r_4.2.2.2.2.2.2.2.2.2.1 r_4.2.2.2.2.2.2.2.2.2.2))else none))else none))))else none))else none)))else none):Option (R9)):=by
 subst h_e1;kernel_rfl
theorem xR (k m:Nat)(x_:Option Nat)(err_:Option Int)(t4:Int)(t41:Int)(t_:YA)(t_1:YP)(t_2:YG)(t_3:YK)(t_4:Int)(out_:Int)(out_1:Int)(ui:YF)(uj:YN)(uk:YN)(ul:YL)(um:YO)(un:YT)(uo:YO)(up:YN)(uq:YB)(ur:YR)(us:YL)(ut:YB)(uu:YN):jM k (m+1) x_ err_ t4 t41 t_ t_1 t_2 t_3 t_4 out_ out_1 ui uj uk ul um un uo up uq ur us ut uu=(bif err_.isSome then((CF k S60 cU [inj .err err_]).bind λ(r:Int)=>some ((r,0),ui,uj,uk,ul,um,un,uo,up,uq,ur,us,ut,uu))else(bif x_.isSome then some ((out_,out_1),ui,uj,uk,ul,um,(List.set un (x_.getD 0) (t_,t_1,t_2,t_3,t_4)),uo,up,uq,ur,us,ut,uu)else none)):=by kernel_rfl
theorem Gz (k:Nat)(j_:Option Nat)(b_:YN)(ui:YF)(uj:YN)(uk:YN)(ul:YL)(uo:YO)(up:YN)(uq:YB)(ur:YR)(us:YL)(ut:YB)(uu:YN)(e1:Int)(h_e1:e1=(List.getD up (j_.getD 0) 0))(e2:(List (List Int)))(h_e2:e2=(List.set uq (j_.getD 0) b_))(e3:(List (List (List Int))))(h_e3:e3=(List.set ur (j_.getD 0) []))(e4:Int)(h_e4:e4=(w64 (2+e1)))(e5:Int)(h_e5:e5=(w64 (e1+1)))(e6:(List Int))(h_e6:e6=(List.set up (j_.getD 0) e5)):CF (k+1) S7 qS [inj (.ref 99) j_,inj qB b_,Ci ui,Cj uj,Ck uk,Cl ul,Co uo,Cp up,Cq uq,Cr ur,Cs us,Ct ut,Cu uu]=((bif j_.isSome then(bif(List.getD us (j_.getD 0) false)then some (some 12,ui,uj,uk,ul,uo,up,uq,ur,us,ut,uu)else(bif j_.isSome then((CF k S52 gq [inj (.slice qI) [e5]]).bind λ(r:YN)=>(bif decide (((r.length+b_.length)*1)<=211106232532992)then((CF k S32 il [inj qB (r++b_)]).bind λ(r_1:YN×Bool)=>(bif(!r_1.2)then some (some 13,ui,uj,uk,ul,uo,up,uq,ur,us,ut,uu)else((CF k S10 pX [inj (.ref 99) j_,inj qI 1,inj qB r_1.1,Ci ui,Cj uj,Ck uk,Cl ul,Co uo,Cs us,Ct ut,Cu uu]).bind λ(r_2:R13)=>(bif r_2.1.isSome then some (r_2.1,r_2.2.1,r_2.2.2.1,r_2.2.2.2.1,r_2.2.2.2.2.1,r_2.2.2.2.2.2.1,up,uq,ur,r_2.2.2.2.2.2.2)else(bif j_.isSome then((CF k S16 jF [inj (.ref 29) (List.getD r_2.2.2.2.2.2.1 (j_.getD 0) none),inj qI 1,inj qI 0,Ci r_2.2.1,Ck r_2.2.2.2.1,Cl r_2.2.2.2.2.1]).bind λ(r_3:R19)=>(bif r_3.1.isSome then((CF k S50 ee [inj (.ref 99) j_,inj .err r_3.1,Cs r_2.2.2.2.2.2.2.1]).bind λ(r_4:(Option Int)×YL)=>some (r_4.1,r_3.2.1,r_2.2.2.1,r_3.2.2.1,r_3.2.2.2,r_2.2.2.2.2.2.1,up,uq,ur,r_4.2,r_2.2.2.2.2.2.2.2))else(bif j_.isSome then(bif j_.isSome then(bif j_.isSome then(bif decide ((b_.length*1)<=211106232532992)then(bif j_.isSome then(bif j_.isSome then(bif j_.isSome then((CF k S15 gz [inj (.ref 29) (List.getD r_2.2.2.2.2.2.1 (j_.getD 0) none),inj qI e4,Ci r_3.2.1,Ct r_2.2.2.2.2.2.2.2.1]).bind λ(r_4:R20)=>(bif r_4.2.1 then(bif j_.isSome then((CF k S16 cT [inj (.ref 29) (List.getD r_2.2.2.2.2.2.1 (j_.getD 0) none),inj qI e4,Ci r_4.2.2.1,Ck r_3.2.2.1,Cl r_3.2.2.2]).bind λ(r_5:R19)=>((CF k S50 ee [inj (.ref 99) j_,inj .err r_5.1,Cs r_2.2.2.2.2.2.2.1]).bind λ(r_6:(Option Int)×YL)=>some (r_6.1,r_5.2.1,r_2.2.2.1,r_5.2.2.1,r_5.2.2.2,r_2.2.2.2.2.2.1,e6,e2,e3,r_6.2,r_4.2.2.2,r_2.2.2.2.2.2.2.2.2)))else none)else some (none,r_4.2.2.1,r_2.2.2.1,r_3.2.2.1,r_3.2.2.2,r_2.2.2.2.2.2.1,e6,e2,e3,r_2.2.2.2.2.2.2.1,r_4.2.2.2,r_2.2.2.2.2.2.2.2.2)))else none)else none)else none)else none)else none)else none)else none)))else none)))))else none))else none))else none):Option (R11)):=by
 subst h_e1 h_e2 h_e3 h_e4 h_e5 h_e6;kernel_rfl
theorem fV (k:Nat)(op_:Int):CF (k+1) Z5 mR [inj qI op_]=((bif decide (op_<0)then some none else(bif decide (8<=op_)then some none else(bif(inb op_ 8)then some (List.getD [some 124,some 125,some 126,some 127,some 128,some 129,some 130,some 131] (Int.toNat op_) none)else none))):Option ((Option Nat))):=by kernel_rfl
theorem wu (k:Nat)(s_:ab)(r_:ae):CF (k+1) S45 jA [inj aD s_,inj aq r_]=(((CF k S59 dQ [vf [.io aE s_],inj (.slice qI) [r_.2.2.1,r_.2.2.2.1]]).bind λ(r:Bool×aA)=>(bif(!r.1)then some (s_,some 2)else((CF k S36 n_eV [inj (.slice af) s_.1,inj qI r_.2.2.1,inj qI r_.2.2.2.1,inj qI r_.2.2.2.2.1]).bind λ(r_1:(List (ah))×(Option Int))=>(bif r_1.2.isSome then some (s_,r_1.2)else((CF k S33 pW [inj (.slice af) s_.1,inj qI r_.2.2.1,inj qI r_.2.2.2.2.1]).bind λ(r_2:YA×(Option Int))=>(bif r_2.2.isSome then some (s_,r_2.2)else some ((r_2.1,s_.2),none))))))):Option (ab×(Option Int))):=by kernel_rfl
theorem yz (k:Nat)(r_:ae):CF (k+1) Z3 ky [inj aq r_]=(some (r_,0,0,0,0):Option (aZ)):=by kernel_rfl
theorem yy (k:Nat)(s_:aZ):CF (k+1) Z0 ig [inj bn s_]=((bif decide (s_.2.1=0)then some (decide (s_.1.2.2.2.2.2.1<=s_.2.2.1))else some false):Option (Bool)):=by kernel_rfl
theorem DM (k:Nat)(s_:aZ)(ok_:Bool):CF (k+1) Z3 nZ [inj bn s_,inj .bool ok_]=((bif(!decide (s_.2.1=0))then some s_ else((CF k Z0 ig [inj bn s_]).bind λ(r:Bool)=>(bif r then some s_ else(bif ok_ then((CF k Z3 kx [inj bn s_]).bind λ(r_1:aZ)=>some r_1)else((CF k Z3 jz [inj bn s_]).bind λ(r_1:aZ)=>some r_1))))):Option (aZ)):=by kernel_rfl
theorem yB (k:Nat)(s_:ab)(r_:ae):CF (k+1) S45 kA [inj aD s_,inj aq r_]=(((CF k S36 n_eV [inj (.slice af) s_.1,inj qI r_.2.2.1,inj qI r_.2.2.2.1,inj qI r_.2.2.2.2.1]).bind λ(r:(List (ah))×(Option Int))=>(bif r.2.isSome then some (s_,r.2)else((CF k S33 mX [inj (.slice af) s_.1,inj qI r_.2.2.2.2.1,inj (.slice aK) r.1]).bind λ(r_1:YA×(Option Int))=>(bif r_1.2.isSome then some (s_,r_1.2)else some ((r_1.1,s_.2),none))))):Option (ab×(Option Int))):=by kernel_rfl
theorem Aw (k:Nat)(s_:aZ)(why_:Int):CF (k+1) Z3 l0 [inj bn s_,inj qI why_]=((bif decide (s_.2.1=0)then some (s_.1,1,s_.2.2.1,s_.2.2.2.1,why_)else some s_):Option (aZ)):=by kernel_rfl
theorem DN (k:Nat)(s_:ab)(r_:ae):CF (k+1) S45 oa [inj aD s_,inj aq r_]=(((CF k S33 gw [inj (.slice af) s_.1,inj qI r_.2.2.1,inj qI r_.2.2.2.2.1]).bind λ(r:YA×(Option Int))=>(bif r.2.isSome then some (s_,r.2)else some ((r.1,s_.2),none))):Option (ab×(Option Int))):=by kernel_rfl
theorem iF (k:Nat)(op_:Int):CF (k+1) Z5 kz [inj qI op_]=((bif decide (op_=4)then some (some 181)else(bif decide (op_=6)then some (some 182)else(bif decide (op_=7)then some (some 183)else(bif decide (op_=5)then some (some 184)else some none)))):Option ((Option Nat))):=by kernel_rfl
theorem nw (k:Nat)(r_:ah):CF (k+1) Z0 dZ [inj aK r_]=((bif decide (1<=r_.1)then(bif decide (r_.1<=1024)then(bif decide (1<=r_.2)then some (decide (r_.2<=1024))else some false)else some false)else some false):Option (Bool)):=by kernel_rfl
theorem Az (k:Nat)(n_:Int):CF (k+1) Z0 dG [inj qI n_]=((bif decide ((-1125899906842624:Int)<=n_)then some (decide (n_<=1125899906842624))else some false):Option (Bool)):=by kernel_rfl
theorem yK (k:Nat)(d_:Option Nat)(name_:Int)(ui:YF)(ut:YB)(e1:(List Int))(h_e1:e1=(List.getD ut ((aO none (List.getD ui (d_.getD 0) []) name_).getD 0) [])):CF (k+1) S15 gz [inj (.ref 29) d_,inj qI name_,Ci ui,Ct ut]=((bif d_.isSome then(bif(!(aO none (List.getD ui (d_.getD 0) []) name_).isSome)then some ([],false,ui,ut)else(bif(aO none (List.getD ui (d_.getD 0) []) name_).isSome then(bif decide ((e1.length*1)<=211106232532992)then some (e1,true,ui,ut)else none)else none))else none):Option (R20)):=by
 subst h_e1;kernel_rfl
theorem AJ (k:Nat)(b_:YN)(e1:Int)(h_e1:e1=(b_.length:Int))(e2:Int)(h_e2:e2=(b7 .i64 .or (w64 ((w64 (List.getD b_ 0 0))*256)) (w64 (List.getD b_ 1 0)))):CF (k+1) S21 jD [inj qB b_]=((bif decide (e1<6)then some ([],0,false)else(bif(inb 0 b_.length)then(bif(inb 1 b_.length)then(bif decide (16384<e2)then some ([],0,false)else(bif decide (e1<(w64 (6+e2)))then some ([],0,false)else(mg k k b_ e2)))else none)else none)):Option (YN×Int×Bool)):=by
 subst h_e1 h_e2;kernel_rfl
theorem vX (k m:Nat)(b_:YN)(n_:Int)(e1:Int)(h_e1:e1=(w64 (6+n_)))(e2:(List Int))(h_e2:e2=(List.take ((Int.toNat e1)-6) (List.drop 6 b_))):mg k (m+1) b_ n_=(bif(inb 2 b_.length)then(bif(inb 3 b_.length)then(bif(inb 4 b_.length)then(bif(inb 5 b_.length)then(bif(decide (6<=e1)&&decide (e1<=(b_.length:Int)))then((CF k S61 m5 [inj qB e2]).bind λ(r:Int)=>(bif(!decide (r=(b7 .u32 .or (b7 .u32 .or (b7 .u32 .or (w32 ((w32 (List.getD b_ 2 0))*16777216)) (w32 ((w32 (List.getD b_ 3 0))*65536))) (w32 ((w32 (List.getD b_ 4 0))*256))) (w32 (List.getD b_ 5 0)))))then some ([],0,false)else(bif decide ((e2.length*1)<=211106232532992)then some (e2,e1,true)else none)))else none)else none)else none)else none)else none):=by
 subst h_e1 h_e2;kernel_rfl
theorem K9 (k:Nat)(b_:YN):CF (k+1) S22 nY [inj qB b_]=((rG k k b_ 0 0):Option (Int×YN×Bool)):=by kernel_rfl
theorem FP (k m:Nat)(b_:YN)(u_:Int)(k_:Int):rG k (m+1) b_ u_ k_=(bif decide (k_<(b_.length:Int))then(bif decide (k_<10)then(rF k m k b_ u_ k_)else some (0,[],false))else some (0,[],false)):=by kernel_rfl
theorem Aa (k m1 m:Nat)(b_:YN)(u_:Int)(k_:Int)(e1:Int)(h_e1:e1=(List.getD b_ (Int.toNat k_) 0)):rF k m1 (m+1) b_ u_ k_=(bif(inb k_ b_.length)then(bif decide (k_=9)then(bif decide (1<e1)then some (0,[],false)else(iZ k m1 k b_ u_ k_ e1))else(iZ k m1 k b_ u_ k_ e1))else none):=by
 subst h_e1;kernel_rfl
theorem rE (k m1 m:Nat)(b_:YN)(u_:Int)(k_:Int)(c_:Int)(e1:Int)(h_e1:e1=(w64 (7*k_)))(e2:Int)(h_e2:e2=(b7 .u64 .or u_ (wu64 ((wu64 (b7 .u8 .and c_ 127))*(2^(min (Int.toNat e1) 64)))))):iZ k m1 (m+1) b_ u_ k_ c_=(bif decide (0<=e1)then(bif decide (128<=c_)then(rG k m1 b_ e2 (w64 (k_+1)))else(bif decide (0<k_)then(bif decide (c_=0)then some (0,[],false)else(kH k m1 k b_ e2 k_))else(kH k m1 k b_ e2 k_)))else none):=by
 subst h_e1 h_e2;kernel_rfl
theorem zZ (k m1 m:Nat)(b_:YN)(u_:Int)(k_:Int)(e1:Int)(h_e1:e1=(b_.length:Int))(e2:Int)(h_e2:e2=(w64 (k_+1)))(e3:(List Int))(h_e3:e3=(List.drop (Int.toNat e2) b_))(e4:Int)(h_e4:e4=(w64 (Int.fdiv u_ 2))):kH k m1 (m+1) b_ u_ k_=(bif decide ((b7 .u64 .and u_ 1)=1)then(bif(decide (0<=e2)&&decide (e2<=e1))then some ((b7 .i64 .xor (-1:Int) e4),e3,true)else none)else(bif(decide (0<=e2)&&decide (e2<=e1))then some (e4,e3,true)else none)):=by
 subst h_e1 h_e2 h_e3 h_e4;kernel_rfl
theorem mn (k:Nat)(d_:Option Nat)(name_:Int)(ui:YF)(uk:YN)(ul:YL):CF (k+1) S16 cT [inj (.ref 29) d_,inj qI name_,Ci ui,Ck uk,Cl ul]=((bif d_.isSome then(bif(List.getD ul (d_.getD 0) false)then some (some 12,ui,uk,ul)else(bif d_.isSome then(bif(!(aO none (List.getD ui (d_.getD 0) []) name_).isSome)then some (some 2,ui,uk,ul)else((CF k S30 dR [inj (.ref 29) d_,Ck uk,Cl ul]).bind λ(r:Bool×YN×YL)=>(bif(!r.1)then some (some 12,ui,r.2)else(bif d_.isSome then some (none,(List.set ui (d_.getD 0) (cx (List.getD ui (d_.getD 0) []) name_)),r.2)else none))))else none))else none):Option (R19)):=by kernel_rfl
theorem yG (k:Nat)(b_:YN):CF (k+1) S26 ij [inj qB b_]=((iA k k b_ 0 []):Option (YB×Int)):=by kernel_rfl
theorem lU (k m:Nat)(b_:YN)(at_:Int)(out_:YB):iA k (m+1) b_ at_ out_=(bif(decide (0<=at_)&&decide (at_<=(b_.length:Int)))then((CF k S21 jD [inj qB (List.drop (Int.toNat at_) b_)]).bind λ(r:YN×Int×Bool)=>(bif(!r.2.2)then some (out_,at_)else(bif decide (((out_.length+[r.1].length)*24)<=211106232532992)then(iA k m b_ (w64 (at_+r.2.1)) (out_++[r.1]))else none)))else none):=by kernel_rfl
theorem kV (k:Nat)(r_:aw)(least_:Int)(most_:Int)(e1:(Int×((List Int)×Bool)))(h_e1:e1=(0,r_.1,true)):CF (k+1) S51 aa [vf [.io ao r_],inj qI least_,inj qI most_]=(((CF k S22 nY [inj qB r_.1]).bind λ(r:Int×YN×Bool)=>(bif r_.2 then some e1 else(bif(!r.2.2)then some e1 else(bif decide (r.1<least_)then some e1 else(bif decide (most_<r.1)then some e1 else some (r.1,r.2.1,r_.2)))))):Option (Int×aw)):=by
 subst h_e1;kernel_rfl
theorem sj (k:Nat)(p_:ag)(e1:Int)(h_e1:e1=p_.2.2.2.2.2.2.1)(e2:Int)(h_e2:e2=p_.2.2.2.2.2.2.2):CF (k+1) Z0 dY [inj ak p_]=((bif decide (1<=p_.2.2.1)then(bif decide (p_.2.2.1<=1099511627776)then(bif decide (0<=p_.2.2.2.1)then(bif decide (p_.2.2.2.1<=p_.2.2.1)then(bif decide (0<=p_.2.2.2.2.1)then(bif decide (0<=p_.2.2.2.2.2.1)then(bif decide (p_.2.2.2.2.1<=p_.2.2.2.1)then(bif decide (p_.2.2.2.2.2.1<=p_.2.2.2.1)then((CF k S60 dA [inj ak p_]).bind λ(r:Int)=>(bif decide (0<=r)then(bif decide (0<=e1)then(bif decide (e1<=1073741824)then(bif decide (e2=0)then some true else some (decide (e2=1)))else some false)else some false)else some false))else some false)else some false)else some false)else some false)else some false)else some false)else some false)else some false):Option (Bool)):=by
 subst h_e1 h_e2;kernel_rfl
theorem ke (k:Nat)(r_:aw)(e1:((Int×(Int×(Int×(Int×(Int×(Int×Int))))))×((List Int)×Bool)))(h_e1:e1=((0,0,0,0,0,0,0),r_.1,true)):CF (k+1) S54 aC [vf [.io ao r_]]=(((CF k S23 iJ [inj qB r_.1]).bind λ(r:ae×YN×Bool)=>(bif r_.2 then some e1 else(bif(!r.2.2)then some e1 else some (r.1,r.2.1,r_.2)))):Option (ae×aw)):=by
 subst h_e1;kernel_rfl
theorem yx (k:Nat)(s_:aZ)(e1:Int)(h_e1:e1=s_.1.2.2.2.2.2.1):CF (k+1) Z0 dP [inj bn s_]=((bif decide (s_.2.2.1<0)then some false else(bif decide (e1<s_.2.2.1)then some false else(bif decide (s_.2.2.2.1<0)then some false else(bif decide (4<s_.2.2.2.1)then some false else(bif decide (e1<0)then some false else(bif decide (4<e1)then some false else(kI k k s_.1.1 s_.1.2.1 s_.1.2.2.1 s_.1.2.2.2.1 s_.1.2.2.2.2.1 e1 s_.1.2.2.2.2.2.2 s_.2.1 s_.2.2.1 s_.2.2.2.1 s_.2.2.2.2))))))):Option (Bool)):=by
 subst h_e1;kernel_rfl
theorem sX (k m:Nat)(s_:Int)(s_1:Int)(s_2:Int)(s_3:Int)(s_4:Int)(s_5:Int)(s_6:Int)(s_7:Int)(s_8:Int)(s_9:Int)(s_10:Int):kI k (m+1) s_ s_1 s_2 s_3 s_4 s_5 s_6 s_7 s_8 s_9 s_10=(bif decide (s_7=0)then(bif decide (s_10=0)then(bif decide (s_9<=3)then(bif decide (s_9=0)then some true else some (decide (s_8<s_5)))else some false)else some false)else(bif decide (s_7=1)then some (!decide (s_10=0))else some false)):=by kernel_rfl
theorem lO (k:Nat)(r_:aw)(e1:((Int×Int)×((List Int)×Bool)))(h_e1:e1=((0,0),r_.1,true)):CF (k+1) S58 aN [vf [.io ao r_]]=(((CF k S24 dE [inj qB r_.1]).bind λ(r:ah×YN×Bool)=>(bif r_.2 then some e1 else(bif(!r.2.2)then some e1 else some (r.1,r.2.1,r_.2)))):Option (ah×aw)):=by
 subst h_e1;kernel_rfl
theorem wC (k:Nat)(as_:YA)(e1:Int)(h_e1:e1=(as_.length:Int)):CF (k+1) Z0 bI [inj (.slice af) as_]=((bif decide (e1<9)then some false else(bif decide (64<e1)then some false else(jO k k as_))):Option (Bool)):=by
 subst h_e1;kernel_rfl
theorem rP (k m:Nat)(as_:YA):jO k (m+1) as_=(bV k k as_ (as_.length:Int) 0):=by kernel_rfl
theorem je (k m:Nat)(t13:YA)(t14:Int)(t15:Int)(e1:(Int×(Int×Int)))(h_e1:e1=(List.getD t13 (Int.toNat t15) (0,0,0))):bV k (m+1) t13 t14 t15=(bif decide (t15<t14)then(bif(inb t15 t13.length)then(bif decide (e1.1<0)then some false else(bif decide (3<=e1.1)then some false else(bif decide (1125899906842624<e1.2.1)then some false else(bif decide (e1.2.1<(-1125899906842624:Int))then some false else(gO k m k t15 t13 t14 t15 e1.1 e1.2.1 e1.2.2)))))else none)else some true):=by
 subst h_e1;kernel_rfl
theorem oC (k m1 m:Nat)(k_:Int)(t13:YA)(t14:Int)(t15:Int)(a_:Int)(a_1:Int)(a_2:Int)(e1:Int)(h_e1:e1=(w64 (t15+1))):gO k m1 (m+1) k_ t13 t14 t15 a_ a_1 a_2=(bif decide (k_<9)then(bif(!decide (a_=(w64 (Int.tdiv k_ 3))))then some false else(bif(!decide (a_2=0))then some false else(bif decide (9<=k_)then(bif decide (a_2<0)then some false else(bif decide (a_1<a_2)then some false else(bV k m1 t13 t14 e1)))else(bV k m1 t13 t14 e1))))else(bif decide (9<=k_)then(bif decide (a_2<0)then some false else(bif decide (a_1<a_2)then some false else(bV k m1 t13 t14 e1)))else(bV k m1 t13 t14 e1))):=by
 subst h_e1;kernel_rfl
theorem AL (k:Nat)(m_:aA)(e_:au)(e1:(Int×Int))(h_e1:e1=e_.2.1.2.2.2.2.2)(e2:Int)(h_e2:e2=e_.2.1.2.2.2.2.1):CF (k+1) S56 l7 [vf [.io aE m_],inj aH e_]=(((CF k Z0 n_rM [inj aq e_.2.1]).bind λ(r:Bool)=>(bif(!r)then some ((1,0),m_)else((CF k S42 oh [inj (.slice aW) m_.2.2.2.1,inj aq e_.2.1]).bind λ(r_1:ah×Bool)=>(bif r_1.2 then some (r_1.1,m_)else((CF k Z0 ff [inj aq e_.2.1]).bind λ(r_2:Bool)=>(bif r_2 then(bif decide (16<=(m_.2.2.1.length:Int))then some ((7,0),m_)else(gN k k m_.1 m_.2.1 m_.2.2.1 m_.2.2.2.1 m_.2.2.2.2 0 0 e_.2.1.1 e_.2.1.2.1 e_.2.1.2.2.1 e_.2.1.2.2.2.1 e2 e1.1 e1.2))else(gN k k m_.1 m_.2.1 m_.2.2.1 m_.2.2.2.1 m_.2.2.2.2 0 0 e_.2.1.1 e_.2.1.2.1 e_.2.1.2.2.1 e_.2.1.2.2.2.1 e2 e1.1 e1.2))))))):Option (ah×aA)):=by
 subst h_e1 h_e2;kernel_rfl
theorem vY (k m:Nat)(m_:YA)(m_1:YP)(m_2:YG)(m_3:YK)(m_4:Int)(t4:Int)(t41:Int)(r_:Int)(r_1:Int)(r_2:Int)(r_3:Int)(r_4:Int)(r_5:Int)(r_6:Int)(e1:(Int×(Int×(Int×(Int×(Int×(Int×Int)))))))(h_e1:e1=(r_,r_1,r_2,r_3,r_4,r_5,r_6))(e2:((List (Int×(Int×Int)))×((List (Int×(Int×(Int×(Int×(Int×(Int×(Int×Int))))))))×((List ((Int×(Int×(Int×(Int×(Int×(Int×Int))))))×(Int×(Int×(Int×Int)))))×((List ((Int×(Int×(Int×(Int×(Int×(Int×Int))))))×((Int×Int)×Bool)))×Int)))))(h_e2:e2=(m_,m_1,m_2,m_3,m_4)):gN k (m+1) m_ m_1 m_2 m_3 m_4 t4 t41 r_ r_1 r_2 r_3 r_4 r_5 r_6=((CF k S35 og [inj (.slice aW) m_3,inj aq e1]).bind λ(r:YK×(Option Int))=>(bif r.2.isSome then((CF k S60 cU [inj .err r.2]).bind λ(r_7:Int)=>some ((r_7,0),m_,m_1,m_2,m_3,m_4))else((CF k Z0 ff [inj aq e1]).bind λ(r_7:Bool)=>(bif(!r_7)then((CF k S40 pV [inj aD e2,inj aq e1]).bind λ(r_8:ab×ah)=>((CF k S35 gx [inj (.slice aW) r.1,inj qI r_,inj aK r_8.2]).bind λ(r_9:YK×(Option Int))=>some (r_8.2,r_8.1.1,r_8.1.2.1,r_8.1.2.2.1,r_9.1,r_8.1.2.2.2.2)))else((CF k S45 jA [inj aD e2,inj aq e1]).bind λ(r_8:ab×(Option Int))=>(bif r_8.2.isSome then((CF k S60 cU [inj .err r_8.2]).bind λ(r_9:Int)=>((CF k S35 gx [inj (.slice aW) r.1,inj qI r_,inj aK (r_9,0)]).bind λ(r_10:YK×(Option Int))=>some ((r_9,0),m_,m_1,m_2,r_10.1,m_4)))else(bif decide ((r_8.1.2.2.1.length*88)<=211106232532992)then((CF k Z3 ky [inj aq e1]).bind λ(r_9:aZ)=>(bif decide (((r_8.1.2.2.1.length+[r_9].length)*88)<=211106232532992)then some ((10,0),r_8.1.1,r_8.1.2.1,(r_8.1.2.2.1++[r_9]),r.1,r_8.1.2.2.2.2)else none))else none))))))):=by
 subst h_e1 h_e2;kernel_rfl
theorem GC (k:Nat)(m_:aA)(e_:au):CF (k+1) S56 qU [vf [.io aE m_],inj aH e_]=(((CF k S60 jE [inj aD m_,inj qI e_.2.2.1]).bind λ(r:Int)=>(bif decide (r<0)then some ((2,0),m_)else(bif(inb r m_.2.2.1.length)then(bif decide ((List.getD m_.2.2.1 (Int.toNat r) ((0,0,0,0,0,0,0),0,0,0,0)).2.1=1)then((CF k S45 oa [inj aD m_,inj aq (List.getD m_.2.2.1 (Int.toNat r) ((0,0,0,0,0,0,0),0,0,0,0)).1]).bind λ(r_1:ab×(Option Int))=>((CF k S56 mY [vf [.io aE r_1.1],inj qI r,inj aK ((List.getD m_.2.2.1 (Int.toNat r) ((0,0,0,0,0,0,0),0,0,0,0)).2.2.2.2,0)]).bind λ(r_2:ah×aA)=>some r_2))else((CF k Z0 ig [inj bn (List.getD m_.2.2.1 (Int.toNat r) ((0,0,0,0,0,0,0),0,0,0,0))]).bind λ(r_1:Bool)=>(bif r_1 then((CF k S45 kA [inj aD m_,inj aq (List.getD m_.2.2.1 (Int.toNat r) ((0,0,0,0,0,0,0),0,0,0,0)).1]).bind λ(r_2:ab×(Option Int))=>(bif(!r_2.2.isSome)then((CF k S56 mY [vf [.io aE r_2.1],inj qI r,inj aK (0,0)]).bind λ(r_3:ah×aA)=>some r_3)else((CF k S60 cU [inj .err r_2.2]).bind λ(r_3:Int)=>((CF k Z3 l0 [inj bn (List.getD m_.2.2.1 (Int.toNat r) ((0,0,0,0,0,0,0),0,0,0,0)),inj qI r_3]).bind λ(r_4:aZ)=>(kM k k r m_.1 m_.2.1 m_.2.2.1 m_.2.2.2.1 m_.2.2.2.2 0 0 r_4.1.1 r_4.1.2.1 r_4.1.2.2.1 r_4.1.2.2.2.1 r_4.1.2.2.2.2.1 r_4.1.2.2.2.2.2.1 r_4.1.2.2.2.2.2.2 r_4.2.1 r_4.2.2.1 r_4.2.2.2.1 r_4.2.2.2.2)))))else((CF k Z3 nZ [inj bn (List.getD m_.2.2.1 (Int.toNat r) ((0,0,0,0,0,0,0),0,0,0,0)),inj .bool e_.2.2.2]).bind λ(r_2:aZ)=>(kM k k r m_.1 m_.2.1 m_.2.2.1 m_.2.2.2.1 m_.2.2.2.2 0 0 r_2.1.1 r_2.1.2.1 r_2.1.2.2.1 r_2.1.2.2.2.1 r_2.1.2.2.2.2.1 r_2.1.2.2.2.2.2.1 r_2.1.2.2.2.2.2.2 r_2.2.1 r_2.2.2.1 r_2.2.2.2.1 r_2.2.2.2.2)))))else none))):Option (ah×aA)):=by kernel_rfl
theorem Ad (k m:Nat)(k_:Int)(m_:YA)(m_1:YP)(m_2:YG)(m_3:YK)(m_4:Int)(t4:Int)(t41:Int)(g_:Int)(g_1:Int)(g_2:Int)(g_3:Int)(g_4:Int)(g_5:Int)(g_6:Int)(g_7:Int)(g_8:Int)(g_9:Int)(g_10:Int):kM k (m+1) k_ m_ m_1 m_2 m_3 m_4 t4 t41 g_ g_1 g_2 g_3 g_4 g_5 g_6 g_7 g_8 g_9 g_10=(bif decide ((m_2.length*88)<=211106232532992)then(bif(inb k_ m_2.length)then some ((10,0),m_,m_1,(List.set m_2 (Int.toNat k_) ((g_,g_1,g_2,g_3,g_4,g_5,g_6),g_7,g_8,g_9,g_10)),m_3,m_4)else none)else none):=by kernel_rfl
theorem GB (k:Nat)(m_:aA)(a1_:au):CF (k+1) S56 xw [vf [.io aE m_],inj aH a1_]=(((CF k Z4 od [inj aD m_]).bind λ(r:ab)=>some ((0,0),r)):Option (ah×aA)):=by kernel_rfl
theorem La (k:Nat)(ns_:YN):CF (k+1) S52 gq [inj (.slice qI) ns_]=((vV k k ns_ (ns_.length:Int) 0 []):Option (YN)):=by kernel_rfl
theorem xO (k m:Nat)(t6:YN)(t7:Int)(t8:Int)(out_:YN):vV k (m+1) t6 t7 t8 out_=(bif decide (t8<t7)then(bif(inb t8 t6.length)then((CF k S52 kq [vf [.mv (.int .u8) out_],inj qI (List.getD t6 (Int.toNat t8) 0)]).bind λ(r:YN)=>(vV k m t6 t7 (w64 (t8+1)) r))else none)else some out_):=by kernel_rfl
theorem K8 (k:Nat)(b_:YN)(n_:Int)(e1:Int)(h_e1:e1=(wu64 ((wu64 n_)*2))):CF (k+1) S52 kq [vf [.mv (.int .u8) b_],inj qI n_]=((bif decide (n_<0)then(rC k k (b7 .u64 .xor 18446744073709551615 e1) b_)else(rC k k e1 b_)):Option (YN)):=by
 subst h_e1;kernel_rfl
theorem FO (k m:Nat)(u_:Int)(b_:YN)(e1:(List Int))(h_e1:e1=[(b7 .u8 .or (w8 u_) 128)]):rC k (m+1) u_ b_=(bif decide (128<=u_)then(bif decide (((b_.length+e1.length)*1)<=211106232532992)then(rC k m (Int.fdiv u_ 128) (b_++e1))else none)else(rB k k u_ b_)):=by
 subst h_e1;kernel_rfl
theorem zY (k m:Nat)(u_:Int)(b_:YN):rB k (m+1) u_ b_=(bif decide (((b_.length+[(w8 u_)].length)*1)<=211106232532992)then some (b_++[(w8 u_)])else none):=by kernel_rfl
theorem si (k:Nat)(r_:ae):CF (k+1) S49 cS [inj aq r_]=(((CF k S47 iS [inj aq r_]).bind λ(r:YN)=>((CF k S52 gq [inj (.slice qI) r]).bind λ(r_1:YN)=>some r_1)):Option (YN)):=by kernel_rfl
theorem se (k:Nat)(r_:ah):CF (k+1) S49 gu [inj aK r_]=(((CF k S52 gq [inj (.slice qI) [r_.1,r_.2]]).bind λ(r:YN)=>some r):Option (YN)):=by kernel_rfl
theorem yL (k:Nat)(is_:Bool):CF (k+1) S60 ir [inj .bool is_]=((bif is_ then some 1 else some 0):Option (Int)):=by kernel_rfl
theorem AH (k:Nat)(j_:Option Nat)(us:YL):CF (k+1) S48 l6 [inj (.ref 99) j_,Cs us]=((bif j_.isSome then some ((List.getD us (j_.getD 0) false),us)else none):Option (Bool×YL)):=by kernel_rfl
theorem f_ds (k:Nat)(a_:ab)(b_:ab):CF (k+1) Z0 n_ds [inj aD a_,inj aD b_]=(((CF k S49 n_cS [inj aD a_]).bind λ(r:YN)=>((CF k S49 n_cS [inj aD b_]).bind λ(r_1:YN)=>some (decide (r=r_1)))):Option (Bool)):=by kernel_rfl
theorem wB (k:Nat)(e_:au):CF (k+1) S49 jG [inj aH e_]=(((CF k S52 gq [inj (.slice qI) [e_.1]]).bind λ(r:YN)=>(bif decide (e_.1=0)then((CF k S49 cS [inj aq e_.2.1]).bind λ(r_1:YN)=>(bif decide (((r.length+r_1.length)*1)<=211106232532992)then some (r++r_1)else none))else(bif decide (e_.1=1)then((CF k S60 ir [inj .bool e_.2.2.2]).bind λ(r_1:Int)=>((CF k S52 gq [inj (.slice qI) [e_.2.2.1,r_1]]).bind λ(r_2:YN)=>(bif decide (((r.length+r_2.length)*1)<=211106232532992)then some (r++r_2)else none)))else some r))):Option (YN)):=by kernel_rfl
theorem AI (k:Nat)(j_:Option Nat)(rs_:YB)(ui:YF)(uj:YN)(uk:YN)(ul:YL)(uo:YO)(up:YN)(ur:YR)(us:YL)(ut:YB)(uu:YN):CF (k+1) S9 jC [inj (.ref 99) j_,inj (.slice qB) rs_,Ci ui,Cj uj,Ck uk,Cl ul,Co uo,Cp up,Cr ur,Cs us,Ct ut,Cu uu]=((bif j_.isSome then(bif(List.getD us (j_.getD 0) false)then some (some 12,ui,uj,uk,ul,uo,up,ur,us,ut,uu)else(gM k k j_ rs_ rs_ (rs_.length:Int) 0 [] ui uj uk ul uo up ur us ut uu))else none):Option (R12)):=by kernel_rfl
theorem nh (k m:Nat)(j_:Option Nat)(rs_:YB)(t18:YB)(t19:Int)(t20:Int)(all_:YN)(ui:YF)(uj:YN)(uk:YN)(ul:YL)(uo:YO)(up:YN)(ur:YR)(us:YL)(ut:YB)(uu:YN):gM k (m+1) j_ rs_ t18 t19 t20 all_ ui uj uk ul uo up ur us ut uu=(bif decide (t20<t19)then(bif(inb t20 t18.length)then((CF k S32 il [inj qB (List.getD t18 (Int.toNat t20) [])]).bind λ(r:YN×Bool)=>(bif(!r.2)then some (some 13,ui,uj,uk,ul,uo,up,ur,us,ut,uu)else(bif decide (((all_.length+r.1.length)*1)<=211106232532992)then(gM k m j_ rs_ t18 t19 (w64 (t20+1)) (all_++r.1) ui uj uk ul uo up ur us ut uu)else none)))else none)else(bif j_.isSome then((CF k S10 pX [inj (.ref 99) j_,inj qI (w64 (2+(List.getD up (j_.getD 0) 0))),inj qB all_,Ci ui,Cj uj,Ck uk,Cl ul,Co uo,Cs us,Ct ut,Cu uu]).bind λ(r:R13)=>(bif r.1.isSome then some (r.1,r.2.1,r.2.2.1,r.2.2.2.1,r.2.2.2.2.1,r.2.2.2.2.2.1,up,ur,r.2.2.2.2.2.2)else(ef k k j_ rs_ (rs_.length:Int) 0 r.2.1 r.2.2.1 r.2.2.2.1 r.2.2.2.2.1 r.2.2.2.2.2.1 up ur r.2.2.2.2.2.2.1 r.2.2.2.2.2.2.2.1 r.2.2.2.2.2.2.2.2)))else none)):=by kernel_rfl
theorem kK (k m:Nat)(j_:Option Nat)(t47:YB)(t48:Int)(t49:Int)(ui:YF)(uj:YN)(uk:YN)(ul:YL)(uo:YO)(up:YN)(ur:YR)(us:YL)(ut:YB)(uu:YN)(e1:(List Int))(h_e1:e1=(List.getD t47 (Int.toNat t49) []))(e2:(List (List Int)))(h_e2:e2=(List.getD ur (j_.getD 0) [])):ef k (m+1) j_ t47 t48 t49 ui uj uk ul uo up ur us ut uu=(bif decide (t49<t48)then(bif(inb t49 t47.length)then(bif j_.isSome then(bif decide ((e1.length*1)<=211106232532992)then(bif decide (((e2.length+[e1].length)*24)<=211106232532992)then(bif j_.isSome then(bif(decide ((j_.getD 0)=(j_.getD 0))&&decide ((j_.getD 0)=(j_.getD 0)))then(ef k m j_ t47 t48 (w64 (t49+1)) ui uj uk ul uo up (List.set ur (j_.getD 0) (e2++[e1])) us ut uu)else none)else none)else none)else none)else none)else none)else some (none,ui,uj,uk,ul,uo,up,ur,us,ut,uu)):=by
 subst h_e1 h_e2;kernel_rfl
theorem yH (k:Nat)(b_:YN)(e1:Int)(h_e1:e1=(b_.length:Int))(e2:Int)(h_e2:e2=(w8 (Int.fdiv e1 256))):CF (k+1) S32 il [inj qB b_]=((bif decide (16384<e1)then some ([],false)else((CF k S61 m5 [inj qB b_]).bind λ(r:Int)=>(bif decide ((([e2,(w8 e1),(w8 (Int.fdiv r 16777216)),(w8 (Int.fdiv r 65536)),(w8 (Int.fdiv r 256)),(w8 r)].length+b_.length)*1)<=211106232532992)then some (([e2,(w8 e1),(w8 (Int.fdiv r 16777216)),(w8 (Int.fdiv r 65536)),(w8 (Int.fdiv r 256)),(w8 r)]++b_),true)else none))):Option (YN×Bool)):=by
 subst h_e1 h_e2;kernel_rfl
theorem wy (k:Nat)(j_:Option Nat)(name_:Int)(b_:YN)(ui:YF)(uj:YN)(uk:YN)(ul:YL)(uo:YO)(us:YL)(ut:YB)(uu:YN):CF (k+1) S10 pX [inj (.ref 99) j_,inj qI name_,inj qB b_,Ci ui,Cj uj,Ck uk,Cl ul,Co uo,Cs us,Ct ut,Cu uu]=((bif j_.isSome then((CF k S11 dH [inj (.ref 29) (List.getD uo (j_.getD 0) none),inj qI name_,inj qB b_,Ci ui,Cj uj,Ck uk,Cl ul,Ct ut,Cu uu]).bind λ(r:R14)=>(bif r.1.isSome then((CF k S50 ee [inj (.ref 99) j_,inj .err r.1,Cs us]).bind λ(r_1:(Option Int)×YL)=>some (r_1.1,r.2.1,r.2.2.1,r.2.2.2.1,r.2.2.2.2.1,uo,r_1.2,r.2.2.2.2.2))else(bif j_.isSome then((CF k S13 m4 [inj (.ref 29) (List.getD uo (j_.getD 0) none),inj qI name_,Ci r.2.1,Ck r.2.2.2.1,Cl r.2.2.2.2.1,Ct r.2.2.2.2.2.1,Cu r.2.2.2.2.2.2]).bind λ(r_1:R15)=>((CF k S50 ee [inj (.ref 99) j_,inj .err r_1.1,Cs us]).bind λ(r_2:(Option Int)×YL)=>some (r_2.1,r_1.2.1,r.2.2.1,r_1.2.2.1,r_1.2.2.2.1,uo,r_2.2,r_1.2.2.2.2)))else none)))else none):Option (R13)):=by kernel_rfl
theorem so (k:Nat)(d_:Option Nat)(from_:Int)(to_:Int)(ui:YF)(uk:YN)(ul:YL):CF (k+1) S16 jF [inj (.ref 29) d_,inj qI from_,inj qI to_,Ci ui,Ck uk,Cl ul]=((bif d_.isSome then(bif d_.isSome then(bif(List.getD ul (d_.getD 0) false)then some (some 12,ui,uk,ul)else(bif(!(aO none (List.getD ui (d_.getD 0) []) from_).isSome)then some (some 2,ui,uk,ul)else((CF k S30 dR [inj (.ref 29) d_,Ck uk,Cl ul]).bind λ(r:Bool×YN×YL)=>(bif(!r.1)then some (some 12,ui,r.2)else(bif d_.isSome then(bif d_.isSome then some (none,(List.set (List.set ui (d_.getD 0) (cx (List.getD ui (d_.getD 0) []) from_)) (d_.getD 0) (aR (List.getD (List.set ui (d_.getD 0) (cx (List.getD ui (d_.getD 0) []) from_)) (d_.getD 0) []) to_ (aO none (List.getD ui (d_.getD 0) []) from_))),r.2)else none)else none)))))else none)else none):Option (R19)):=by kernel_rfl
theorem sm (k:Nat)(j_:Option Nat)(e_:Option Int)(us:YL):CF (k+1) S50 ee [inj (.ref 99) j_,inj .err e_,Cs us]=((bif(e_.isSome || (some 12).isSome)then(bif decide (e_=some 12)then(bif j_.isSome then some (e_,(List.set us (j_.getD 0) true))else none)else some (e_,us))else none):Option ((Option Int)×YL)):=by kernel_rfl
theorem yw (k:Nat)(s_:aZ):CF (k+1) Z3 kx [inj bn s_]=(some (s_.1,s_.2.1,(w64 (s_.2.2.1+1)),0,s_.2.2.2.2):Option (aZ)):=by kernel_rfl
theorem wq (k:Nat)(s_:aZ)(e1:Int)(h_e1:e1=(w64 (s_.2.2.2.1+1))):CF (k+1) Z3 jz [inj bn s_]=((bif decide (3<e1)then some (s_.1,1,s_.2.2.1,e1,9)else some (s_.1,s_.2.1,s_.2.2.1,e1,s_.2.2.2.2)):Option (aZ)):=by
 subst h_e1;kernel_rfl
theorem GI (k:Nat)(b_:YN):CF (k+1) S61 m5 [inj qB b_]=((nr k k 4294967295 b_ (b_.length:Int) 0):Option (Int)):=by kernel_rfl
theorem rO (k m:Nat)(r_:Int)(t6:YN)(t7:Int)(t8:Int):nr k (m+1) r_ t6 t7 t8=(bif decide (t8<t7)then(bif(inb t8 t6.length)then((CF k S61 om [inj (.int .u32) r_,inj (.int .u8) (List.getD t6 (Int.toNat t8) 0)]).bind λ(r:Int)=>(nr k m r t6 t7 (w64 (t8+1))))else none)else some (b7 .u32 .xor 4294967295 r_)):=by kernel_rfl
theorem lI (k:Nat)(d_:Option Nat)(uk:YN)(ul:YL):CF (k+1) S30 dR [inj (.ref 29) d_,Ck uk,Cl ul]=((bif d_.isSome then(bif decide ((List.getD uk (d_.getD 0) 0)=0)then(bif d_.isSome then(fa k k d_ uk (List.set ul (d_.getD 0) true))else none)else(fa k k d_ uk ul))else none):Option (Bool×YN×YL)):=by kernel_rfl
theorem iD (k m:Nat)(d_:Option Nat)(uk:YN)(ul:YL)(e1:Int)(h_e1:e1=(List.getD uk (d_.getD 0) 0)):fa k (m+1) d_ uk ul=(bif d_.isSome then(bif decide (0<e1)then(bif d_.isSome then(bif d_.isSome then(bif d_.isSome then some ((!(List.getD ul (d_.getD 0) false)),(List.set uk (d_.getD 0) (w64 (e1-1))),ul)else none)else none)else none)else(bif d_.isSome then some ((!(List.getD ul (d_.getD 0) false)),uk,ul)else none))else none):=by
 subst h_e1;kernel_rfl
theorem tj (k:Nat)(b_:YN):CF (k+1) S23 iJ [inj qB b_]=(((CF k S19 pU [inj qB b_,inj qI 7]).bind λ(r:YN×YN×Bool)=>(bif(!r.2.2)then some ((0,0,0,0,0,0,0),[],false)else(bif(inb 0 r.1.length)then(bif(inb 1 r.1.length)then(bif(inb 2 r.1.length)then(bif(inb 3 r.1.length)then(bif(inb 4 r.1.length)then(bif(inb 5 r.1.length)then(bif(inb 6 r.1.length)then((CF k Z0 n_rM [inj aq ((List.getD r.1 0 0),(List.getD r.1 1 0),(List.getD r.1 2 0),(List.getD r.1 3 0),(List.getD r.1 4 0),(List.getD r.1 5 0),(List.getD r.1 6 0))]).bind λ(r_1:Bool)=>(bif(!r_1)then some ((0,0,0,0,0,0,0),[],false)else some (((List.getD r.1 0 0),(List.getD r.1 1 0),(List.getD r.1 2 0),(List.getD r.1 3 0),(List.getD r.1 4 0),(List.getD r.1 5 0),(List.getD r.1 6 0)),r.2.1,true)))else none)else none)else none)else none)else none)else none)else none))):Option (ae×YN×Bool)):=by kernel_rfl
theorem mm (k:Nat)(b_:YN):CF (k+1) S24 dE [inj qB b_]=(((CF k S19 pU [inj qB b_,inj qI 2]).bind λ(r:YN×YN×Bool)=>(bif(!r.2.2)then some ((0,0),[],false)else(bif(inb 0 r.1.length)then(bif decide ((List.getD r.1 0 0)<0)then some ((0,0),[],false)else(bif(inb 0 r.1.length)then(bif decide (13<(List.getD r.1 0 0))then some ((0,0),[],false)else(dI k k r.1 r.2.1 0 0))else none))else none))):Option (ah×YN×Bool)):=by kernel_rfl
theorem kJ (k m:Nat)(ns_:YN)(rest_:YN)(t2:Int)(t21:Int):dI k (m+1) ns_ rest_ t2 t21=(bif(inb 0 ns_.length)then(bif(inb 1 ns_.length)then some (((List.getD ns_ 0 0),(List.getD ns_ 1 0)),rest_,true)else none)else none):=by kernel_rfl
theorem wz (k:Nat)(s_:ab)(key_:Int):CF (k+1) S60 jE [inj aD s_,inj qI key_]=((fN k k key_ s_.2.2.1 (s_.2.2.1.length:Int) 0):Option (Int)):=by kernel_rfl
theorem kL (k m:Nat)(key_:Int)(t8:YG)(t9:Int)(t10:Int):fN k (m+1) key_ t8 t9 t10=(bif decide (t10<t9)then(bif(inb t10 t8.length)then(bif decide ((List.getD t8 (Int.toNat t10) ((0,0,0,0,0,0,0),0,0,0,0)).1.1=key_)then some t10 else(fN k m key_ t8 t9 (w64 (t10+1))))else none)else some (-1:Int)):=by kernel_rfl
theorem IQ (k:Nat)(m_:aA)(k_:Int)(out_:ah)(e1:Int)(h_e1:e1=(w64 (k_+1)))(e2:(List ((Int×(Int×(Int×(Int×(Int×(Int×Int))))))×(Int×(Int×(Int×Int))))))(h_e2:e2=(List.take (Int.toNat k_) m_.2.2.1))(e3:Int)(h_e3:e3=(m_.2.2.1.length:Int))(e4:(List ((Int×(Int×(Int×(Int×(Int×(Int×Int))))))×(Int×(Int×(Int×Int))))))(h_e4:e4=(List.drop (Int.toNat e1) m_.2.2.1)):CF (k+1) S56 mY [vf [.io aE m_],inj qI k_,inj aK out_]=((bif(inb k_ m_.2.2.1.length)then(bif(decide (0<=k_)&&decide (k_<=e3))then(bif decide ((e2.length*88)<=211106232532992)then(bif(decide (0<=e1)&&decide (e1<=e3))then(bif decide (((e2.length+e4.length)*88)<=211106232532992)then((CF k S35 gx [inj (.slice aW) m_.2.2.2.1,inj qI (List.getD m_.2.2.1 (Int.toNat k_) ((0,0,0,0,0,0,0),0,0,0,0)).1.1,inj aK out_]).bind λ(r:YK×(Option Int))=>some (out_,m_.1,m_.2.1,(e2++e4),r.1,m_.2.2.2.2))else none)else none)else none)else none)else none):Option (ah×aA)):=by
 subst h_e1 h_e2 h_e3 h_e4;kernel_rfl
theorem oJ (k:Nat)(r_:ae):CF (k+1) S47 iS [inj aq r_]=(some [r_.1,r_.2.1,r_.2.2.1,r_.2.2.2.1,r_.2.2.2.2.1,r_.2.2.2.2.2.1,r_.2.2.2.2.2.2]:Option (YN)):=by kernel_rfl
theorem gS (k:Nat)(d_:Option Nat)(name_:Int)(b_:YN)(ui:YF)(uj:YN)(uk:YN)(ul:YL)(ut:YB)(uu:YN):CF (k+1) S11 dH [inj (.ref 29) d_,inj qI name_,inj qB b_,Ci ui,Cj uj,Ck uk,Cl ul,Ct ut,Cu uu]=((bif d_.isSome then(bif(List.getD ul (d_.getD 0) false)then some (some 12,ui,uj,uk,ul,ut,uu)else((CF k S17 qX [inj (.ref 29) d_,Ci ui,Ct ut]).bind λ(r:R21)=>(bif d_.isSome then(bif decide ((List.getD uj (d_.getD 0) 0)<(w64 (r.1+(b_.length:Int))))then some (some 8,r.2.1,uj,uk,ul,r.2.2,uu)else((CF k S30 dR [inj (.ref 29) d_,Ck uk,Cl ul]).bind λ(r_1:Bool×YN×YL)=>(bif d_.isSome then(bif(!(aO none (List.getD r.2.1 (d_.getD 0) []) name_).isSome)then(bif d_.isSome then(jN k k d_ b_ r_1.1 r.2.2.length (List.set r.2.1 (d_.getD 0) (aR (List.getD r.2.1 (d_.getD 0) []) name_ (some r.2.2.length))) uj r_1.2.1 r_1.2.2 (r.2.2++[[]]) (uu++[0]))else none)else(fS k k d_ b_ r_1.1 (aO none (List.getD r.2.1 (d_.getD 0) []) name_) r.2.1 uj r_1.2.1 r_1.2.2 r.2.2 uu))else none)))else none)))else none):Option (R14)):=by kernel_rfl
theorem np (k m:Nat)(d_:Option Nat)(b_:YN)(works_:Bool)(f_:Nat)(ui:YF)(uj:YN)(uk:YN)(ul:YL)(ut:YB)(uu:YN)(e1:(List Int))(h_e1:e1=(List.getD ut f_ []))(e2:(List (List Int)))(h_e2:e2=(List.set ut f_ (e1++b_))):jN k (m+1) d_ b_ works_ f_ ui uj uk ul ut uu=(bif decide (((e1.length+b_.length)*1)<=211106232532992)then(bif(decide (f_=f_)&&decide (f_=f_))then(bif(!works_)then some (some 12,ui,uj,uk,ul,e2,uu)else some (none,ui,uj,uk,ul,e2,uu))else none)else none):=by
 subst h_e1 h_e2;kernel_rfl
theorem kP (k m:Nat)(d_:Option Nat)(b_:YN)(works_:Bool)(f_:Option Nat)(ui:YF)(uj:YN)(uk:YN)(ul:YL)(ut:YB)(uu:YN)(e1:(List Int))(h_e1:e1=(List.getD ut (f_.getD 0) []))(e2:(List (List Int)))(h_e2:e2=(List.set ut (f_.getD 0) (e1++b_))):fS k (m+1) d_ b_ works_ f_ ui uj uk ul ut uu=(bif f_.isSome then(bif decide (((e1.length+b_.length)*1)<=211106232532992)then(bif f_.isSome then(bif(decide ((f_.getD 0)=(f_.getD 0))&&decide ((f_.getD 0)=(f_.getD 0)))then(bif(!works_)then some (some 12,ui,uj,uk,ul,e2,uu)else some (none,ui,uj,uk,ul,e2,uu))else none)else none)else none)else none):=by
 subst h_e1 h_e2;kernel_rfl
theorem yJ (k:Nat)(d_:Option Nat)(name_:Int)(ui:YF)(uk:YN)(ul:YL)(ut:YB)(uu:YN)(e1:Nat)(h_e1:e1=((aO none (List.getD ui (d_.getD 0) []) name_).getD 0)):CF (k+1) S13 m4 [inj (.ref 29) d_,inj qI name_,Ci ui,Ck uk,Cl ul,Ct ut,Cu uu]=((bif d_.isSome then(bif d_.isSome then(bif(List.getD ul (d_.getD 0) false)then some (some 12,ui,uk,ul,ut,uu)else(bif(!(aO none (List.getD ui (d_.getD 0) []) name_).isSome)then some (some 2,ui,uk,ul,ut,uu)else((CF k S30 dR [inj (.ref 29) d_,Ck uk,Cl ul]).bind λ(r:Bool×YN×YL)=>(bif(!r.1)then some (some 12,ui,r.2.1,r.2.2,ut,uu)else(bif(aO none (List.getD ui (d_.getD 0) []) name_).isSome then(bif(aO none (List.getD ui (d_.getD 0) []) name_).isSome then some (none,ui,r.2.1,r.2.2,ut,(List.set uu e1 ((List.getD ut e1 []).length:Int)))else none)else none)))))else none)else none):Option (R15)):=by
 subst h_e1;kernel_rfl
theorem DS (k:Nat)(r_:Int)(c_:Int):CF (k+1) S61 om [inj (.int .u32) r_,inj (.int .u8) c_]=((jc k k (b7 .u32 .xor r_ (w32 c_)) 0):Option (Int)):=by kernel_rfl
theorem pk (k m:Nat)(r_:Int)(t10:Int)(e1:Int)(h_e1:e1=(w64 (t10+1)))(e2:Int)(h_e2:e2=(Int.fdiv r_ 2)):jc k (m+1) r_ t10=(bif decide (t10<8)then(bif decide ((b7 .u32 .and r_ 1)=1)then(jc k m (b7 .u32 .xor e2 3988292384) e1)else(jc k m e2 e1))else some r_):=by
 subst h_e1 h_e2;kernel_rfl
theorem IK (k:Nat)(b_:YN)(n_:Int):CF (k+1) S19 pU [inj qB b_,inj qI n_]=((qa k k b_ n_ []):Option (YN×YN×Bool)):=by kernel_rfl
theorem uG (k m:Nat)(b_:YN)(n_:Int)(out_:YN):qa k (m+1) b_ n_ out_=(bif decide ((out_.length:Int)<n_)then((CF k S22 nY [inj qB b_]).bind λ(r:Int×YN×Bool)=>(bif(!r.2.2)then some ([],[],false)else(bif decide (((out_.length+[r.1].length)*8)<=211106232532992)then(qa k m r.2.1 n_ (out_++[r.1]))else none)))else some (out_,b_,true)):=by kernel_rfl
abbrev S933:Sig:=⟨[(false,aD),(false,(.slice aH))],[]⟩
abbrev ku:Nat:=6
abbrev l8:Nat:=19
abbrev m0:Nat:=40
abbrev qV:Nat:=39
abbrev l5:Nat:=74
def fR (k m:Nat)(n_:Int)(t7:YG)(t8:Int)(t9:Int):Option (Int):=hb k S60 40 [] [.r,.r,.l,.r,.l] m ⟨[(3,vf [.int .i64 n_]),(7,vf [.sl bn t7]),(8,vf [.int .i64 t8]),(9,vf [.int .i64 t9])],[]⟩
def jL (k m:Nat)(picks_:YN)(answers_:YL)(most_:Int)(n_:Int)(s_:YA)(s_1:YP)(s_2:YG)(s_3:YK)(s_4:Int)(t8:Int)(out_:List (au)):Option (ab×(List (au))):=hb k S933 39 [] [.r,.r,.l,.r,.l] m ⟨[(1,vf [.sl qI picks_]),(2,vf [.sl .bool answers_]),(3,vf [.int .i64 most_]),(4,vf [.ptr 4 0 0 []]),(8,vf [.ptr 8 0 0 []]),(10,vf [.vw 10 0]),(11,vf [.int .i64 n_])],[(4,.box [.sl af s_,.sl ak s_1,.sl bn s_2,.sl aW s_3,.int .i64 s_4]),(8,.box [.nilS,.nilS,.nilS,.nilS,.int .i64 t8]),(10,.row aH out_ 0 [] false)]⟩
def jK (k m1 m:Nat)(picks_:YN)(answers_:YL)(most_:Int)(n_:Int)(s_:YA)(s_1:YP)(s_2:YG)(s_3:YK)(s_4:Int)(t8:Int)(out_:List (au)):Option (ab×(List (au))):=hb k S933 39 [] [.r,.r,.l,.r,.l,.lp m1,.r,.l,.l,.l] m ⟨[(1,vf [.sl qI picks_]),(2,vf [.sl .bool answers_]),(3,vf [.int .i64 most_]),(4,vf [.ptr 4 0 0 []]),(8,vf [.ptr 8 0 0 []]),(10,vf [.vw 10 0]),(11,vf [.int .i64 n_])],[(4,.box [.sl af s_,.sl ak s_1,.sl bn s_2,.sl aW s_3,.int .i64 s_4]),(8,.box [.nilS,.nilS,.nilS,.nilS,.int .i64 t8]),(10,.row aH out_ 0 [] false)]⟩
def fQ (k m1 m:Nat)(picks_:YN)(answers_:YL)(most_:Int)(n_:Int)(k_:Int)(ok_:Bool)(s_:YA)(s_1:YP)(s_2:YG)(s_3:YK)(s_4:Int)(t8:Int)(out_:List (au)):Option (ab×(List (au))):=hb k S933 39 [] [.r,.r,.l,.r,.l,.lp m1,.r,.l,.l,.r,.r,.l,.l] m ⟨[(1,vf [.sl qI picks_]),(2,vf [.sl .bool answers_]),(3,vf [.int .i64 most_]),(4,vf [.ptr 4 0 0 []]),(8,vf [.ptr 8 0 0 []]),(10,vf [.vw 10 0]),(11,vf [.int .i64 n_]),(12,vf [.int .i64 k_]),(13,vf [.bool ok_])],[(4,.box [.sl af s_,.sl ak s_1,.sl bn s_2,.sl aW s_3,.int .i64 s_4]),(8,.box [.nilS,.nilS,.nilS,.nilS,.int .i64 t8]),(10,.row aH out_ 0 [] false)]⟩
def fP (k m1 m:Nat)(picks_:YN)(answers_:YL)(most_:Int)(n_:Int)(k_:Int)(ok_:Bool)(s_:YA)(s_1:YP)(s_2:YG)(s_3:YK)(s_4:Int)(t8:Int)(out_:List (au)):Option (ab×(List (au))):=hb k S933 39 [] [.r,.r,.l,.r,.l,.lp m1,.r,.l,.l,.r,.r,.r,.l,.l] m ⟨[(1,vf [.sl qI picks_]),(2,vf [.sl .bool answers_]),(3,vf [.int .i64 most_]),(4,vf [.ptr 4 0 0 []]),(8,vf [.ptr 8 0 0 []]),(10,vf [.vw 10 0]),(11,vf [.int .i64 n_]),(12,vf [.int .i64 k_]),(13,vf [.bool ok_])],[(4,.box [.sl af s_,.sl ak s_1,.sl bn s_2,.sl aW s_3,.int .i64 s_4]),(8,.box [.nilS,.nilS,.nilS,.nilS,.int .i64 t8]),(10,.row aH out_ 0 [] false)]⟩
def fO (k m1 m:Nat)(picks_:YN)(answers_:YL)(most_:Int)(n_:Int)(k_:Int)(ok_:Bool)(s_:YA)(s_1:YP)(s_2:YG)(s_3:YK)(s_4:Int)(t8:Int)(out_:List (au)):Option (ab×(List (au))):=hb k S933 39 [] [.r,.r,.l,.r,.l,.lp m1,.r,.l,.l,.r,.r,.r,.r,.l] m ⟨[(1,vf [.sl qI picks_]),(2,vf [.sl .bool answers_]),(3,vf [.int .i64 most_]),(4,vf [.ptr 4 0 0 []]),(8,vf [.ptr 8 0 0 []]),(10,vf [.vw 10 0]),(11,vf [.int .i64 n_]),(12,vf [.int .i64 k_]),(13,vf [.bool ok_])],[(4,.box [.sl af s_,.sl ak s_1,.sl bn s_2,.sl aW s_3,.int .i64 s_4]),(8,.box [.nilS,.nilS,.nilS,.nilS,.int .i64 t8]),(10,.row aH out_ 0 [] false)]⟩
theorem AN (k:Nat)(s_:ab):CF (k+1) Z4 l8 [inj aD s_]=(((CF k S60 m0 [inj aD s_]).bind λ(r:Int)=>((CF k S933 qV [inj aD s_,inj (.slice qI) [],inj (.slice .bool) [],inj qI r]).bind λ(r_1:ab×(List (au)))=>some r_1.1)):Option (ab)):=by kernel_rfl
theorem wA (k:Nat)(s_:ab):CF (k+1) S60 m0 [inj aD s_]=((fR k k 0 s_.2.2.1 (s_.2.2.1.length:Int) 0):Option (Int)):=by kernel_rfl
theorem kO (k m:Nat)(n_:Int)(t7:YG)(t8:Int)(t9:Int):fR k (m+1) n_ t7 t8 t9=(bif decide (t9<t8)then(bif(inb t9 t7.length)then((CF k S60 l5 [inj bn (List.getD t7 (Int.toNat t9) ((0,0,0,0,0,0,0),0,0,0,0))]).bind λ(r:Int)=>(fR k m (w64 (n_+r)) t7 t8 (w64 (t9+1))))else none)else some n_):=by kernel_rfl
theorem AM (k:Nat)(s_:ab)(picks_:YN)(answers_:YL)(most_:Int):CF (k+1) S933 qV [inj aD s_,inj (.slice qI) picks_,inj (.slice .bool) answers_,inj qI most_]=((jL k k picks_ answers_ most_ 0 s_.1 s_.2.1 s_.2.2.1 s_.2.2.2.1 s_.2.2.2.2 0 []):Option (ab×(List (au)))):=by kernel_rfl
theorem nj (k m:Nat)(picks_:YN)(answers_:YL)(most_:Int)(n_:Int)(s_:YA)(s_1:YP)(s_2:YG)(s_3:YK)(s_4:Int)(t8:Int)(out_:List (au))(e1:(((List (Int×(Int×Int)))×((List (Int×(Int×(Int×(Int×(Int×(Int×(Int×Int))))))))×((List ((Int×(Int×(Int×(Int×(Int×(Int×Int))))))×(Int×(Int×(Int×Int)))))×((List ((Int×(Int×(Int×(Int×(Int×(Int×Int))))))×((Int×Int)×Bool)))×Int))))×(List (Int×((Int×(Int×(Int×(Int×(Int×(Int×Int))))))×(Int×Bool))))))(h_e1:e1=((s_,s_1,s_2,s_3,s_4),out_)):jL k (m+1) picks_ answers_ most_ n_ s_ s_1 s_2 s_3 s_4 t8 out_=(bif decide (n_<most_)then(bif decide (0<(s_2.length:Int))then(jK k m k picks_ answers_ most_ n_ s_ s_1 s_2 s_3 s_4 t8 out_)else some e1)else some e1):=by
 subst h_e1;kernel_rfl
theorem rM (k m1 m:Nat)(picks_:YN)(answers_:YL)(most_:Int)(n_:Int)(s_:YA)(s_1:YP)(s_2:YG)(s_3:YK)(s_4:Int)(t8:Int)(out_:List (au))(e1:Int)(h_e1:e1=(picks_.length:Int))(e2:Int)(h_e2:e2=(Int.tmod n_ e1))(e3:Int)(h_e3:e3=(s_2.length:Int)):jK k m1 (m+1) picks_ answers_ most_ n_ s_ s_1 s_2 s_3 s_4 t8 out_=(bif decide (0<e1)then(bif(!decide (e1=0))then(bif(inb e2 picks_.length)then(bif(!decide (e3=0))then(fQ k m1 k picks_ answers_ most_ n_ (Int.tmod (List.getD picks_ (Int.toNat e2) 0) e3) true s_ s_1 s_2 s_3 s_4 t8 out_)else none)else none)else none)else(fQ k m1 k picks_ answers_ most_ n_ 0 true s_ s_1 s_2 s_3 s_4 t8 out_)):=by
 subst h_e1 h_e2 h_e3;kernel_rfl
theorem rL (k m1 m:Nat)(picks_:YN)(answers_:YL)(most_:Int)(n_:Int)(k_:Int)(ok_:Bool)(s_:YA)(s_1:YP)(s_2:YG)(s_3:YK)(s_4:Int)(t8:Int)(out_:List (au)):fQ k m1 (m+1) picks_ answers_ most_ n_ k_ ok_ s_ s_1 s_2 s_3 s_4 t8 out_=(bif decide (k_<0)then(fP k m1 k picks_ answers_ most_ n_ (w64 (k_+(s_2.length:Int))) ok_ s_ s_1 s_2 s_3 s_4 t8 out_)else(fP k m1 k picks_ answers_ most_ n_ k_ ok_ s_ s_1 s_2 s_3 s_4 t8 out_)):=by kernel_rfl
theorem rK (k m1 m:Nat)(picks_:YN)(answers_:YL)(most_:Int)(n_:Int)(k_:Int)(ok_:Bool)(s_:YA)(s_1:YP)(s_2:YG)(s_3:YK)(s_4:Int)(t8:Int)(out_:List (au))(e1:Int)(h_e1:e1=(answers_.length:Int))(e2:Int)(h_e2:e2=(Int.tmod n_ e1)):fP k m1 (m+1) picks_ answers_ most_ n_ k_ ok_ s_ s_1 s_2 s_3 s_4 t8 out_=(bif decide (0<e1)then(bif(!decide (e1=0))then(bif(inb e2 answers_.length)then(fO k m1 k picks_ answers_ most_ n_ k_ (List.getD answers_ (Int.toNat e2) false) s_ s_1 s_2 s_3 s_4 t8 out_)else none)else none)else(fO k m1 k picks_ answers_ most_ n_ k_ ok_ s_ s_1 s_2 s_3 s_4 t8 out_)):=by
 subst h_e1 h_e2;kernel_rfl
theorem rJ (k m1 m:Nat)(picks_:YN)(answers_:YL)(most_:Int)(n_:Int)(k_:Int)(ok_:Bool)(s_:YA)(s_1:YP)(s_2:YG)(s_3:YK)(s_4:Int)(t8:Int)(out_:List (au))(e1:(Int×((Int×(Int×(Int×(Int×(Int×(Int×Int))))))×(Int×Bool))))(h_e1:e1=(1,(0,0,0,0,0,0,0),(List.getD s_2 (Int.toNat k_) ((0,0,0,0,0,0,0),0,0,0,0)).1.1,ok_)):fO k m1 (m+1) picks_ answers_ most_ n_ k_ ok_ s_ s_1 s_2 s_3 s_4 t8 out_=(bif(inb k_ s_2.length)then((CF k S40 eT [inj aD (s_,s_1,s_2,s_3,s_4),inj aH e1]).bind λ(r:ab×ah)=>(bif decide (((out_.length+[e1].length)*80)<=211106232532992)then(jL k m1 picks_ answers_ most_ (w64 (n_+1)) r.1.1 r.1.2.1 r.1.2.2.1 r.1.2.2.2.1 r.1.2.2.2.2 t8 (out_++[e1]))else none))else none):=by
 subst h_e1;kernel_rfl
theorem sd (k:Nat)(s_:aZ):CF (k+1) S60 l5 [inj bn s_]=((bif decide (s_.2.1=0)then some (w64 ((w64 ((w64 ((maxI 0 (w64 (s_.1.2.2.2.2.2.1-s_.2.2.1)))*4))-s_.2.2.2.1))+2))else(bif decide (s_.2.1=1)then some 1 else some 0)):Option (Int)):=by kernel_rfl
def fb (k m:Nat)(t15:Int)(t16:Int)(t2:Int)(r_:YN)(r_1:Bool)(s_:Int):Option (ab×Bool):=hb k S44 78 [] [.r,.r,.r,.r,.l,.r,.l] m ⟨[(2,vf [.ptr 2 0 0 []]),(4,vf [.ptr 4 0 0 []]),(5,vf [.ptr 5 0 0 []]),(15,vf [.int .i64 t15]),(16,vf [.int .i64 t16]),(28,.undef)],[(2,.box [.nilS,.nilS,.nilS,.nilS,.int .i64 t2]),(4,.box [.sl (.int .u8) r_,.bool r_1]),(5,.box [.nilS,.nilS,.nilS,.nilS,.int .i64 s_])]⟩
def cE (k m:Nat)(t15:Int)(t16:Int)(t2:Int)(r_:YN)(r_1:Bool)(s_:Int)(t28:YA):Option (ab×Bool):=hb k S44 78 [] [.r,.r,.r,.r,.l,.r,.l] m ⟨[(2,vf [.ptr 2 0 0 []]),(4,vf [.ptr 4 0 0 []]),(5,vf [.ptr 5 0 0 []]),(15,vf [.int .i64 t15]),(16,vf [.int .i64 t16]),(28,vf [.vw 28 0])],[(2,.box [.nilS,.nilS,.nilS,.nilS,.int .i64 t2]),(4,.box [.sl (.int .u8) r_,.bool r_1]),(5,.box [.vw 28 0,.nilS,.nilS,.nilS,.int .i64 s_]),(28,.row af t28 0 [] false)]⟩
def mi (k m:Nat)(t32:Int)(t33:Int)(t2:Int)(r_:YN)(r_1:Bool)(s_:Int):Option (ab×Bool):=hb k S44 78 [] [.r,.r,.r,.r,.r,.l,.r,.l] m ⟨[(2,vf [.ptr 2 0 0 []]),(4,vf [.ptr 4 0 0 []]),(5,vf [.ptr 5 0 0 []]),(28,.undef),(32,vf [.int .i64 t32]),(33,vf [.int .i64 t33]),(68,.undef)],[(2,.box [.nilS,.nilS,.nilS,.nilS,.int .i64 t2]),(4,.box [.sl (.int .u8) r_,.bool r_1]),(5,.box [.nilS,.nilS,.nilS,.nilS,.int .i64 s_])]⟩
def dK (k m:Nat)(t32:Int)(t33:Int)(t2:Int)(r_:YN)(r_1:Bool)(s_:Int)(t28:YA):Option (ab×Bool):=hb k S44 78 [] [.r,.r,.r,.r,.r,.l,.r,.l] m ⟨[(2,vf [.ptr 2 0 0 []]),(4,vf [.ptr 4 0 0 []]),(5,vf [.ptr 5 0 0 []]),(28,vf [.vw 28 0]),(32,vf [.int .i64 t32]),(33,vf [.int .i64 t33]),(68,.undef)],[(2,.box [.nilS,.nilS,.nilS,.nilS,.int .i64 t2]),(4,.box [.sl (.int .u8) r_,.bool r_1]),(5,.box [.vw 28 0,.nilS,.nilS,.nilS,.int .i64 s_]),(28,.row af t28 0 [] false)]⟩
def bG (k m:Nat)(t32:Int)(t33:Int)(t2:Int)(r_:YN)(r_1:Bool)(s_:Int)(t28:YA)(t68:YP):Option (ab×Bool):=hb k S44 78 [] [.r,.r,.r,.r,.r,.l,.r,.l] m ⟨[(2,vf [.ptr 2 0 0 []]),(4,vf [.ptr 4 0 0 []]),(5,vf [.ptr 5 0 0 []]),(28,vf [.vw 28 0]),(32,vf [.int .i64 t32]),(33,vf [.int .i64 t33]),(68,vf [.vw 68 0])],[(2,.box [.nilS,.nilS,.nilS,.nilS,.int .i64 t2]),(4,.box [.sl (.int .u8) r_,.bool r_1]),(5,.box [.vw 28 0,.vw 68 0,.nilS,.nilS,.int .i64 s_]),(28,.row af t28 0 [] false),(68,.row ak t68 0 [] false)]⟩
def dJ (k m:Nat)(t72:Int)(t73:Int)(t2:Int)(r_:YN)(r_1:Bool)(s_:Int)(t28:YA):Option (ab×Bool):=hb k S44 78 [] [.r,.r,.r,.r,.r,.r,.l,.r,.l] m ⟨[(2,vf [.ptr 2 0 0 []]),(4,vf [.ptr 4 0 0 []]),(5,vf [.ptr 5 0 0 []]),(28,vf [.vw 28 0]),(68,.undef),(72,vf [.int .i64 t72]),(73,vf [.int .i64 t73]),(102,.undef)],[(2,.box [.nilS,.nilS,.nilS,.nilS,.int .i64 t2]),(4,.box [.sl (.int .u8) r_,.bool r_1]),(5,.box [.vw 28 0,.nilS,.nilS,.nilS,.int .i64 s_]),(28,.row af t28 0 [] false)]⟩
def dv (k m:Nat)(t72:Int)(t73:Int)(t2:Int)(r_:YN)(r_1:Bool)(s_:Int)(t28:YA)(t68:YP):Option (ab×Bool):=hb k S44 78 [] [.r,.r,.r,.r,.r,.r,.l,.r,.l] m ⟨[(2,vf [.ptr 2 0 0 []]),(4,vf [.ptr 4 0 0 []]),(5,vf [.ptr 5 0 0 []]),(28,vf [.vw 28 0]),(68,vf [.vw 68 0]),(72,vf [.int .i64 t72]),(73,vf [.int .i64 t73]),(102,.undef)],[(2,.box [.nilS,.nilS,.nilS,.nilS,.int .i64 t2]),(4,.box [.sl (.int .u8) r_,.bool r_1]),(5,.box [.vw 28 0,.vw 68 0,.nilS,.nilS,.int .i64 s_]),(28,.row af t28 0 [] false),(68,.row ak t68 0 [] false)]⟩
def bB (k m:Nat)(t72:Int)(t73:Int)(t2:Int)(r_:YN)(r_1:Bool)(s_:Int)(t28:YA)(t102:YG):Option (ab×Bool):=hb k S44 78 [] [.r,.r,.r,.r,.r,.r,.l,.r,.l] m ⟨[(2,vf [.ptr 2 0 0 []]),(4,vf [.ptr 4 0 0 []]),(5,vf [.ptr 5 0 0 []]),(28,vf [.vw 28 0]),(68,.undef),(72,vf [.int .i64 t72]),(73,vf [.int .i64 t73]),(102,vf [.vw 102 0])],[(2,.box [.nilS,.nilS,.nilS,.nilS,.int .i64 t2]),(4,.box [.sl (.int .u8) r_,.bool r_1]),(5,.box [.vw 28 0,.nilS,.vw 102 0,.nilS,.int .i64 s_]),(28,.row af t28 0 [] false),(102,.row bn t102 0 [] false)]⟩
def du (k m:Nat)(t106:Int)(t107:Int)(t2:Int)(r_:YN)(r_1:Bool)(s_:Int)(t28:YA):Option (ab×Bool):=hb k S44 78 [] [.r,.r,.r,.r,.r,.r,.r,.l,.r,.l] m ⟨[(2,vf [.ptr 2 0 0 []]),(4,vf [.ptr 4 0 0 []]),(5,vf [.ptr 5 0 0 []]),(28,vf [.vw 28 0]),(68,.undef),(102,.undef),(106,vf [.int .i64 t106]),(107,vf [.int .i64 t107]),(120,.undef)],[(2,.box [.nilS,.nilS,.nilS,.nilS,.int .i64 t2]),(4,.box [.sl (.int .u8) r_,.bool r_1]),(5,.box [.vw 28 0,.nilS,.nilS,.nilS,.int .i64 s_]),(28,.row af t28 0 [] false)]⟩
def bA (k m:Nat)(t72:Int)(t73:Int)(t2:Int)(r_:YN)(r_1:Bool)(s_:Int)(t28:YA)(t68:YP)(t102:YG):Option (ab×Bool):=hb k S44 78 [] [.r,.r,.r,.r,.r,.r,.l,.r,.l] m ⟨[(2,vf [.ptr 2 0 0 []]),(4,vf [.ptr 4 0 0 []]),(5,vf [.ptr 5 0 0 []]),(28,vf [.vw 28 0]),(68,vf [.vw 68 0]),(72,vf [.int .i64 t72]),(73,vf [.int .i64 t73]),(102,vf [.vw 102 0])],[(2,.box [.nilS,.nilS,.nilS,.nilS,.int .i64 t2]),(4,.box [.sl (.int .u8) r_,.bool r_1]),(5,.box [.vw 28 0,.vw 68 0,.vw 102 0,.nilS,.int .i64 s_]),(28,.row af t28 0 [] false),(68,.row ak t68 0 [] false),(102,.row bn t102 0 [] false)]⟩
def dq (k m:Nat)(t106:Int)(t107:Int)(t2:Int)(r_:YN)(r_1:Bool)(s_:Int)(t28:YA)(t68:YP):Option (ab×Bool):=hb k S44 78 [] [.r,.r,.r,.r,.r,.r,.r,.l,.r,.l] m ⟨[(2,vf [.ptr 2 0 0 []]),(4,vf [.ptr 4 0 0 []]),(5,vf [.ptr 5 0 0 []]),(28,vf [.vw 28 0]),(68,vf [.vw 68 0]),(102,.undef),(106,vf [.int .i64 t106]),(107,vf [.int .i64 t107]),(120,.undef)],[(2,.box [.nilS,.nilS,.nilS,.nilS,.int .i64 t2]),(4,.box [.sl (.int .u8) r_,.bool r_1]),(5,.box [.vw 28 0,.vw 68 0,.nilS,.nilS,.int .i64 s_]),(28,.row af t28 0 [] false),(68,.row ak t68 0 [] false)]⟩
def dp (k m:Nat)(t106:Int)(t107:Int)(t2:Int)(r_:YN)(r_1:Bool)(s_:Int)(t28:YA)(t102:YG):Option (ab×Bool):=hb k S44 78 [] [.r,.r,.r,.r,.r,.r,.r,.l,.r,.l] m ⟨[(2,vf [.ptr 2 0 0 []]),(4,vf [.ptr 4 0 0 []]),(5,vf [.ptr 5 0 0 []]),(28,vf [.vw 28 0]),(68,.undef),(102,vf [.vw 102 0]),(106,vf [.int .i64 t106]),(107,vf [.int .i64 t107]),(120,.undef)],[(2,.box [.nilS,.nilS,.nilS,.nilS,.int .i64 t2]),(4,.box [.sl (.int .u8) r_,.bool r_1]),(5,.box [.vw 28 0,.nilS,.vw 102 0,.nilS,.int .i64 s_]),(28,.row af t28 0 [] false),(102,.row bn t102 0 [] false)]⟩
def cq (k m:Nat)(t106:Int)(t107:Int)(t2:Int)(r_:YN)(r_1:Bool)(s_:Int)(t28:YA)(t120:YK):Option (ab×Bool):=hb k S44 78 [] [.r,.r,.r,.r,.r,.r,.r,.l,.r,.l] m ⟨[(2,vf [.ptr 2 0 0 []]),(4,vf [.ptr 4 0 0 []]),(5,vf [.ptr 5 0 0 []]),(28,vf [.vw 28 0]),(68,.undef),(102,.undef),(106,vf [.int .i64 t106]),(107,vf [.int .i64 t107]),(120,vf [.vw 120 0])],[(2,.box [.nilS,.nilS,.nilS,.nilS,.int .i64 t2]),(4,.box [.sl (.int .u8) r_,.bool r_1]),(5,.box [.vw 28 0,.nilS,.nilS,.vw 120 0,.int .i64 s_]),(28,.row af t28 0 [] false),(120,.row aW t120 0 [] false)]⟩
def dn (k m:Nat)(t106:Int)(t107:Int)(t2:Int)(r_:YN)(r_1:Bool)(s_:Int)(t28:YA)(t68:YP)(t102:YG):Option (ab×Bool):=hb k S44 78 [] [.r,.r,.r,.r,.r,.r,.r,.l,.r,.l] m ⟨[(2,vf [.ptr 2 0 0 []]),(4,vf [.ptr 4 0 0 []]),(5,vf [.ptr 5 0 0 []]),(28,vf [.vw 28 0]),(68,vf [.vw 68 0]),(102,vf [.vw 102 0]),(106,vf [.int .i64 t106]),(107,vf [.int .i64 t107]),(120,.undef)],[(2,.box [.nilS,.nilS,.nilS,.nilS,.int .i64 t2]),(4,.box [.sl (.int .u8) r_,.bool r_1]),(5,.box [.vw 28 0,.vw 68 0,.vw 102 0,.nilS,.int .i64 s_]),(28,.row af t28 0 [] false),(68,.row ak t68 0 [] false),(102,.row bn t102 0 [] false)]⟩
def cn (k m:Nat)(t106:Int)(t107:Int)(t2:Int)(r_:YN)(r_1:Bool)(s_:Int)(t28:YA)(t68:YP)(t120:YK):Option (ab×Bool):=hb k S44 78 [] [.r,.r,.r,.r,.r,.r,.r,.l,.r,.l] m ⟨[(2,vf [.ptr 2 0 0 []]),(4,vf [.ptr 4 0 0 []]),(5,vf [.ptr 5 0 0 []]),(28,vf [.vw 28 0]),(68,vf [.vw 68 0]),(102,.undef),(106,vf [.int .i64 t106]),(107,vf [.int .i64 t107]),(120,vf [.vw 120 0])],[(2,.box [.nilS,.nilS,.nilS,.nilS,.int .i64 t2]),(4,.box [.sl (.int .u8) r_,.bool r_1]),(5,.box [.vw 28 0,.vw 68 0,.nilS,.vw 120 0,.int .i64 s_]),(28,.row af t28 0 [] false),(68,.row ak t68 0 [] false),(120,.row aW t120 0 [] false)]⟩
def ck (k m:Nat)(t106:Int)(t107:Int)(t2:Int)(r_:YN)(r_1:Bool)(s_:Int)(t28:YA)(t102:YG)(t120:YK):Option (ab×Bool):=hb k S44 78 [] [.r,.r,.r,.r,.r,.r,.r,.l,.r,.l] m ⟨[(2,vf [.ptr 2 0 0 []]),(4,vf [.ptr 4 0 0 []]),(5,vf [.ptr 5 0 0 []]),(28,vf [.vw 28 0]),(68,.undef),(102,vf [.vw 102 0]),(106,vf [.int .i64 t106]),(107,vf [.int .i64 t107]),(120,vf [.vw 120 0])],[(2,.box [.nilS,.nilS,.nilS,.nilS,.int .i64 t2]),(4,.box [.sl (.int .u8) r_,.bool r_1]),(5,.box [.vw 28 0,.nilS,.vw 102 0,.vw 120 0,.int .i64 s_]),(28,.row af t28 0 [] false),(102,.row bn t102 0 [] false),(120,.row aW t120 0 [] false)]⟩
def cj (k m:Nat)(t106:Int)(t107:Int)(t2:Int)(r_:YN)(r_1:Bool)(s_:Int)(t28:YA)(t68:YP)(t102:YG)(t120:YK):Option (ab×Bool):=hb k S44 78 [] [.r,.r,.r,.r,.r,.r,.r,.l,.r,.l] m ⟨[(2,vf [.ptr 2 0 0 []]),(4,vf [.ptr 4 0 0 []]),(5,vf [.ptr 5 0 0 []]),(28,vf [.vw 28 0]),(68,vf [.vw 68 0]),(102,vf [.vw 102 0]),(106,vf [.int .i64 t106]),(107,vf [.int .i64 t107]),(120,vf [.vw 120 0])],[(2,.box [.nilS,.nilS,.nilS,.nilS,.int .i64 t2]),(4,.box [.sl (.int .u8) r_,.bool r_1]),(5,.box [.vw 28 0,.vw 68 0,.vw 102 0,.vw 120 0,.int .i64 s_]),(28,.row af t28 0 [] false),(68,.row ak t68 0 [] false),(102,.row bn t102 0 [] false),(120,.row aW t120 0 [] false)]⟩
theorem oL (k:Nat)(b_:YN):CF (k+1) S44 eU [inj qB b_]=(((CF k S51 aa [vf [.io ao (b_,false)],inj qI 0,inj qI 1073741824]).bind λ(r:Int×aw)=>((CF k S51 aa [vf [.io ao r.2],inj qI 0,inj qI 64]).bind λ(r_1:Int×aw)=>(fb k k r_1.1 0 0 r_1.2.1 r_1.2.2 r.1))):Option (ab×Bool)):=by kernel_rfl
theorem mh (k m:Nat)(t15:Int)(t16:Int)(t2:Int)(r_:YN)(r_1:Bool)(s_:Int):fb k (m+1) t15 t16 t2 r_ r_1 s_=(bif decide (t16<t15)then((CF k S51 aa [vf [.io ao (r_,r_1)],inj qI 0,inj qI 2]).bind λ(r:Int×aw)=>((CF k S51 aa [vf [.io ao r.2],inj qI (-1125899906842624:Int),inj qI 1125899906842624]).bind λ(r_2:Int×aw)=>((CF k S51 aa [vf [.io ao r_2.2],inj qI 0,inj qI 1125899906842624]).bind λ(r_3:Int×aw)=>(bif decide (([(r.1,r_2.1,r_3.1)].length*24)<=211106232532992)then(cE k m t15 (w64 (t16+1)) t2 r_3.2.1 r_3.2.2 s_ [(r.1,r_2.1,r_3.1)])else none))))else((CF k S51 aa [vf [.io ao (r_,r_1)],inj qI 0,inj qI 64]).bind λ(r:Int×aw)=>(mi k k r.1 0 t2 r.2.1 r.2.2 s_))):=by kernel_rfl
theorem fy (k m:Nat)(t15:Int)(t16:Int)(t2:Int)(r_:YN)(r_1:Bool)(s_:Int)(t28:YA):cE k (m+1) t15 t16 t2 r_ r_1 s_ t28=(bif decide (t16<t15)then((CF k S51 aa [vf [.io ao (r_,r_1)],inj qI 0,inj qI 2]).bind λ(r:Int×aw)=>((CF k S51 aa [vf [.io ao r.2],inj qI (-1125899906842624:Int),inj qI 1125899906842624]).bind λ(r_2:Int×aw)=>((CF k S51 aa [vf [.io ao r_2.2],inj qI 0,inj qI 1125899906842624]).bind λ(r_3:Int×aw)=>(bif decide (((t28.length+[(r.1,r_2.1,r_3.1)].length)*24)<=211106232532992)then(cE k m t15 (w64 (t16+1)) t2 r_3.2.1 r_3.2.2 s_ (t28++[(r.1,r_2.1,r_3.1)]))else none))))else((CF k S51 aa [vf [.io ao (r_,r_1)],inj qI 0,inj qI 64]).bind λ(r:Int×aw)=>(dK k k r.1 0 t2 r.2.1 r.2.2 s_ t28))):=by kernel_rfl
theorem fx (k m:Nat)(t32:Int)(t33:Int)(t2:Int)(r_:YN)(r_1:Bool)(s_:Int)(t28:YA)(e1:Int)(h_e1:e1=(w64 (t33+1))):dK k (m+1) t32 t33 t2 r_ r_1 s_ t28=(bif decide (t33<t32)then((CF k S51 aa [vf [.io ao (r_,r_1)],inj qI 0,inj qI 64]).bind λ(r:Int×aw)=>((CF k S51 aa [vf [.io ao r.2],inj qI 0,inj qI 64]).bind λ(r_2:Int×aw)=>((CF k S51 aa [vf [.io ao r_2.2],inj qI (-1152921504606846976:Int),inj qI 1152921504606846976]).bind λ(r_3:Int×aw)=>((CF k S51 aa [vf [.io ao r_3.2],inj qI (-1152921504606846976:Int),inj qI 1152921504606846976]).bind λ(r_4:Int×aw)=>((CF k S51 aa [vf [.io ao r_4.2],inj qI (-1152921504606846976:Int),inj qI 1152921504606846976]).bind λ(r_5:Int×aw)=>((CF k S51 aa [vf [.io ao r_5.2],inj qI (-1152921504606846976:Int),inj qI 1152921504606846976]).bind λ(r_6:Int×aw)=>((CF k S51 aa [vf [.io ao r_6.2],inj qI (-1152921504606846976:Int),inj qI 1152921504606846976]).bind λ(r_7:Int×aw)=>((CF k S51 aa [vf [.io ao r_7.2],inj qI 0,inj qI 1]).bind λ(r_8:Int×aw)=>(bif r_8.2.2 then(bif decide (([(r.1,r_2.1,r_3.1,r_4.1,r_5.1,r_6.1,r_7.1,r_8.1)].length*64)<=211106232532992)then(bG k m t32 e1 t2 r_8.2.1 true s_ t28 [(r.1,r_2.1,r_3.1,r_4.1,r_5.1,r_6.1,r_7.1,r_8.1)])else none)else((CF k Z0 dY [inj ak (r.1,r_2.1,r_3.1,r_4.1,r_5.1,r_6.1,r_7.1,r_8.1)]).bind λ(r_9:Bool)=>(bif decide (([(r.1,r_2.1,r_3.1,r_4.1,r_5.1,r_6.1,r_7.1,r_8.1)].length*64)<=211106232532992)then(bG k m t32 e1 t2 r_8.2.1 (!r_9) s_ t28 [(r.1,r_2.1,r_3.1,r_4.1,r_5.1,r_6.1,r_7.1,r_8.1)])else none)))))))))))else((CF k S51 aa [vf [.io ao (r_,r_1)],inj qI 0,inj qI 16]).bind λ(r:Int×aw)=>(dJ k k r.1 0 t2 r.2.1 r.2.2 s_ t28))):=by
 subst h_e1;kernel_rfl
theorem fw (k m:Nat)(t32:Int)(t33:Int)(t2:Int)(r_:YN)(r_1:Bool)(s_:Int)(t28:YA)(t68:YP)(e1:Int)(h_e1:e1=(w64 (t33+1))):bG k (m+1) t32 t33 t2 r_ r_1 s_ t28 t68=(bif decide (t33<t32)then((CF k S51 aa [vf [.io ao (r_,r_1)],inj qI 0,inj qI 64]).bind λ(r:Int×aw)=>((CF k S51 aa [vf [.io ao r.2],inj qI 0,inj qI 64]).bind λ(r_2:Int×aw)=>((CF k S51 aa [vf [.io ao r_2.2],inj qI (-1152921504606846976:Int),inj qI 1152921504606846976]).bind λ(r_3:Int×aw)=>((CF k S51 aa [vf [.io ao r_3.2],inj qI (-1152921504606846976:Int),inj qI 1152921504606846976]).bind λ(r_4:Int×aw)=>((CF k S51 aa [vf [.io ao r_4.2],inj qI (-1152921504606846976:Int),inj qI 1152921504606846976]).bind λ(r_5:Int×aw)=>((CF k S51 aa [vf [.io ao r_5.2],inj qI (-1152921504606846976:Int),inj qI 1152921504606846976]).bind λ(r_6:Int×aw)=>((CF k S51 aa [vf [.io ao r_6.2],inj qI (-1152921504606846976:Int),inj qI 1152921504606846976]).bind λ(r_7:Int×aw)=>((CF k S51 aa [vf [.io ao r_7.2],inj qI 0,inj qI 1]).bind λ(r_8:Int×aw)=>(bif r_8.2.2 then(bif decide (((t68.length+[(r.1,r_2.1,r_3.1,r_4.1,r_5.1,r_6.1,r_7.1,r_8.1)].length)*64)<=211106232532992)then(bG k m t32 e1 t2 r_8.2.1 true s_ t28 (t68++[(r.1,r_2.1,r_3.1,r_4.1,r_5.1,r_6.1,r_7.1,r_8.1)]))else none)else((CF k Z0 dY [inj ak (r.1,r_2.1,r_3.1,r_4.1,r_5.1,r_6.1,r_7.1,r_8.1)]).bind λ(r_9:Bool)=>(bif decide (((t68.length+[(r.1,r_2.1,r_3.1,r_4.1,r_5.1,r_6.1,r_7.1,r_8.1)].length)*64)<=211106232532992)then(bG k m t32 e1 t2 r_8.2.1 (!r_9) s_ t28 (t68++[(r.1,r_2.1,r_3.1,r_4.1,r_5.1,r_6.1,r_7.1,r_8.1)]))else none)))))))))))else((CF k S51 aa [vf [.io ao (r_,r_1)],inj qI 0,inj qI 16]).bind λ(r:Int×aw)=>(dv k k r.1 0 t2 r.2.1 r.2.2 s_ t28 t68))):=by
 subst h_e1;kernel_rfl
theorem fu (k m:Nat)(t72:Int)(t73:Int)(t2:Int)(r_:YN)(r_1:Bool)(s_:Int)(t28:YA)(e1:Int)(h_e1:e1=(w64 (t73+1))):dJ k (m+1) t72 t73 t2 r_ r_1 s_ t28=(bif decide (t73<t72)then((CF k S54 aC [vf [.io ao (r_,r_1)]]).bind λ(r:ae×aw)=>((CF k S51 aa [vf [.io ao r.2],inj qI 0,inj qI 2]).bind λ(r_2:Int×aw)=>((CF k S51 aa [vf [.io ao r_2.2],inj qI 0,inj qI 4]).bind λ(r_3:Int×aw)=>((CF k S51 aa [vf [.io ao r_3.2],inj qI 0,inj qI 1152921504606846976]).bind λ(r_4:Int×aw)=>((CF k S51 aa [vf [.io ao r_4.2],inj qI 0,inj qI 13]).bind λ(r_5:Int×aw)=>(bif r_5.2.2 then(bif decide (([(r.1,r_2.1,r_3.1,r_4.1,r_5.1)].length*88)<=211106232532992)then(bB k m t72 e1 t2 r_5.2.1 true s_ t28 [(r.1,r_2.1,r_3.1,r_4.1,r_5.1)])else none)else((CF k Z0 dP [inj bn (r.1,r_2.1,r_3.1,r_4.1,r_5.1)]).bind λ(r_6:Bool)=>(bif decide (([(r.1,r_2.1,r_3.1,r_4.1,r_5.1)].length*88)<=211106232532992)then(bB k m t72 e1 t2 r_5.2.1 (!r_6) s_ t28 [(r.1,r_2.1,r_3.1,r_4.1,r_5.1)])else none))))))))else((CF k S51 aa [vf [.io ao (r_,r_1)],inj qI 0,inj qI 256]).bind λ(r:Int×aw)=>(du k k r.1 0 t2 r.2.1 r.2.2 s_ t28))):=by
 subst h_e1;kernel_rfl
theorem eR (k m:Nat)(t72:Int)(t73:Int)(t2:Int)(r_:YN)(r_1:Bool)(s_:Int)(t28:YA)(t68:YP)(e1:Int)(h_e1:e1=(w64 (t73+1))):dv k (m+1) t72 t73 t2 r_ r_1 s_ t28 t68=(bif decide (t73<t72)then((CF k S54 aC [vf [.io ao (r_,r_1)]]).bind λ(r:ae×aw)=>((CF k S51 aa [vf [.io ao r.2],inj qI 0,inj qI 2]).bind λ(r_2:Int×aw)=>((CF k S51 aa [vf [.io ao r_2.2],inj qI 0,inj qI 4]).bind λ(r_3:Int×aw)=>((CF k S51 aa [vf [.io ao r_3.2],inj qI 0,inj qI 1152921504606846976]).bind λ(r_4:Int×aw)=>((CF k S51 aa [vf [.io ao r_4.2],inj qI 0,inj qI 13]).bind λ(r_5:Int×aw)=>(bif r_5.2.2 then(bif decide (([(r.1,r_2.1,r_3.1,r_4.1,r_5.1)].length*88)<=211106232532992)then(bA k m t72 e1 t2 r_5.2.1 true s_ t28 t68 [(r.1,r_2.1,r_3.1,r_4.1,r_5.1)])else none)else((CF k Z0 dP [inj bn (r.1,r_2.1,r_3.1,r_4.1,r_5.1)]).bind λ(r_6:Bool)=>(bif decide (([(r.1,r_2.1,r_3.1,r_4.1,r_5.1)].length*88)<=211106232532992)then(bA k m t72 e1 t2 r_5.2.1 (!r_6) s_ t28 t68 [(r.1,r_2.1,r_3.1,r_4.1,r_5.1)])else none))))))))else((CF k S51 aa [vf [.io ao (r_,r_1)],inj qI 0,inj qI 256]).bind λ(r:Int×aw)=>(dq k k r.1 0 t2 r.2.1 r.2.2 s_ t28 t68))):=by
 subst h_e1;kernel_rfl
theorem eQ (k m:Nat)(t72:Int)(t73:Int)(t2:Int)(r_:YN)(r_1:Bool)(s_:Int)(t28:YA)(t102:YG)(e1:Int)(h_e1:e1=(w64 (t73+1))):bB k (m+1) t72 t73 t2 r_ r_1 s_ t28 t102=(bif decide (t73<t72)then((CF k S54 aC [vf [.io ao (r_,r_1)]]).bind λ(r:ae×aw)=>((CF k S51 aa [vf [.io ao r.2],inj qI 0,inj qI 2]).bind λ(r_2:Int×aw)=>((CF k S51 aa [vf [.io ao r_2.2],inj qI 0,inj qI 4]).bind λ(r_3:Int×aw)=>((CF k S51 aa [vf [.io ao r_3.2],inj qI 0,inj qI 1152921504606846976]).bind λ(r_4:Int×aw)=>((CF k S51 aa [vf [.io ao r_4.2],inj qI 0,inj qI 13]).bind λ(r_5:Int×aw)=>(bif r_5.2.2 then(bif decide (((t102.length+[(r.1,r_2.1,r_3.1,r_4.1,r_5.1)].length)*88)<=211106232532992)then(bB k m t72 e1 t2 r_5.2.1 true s_ t28 (t102++[(r.1,r_2.1,r_3.1,r_4.1,r_5.1)]))else none)else((CF k Z0 dP [inj bn (r.1,r_2.1,r_3.1,r_4.1,r_5.1)]).bind λ(r_6:Bool)=>(bif decide (((t102.length+[(r.1,r_2.1,r_3.1,r_4.1,r_5.1)].length)*88)<=211106232532992)then(bB k m t72 e1 t2 r_5.2.1 (!r_6) s_ t28 (t102++[(r.1,r_2.1,r_3.1,r_4.1,r_5.1)]))else none))))))))else((CF k S51 aa [vf [.io ao (r_,r_1)],inj qI 0,inj qI 256]).bind λ(r:Int×aw)=>(dp k k r.1 0 t2 r.2.1 r.2.2 s_ t28 t102))):=by
 subst h_e1;kernel_rfl
theorem eP (k m:Nat)(t106:Int)(t107:Int)(t2:Int)(r_:YN)(r_1:Bool)(s_:Int)(t28:YA):du k (m+1) t106 t107 t2 r_ r_1 s_ t28=(bif decide (t107<t106)then((CF k S54 aC [vf [.io ao (r_,r_1)]]).bind λ(r:ae×aw)=>((CF k S58 aN [vf [.io ao r.2]]).bind λ(r_2:ah×aw)=>((CF k S51 aa [vf [.io ao r_2.2],inj qI 0,inj qI 1]).bind λ(r_3:Int×aw)=>(bif decide (([(r.1,r_2.1,decide (r_3.1=1))].length*80)<=211106232532992)then(cq k m t106 (w64 (t107+1)) t2 r_3.2.1 r_3.2.2 s_ t28 [(r.1,r_2.1,decide (r_3.1=1))])else none))))else(bif r_1 then some (([],[],[],[],0),false)else(bif decide (0<(r_.length:Int))then some (([],[],[],[],0),false)else((CF k Z0 bI [inj (.slice af) t28]).bind λ(r:Bool)=>(bif(!r)then some (([],[],[],[],0),false)else some ((t28,[],[],[],s_),true)))))):=by kernel_rfl
theorem eO (k m:Nat)(t72:Int)(t73:Int)(t2:Int)(r_:YN)(r_1:Bool)(s_:Int)(t28:YA)(t68:YP)(t102:YG)(e1:Int)(h_e1:e1=(w64 (t73+1))):bA k (m+1) t72 t73 t2 r_ r_1 s_ t28 t68 t102=(bif decide (t73<t72)then((CF k S54 aC [vf [.io ao (r_,r_1)]]).bind λ(r:ae×aw)=>((CF k S51 aa [vf [.io ao r.2],inj qI 0,inj qI 2]).bind λ(r_2:Int×aw)=>((CF k S51 aa [vf [.io ao r_2.2],inj qI 0,inj qI 4]).bind λ(r_3:Int×aw)=>((CF k S51 aa [vf [.io ao r_3.2],inj qI 0,inj qI 1152921504606846976]).bind λ(r_4:Int×aw)=>((CF k S51 aa [vf [.io ao r_4.2],inj qI 0,inj qI 13]).bind λ(r_5:Int×aw)=>(bif r_5.2.2 then(bif decide (((t102.length+[(r.1,r_2.1,r_3.1,r_4.1,r_5.1)].length)*88)<=211106232532992)then(bA k m t72 e1 t2 r_5.2.1 true s_ t28 t68 (t102++[(r.1,r_2.1,r_3.1,r_4.1,r_5.1)]))else none)else((CF k Z0 dP [inj bn (r.1,r_2.1,r_3.1,r_4.1,r_5.1)]).bind λ(r_6:Bool)=>(bif decide (((t102.length+[(r.1,r_2.1,r_3.1,r_4.1,r_5.1)].length)*88)<=211106232532992)then(bA k m t72 e1 t2 r_5.2.1 (!r_6) s_ t28 t68 (t102++[(r.1,r_2.1,r_3.1,r_4.1,r_5.1)]))else none))))))))else((CF k S51 aa [vf [.io ao (r_,r_1)],inj qI 0,inj qI 256]).bind λ(r:Int×aw)=>(dn k k r.1 0 t2 r.2.1 r.2.2 s_ t28 t68 t102))):=by
 subst h_e1;kernel_rfl
theorem eN (k m:Nat)(t106:Int)(t107:Int)(t2:Int)(r_:YN)(r_1:Bool)(s_:Int)(t28:YA)(t68:YP):dq k (m+1) t106 t107 t2 r_ r_1 s_ t28 t68=(bif decide (t107<t106)then((CF k S54 aC [vf [.io ao (r_,r_1)]]).bind λ(r:ae×aw)=>((CF k S58 aN [vf [.io ao r.2]]).bind λ(r_2:ah×aw)=>((CF k S51 aa [vf [.io ao r_2.2],inj qI 0,inj qI 1]).bind λ(r_3:Int×aw)=>(bif decide (([(r.1,r_2.1,decide (r_3.1=1))].length*80)<=211106232532992)then(cn k m t106 (w64 (t107+1)) t2 r_3.2.1 r_3.2.2 s_ t28 t68 [(r.1,r_2.1,decide (r_3.1=1))])else none))))else(bif r_1 then some (([],[],[],[],0),false)else(bif decide (0<(r_.length:Int))then some (([],[],[],[],0),false)else((CF k Z0 bI [inj (.slice af) t28]).bind λ(r:Bool)=>(bif(!r)then some (([],[],[],[],0),false)else some ((t28,t68,[],[],s_),true)))))):=by kernel_rfl
theorem eM (k m:Nat)(t106:Int)(t107:Int)(t2:Int)(r_:YN)(r_1:Bool)(s_:Int)(t28:YA)(t102:YG):dp k (m+1) t106 t107 t2 r_ r_1 s_ t28 t102=(bif decide (t107<t106)then((CF k S54 aC [vf [.io ao (r_,r_1)]]).bind λ(r:ae×aw)=>((CF k S58 aN [vf [.io ao r.2]]).bind λ(r_2:ah×aw)=>((CF k S51 aa [vf [.io ao r_2.2],inj qI 0,inj qI 1]).bind λ(r_3:Int×aw)=>(bif decide (([(r.1,r_2.1,decide (r_3.1=1))].length*80)<=211106232532992)then(ck k m t106 (w64 (t107+1)) t2 r_3.2.1 r_3.2.2 s_ t28 t102 [(r.1,r_2.1,decide (r_3.1=1))])else none))))else(bif r_1 then some (([],[],[],[],0),false)else(bif decide (0<(r_.length:Int))then some (([],[],[],[],0),false)else((CF k Z0 bI [inj (.slice af) t28]).bind λ(r:Bool)=>(bif(!r)then some (([],[],[],[],0),false)else some ((t28,[],t102,[],s_),true)))))):=by kernel_rfl
theorem eL (k m:Nat)(t106:Int)(t107:Int)(t2:Int)(r_:YN)(r_1:Bool)(s_:Int)(t28:YA)(t120:YK):cq k (m+1) t106 t107 t2 r_ r_1 s_ t28 t120=(bif decide (t107<t106)then((CF k S54 aC [vf [.io ao (r_,r_1)]]).bind λ(r:ae×aw)=>((CF k S58 aN [vf [.io ao r.2]]).bind λ(r_2:ah×aw)=>((CF k S51 aa [vf [.io ao r_2.2],inj qI 0,inj qI 1]).bind λ(r_3:Int×aw)=>(bif decide (((t120.length+[(r.1,r_2.1,decide (r_3.1=1))].length)*80)<=211106232532992)then(cq k m t106 (w64 (t107+1)) t2 r_3.2.1 r_3.2.2 s_ t28 (t120++[(r.1,r_2.1,decide (r_3.1=1))]))else none))))else(bif r_1 then some (([],[],[],[],0),false)else(bif decide (0<(r_.length:Int))then some (([],[],[],[],0),false)else((CF k Z0 bI [inj (.slice af) t28]).bind λ(r:Bool)=>(bif(!r)then some (([],[],[],[],0),false)else some ((t28,[],[],t120,s_),true)))))):=by kernel_rfl
theorem eK (k m:Nat)(t106:Int)(t107:Int)(t2:Int)(r_:YN)(r_1:Bool)(s_:Int)(t28:YA)(t68:YP)(t102:YG):dn k (m+1) t106 t107 t2 r_ r_1 s_ t28 t68 t102=(bif decide (t107<t106)then((CF k S54 aC [vf [.io ao (r_,r_1)]]).bind λ(r:ae×aw)=>((CF k S58 aN [vf [.io ao r.2]]).bind λ(r_2:ah×aw)=>((CF k S51 aa [vf [.io ao r_2.2],inj qI 0,inj qI 1]).bind λ(r_3:Int×aw)=>(bif decide (([(r.1,r_2.1,decide (r_3.1=1))].length*80)<=211106232532992)then(cj k m t106 (w64 (t107+1)) t2 r_3.2.1 r_3.2.2 s_ t28 t68 t102 [(r.1,r_2.1,decide (r_3.1=1))])else none))))else(bif r_1 then some (([],[],[],[],0),false)else(bif decide (0<(r_.length:Int))then some (([],[],[],[],0),false)else((CF k Z0 bI [inj (.slice af) t28]).bind λ(r:Bool)=>(bif(!r)then some (([],[],[],[],0),false)else some ((t28,t68,t102,[],s_),true)))))):=by kernel_rfl
theorem eJ (k m:Nat)(t106:Int)(t107:Int)(t2:Int)(r_:YN)(r_1:Bool)(s_:Int)(t28:YA)(t68:YP)(t120:YK):cn k (m+1) t106 t107 t2 r_ r_1 s_ t28 t68 t120=(bif decide (t107<t106)then((CF k S54 aC [vf [.io ao (r_,r_1)]]).bind λ(r:ae×aw)=>((CF k S58 aN [vf [.io ao r.2]]).bind λ(r_2:ah×aw)=>((CF k S51 aa [vf [.io ao r_2.2],inj qI 0,inj qI 1]).bind λ(r_3:Int×aw)=>(bif decide (((t120.length+[(r.1,r_2.1,decide (r_3.1=1))].length)*80)<=211106232532992)then(cn k m t106 (w64 (t107+1)) t2 r_3.2.1 r_3.2.2 s_ t28 t68 (t120++[(r.1,r_2.1,decide (r_3.1=1))]))else none))))else(bif r_1 then some (([],[],[],[],0),false)else(bif decide (0<(r_.length:Int))then some (([],[],[],[],0),false)else((CF k Z0 bI [inj (.slice af) t28]).bind λ(r:Bool)=>(bif(!r)then some (([],[],[],[],0),false)else some ((t28,t68,[],t120,s_),true)))))):=by kernel_rfl
theorem eI (k m:Nat)(t106:Int)(t107:Int)(t2:Int)(r_:YN)(r_1:Bool)(s_:Int)(t28:YA)(t102:YG)(t120:YK):ck k (m+1) t106 t107 t2 r_ r_1 s_ t28 t102 t120=(bif decide (t107<t106)then((CF k S54 aC [vf [.io ao (r_,r_1)]]).bind λ(r:ae×aw)=>((CF k S58 aN [vf [.io ao r.2]]).bind λ(r_2:ah×aw)=>((CF k S51 aa [vf [.io ao r_2.2],inj qI 0,inj qI 1]).bind λ(r_3:Int×aw)=>(bif decide (((t120.length+[(r.1,r_2.1,decide (r_3.1=1))].length)*80)<=211106232532992)then(ck k m t106 (w64 (t107+1)) t2 r_3.2.1 r_3.2.2 s_ t28 t102 (t120++[(r.1,r_2.1,decide (r_3.1=1))]))else none))))else(bif r_1 then some (([],[],[],[],0),false)else(bif decide (0<(r_.length:Int))then some (([],[],[],[],0),false)else((CF k Z0 bI [inj (.slice af) t28]).bind λ(r:Bool)=>(bif(!r)then some (([],[],[],[],0),false)else some ((t28,[],t102,t120,s_),true)))))):=by kernel_rfl
theorem eH (k m:Nat)(t106:Int)(t107:Int)(t2:Int)(r_:YN)(r_1:Bool)(s_:Int)(t28:YA)(t68:YP)(t102:YG)(t120:YK):cj k (m+1) t106 t107 t2 r_ r_1 s_ t28 t68 t102 t120=(bif decide (t107<t106)then((CF k S54 aC [vf [.io ao (r_,r_1)]]).bind λ(r:ae×aw)=>((CF k S58 aN [vf [.io ao r.2]]).bind λ(r_2:ah×aw)=>((CF k S51 aa [vf [.io ao r_2.2],inj qI 0,inj qI 1]).bind λ(r_3:Int×aw)=>(bif decide (((t120.length+[(r.1,r_2.1,decide (r_3.1=1))].length)*80)<=211106232532992)then(cj k m t106 (w64 (t107+1)) t2 r_3.2.1 r_3.2.2 s_ t28 t68 t102 (t120++[(r.1,r_2.1,decide (r_3.1=1))]))else none))))else(bif r_1 then some (([],[],[],[],0),false)else(bif decide (0<(r_.length:Int))then some (([],[],[],[],0),false)else((CF k Z0 bI [inj (.slice af) t28]).bind λ(r:Bool)=>(bif(!r)then some (([],[],[],[],0),false)else some ((t28,t68,t102,t120,s_),true)))))):=by kernel_rfl
def cX (k m:Nat)(room_:Int)(k_:Int)(all_:YN)(ua:YO)(ub:YO)(uc:YS)(ud:YE)(ue:YN)(uf:YI)(ug:YT)(uh:YE)(ui:YF)(uj:YN)(uk:YN)(ul:YL)(um:YO)(un:YT)(uo:YO)(up:YN)(uq:YB)(ur:YR)(us:YL)(ut:YB)(uu:YN):Option (R2):=hb k S2 6 cl0 [.r,.r,.r,.l,.r,.l] m ⟨[(1,vf [.int .u16 room_]),(5,vf [.vw 5 0]),(6,vf [.int .i64 k_])]++cu0,[(5,.row (.int .u8) all_ 0 [] false)]++cw0 ua ub uc ud ue uf ug uh ui uj uk ul um un uo up uq ur us ut uu⟩
def bF (k m:Nat)(t55:YK)(t56:Int)(t57:Int)(s_:YA)(s_1:YP)(s_2:YG)(s_3:YK)(s_4:Int)(has_:YN)(ua:YO)(ub:YO)(uc:YS)(ud:YE)(ue:YN)(uf:YI)(ug:YT)(uh:YE)(ui:YF)(uj:YN)(uk:YN)(ul:YL)(um:YO)(un:YT)(uo:YO)(up:YN)(uq:YB)(ur:YR)(us:YL)(ut:YB)(uu:YN):Option (R2):=hb k S2 6 cl0 [.r,.r,.r,.r,.r,.r,.r,.l,.r,.l] m ⟨[(8,vf [.ptr 8 0 0 []]),(9,vf [.vw 9 0]),(55,vf [.sl aW t55]),(56,vf [.int .i64 t56]),(57,vf [.int .i64 t57])]++cu0,[(8,.box [.sl af s_,.sl ak s_1,.sl bn s_2,.sl aW s_3,.int .i64 s_4]),(9,.row qI has_ 0 [] false)]++cw0 ua ub uc ud ue uf ug uh ui uj uk ul um un uo up uq ur us ut uu⟩
def eZ (k m1 m:Nat)(t55:YK)(t56:Int)(t57:Int)(s_:YA)(s_1:YP)(s_2:YG)(s_3:YK)(s_4:Int)(has_:YN)(r_:Int)(r_1:Int)(r_2:Int)(r_3:Int)(r_4:Int)(r_5:Int)(r_6:Int)(ua:YO)(ub:YO)(uc:YS)(ud:YE)(ue:YN)(uf:YI)(ug:YT)(uh:YE)(ui:YF)(uj:YN)(uk:YN)(ul:YL)(um:YO)(un:YT)(uo:YO)(up:YN)(uq:YB)(ur:YR)(us:YL)(ut:YB)(uu:YN):Option (R2):=hb k S2 6 cl0 [.r,.r,.r,.r,.r,.r,.r,.l,.r,.l,.lp m1,.r,.r,.l,.l,.r,.r,.r,.l] m ⟨[(8,vf [.ptr 8 0 0 []]),(9,vf [.vw 9 0]),(12,vf [.ptr 12 0 0 []]),(55,vf [.sl aW t55]),(56,vf [.int .i64 t56]),(57,vf [.int .i64 t57])]++cu0,[(8,.box [.sl af s_,.sl ak s_1,.sl bn s_2,.sl aW s_3,.int .i64 s_4]),(9,.row qI has_ 0 [] false),(12,.box [.int .i64 r_,.int .i64 r_1,.int .i64 r_2,.int .i64 r_3,.int .i64 r_4,.int .i64 r_5,.int .i64 r_6])]++cw0 ua ub uc ud ue uf ug uh ui uj uk ul um un uo up uq ur us ut uu⟩
def db (k m:Nat)(t176:YA)(t177:Int)(t178:Int)(has_:YN)(ua:YO)(ub:YO)(uc:YS)(ud:YE)(ue:YN)(uf:YI)(ug:YT)(uh:YE)(ui:YF)(uj:YN)(uk:YN)(ul:YL)(um:YO)(un:YT)(uo:YO)(up:YN)(uq:YB)(ur:YR)(us:YL)(ut:YB)(uu:YN):Option (R2):=hb k S2 6 cl0 [.r,.r,.r,.r,.r,.r,.r,.r,.l,.r,.l] m ⟨[(9,vf [.vw 9 0]),(176,vf [.sl af t176]),(177,vf [.int .i64 t177]),(178,vf [.int .i64 t178])]++cu0,[(9,.row qI has_ 0 [] false)]++cw0 ua ub uc ud ue uf ug uh ui uj uk ul um un uo up uq ur us ut uu⟩
def bS (k m1 m:Nat)(un:List (ah))(t55:YK)(t56:Int)(t57:Int)(s_:YA)(s_1:YP)(s_2:YG)(s_3:YK)(s_4:Int)(has_:YN)(ua:YO)(ub:YO)(uc:YS)(ud:YE)(ue:YN)(uf:YI)(ug:YT)(uh:YE)(ui:YF)(uj:YN)(uk:YN)(ul:YL)(um:YO)(es_1:YT)(uo:YO)(up:YN)(uq:YB)(ur:YR)(us:YL)(ut:YB)(uu:YN):Option (R2):=hb k S2 6 [1050240,1050241,1050242,1050243,1050244,1050245,1050246,1050251,1050432,1050433,1050434,1050435,1050496,1050497,1054912,1054913,1054914,1054915,1054916,1062592,1062593] [.r,.r,.r,.r,.r,.r,.r,.l,.r,.l,.lp m1,.r,.r,.l,.l,.r,.r,.r,.r,.r,.l] m ⟨[(8,vf [.ptr 8 0 0 []]),(9,vf [.vw 9 0]),(13,vf [.sl aK un]),(55,vf [.sl aW t55]),(56,vf [.int .i64 t56]),(57,vf [.int .i64 t57]),(1050240,.undef),(1050241,.undef),(1050242,.undef),(1050243,.undef),(1050244,.undef),(1050245,.undef),(1050246,.undef),(1050251,.undef),(1050432,.undef),(1050433,.undef),(1050434,.undef),(1050435,.undef),(1050496,.undef),(1050497,.undef),(1054912,.undef),(1054913,.undef),(1054914,.undef),(1054915,.undef),(1054916,.undef),(1062592,.undef),(1062593,.undef)],[(8,.box [.sl af s_,.sl ak s_1,.sl bn s_2,.sl aW s_3,.int .i64 s_4]),(9,.row qI has_ 0 [] false),(1050240,.col 26 0 .dat (.ref 29) ua 0 none),(1050241,.col 26 1 .dat (.ref 30) ub 0 none),(1050242,.col 26 2 .own (.slice pL) uc 0 none),(1050243,.col 26 3 .own (.slice aH) ud 0 none),(1050244,.col 26 4 .dat qI ue 0 none),(1050245,.col 26 5 .dat .err uf 0 none),(1050246,.col 26 6 .dat aD ug 0 none),(1050251,.col 26 11 .own (.slice aH) uh 0 none),(1050432,.col 29 0 .mp (.slice (.prod qI (.ref 219))) ui 0 none),(1050433,.col 29 1 .dat qI uj 0 none),(1050434,.col 29 2 .dat qI uk 0 none),(1050435,.col 29 3 .dat .bool ul 0 none),(1050496,.col 30 0 .dat (.ref 99) um 0 none),(1050497,.col 30 1 .dat aD es_1 0 none),(1054912,.col 99 0 .dat (.ref 29) uo 0 none),(1054913,.col 99 1 .dat qI up 0 none),(1054914,.col 99 2 .dat qB uq 0 none),(1054915,.col 99 3 .own (.slice qB) ur 0 none),(1054916,.col 99 4 .dat .bool us 0 none),(1062592,.col 219 0 .own qB ut 0 none),(1062593,.col 219 1 .dat qI uu 0 none)]⟩
def eW (k m1 m:Nat)(t55:YK)(t56:Int)(t57:Int)(s_:YA)(s_1:YP)(s_2:YG)(s_3:YK)(s_4:Int)(has_:YN)(un:List (ah))(ua:YO)(ub:YO)(uc:YS)(ud:YE)(ue:YN)(uf:YI)(ug:YT)(uh:YE)(ui:YF)(uj:YN)(uk:YN)(ul:YL)(um:YO)(es_1:YT)(uo:YO)(up:YN)(uq:YB)(ur:YR)(us:YL)(ut:YB)(uu:YN):Option (R2):=hb k S2 6 [1050240,1050241,1050242,1050243,1050244,1050245,1050246,1050251,1050432,1050433,1050434,1050435,1050496,1050497,1054912,1054913,1054914,1054915,1054916,1062592,1062593] [.r,.r,.r,.r,.r,.r,.r,.l,.r,.l,.lp m1,.r,.r,.l,.l,.r,.r,.r,.r,.r,.l] m ⟨[(8,vf [.ptr 8 0 0 []]),(9,vf [.vw 9 0]),(13,vf [.vw 13 0]),(55,vf [.sl aW t55]),(56,vf [.int .i64 t56]),(57,vf [.int .i64 t57]),(1050240,.undef),(1050241,.undef),(1050242,.undef),(1050243,.undef),(1050244,.undef),(1050245,.undef),(1050246,.undef),(1050251,.undef),(1050432,.undef),(1050433,.undef),(1050434,.undef),(1050435,.undef),(1050496,.undef),(1050497,.undef),(1054912,.undef),(1054913,.undef),(1054914,.undef),(1054915,.undef),(1054916,.undef),(1062592,.undef),(1062593,.undef)],[(8,.box [.sl af s_,.sl ak s_1,.sl bn s_2,.sl aW s_3,.int .i64 s_4]),(9,.row qI has_ 0 [] false),(13,.row aK un 0 [] false),(1050240,.col 26 0 .dat (.ref 29) ua 0 none),(1050241,.col 26 1 .dat (.ref 30) ub 0 none),(1050242,.col 26 2 .own (.slice pL) uc 0 none),(1050243,.col 26 3 .own (.slice aH) ud 0 none),(1050244,.col 26 4 .dat qI ue 0 none),(1050245,.col 26 5 .dat .err uf 0 none),(1050246,.col 26 6 .dat aD ug 0 none),(1050251,.col 26 11 .own (.slice aH) uh 0 none),(1050432,.col 29 0 .mp (.slice (.prod qI (.ref 219))) ui 0 none),(1050433,.col 29 1 .dat qI uj 0 none),(1050434,.col 29 2 .dat qI uk 0 none),(1050435,.col 29 3 .dat .bool ul 0 none),(1050496,.col 30 0 .dat (.ref 99) um 0 none),(1050497,.col 30 1 .dat aD es_1 0 none),(1054912,.col 99 0 .dat (.ref 29) uo 0 none),(1054913,.col 99 1 .dat qI up 0 none),(1054914,.col 99 2 .dat qB uq 0 none),(1054915,.col 99 3 .own (.slice qB) ur 0 none),(1054916,.col 99 4 .dat .bool us 0 none),(1062592,.col 219 0 .own qB ut 0 none),(1062593,.col 219 1 .dat qI uu 0 none)]⟩
def da (k m1 m:Nat)(t55:YK)(t56:Int)(t57:Int)(t158:List (ah))(t159:Int)(t160:Int)(s_:YA)(s_1:YP)(s_2:YG)(s_3:YK)(s_4:Int)(has_:YN)(ua:YO)(ub:YO)(uc:YS)(ud:YE)(ue:YN)(uf:YI)(ug:YT)(uh:YE)(ui:YF)(uj:YN)(uk:YN)(ul:YL)(um:YO)(un:YT)(uo:YO)(up:YN)(uq:YB)(ur:YR)(us:YL)(ut:YB)(uu:YN):Option (R2):=hb k S2 6 cl0 [.r,.r,.r,.r,.r,.r,.r,.l,.r,.l,.lp m1,.r,.r,.l,.l,.r,.r,.r,.r,.r,.r,.l] m ⟨[(8,vf [.ptr 8 0 0 []]),(9,vf [.vw 9 0]),(55,vf [.sl aW t55]),(56,vf [.int .i64 t56]),(57,vf [.int .i64 t57]),(158,vf [.sl aK t158]),(159,vf [.int .i64 t159]),(160,vf [.int .i64 t160])]++cu0,[(8,.box [.sl af s_,.sl ak s_1,.sl bn s_2,.sl aW s_3,.int .i64 s_4]),(9,.row qI has_ 0 [] false)]++cw0 ua ub uc ud ue uf ug uh ui uj uk ul um un uo up uq ur us ut uu⟩
def c9 (k m1 m:Nat)(t55:YK)(t56:Int)(t57:Int)(t159:Int)(t160:Int)(s_:YA)(s_1:YP)(s_2:YG)(s_3:YK)(s_4:Int)(has_:YN)(t158:List (ah))(ua:YO)(ub:YO)(uc:YS)(ud:YE)(ue:YN)(uf:YI)(ug:YT)(uh:YE)(ui:YF)(uj:YN)(uk:YN)(ul:YL)(um:YO)(un:YT)(uo:YO)(up:YN)(uq:YB)(ur:YR)(us:YL)(ut:YB)(uu:YN):Option (R2):=hb k S2 6 cl0 [.r,.r,.r,.r,.r,.r,.r,.l,.r,.l,.lp m1,.r,.r,.l,.l,.r,.r,.r,.r,.r,.r,.l] m ⟨[(8,vf [.ptr 8 0 0 []]),(9,vf [.vw 9 0]),(55,vf [.sl aW t55]),(56,vf [.int .i64 t56]),(57,vf [.int .i64 t57]),(158,vf [.vw 158 0]),(159,vf [.int .i64 t159]),(160,vf [.int .i64 t160])]++cu0,[(8,.box [.sl af s_,.sl ak s_1,.sl bn s_2,.sl aW s_3,.int .i64 s_4]),(9,.row qI has_ 0 [] false),(158,.row aK t158 0 [] false)]++cw0 ua ub uc ud ue uf ug uh ui uj uk ul um un uo up uq ur us ut uu⟩
def h_tw (k m:Nat)(w_:Option Nat)(ua:YO)(ub:YO)(uc:YS)(ud:YE)(ue:YN)(uf:YI)(ug:YT)(uh:YE)(ui:YF)(uj:YN)(uk:YN)(ul:YL)(um:YO)(un:YT)(uo:YO)(up:YN)(uq:YB)(ur:YR)(us:YL)(ut:YB)(uu:YN):Option (R2):=hb k S2 8 cl0 [.r,.r,.r,.l] m ⟨[(1,vf [.ref 26 w_])]++cu0,cw0 ua ub uc ud ue uf ug uh ui uj uk ul um un uo up uq ur us ut uu⟩
theorem sc (k:Nat)(b_:YN)(room_:Int)(ua:YO)(ub:YO)(uc:YS)(ud:YE)(ue:YN)(uf:YI)(ug:YT)(uh:YE)(ui:YF)(uj:YN)(uk:YN)(ul:YL)(um:YO)(un:YT)(uo:YO)(up:YN)(uq:YB)(ur:YR)(us:YL)(ut:YB)(uu:YN):CF (k+1) S2 ku [inj qB b_,inj (.int .u16) room_,Ca ua,Cb ub,Cc uc,Cd ud,Ce ue,Cf uf,Cg ug,Ch uh,Ci ui,Cj uj,Ck uk,Cl ul,Cm um,Cn un,Co uo,Cp up,Cq uq,Cr ur,Cs us,Ct ut,Cu uu]=(((CF k S2 n_tw [Ca ua,Cb ub,Cc uc,Cd ud,Ce ue,Cf uf,Cg ug,Ch uh,Ci ui,Cj uj,Ck uk,Cl ul,Cm um,Cn un,Co uo,Cp up,Cq uq,Cr ur,Cs us,Ct ut,Cu uu]).bind λ(r:R2)=>(bif(!r.1)then some (false,r.2)else((CF k S52 jB [inj qB b_]).bind λ(r_1:YN)=>(cX k k room_ 0 r_1 r.2.1 r.2.2.1 r.2.2.2.1 r.2.2.2.2.1 r.2.2.2.2.2.1 r.2.2.2.2.2.2.1 r.2.2.2.2.2.2.2.1 r.2.2.2.2.2.2.2.2.1 r.2.2.2.2.2.2.2.2.2.1 r.2.2.2.2.2.2.2.2.2.2.1 r.2.2.2.2.2.2.2.2.2.2.2.1 r.2.2.2.2.2.2.2.2.2.2.2.2.1 r.2.2.2.2.2.2.2.2.2.2.2.2.2.1 r.2.2.2.2.2.2.2.2.2.2.2.2.2.2.1 r.2.2.2.2.2.2.2.2.2.2.2.2.2.2.2.1 r.2.2.2.2.2.2.2.2.2.2.2.2.2.2.2.2.1 r.2.2.2.2.2.2.2.2.2.2.2.2.2.2.2.2.2.1 r.2.2.2.2.2.2.2.2.2.2.2.2.2.2.2.2.2.2.1 r.2.2.2.2.2.2.2.2.2.2.2.2.2.2.2.2.2.2.2.1 r.2.2.2.2.2.2.2.2.2.2.2.2.2.2.2.2.2.2.2.2.1 r.2.2.2.2.2.2.2.2.2.2.2.2.2.2.2.2.2.2.2.2.2)))):Option (R2)):=by kernel_rfl
theorem ja (k m:Nat)(room_:Int)(k_:Int)(all_:YN)(ua:YO)(ub:YO)(uc:YS)(ud:YE)(ue:YN)(uf:YI)(ug:YT)(uh:YE)(ui:YF)(uj:YN)(uk:YN)(ul:YL)(um:YO)(un:YT)(uo:YO)(up:YN)(uq:YB)(ur:YR)(us:YL)(ut:YB)(uu:YN)(e1:Int)(h_e1:e1=(w64 (k_+6)))(e2:Int)(h_e2:e2=(w64 (k_+1))):cX k (m+1) room_ k_ all_ ua ub uc ud ue uf ug uh ui uj uk ul um un uo up uq ur us ut uu=(bif decide (e1<=(all_.length:Int))then(bif(inb e2 all_.length)then(bif decide ((Int.tmod (List.getD all_ (Int.toNat e2) 0) 8)=7)then(bif(inb e2 all_.length)then(cX k m room_ e1 (List.set all_ (Int.toNat e2) 1) ua ub uc ud ue uf ug uh ui uj uk ul um un uo up uq ur us ut uu)else none)else(cX k m room_ e1 all_ ua ub uc ud ue uf ug uh ui uj uk ul um un uo up uq ur us ut uu))else none)else((CF k S1 n_wR [inj qB all_,inj qI (w64 room_),Ca ua,Cb ub,Cc uc,Cd ud,Ce ue,Cf uf,Cg ug,Ch uh,Ci ui,Cj uj,Ck uk,Cl ul,Cm um,Cn un,Co uo,Cp up,Cq uq,Cr ur,Cs us,Ct ut,Cu uu]).bind λ(r:R1)=>(bif r.1.isSome then((CF k S46 b5 [inj (.ref 30) (List.getD r.2.2.1 (r.1.getD 0) none),Cn r.2.2.2.2.2.2.2.2.2.2.2.2.2.2.1]).bind λ(r_1:ab×YT)=>((CF k Z4 l8 [inj aD r_1.1]).bind λ(r_2:ab)=>(bif((decide ((r_2.1.length:Int)=(r_2.1.length:Int))&&decide (0<=(r_2.1.length:Int)))&&decide (((r_2.1.length:Int)*8)<=140737488355328))then(bF k k r_2.2.2.2.1 (r_2.2.2.2.1.length:Int) 0 r_2.1 r_2.2.1 r_2.2.2.1 r_2.2.2.2.1 r_2.2.2.2.2 (List.replicate (Int.toNat (r_2.1.length:Int)) 0) r.2.1 r.2.2.1 r.2.2.2.1 r.2.2.2.2.1 r.2.2.2.2.2.1 r.2.2.2.2.2.2.1 r.2.2.2.2.2.2.2.1 r.2.2.2.2.2.2.2.2.1 r.2.2.2.2.2.2.2.2.2.1 r.2.2.2.2.2.2.2.2.2.2.1 r.2.2.2.2.2.2.2.2.2.2.2.1 r.2.2.2.2.2.2.2.2.2.2.2.2.1 r.2.2.2.2.2.2.2.2.2.2.2.2.2.1 r_1.2 r.2.2.2.2.2.2.2.2.2.2.2.2.2.2.2.1 r.2.2.2.2.2.2.2.2.2.2.2.2.2.2.2.2.1 r.2.2.2.2.2.2.2.2.2.2.2.2.2.2.2.2.2.1 r.2.2.2.2.2.2.2.2.2.2.2.2.2.2.2.2.2.2.1 r.2.2.2.2.2.2.2.2.2.2.2.2.2.2.2.2.2.2.2.1 r.2.2.2.2.2.2.2.2.2.2.2.2.2.2.2.2.2.2.2.2.1 r.2.2.2.2.2.2.2.2.2.2.2.2.2.2.2.2.2.2.2.2.2)else none)))else none))):=by
 subst h_e1 h_e2;kernel_rfl
theorem gJ (k m:Nat)(t55:YK)(t56:Int)(t57:Int)(s_:YA)(s_1:YP)(s_2:YG)(s_3:YK)(s_4:Int)(has_:YN)(ua:YO)(ub:YO)(uc:YS)(ud:YE)(ue:YN)(uf:YI)(ug:YT)(uh:YE)(ui:YF)(uj:YN)(uk:YN)(ul:YL)(um:YO)(un:YT)(uo:YO)(up:YN)(uq:YB)(ur:YR)(us:YL)(ut:YB)(uu:YN)(e1:Int)(h_e1:e1=(w64 (t57+1)))(e2:((Int×(Int×(Int×(Int×(Int×(Int×Int))))))×((Int×Int)×Bool)))(h_e2:e2=(List.getD t55 (Int.toNat t57) ((0,0,0,0,0,0,0),(0,0),false))):bF k (m+1) t55 t56 t57 s_ s_1 s_2 s_3 s_4 has_ ua ub uc ud ue uf ug uh ui uj uk ul um un uo up uq ur us ut uu=(bif decide (t57<t56)then(bif(inb t57 t55.length)then(bif(!e2.2.2)then(bF k m t55 t56 e1 s_ s_1 s_2 s_3 s_4 has_ ua ub uc ud ue uf ug uh ui uj uk ul um un uo up uq ur us ut uu)else(bif(!decide (e2.2.1.1=0))then(bF k m t55 t56 e1 s_ s_1 s_2 s_3 s_4 has_ ua ub uc ud ue uf ug uh ui uj uk ul um un uo up uq ur us ut uu)else(eZ k m k t55 t56 t57 s_ s_1 s_2 s_3 s_4 has_ e2.1.1 e2.1.2.1 e2.1.2.2.1 e2.1.2.2.2.1 e2.1.2.2.2.2.1 e2.1.2.2.2.2.2.1 e2.1.2.2.2.2.2.2 ua ub uc ud ue uf ug uh ui uj uk ul um un uo up uq ur us ut uu)))else none)else(db k k s_ (s_.length:Int) 0 has_ ua ub uc ud ue uf ug uh ui uj uk ul um un uo up uq ur us ut uu)):=by
 subst h_e1 h_e2;kernel_rfl
theorem mf (k m1 m:Nat)(t55:YK)(t56:Int)(t57:Int)(s_:YA)(s_1:YP)(s_2:YG)(s_3:YK)(s_4:Int)(has_:YN)(r_:Int)(r_1:Int)(r_2:Int)(r_3:Int)(r_4:Int)(r_5:Int)(r_6:Int)(ua:YO)(ub:YO)(uc:YS)(ud:YE)(ue:YN)(uf:YI)(ug:YT)(uh:YE)(ui:YF)(uj:YN)(uk:YN)(ul:YL)(um:YO)(un:YT)(uo:YO)(up:YN)(uq:YB)(ur:YR)(us:YL)(ut:YB)(uu:YN)(e1:(Int×(Int×(Int×(Int×(Int×(Int×(Int×Int))))))))(h_e1:e1=(List.getD s_1 (Int.toNat r_2) (0,0,0,0,0,0,0,0))):eZ k m1 (m+1) t55 t56 t57 s_ s_1 s_2 s_3 s_4 has_ r_ r_1 r_2 r_3 r_4 r_5 r_6 ua ub uc ud ue uf ug uh ui uj uk ul um un uo up uq ur us ut uu=(bif decide (r_1=1)then(bif(inb r_2 s_.length)then((CF k S60 cd [inj qI 0,inj qI (List.getD s_ (Int.toNat r_2) (0,0,0)).1]).bind λ(r:Int)=>((CF k S36 n_eV [inj (.slice af) s_,inj qI r,inj qI r_2,inj qI r_4]).bind λ(r_7:(List (ah))×(Option Int))=>(bS k m1 k r_7.1 t55 t56 t57 s_ s_1 s_2 s_3 s_4 has_ ua ub uc ud ue uf ug uh ui uj uk ul um un uo up uq ur us ut uu)))else none)else(bif decide (r_1=2)then((CF k S36 n_eV [inj (.slice af) s_,inj qI r_2,inj qI r_3,inj qI r_4]).bind λ(r:(List (ah))×(Option Int))=>(bS k m1 k r.1 t55 t56 t57 s_ s_1 s_2 s_3 s_4 has_ ua ub uc ud ue uf ug uh ui uj uk ul um un uo up uq ur us ut uu))else(bif decide (r_1=4)then(bif(inb r_2 s_1.length)then(bif(inb r_2 s_1.length)then((CF k S36 n_eV [inj (.slice af) s_,inj qI e1.1,inj qI e1.2.1,inj qI r_4]).bind λ(r:(List (ah))×(Option Int))=>(bS k m1 k r.1 t55 t56 t57 s_ s_1 s_2 s_3 s_4 has_ ua ub uc ud ue uf ug uh ui uj uk ul um un uo up uq ur us ut uu))else none)else none)else(bif decide (r_1=6)then(bif(inb r_2 s_1.length)then(bif(inb r_2 s_1.length)then((CF k S36 n_eV [inj (.slice af) s_,inj qI e1.1,inj qI e1.2.1,inj qI r_4]).bind λ(r:(List (ah))×(Option Int))=>((CF k S57 im [inj (.slice aK) r.1]).bind λ(r_7:(List (ah)))=>(eW k m1 k t55 t56 t57 s_ s_1 s_2 s_3 s_4 has_ r_7 ua ub uc ud ue uf ug uh ui uj uk ul um un uo up uq ur us ut uu)))else none)else none)else(bS k m1 k [] t55 t56 t57 s_ s_1 s_2 s_3 s_4 has_ ua ub uc ud ue uf ug uh ui uj uk ul um un uo up uq ur us ut uu))))):=by
 subst h_e1;kernel_rfl
theorem gI (k m:Nat)(t176:YA)(t177:Int)(t178:Int)(has_:YN)(ua:YO)(ub:YO)(uc:YS)(ud:YE)(ue:YN)(uf:YI)(ug:YT)(uh:YE)(ui:YF)(uj:YN)(uk:YN)(ul:YL)(um:YO)(un:YT)(uo:YO)(up:YN)(uq:YB)(ur:YR)(us:YL)(ut:YB)(uu:YN)(e1:Nat)(h_e1:e1=(Int.toNat t178)):db k (m+1) t176 t177 t178 has_ ua ub uc ud ue uf ug uh ui uj uk ul um un uo up uq ur us ut uu=(bif decide (t178<t177)then(bif(inb t178 t176.length)then(bif(inb t178 has_.length)then(bif(!decide ((List.getD t176 e1 (0,0,0)).2.1=(List.getD has_ e1 0)))then some (false,ua,ub,uc,ud,ue,uf,ug,uh,ui,uj,uk,ul,um,un,uo,up,uq,ur,us,ut,uu)else(db k m t176 t177 (w64 (t178+1)) has_ ua ub uc ud ue uf ug uh ui uj uk ul um un uo up uq ur us ut uu))else none)else none)else some (true,ua,ub,uc,ud,ue,uf,ug,uh,ui,uj,uk,ul,um,un,uo,up,uq,ur,us,ut,uu)):=by
 subst h_e1;kernel_rfl
theorem me (k m1 m:Nat)(un:List (ah))(t55:YK)(t56:Int)(t57:Int)(s_:YA)(s_1:YP)(s_2:YG)(s_3:YK)(s_4:Int)(has_:YN)(ua:YO)(ub:YO)(uc:YS)(ud:YE)(ue:YN)(uf:YI)(ug:YT)(uh:YE)(ui:YF)(uj:YN)(uk:YN)(ul:YL)(um:YO)(es_1:YT)(uo:YO)(up:YN)(uq:YB)(ur:YR)(us:YL)(ut:YB)(uu:YN):bS k m1 (m+1) un t55 t56 t57 s_ s_1 s_2 s_3 s_4 has_ ua ub uc ud ue uf ug uh ui uj uk ul um es_1 uo up uq ur us ut uu=(da k m1 k t55 t56 t57 un (un.length:Int) 0 s_ s_1 s_2 s_3 s_4 has_ ua ub uc ud ue uf ug uh ui uj uk ul um es_1 uo up uq ur us ut uu):=by kernel_rfl
theorem mc (k m1 m:Nat)(t55:YK)(t56:Int)(t57:Int)(s_:YA)(s_1:YP)(s_2:YG)(s_3:YK)(s_4:Int)(has_:YN)(un:List (ah))(ua:YO)(ub:YO)(uc:YS)(ud:YE)(ue:YN)(uf:YI)(ug:YT)(uh:YE)(ui:YF)(uj:YN)(uk:YN)(ul:YL)(um:YO)(es_1:YT)(uo:YO)(up:YN)(uq:YB)(ur:YR)(us:YL)(ut:YB)(uu:YN):eW k m1 (m+1) t55 t56 t57 s_ s_1 s_2 s_3 s_4 has_ un ua ub uc ud ue uf ug uh ui uj uk ul um es_1 uo up uq ur us ut uu=(c9 k m1 k t55 t56 t57 (un.length:Int) 0 s_ s_1 s_2 s_3 s_4 has_ un ua ub uc ud ue uf ug uh ui uj uk ul um es_1 uo up uq ur us ut uu):=by kernel_rfl
theorem gH (k m1 m:Nat)(t55:YK)(t56:Int)(t57:Int)(t158:List (ah))(t159:Int)(t160:Int)(s_:YA)(s_1:YP)(s_2:YG)(s_3:YK)(s_4:Int)(has_:YN)(ua:YO)(ub:YO)(uc:YS)(ud:YE)(ue:YN)(uf:YI)(ug:YT)(uh:YE)(ui:YF)(uj:YN)(uk:YN)(ul:YL)(um:YO)(un:YT)(uo:YO)(up:YN)(uq:YB)(ur:YR)(us:YL)(ut:YB)(uu:YN)(e1:(Int×Int))(h_e1:e1=(List.getD t158 (Int.toNat t160) (0,0)))(e2:Nat)(h_e2:e2=(Int.toNat e1.1)):da k m1 (m+1) t55 t56 t57 t158 t159 t160 s_ s_1 s_2 s_3 s_4 has_ ua ub uc ud ue uf ug uh ui uj uk ul um un uo up uq ur us ut uu=(bif decide (t160<t159)then(bif(inb t160 t158.length)then(bif(inb e1.1 has_.length)then(bif(inb e1.1 has_.length)then(da k m1 m t55 t56 t57 t158 t159 (w64 (t160+1)) s_ s_1 s_2 s_3 s_4 (List.set has_ e2 (w64 ((List.getD has_ e2 0)+e1.2))) ua ub uc ud ue uf ug uh ui uj uk ul um un uo up uq ur us ut uu)else none)else none)else none)else(bF k m1 t55 t56 (w64 (t57+1)) s_ s_1 s_2 s_3 s_4 has_ ua ub uc ud ue uf ug uh ui uj uk ul um un uo up uq ur us ut uu)):=by
 subst h_e1 h_e2;kernel_rfl
theorem gF (k m1 m:Nat)(t55:YK)(t56:Int)(t57:Int)(t159:Int)(t160:Int)(s_:YA)(s_1:YP)(s_2:YG)(s_3:YK)(s_4:Int)(has_:YN)(t158:List (ah))(ua:YO)(ub:YO)(uc:YS)(ud:YE)(ue:YN)(uf:YI)(ug:YT)(uh:YE)(ui:YF)(uj:YN)(uk:YN)(ul:YL)(um:YO)(un:YT)(uo:YO)(up:YN)(uq:YB)(ur:YR)(us:YL)(ut:YB)(uu:YN)(e1:(Int×Int))(h_e1:e1=(List.getD t158 (Int.toNat t160) (0,0)))(e2:Nat)(h_e2:e2=(Int.toNat e1.1)):c9 k m1 (m+1) t55 t56 t57 t159 t160 s_ s_1 s_2 s_3 s_4 has_ t158 ua ub uc ud ue uf ug uh ui uj uk ul um un uo up uq ur us ut uu=(bif decide (t160<t159)then(bif(inb t160 t158.length)then(bif(inb e1.1 has_.length)then(bif(inb e1.1 has_.length)then(c9 k m1 m t55 t56 t57 t159 (w64 (t160+1)) s_ s_1 s_2 s_3 s_4 (List.set has_ e2 (w64 ((List.getD has_ e2 0)+e1.2))) t158 ua ub uc ud ue uf ug uh ui uj uk ul um un uo up uq ur us ut uu)else none)else none)else none)else(bF k m1 t55 t56 (w64 (t57+1)) s_ s_1 s_2 s_3 s_4 has_ ua ub uc ud ue uf ug uh ui uj uk ul um un uo up uq ur us ut uu)):=by
 subst h_e1 h_e2;kernel_rfl
theorem f_tw (k:Nat)(ua:YO)(ub:YO)(uc:YS)(ud:YE)(ue:YN)(uf:YI)(ug:YT)(uh:YE)(ui:YF)(uj:YN)(uk:YN)(ul:YL)(um:YO)(un:YT)(uo:YO)(up:YN)(uq:YB)(ur:YR)(us:YL)(ut:YB)(uu:YN):CF (k+1) S2 n_tw [Ca ua,Cb ub,Cc uc,Cd ud,Ce ue,Cf uf,Cg ug,Ch uh,Ci ui,Cj uj,Ck uk,Cl ul,Cm um,Cn un,Co uo,Cp up,Cq uq,Cr ur,Cs us,Ct ut,Cu uu]=(((CF k S52 jB [inj qB [6,2,0,3,10,2,1,0,1,0,0,0,1,0,1,0,0,0,1,0,1,0,0,0]]).bind λ(r:YN)=>((CF k S1 n_wR [inj qB r,inj qI 262144,Ca ua,Cb ub,Cc uc,Cd ud,Ce ue,Cf uf,Cg ug,Ch uh,Ci ui,Cj uj,Ck uk,Cl ul,Cm um,Cn un,Co uo,Cp up,Cq uq,Cr ur,Cs us,Ct ut,Cu uu]).bind λ(r_1:R1)=>(bif(!r_1.1.isSome)then some (false,r_1.2)else(bif r_1.1.isSome then(bif(!(List.getD r_1.2.2.1 (r_1.1.getD 0) none).isSome)then some (false,r_1.2)else(h_tw k k r_1.1 r_1.2.1 r_1.2.2.1 r_1.2.2.2.1 r_1.2.2.2.2.1 r_1.2.2.2.2.2.1 r_1.2.2.2.2.2.2.1 r_1.2.2.2.2.2.2.2.1 r_1.2.2.2.2.2.2.2.2.1 r_1.2.2.2.2.2.2.2.2.2.1 r_1.2.2.2.2.2.2.2.2.2.2.1 r_1.2.2.2.2.2.2.2.2.2.2.2.1 r_1.2.2.2.2.2.2.2.2.2.2.2.2.1 r_1.2.2.2.2.2.2.2.2.2.2.2.2.2.1 r_1.2.2.2.2.2.2.2.2.2.2.2.2.2.2.1 r_1.2.2.2.2.2.2.2.2.2.2.2.2.2.2.2.1 r_1.2.2.2.2.2.2.2.2.2.2.2.2.2.2.2.2.1 r_1.2.2.2.2.2.2.2.2.2.2.2.2.2.2.2.2.2.1 r_1.2.2.2.2.2.2.2.2.2.2.2.2.2.2.2.2.2.2.1 r_1.2.2.2.2.2.2.2.2.2.2.2.2.2.2.2.2.2.2.2.1 r_1.2.2.2.2.2.2.2.2.2.2.2.2.2.2.2.2.2.2.2.2.1 r_1.2.2.2.2.2.2.2.2.2.2.2.2.2.2.2.2.2.2.2.2.2))else none)))):Option (R2)):=by kernel_rfl
theorem Mf (k m:Nat)(w_:Option Nat)(ua:YO)(ub:YO)(uc:YS)(ud:YE)(ue:YN)(uf:YI)(ug:YT)(uh:YE)(ui:YF)(uj:YN)(uk:YN)(ul:YL)(um:YO)(un:YT)(uo:YO)(up:YN)(uq:YB)(ur:YR)(us:YL)(ut:YB)(uu:YN):h_tw k (m+1) w_ ua ub uc ud ue uf ug uh ui uj uk ul um un uo up uq ur us ut uu=(bif w_.isSome then((CF k S46 b5 [inj (.ref 30) (List.getD ub (w_.getD 0) none),Cn un]).bind λ(r:ab×YT)=>(bif w_.isSome then(bif(!(List.getD uf (w_.getD 0) none).isSome)then(bif w_.isSome then(bif decide (((List.getD uc (w_.getD 0) []).length:Int)=13)then(bif decide ((r.1.1.length:Int)=15)then(bif(inb 9 r.1.1.length)then(bif decide ((List.getD r.1.1 9 (0,0,0)).2.1=1680)then(bif(inb 12 r.1.1.length)then(bif decide ((List.getD r.1.1 12 (0,0,0)).2.1=1822)then some (decide ((r.1.2.2.1.length:Int)=0),ua,ub,uc,ud,ue,uf,ug,uh,ui,uj,uk,ul,um,r.2,uo,up,uq,ur,us,ut,uu)else some (false,ua,ub,uc,ud,ue,uf,ug,uh,ui,uj,uk,ul,um,r.2,uo,up,uq,ur,us,ut,uu))else none)else some (false,ua,ub,uc,ud,ue,uf,ug,uh,ui,uj,uk,ul,um,r.2,uo,up,uq,ur,us,ut,uu))else none)else some (false,ua,ub,uc,ud,ue,uf,ug,uh,ui,uj,uk,ul,um,r.2,uo,up,uq,ur,us,ut,uu))else some (false,ua,ub,uc,ud,ue,uf,ug,uh,ui,uj,uk,ul,um,r.2,uo,up,uq,ur,us,ut,uu))else none)else some (false,ua,ub,uc,ud,ue,uf,ug,uh,ui,uj,uk,ul,um,r.2,uo,up,uq,ur,us,ut,uu))else none))else none):=by kernel_rfl
theorem AB (k:Nat)(b_:YN)(e1:Int)(h_e1:e1=(b_.length:Int))(e2:Int)(h_e2:e2=(minI e1 3000))(e3:(List Int))(h_e3:e3=(List.take (Int.toNat e2) b_)):CF (k+1) S52 jB [inj qB b_]=(((CF k S52 pc []).bind λ(r:YN)=>(bif(decide (0<=e2)&&decide (e2<=e1))then(bif decide (((r.length+e3.length)*1)<=211106232532992)then some (r++e3)else none)else none)):Option (YN)):=by
 subst h_e1 h_e2 h_e3;kernel_rfl

end
end Go.Eng.Top
namespace Go.Eng.Top
open Go.Eng
abbrev F6:Sig:=S56
abbrev ya:Sig:=S56
abbrev wh:Sig:=S56
abbrev F9:Sig:=S56
abbrev yc:Sig:=S56
abbrev F2:Sig:=S56
abbrev Ai:Sig:=S56
abbrev Aj:Sig:=S56
abbrev jf:Sig:=S39
abbrev pD:Sig:=S39
abbrev pE:Sig:=S39
abbrev s9:Sig:=S39
abbrev gh:Sig:=S46
abbrev g_wO:Sig:=S1
abbrev F1:Sig:=⟨[(false,aD)],[]⟩
abbrev Iy:Sig:=⟨[],[(.slice (.ref 29)),(.slice (.ref 30)),(.slice (.slice pL)),(.slice (.slice aH)),(.slice (.int .i64)),(.slice .err),(.slice aD),(.slice (.slice aH)),(.slice (.slice (.prod (.int .i64) (.ref 219)))),(.slice (.int .i64)),(.slice (.int .i64)),(.slice .bool),(.slice (.ref 99)),(.slice aD),(.slice (.ref 29)),(.slice (.int .i64)),(.slice (.slice (.int .u8))),(.slice (.slice (.slice (.int .u8)))),(.slice .bool),(.slice (.slice (.int .u8))),(.slice (.int .i64))]⟩
abbrev DH:Sig:=⟨[(false,aD)],[]⟩
abbrev F4:Sig:=S56
abbrev yb:Sig:=S59
abbrev F5:Sig:=S56
abbrev F7:Sig:=S25
abbrev x8:Sig:=⟨[(false,aK)],[]⟩
abbrev IB:Sig:=S56
abbrev tc:Sig:=S60
abbrev F8:Sig:=S31
abbrev tf:Sig:=S60
abbrev g_wR:Sig:=S1
abbrev g_sA:Sig:=S55
abbrev Ge:Sig:=S14
abbrev g_dO:Sig:=S6
abbrev Ix:Sig:=⟨[],[(.slice (.ref 30)),(.slice (.slice pL)),(.slice (.slice aH)),(.slice aD),(.slice (.slice aH)),(.slice (.slice (.prod (.int .i64) (.ref 219)))),(.slice (.int .i64)),(.slice (.int .i64)),(.slice .bool),(.slice (.ref 99)),(.slice aD),(.slice (.ref 29)),(.slice (.int .i64)),(.slice (.slice (.int .u8))),(.slice (.slice (.slice (.int .u8)))),(.slice .bool),(.slice (.slice (.int .u8))),(.slice (.int .i64))]⟩
abbrev kR:Sig:=S48
abbrev DD:Sig:=⟨[],[(.slice (.ref 29)),(.slice (.ref 30)),(.slice (.slice aH)),(.slice (.int .i64)),(.slice .err),(.slice aD),(.slice (.slice aH)),(.slice (.slice (.prod (.int .i64) (.ref 219)))),(.slice (.int .i64)),(.slice .bool),(.slice (.ref 99)),(.slice aD),(.slice (.ref 29)),(.slice (.int .i64)),(.slice (.slice (.int .u8))),(.slice (.slice (.slice (.int .u8)))),(.slice .bool),(.slice (.slice (.int .u8))),(.slice (.int .i64))]⟩
abbrev th:Sig:=S47
abbrev FZ:Sig:=S3
abbrev yh:Sig:=S5
abbrev IE:Sig:=⟨[],[(.slice (.int .i64))]⟩
abbrev ID:Sig:=S47
abbrev IA:Sig:=S40
abbrev g_rM:Sig:=⟨[(false,.bool)],[]⟩
abbrev sZ:Sig:=⟨[(false,.bool)],[]⟩
abbrev tg:Sig:=⟨[(false,.bool)],[]⟩
abbrev g_pD:Sig:=S41
abbrev yg:Sig:=S57
abbrev yd:Sig:=S52
abbrev xW:Sig:=⟨[(false,aH)],[]⟩
abbrev g_jO:Sig:=S8
abbrev Ga:Sig:=S34
abbrev Gc:Sig:=S28
abbrev ye:Sig:=S20
abbrev oG:Sig:=S43
abbrev Ap:Sig:=S40
abbrev g_cS:Sig:=S49
abbrev Gf:Sig:=S4
abbrev Gb:Sig:=S7
abbrev wb:Sig:=⟨[(false,.fn)],[]⟩
abbrev wg:Sig:=S45
abbrev xZ:Sig:=⟨[(false,bn)],[]⟩
abbrev xY:Sig:=⟨[(false,.bool)],[]⟩
abbrev DF:Sig:=⟨[(false,bn)],[]⟩
abbrev x9:Sig:=S45
abbrev Ag:Sig:=⟨[(false,bn)],[]⟩
abbrev DG:Sig:=S45
abbrev x5:Sig:=⟨[(false,.fn)],[]⟩
abbrev rX:Sig:=S15
abbrev Ao:Sig:=S21
abbrev F0:Sig:=S22
abbrev gQ:Sig:=S16
abbrev pn:Sig:=S26
abbrev kT:Sig:=S51
abbrev kc:Sig:=S54
abbrev lN:Sig:=S58
abbrev Aq:Sig:=S56
abbrev Gd:Sig:=S56
abbrev K4:Sig:=S52
abbrev rU:Sig:=S49
abbrev rT:Sig:=S49
abbrev yk:Sig:=S60
abbrev Am:Sig:=S48
abbrev wj:Sig:=S49
abbrev An:Sig:=S9
abbrev yf:Sig:=S32
abbrev IC:Sig:=S10
abbrev rW:Sig:=S16
abbrev nu:Sig:=S50
abbrev xX:Sig:=⟨[(false,bn)],[]⟩
abbrev v8:Sig:=⟨[(false,bn)],[]⟩
abbrev oE:Sig:=S30
abbrev sY:Sig:=S23
abbrev ml:Sig:=S24
abbrev wi:Sig:=S60
abbrev CH:Sig:=S56
abbrev gR:Sig:=S11
abbrev yj:Sig:=S13
abbrev Iz:Sig:=S19
abbrev Ar:Sig:=⟨[(false,aD)],[]⟩
abbrev Ah:Sig:=S60
abbrev oF:Sig:=S44
abbrev kQ:Sig:=S2
abbrev g_tw:Sig:=S2
abbrev Ak:Sig:=S52
abbrev yi:Sig:=S17
abbrev uL:Sig:=S18
abbrev rV:Sig:=S47
abbrev kS:Sig:=⟨[],[(.slice (.slice (.prod (.int .i64) (.ref 219)))),(.slice (.int .i64)),(.slice .bool),(.slice (.slice (.int .u8))),(.slice (.int .i64))]⟩
abbrev CI:Sig:=S13
end Go.Eng.Top
namespace Go.Eng.Top
open Go.RowKit Go.Eng
set_option maxRecDepth 100000
abbrev sBo:Sig:=⟨[(false,.bool)],[]⟩
abbrev sIn:Sig:=⟨[(false,.int .i64)],[]⟩
abbrev I:K:=.int .i64
abbrev sCv:Sig:=⟨[(false,.int .i64),(false,.int .i64),(false,.err)],[]⟩
abbrev sAd:Sig:=⟨[(false,.int .i64),(false,.err)],[]⟩
theorem lh (k:Nat)(n:Int):CF (k+1) sBo aV [inj I n]=some (decide (1<=n/\n<=1099511627776)):=by
 refine(tu k n).trans ?_;by_cases h:1<=n
 ·rw[NK h,NH];exact congrArg some (Pq.2 (by omega))
 ·rw[NF h,NS,NF (by omega)]
abbrev okM (n:Int):Prop:=-1125899906842624<=n/\n<=1125899906842624
theorem vN (k:Nat)(n:Int):CF (k+1) sBo dG [inj I n]=some (decide (okM n)):=by
 refine(Az k n).trans ?_;by_cases h:-1125899906842624<=n
 ·rw[NK h,NH];exact congrArg some (Pq.2 (by unfold okM;omega))
 ·rw[NF h,NS,NF (by unfold okM;omega)]
def addV (a b:Int):Int×Option Int:=if okM a/\okM b/\okM (a+b)then(a+b,none)else(0,some 4)
theorem MT (k:Nat)(a b:Int):CF (k+2) sAd gv [inj I a,inj I b]=some (addV a b):=by
 refine(AA (k+1) a b).trans ?_;unfold addV;refine G9 (vN k a) ?_;by_cases h1:okM a
 ·rw[NK h1];refine G9 (vN k b) ?_;by_cases h2:okM b
  ·rw[NK h2];have hw:w64 (a+b)=a+b:=aL (by unfold okM at h1 h2;omega);show((CF (k+1) sBo dG [inj I (w64 (a+b))]).bind _:Option (Int×Option Int))=_;rw[hw];refine G9 (vN k (a+b)) ?_;by_cases h3:okM (a+b)
   ·rw[NK h3,NI ⟨h1,h2,h3⟩];rfl
   ·rw[NF h3,ND (λh=>h3 h.2.2)];rfl
  ·rw[NF h2,ND (λh=>h2 h.2.1)];rfl
 ·rw[NF h1,ND (λh=>h1 h.1)];rfl
theorem JQ (a b:Int):Ev1 (λk=>CF k sAd gv [inj I a,inj I b]) (addV a b):=Ev1.of_rfl 2 (λk=>MT k a b)
abbrev okR (num den:Int):Prop:=1<=num/\num<=1024/\1<=den/\den<=1024
theorem HL (k:Nat)(num den:Int):CF (k+1) sBo dZ [inj (.strct (.prod (.int .i64) (.int .i64))) (num,den)]=some (decide (okR num den)):=by
 refine(nw k (num,den)).trans ?_;simp only[G3];refine HD ?_;simp only[I4,N0,PL,Od,and_false,ON]
def AW (n num den:Int):Int×Int×Option Int:=
 if(1<=n/\n<=1099511627776)/\okR num den then(if 1099511627776<n*num/den then(0,0,some 4)else(n*num/den,n*num%den,none))else(0,0,some 13)
theorem D5 (k:Nat)(n num den:Int):CF (k+2) sCv ed [inj I n,inj (.strct (.prod (.int .i64) (.int .i64))) (num,den)]=some (AW n num den):=by
 refine(sk (k+1) n (num,den) _ rfl _ rfl).trans (G9 (lh k n) ?_);unfold AW;by_cases h1:1<=n/\n<=1099511627776
 ·rw[NK h1];refine G9 (HL k num den) ?_;by_cases h2:okR num den
  ·rw[NK h2,NI ⟨h1,h2⟩];obtain⟨r1,r2,r3,r4⟩:=h2;have hp0:0<=n*num:=Int.mul_nonneg (by omega) (by omega);have hp1:n*num<=1099511627776*1024:=Int.mul_le_mul h1.2 r2 (by omega) (by omega);have hq0:0<=n*num/den:=QR hp0 (by omega);have hq1:n*num/den<=n*num:=Int.ediv_le_self _ hp0;have e1:w64 (n*num)=n*num:=aL (by omega);dsimp only;rw[e1,PX hp0,PE hp0,aL (x:=n*num/den) (by omega),NF (show ¬ den=0 by omega)];by_cases h3:1099511627776<n*num/den
   ·rw[NK h3,NI h3];rfl
   ·rw[NF h3,ND h3];rfl
  ·rw[NF h2,ND (λh=>h2 h.2)];rfl
 ·rw[NF h1,ND (λh=>h1 h.1)];rfl
theorem D4 (n num den:Int):Ev1 (λk=>CF k sCv ed [inj I n,inj (.strct (.prod (.int .i64) (.int .i64))) (num,den)]) (AW n num den):=Ev1.of_rfl 2 (λk=>D5 k n num den)
theorem AU (n p q:Int)(h:okR p q):(AW n p q=(0,0,some 13)/\¬ (1<=n/\n<=1099511627776))\/(AW n p q=(0,0,some 4)/\(1<=n/\n<=1099511627776)/\1099511627776<n*p/q) \/
  (AW n p q=(n*p/q,n*p%q,none)/\(1<=n/\n<=1099511627776)/\n*p/q<=1099511627776/\0<=n*p/q):=by
 unfold AW;by_cases hn:1<=n/\n<=1099511627776
 ·rw[NI ⟨hn,h⟩];by_cases ho:1099511627776<n*p/q
  ·rw[NI ho];exact .inr (.inl ⟨rfl,hn,ho⟩)
  ·rw[ND ho];exact .inr (.inr ⟨rfl,hn,by omega,QR (Int.mul_nonneg (by omega) (by unfold okR at h;omega)) (by unfold okR at h;omega)⟩)
 ·rw[ND (λq=>hn q.1)];exact .inl ⟨rfl,hn⟩
end Go.Eng.Top
namespace Go.Eng.LVar
open Go.RowKit Go.Eng
theorem zd (x:Int):IntKind.u64.wrap x=x%18446744073709551616:=by simp[IntKind.wrap,IntKind.bits,IntKind.signed]
theorem Jg (x:Int):IntKind.u8.wrap x=x%256:=by simp[IntKind.wrap,IntKind.bits,IntKind.signed]
theorem uY (x:Int):IntKind.i64.wrap x=(x+9223372036854775808)%18446744073709551616-9223372036854775808:=by
 simp[IntKind.wrap,IntKind.bits,IntKind.signed];split<;>omega
theorem Ds (a b i:Nat)(ha:a<2^i):a ||| (b*2^i)=a+b*2^i:=by
 rw[Nat.or_comm,Rf b,<- PV ha b,Q9]
theorem dX (a:Nat)(h:a<18446744073709551616):(BitVec.ofInt 64 (a:Int)).toNat=a:=by
 rw[Ps];omega
theorem or64 (a b i:Nat)(ha:a<2^i)(h:a+b*2^i<18446744073709551616):b7 .u64 .or (a:Int) ((b*2^i:Nat):Int)=((a+b*2^i:Nat):Int):=by
 show IntKind.u64.wrap ((BitVec.ofInt 64 (a:Int) ||| BitVec.ofInt 64 ((b*2^i:Nat):Int)).toNat:Int)=_;rw[Qn,dX a (by omega),dX _ (by omega),Ds a b i ha,zd];omega
theorem o9 (a:Nat)(h:a<256):(BitVec.ofInt 8 (a:Int)).toNat=a:=by
 rw[Ps];omega
theorem or8 (a:Nat)(h:a<256):b7 .u8 .or (a:Int) 128=((a%128+128:Nat):Int):=by
 show IntKind.u8.wrap ((BitVec.ofInt 8 (a:Int) ||| BitVec.ofInt 8 128).toNat:Int)=_;rw[Qn,o9 a h,show(BitVec.ofInt 8 128).toNat=128 from rfl,Jg];have key:∀q:Fin 256,q.val ||| 128=q.val%128+128:=by decide +kernel
 have:=key ⟨a,h⟩;simp only at this;rw[this];omega
theorem and8 (a:Nat)(h:a<256):b7 .u8 .and (a:Int) 127=((a%128:Nat):Int):=by
 show IntKind.u8.wrap ((BitVec.ofInt 8 (a:Int) &&& BitVec.ofInt 8 127).toNat:Int)=_;rw[QK,o9 a h,show(BitVec.ofInt 8 127).toNat=2^7-1 from rfl,Nat.and_two_pow_sub_one_eq_mod,Jg];omega
theorem Lq (a:Nat)(h:a<18446744073709551616):b7 .u64 .and (a:Int) 1=((a%2:Nat):Int):=by
 show IntKind.u64.wrap ((BitVec.ofInt 64 (a:Int) &&& BitVec.ofInt 64 1).toNat:Int)=_;rw[QK,dX a h,show(BitVec.ofInt 64 1).toNat=1 from rfl,Rg,zd];omega
theorem M9 (a:Nat)(h:a<18446744073709551616):b7 .u64 .xor 18446744073709551615 (a:Int)=((18446744073709551615-a:Nat):Int):=by
 show IntKind.u64.wrap ((BitVec.ofInt 64 18446744073709551615 ^^^ BitVec.ofInt 64 (a:Int)).toNat:Int)=_;have e:BitVec.ofInt 64 18446744073709551615=BitVec.allOnes 64:=by decide
 rw[e,Qz,BitVec.toNat_not,dX a h,zd];omega
theorem L7 (a : Nat) (h : a < 9223372036854775808) : b7 .i64 .xor (-1) (a : Int) = -1 - (a : Int) := by
  show IntKind.i64.wrap ((BitVec.ofInt 64 (-1) ^^^ BitVec.ofInt 64 (a : Int)).toNat : Int) = _
  have e : BitVec.ofInt 64 (-1) = BitVec.allOnes 64 := by decide
  rw [e, Qz, BitVec.toNat_not, dX a (by omega), uY]
  omega
def zig (n:Int):Nat:=if n<0 then(-2*n-1).toNat else(2*n).toNat
def zi (u:Nat):Int:=if u%2=1 then -1-((u/2:Nat):Int)else((u/2:Nat):Int)
theorem qk (n:Int):zi (zig n)=n:=by unfold zi zig;split<;>split<;>omega
theorem tH {n:Int}(h:-9223372036854775808<=n/\n<=9223372036854775807):zig n<18446744073709551616:=by unfold zig;split<;>omega
def enc (u:Nat):List Int:=if h:128<=u then((u%128+128:Nat):Int)::enc (u/128)else[(u:Int)]
termination_by u
theorem oM {u:Nat}(h:128<=u):enc u=((u%128+128:Nat):Int)::enc (u/128):=by rw[enc];simp[h]
theorem gU {u:Nat}(h:u<128):enc u=[(u:Int)]:=by rw[enc];simp;omega
theorem Lc (u:Nat):Byt (enc u):=by
 induction u using Nat.strongRecOn with
 |_ u ih=>
  by_cases h:128<=u
  ·rw[oM h];exact Byt.cons (by omega) (ih _ (by omega))
  ·rw[gU (by omega)];exact Byt.cons (by omega) Byt.nil
theorem yP (u:Nat):enc u≠[]:=by
 by_cases h:128<=u
 ·rw[oM h];simp
 ·rw[gU (by omega)];simp
theorem AP:∀(d u:Nat),u<128^(d+1)->(enc u).length<=d+1
 |0,u,h=>by rw[gU (by simpa using h)];simp
 |d+1,u,h=>by
  by_cases hu:128<=u
  ·rw[oM hu];have:=AP d (u/128) (by rw[Nat.pow_succ]at h;exact Nat.div_lt_of_lt_mul (by rw[Rf];exact h));simp;omega
  ·rw[gU (by omega)];simp
theorem nz {u : Nat} (h : u < 18446744073709551616) : 1 ≤ (enc u).length ∧ (enc u).length ≤ 10 := by
  refine ⟨?_, AP 9 u (by have : (128 : Nat) ^ (9 + 1) = 1180591620717411303424 := (by decide); omega)⟩
  have := yP u
  have := Py.2 this
  omega
def encs:List Int->List Int
 |[]=>[]
 |n::ns=>enc (zig n)++encs ns
theorem ny:∀ns,Byt (encs ns)
 |[]=>Byt.nil
 |n::ns=>Byt.append (Lc _) (ny ns)
theorem aG:∀{ns:List Int},I64 ns->(encs ns).length<=10*ns.length
 |[],_=>by simp[encs]
 |n::ns,h=>by
  have h1:=nz (tH (h n (by simp)));have h2:=aG (ns:=ns) (λx hx=>h x (by simp[hx]));simp only[encs,Ny,NC];omega
def scan:(i:Nat)->(p:Nat)->List Int->(u:Nat)->Option (Nat×List Int)
 |_,_,[],_=>none
 |i,p,c::r,u=>if i=9/\1<c then none else if 128<=c then scan (i+1) (128*p) r (u+(c.toNat-128)*p)else if 0<i/\c=0 then none else some (u+c.toNat*p,r)
def get (b:List Int):Option (Nat×List Int):=scan 0 1 b 0
def told (b:List Int):Int×List Int×Bool:=match get b with
 |none=>(0,[],false)
 |some (u,r)=>(zi u,r,true)
theorem LU (i:Nat)(h:i<=8):2^(7*i)<=72057594037927936:=Oa (Nat.pow_le_pow_right (by omega) (show 7*i<=56 by omega)) (by decide)
theorem pow9:2^(7*9)=9223372036854775808:=by decide
theorem mJ (i:Nat):2^(7*(i+1))=128*2^(7*i):=by rw[show 7*(i+1)=7*i+7 by omega,Nat.pow_add];omega
theorem Fo {c p:Nat}(h:c<128)(hp:0<p):c*p+p<=128*p:=by
 have:=Of p (show c+1<=128 by omega);rw[Og,Nat.one_mul]at this;exact this
theorem vi (d:Nat):∀(w i p u:Nat)(r:List Int),w<d->i<=9->p=2^(7*i)->(i=0\/0<w)->u+w*p<18446744073709551616->scan i p (enc w++r) u=some (u+w*p,r):=by
 induction d with
 |zero=>intro w i p u r h;omega
 |succ d ih=>
  intro w i p u r hd hi hp hw hlt;have h9:i=9->w<=1:=by
   rintro rfl;rcases Oy w 2 with q|q
   ·omega
   ·have:2*p<=w*p:=Of _ q;rw[hp,pow9]at this hlt;omega
  by_cases hb:128<=w
  ·rw[oM hb];simp only[N4,scan];rw[ND (by rintro⟨q,_⟩;have:=h9 q;omega),NI (by omega),NQ];have e:w%128+128-128=w%128:=by omega
   have e2:u+w*p=u+w%128*p+w/128*(128*p):=by
    have:w*p=(w%128+128*(w/128))*p:=by rw[Nat.mod_add_div]
    rw[this,Og,QC 128,Nat.mul_left_comm 128];omega
   rw[e,e2];have hi8:i<=8:=by
    rcases Oy i 9 with q|q
    ·omega
    ·have:=h9 (by omega);omega
   exact ih (w/128) (i+1) (128*p) _ r (by omega) (by omega) (by rw[mJ,hp]) (Or.inr (by omega)) (by omega)
  ·rw[gU (by omega)];simp only[N4,OJ,scan];rw[ND (by rintro⟨q,q2⟩;have:=h9 q;omega),ND (by omega),ND (by omega),NQ]
theorem FX (u:Nat)(r:List Int)(h:u<18446744073709551616):get (enc u++r)=some (u,r):=by
 have:=vi (u+1) u 0 1 0 r (by omega) (by omega) (by simp) (Or.inl rfl) (by omega);simpa[get]using this
theorem DV {u v:Nat}{r s:List Int}(hu:u<18446744073709551616)(hv:v<18446744073709551616)(h:enc u++r=enc v++s):u=v/\r=s:=by
 have h1:=FX u r hu;rw[h,FX v s hv]at h1;simp only[Nz,Ov]at h1;exact⟨h1.1.symm,h1.2.symm⟩
theorem aJ:∀(a b:List Int),encs (a++b)=encs a++encs b
 |[],b=>rfl
 |x::a,b=>by simp only[N4,encs,aJ a b,N7]
end Go.Eng.LVar
namespace Go.Eng.LChart
open Go.Eng
abbrev Acc:Type:=Int×Int×Int
def OkAt (k:Nat)(a:Acc):Prop:=0<=a.1/\a.1<=2/\-1125899906842624<=a.2.1/\a.2.1<=1125899906842624/\(k<9->a.2.2=0/\a.1=((k/3:Nat):Int))/\(9<=k->0<=a.2.2/\a.2.2<=a.2.1)
instance (k:Nat)(a:Acc):Decidable (OkAt k a):=by unfold OkAt;infer_instance
def BL:Nat->List Acc->Bool
 |_,[]=>true
 |i,a::r=>decide (OkAt i a)&&BL (i+1) r
theorem tY:∀(l:List Acc)(i:Nat),BL i l=true ↔ ∀(k:Nat)(h:k<l.length),OkAt (i+k) l[k]
 |[],i=>by simp[BL]
 |a::r,i=>by
  simp only[BL,NM,N0,tY r (i+1)];constructor
  ·rintro⟨h0,h⟩ k hk;rcases k with _|k
   ·exact h0
   ·have:=h k (by simpa using hk);rw[show i+(k+1)=i+1+k by omega];exact this
  ·intro h;refine⟨h 0 (by simp),λk hk=>?_⟩;have:=h (k+1) (by simpa using hk);rw[show i+1+k=i+(k+1) by omega];exact this
def cur (c:Int)(a:Acc):Int:=if a.1=c then a.2.1 else 0
def sums (c:Int)(ac:List Acc):Int:=(ac.map (cur c)).sum
theorem zm (c:Int)(a b:List Acc):sums c (a++b)=sums c a+sums c b:=by unfold sums;simp
theorem vc (c:Int):∀(l:List Acc)(k:Nat)(x:Acc)(h:k<l.length),sums c (l.set k x)=sums c l-cur c l[k]+cur c x
 |[],k,x,h=>by simp at h
 |a::l,0,x,h=>by simp[sums];omega
 |a::l,k+1,x,h=>by
  have:=vc c l k x (by simpa using h);simp only[sums,List.set_cons_succ,NV,QE,List.getElem_cons_succ]at this ⊢;omega
end Go.Eng.LChart
namespace Go.Eng.LEnt
open Go.Eng Go.Eng.LChart
abbrev En:Type:=Int×Int
abbrev okM (n:Int):Prop:=-1125899906842624<=n/\n<=1125899906842624
def acAt (ac:List Acc)(i:Int):Acc:=ac.getD (Int.toNat i) (0,0,0)
theorem eD (ac:List Acc)(i:Nat)(h:i<ac.length):acAt ac (i:Int)=ac[i]:=by
 unfold acAt;rw[NQ];exact bc _ _ _ h
abbrev inA (ac:List Acc)(i:Int):Prop:=0<=i/\i<(ac.length:Int)
abbrev S3:Type:=Int×Int×Int
def putS (c v:Int)(s:S3):S3:=(bif decide (c=0)then v else s.1,bif decide (c=1)then v else s.2.1,bif decide (c=2)then v else s.2.2)
def getS (c:Int)(s:S3):Int:=cH c [s.1,s.2.1,s.2.2]
def balF (ac:List Acc):List En->S3->Bool
 |[],s=>decide (s.1=0)&&(decide (s.2.1=0)&&(decide (s.2.2=0)&&true))
 |e::r,s=>if inA ac e.1/\okM e.2 then
   (if okM (getS (acAt ac e.1).1 s)/\okM e.2/\okM (getS (acAt ac e.1).1 s+e.2)then balF ac r (putS (acAt ac e.1).1 (getS (acAt ac e.1).1 s+e.2) s)else false)else false
def ecur (ac:List Acc)(c:Int)(e:En):Int:=if(acAt ac e.1).1=c then e.2 else 0
def esum (ac:List Acc)(c:Int)(es:List En):Int:=(es.map (ecur ac c)).sum
theorem qe (ac:List Acc)(c:Int):esum ac c []=0:=rfl
theorem yM (ac:List Acc)(c:Int)(e:En)(es:List En):esum ac c (e::es)=ecur ac c e+esum ac c es:=by simp[esum]
def Curs (ac:List Acc):Prop:=∀(k:Nat)(h:k<ac.length),0<=ac[k].1/\ac[k].1<=2
theorem Curs.at {ac:List Acc}(h:Curs ac){i:Int}(hi:inA ac i):(acAt ac i).1=0\/(acAt ac i).1=1\/(acAt ac i).1=2:=by
 obtain⟨n,rfl⟩:=Oj hi.1;have hn:n<ac.length:=by have:=hi.2;omega
 rw[eD ac n hn];have:=h n hn;omega
theorem Kv {c v x y z:Int}(hc:c=0\/c=1\/c=2)(d:Int)(ac:List Acc)(e:En)(he:(acAt ac e.1).1=c)(hv:v=getS c (x,y,z)+e.2):
  (putS c v (x,y,z)).1=x+ecur ac 0 e/\(putS c v (x,y,z)).2.1=y+ecur ac 1 e/\(putS c v (x,y,z)).2.2=z+ecur ac 2 e:=by
 subst hv;unfold ecur;rw[he];rcases hc with rfl|rfl|rfl<;>simp[putS,getS,cH]
theorem sK (ac:List Acc)(hc:Curs ac):∀(es:List En)(x y z:Int),balF ac es (x,y,z)=true->(∀e∈es,inA ac e.1/\okM e.2)/\x+esum ac 0 es=0/\y+esum ac 1 es=0/\z+esum ac 2 es=0
 |[],x,y,z,h=>by
  simp only[balF,NM,N0,OV]at h;exact⟨λe he=>(by cases he),by rw[qe];omega,by rw[qe];omega,by rw[qe];omega⟩
 |e::es,x,y,z,h=>by
  unfold balF at h;split at h
  ·rename_i h1;split at h
   ·rename_i h2;obtain⟨p1,p2,p3⟩:=Kv (x:=x) (y:=y) (z:=z) (hc.at h1.1) 0 ac e rfl rfl;obtain⟨q0,q1,q2,q3⟩:=sK ac hc es (putS (acAt ac e.1).1 (getS (acAt ac e.1).1 (x,y,z)+e.2) (x,y,z)).1 (putS (acAt ac e.1).1 (getS (acAt ac e.1).1 (x,y,z)+e.2) (x,y,z)).2.1 (putS (acAt ac e.1).1 (getS (acAt ac e.1).1 (x,y,z)+e.2) (x,y,z)).2.2 h;refine⟨λa ha=>?_,?_,?_,?_⟩
    ·rcases NO.1 ha with rfl|ha
     ·exact h1
     ·exact q0 a ha
    all_goals rw[yM];omega
   ·cases h
  ·cases h
def runF:List Acc->List En->Option (List Acc)
 |ac,[]=>some ac
 |ac,e::r=>if okM (acAt ac e.1).2.1/\okM e.2/\okM ((acAt ac e.1).2.1+e.2)then runF (ac.set (Int.toNat e.1) ((acAt ac e.1).1,(acAt ac e.1).2.1+e.2,(acAt ac e.1).2.2)) r else none
def ym (l:List Acc):Bool:=l.all λa=>!decide (w64 (a.2.1-a.2.2)<0)
def gm (ac:List Acc)(es:List En):List Acc×Option Int:=
 bif balF ac es (0,0,0)then(match runF ac es with|none=>([],some 4)|some out=>bif ym (out.drop 9)then(out,none)else([],some 3))else([],some 13)
theorem nM (ac:List Acc)(i:Int)(j:Int)(x:Acc)(hi:inA ac i)(hj:0<=j):acAt (ac.set (Int.toNat i) x) j=if j=i then x else acAt ac j:=by
 obtain⟨n,rfl⟩:=Oj hi.1;obtain⟨m,rfl⟩:=Oj hj;have hn:n<ac.length:=by have:=hi.2;omega
 unfold acAt;rw[NQ,NQ,NP,NP,P9];by_cases h:n=m
 ·subst h;simp[hn]
 ·rw[ND h,ND (by omega)]
def neg (e:En):En:=(e.1,w64 (0-e.2))
def back (es:List En):List En:=(es.map neg).reverse
theorem Hd (e:En)(es:List En):back (e::es)=back es++[neg e]:=by simp[back]
structure Kept (ac out:List Acc):Prop where
 len:out.length=ac.length
 cur:∀i:Int,0<=i->(acAt out i).1=(acAt ac i).1/\(acAt out i).2.2=(acAt ac i).2.2
theorem pQ:∀(es:List En)(ac out:List Acc),(∀e∈es,inA ac e.1)->runF ac es=some out ->
  Kept ac out/\(∀c,sums c out=sums c ac+esum ac c es)/\((∀i:Int,0<=i->okM (acAt ac i).2.1)->∀i:Int,0<=i->okM (acAt out i).2.1)
 |[],ac,out,_,h=>by
  cases h;exact⟨⟨rfl,λ_ _=>⟨rfl,rfl⟩⟩,λc=>by rw[qe];omega,λh=>h⟩
 |e::es,ac,out,hin,h=>by
  unfold runF at h;split at h
  ·rename_i hk;have hi:=hin e (by simp);obtain⟨n,hn⟩:=Oj hi.1;have hnl:n<ac.length:=by have:=hi.2;omega
   obtain⟨k1,k2,k3⟩:=pQ es _ out (λa ha=>by have:=hin a (by simp[ha]);unfold inA at this ⊢;rw[NA];exact this) h;have hcur:∀i:Int,0<=i->(acAt (ac.set (Int.toNat e.1) ((acAt ac e.1).1,(acAt ac e.1).2.1+e.2,(acAt ac e.1).2.2)) i).1=(acAt ac i).1/\(acAt (ac.set (Int.toNat e.1) ((acAt ac e.1).1,(acAt ac e.1).2.1+e.2,(acAt ac e.1).2.2)) i).2.2=(acAt ac i).2.2:=by
    intro i h0;rw[nM ac e.1 i _ hi h0];split
    ·rename_i q;subst q;exact⟨rfl,rfl⟩
    ·exact⟨rfl,rfl⟩
   refine⟨⟨by rw[k1.len,NA],λi h0=>?_⟩,λc=>?_,λhb=>k3 λi h0=>?_⟩
   ·obtain⟨a,b⟩:=k1.cur i h0;obtain⟨a',b'⟩:=hcur i h0;exact⟨a.trans a',b.trans b'⟩
   ·rw[k2 c,yM];have es_eq:esum (ac.set (Int.toNat e.1) ((acAt ac e.1).1,(acAt ac e.1).2.1+e.2,(acAt ac e.1).2.2)) c es=esum ac c es:=by
     unfold esum;congr 1;refine Q5 λa ha=>?_
     unfold ecur;rw[(hcur a.1 (hin a (by simp[ha])).1).1]
    rw[es_eq,hn,NQ,vc c ac n _ hnl,eD ac n hnl];unfold ecur cur;rw[hn,eD ac n hnl];dsimp only;split<;>omega
   ·rw[nM ac e.1 i _ hi h0];split
    ·exact hk.2.2
    ·exact hb i h0
  ·cases h
structure Rt (ac:List Acc):Prop where
 lo:9<=ac.length
 hi:ac.length<=64
 ok:∀(k:Nat) (h:k<ac.length),LChart.OkAt k ac[k]
 sum:∀c,sums c ac=0
theorem Rt.curs {ac:List Acc}(h:Rt ac):Curs ac:=λk hk=>⟨(h.ok k hk).1,(h.ok k hk).2.1⟩
theorem Rt.bal {ac:List Acc}(h:Rt ac):∀i:Int,0<=i->okM (acAt ac i).2.1:=by
 intro i hi;obtain⟨n,rfl⟩:=Oj hi;by_cases hn:n<ac.length
 ·rw[eD ac n hn];have:=h.ok n hn;exact⟨this.2.2.1,this.2.2.2.1⟩
 ·unfold acAt;rw[NQ,NP,Pc (by omega)];exact⟨by show(-1125899906842624:Int)<=0;omega,by show(0:Int)<=1125899906842624;omega⟩
theorem Lu:∀l:List Acc,(l.map λ_=>(0:Int)).sum=0
 |[]=>rfl
 |a::r=>by simp only[NV,QE,Lu r];rfl
theorem Rt.post {ac:List Acc}(h:Rt ac){es:List En}{out:List Acc}(hb:balF ac es (0,0,0)=true)(hr:runF ac es=some out)(hf:ym (out.drop 9)=true):Rt out:=by
 obtain⟨b0,b1,b2,b3⟩:=sK ac h.curs es 0 0 0 hb;obtain⟨k1,k2,k3⟩:=pQ es ac out (λe he=>(b0 e he).1) hr;refine⟨by rw[k1.len];exact h.lo,by rw[k1.len];exact h.hi,?_,?_⟩
 ·intro k hk;have hk':k<ac.length:=by rw[<- k1.len];exact hk
  obtain⟨c1,c2⟩:=k1.cur (k:Int) (by omega);have c3:=k3 h.bal (k:Int) (by omega);rw[eD out k hk,eD ac k hk']at c1 c2;rw[eD out k hk]at c3;have ho:=h.ok k hk';refine⟨by rw[c1];exact ho.1,by rw[c1];exact ho.2.1,c3.1,c3.2,λh9=>⟨by rw[c2];exact(ho.2.2.2.2.1 h9).1,by rw[c1];exact(ho.2.2.2.2.1 h9).2⟩,λh9=>?_⟩;have ho9:=ho.2.2.2.2.2 h9;refine⟨by rw[c2];exact ho9.1,?_⟩;have hm:out[k]∈out.drop 9:=by
   rw[List.mem_drop_iff_getElem];exact⟨k-9,by omega,by congr 1;omega⟩
  have:=OW.1 hf _ hm;simp only[Oz,PL]at this;have hob:=ho.2.2.1;have hob2:=ho.2.2.2.1;have c31:=c3.1;have c32:=c3.2;rw[aL (by rw[c2];omega)]at this;omega
 ·intro c;by_cases hc:c=0\/c=1\/c=2
  ·rw[k2 c,h.sum c];rcases hc with rfl|rfl|rfl<;>omega
  ·unfold sums;rw[show out.map (cur c)=out.map λ_=>(0:Int) from Q5 λa ha=>by
    obtain⟨k,hk,rfl⟩:=Qr ha;have hk':k<ac.length:=by rw[<- k1.len];exact hk
    obtain⟨c1,_⟩:=k1.cur (k:Int) (by omega);rw[eD out k hk,eD ac k hk']at c1;have ho:=h.ok k hk';unfold cur;rw[ND];rw[c1];have:=ho.1;have:=ho.2.1;omega]
   exact Lu out
end Go.Eng.LEnt
namespace Go.Eng.Top
open Go.RowKit Go.Eng Go.Eng.LChart Go.Eng.LEnt
set_option maxRecDepth 100000
abbrev JR:K:=.strct (.prod (.int .i64) (.int .i64))
abbrev KA:K:=.slice af
abbrev KEs:K:=.slice JR
abbrev sOf:Sig:=⟨[(false,.int .i64),(false,.bool)],[]⟩
abbrev sEs:Sig:=⟨[(false,.slice JR),(false,.err)],[]⟩
def ofV (ac:List Acc)(i:Int):Int×Bool:=if inA ac i then(if i<9 then(Int.tmod i 3,true)else(3,true))else(0,false)
theorem Ic (ac:List Acc)(i:Int):Ev1 (λk=>CF k sOf fZ [inj KA ac,inj I i]) (ofV ac i):=by
 refine Ev1.step (λk=>DT k ac i) ?_;unfold ofV;by_cases h:inA ac i
 ·rw[NI h];refine Ev1.negD (by omega) (Ev1.negD (by omega) ?_);by_cases h9:i<9
  ·rw[NI h9];exact Ev1.posD h9 (Ev1.now _)
  ·rw[ND h9];exact Ev1.negD h9 (Ev1.now _)
 ·rw[ND h];exact Ev1.iff (λ_=>Ev1.now _) λh0=>Ev1.posD (by unfold inA at h;omega) (Ev1.now _)
theorem KM (ac:List Acc)(i:Int):(ofV ac i).2=decide (inA ac i):=by
 unfold ofV;split
 ·rename_i h;rw[NK h];split<;>rfl
 ·rename_i h;rw[NF h]
def numV (q c:Int):Int:=if q<0\/2<q\/c<0\/3<=c then -1 else 3*c+q
theorem ko (q c:Int):Ev1 (λk=>CF k sIn cd [inj I q,inj I c]) (numV q c):=by
 refine Ev1.step (λk=>tx k q c) ?_;unfold numV;by_cases h:q<0\/2<q\/c<0\/3<=c
 ·rw[NI h];exact Ev1.iff (λ_=>Ev1.now _) λh0=>Ev1.iff (λ_=>Ev1.now _) λh1=>Ev1.iff (λ_=>Ev1.now _) λh2=>Ev1.posD (by omega) (Ev1.now _)
 ·rw[ND h];refine Ev1.negD (by omega) (Ev1.negD (by omega) (Ev1.negD (by omega) (Ev1.negD (by omega) (Ev1.const ?_))));rw[aL (x:=3*c) (by omega),aL (by omega)]
theorem getE (l:List En)(i:Nat)(h:i<l.length):l.getD (Int.toNat (i:Int)) (0,0)=l[i]:=by
 rw[NQ];exact bc l i _ h
theorem C2 (a b:Int):addV a b=if okM a/\okM b/\okM (a+b)then(a+b,none)else(0,some 4):=rfl
theorem ML (ac:List Acc)(hc:Curs ac)(es:List En)(hl:es.length<=140737488351232):∀(d i:Nat)(x y z:Int),i+d=es.length ->
  Ev2 (λk m=>dD k m ac es (es.length:Int) (i:Int) x y z) (balF ac (es.drop i) (x,y,z))
 |0,i,x,y,z,h=>by
  refine Ev2.step (λk m=>iB k m ac es (es.length:Int) (i:Int) x y z _ rfl) (Ev2.negD (by omega) ?_);rw[Oi (by omega)];exact Ev2.now _
 |d+1,i,x,y,z,h=>by
  have hlt:i<es.length:=by omega
  refine Ev2.step (λk m=>iB k m ac es (es.length:Int) (i:Int) x y z es[i] (getE es i hlt).symm) (Ev2.posD (by omega) (Ev2.pos (aj (by omega) (by omega)) (Ev2.bind (Ic ac es[i].1) ?_)));rw[KM,Ob hlt];generalize es[i]=e;unfold balF;by_cases h1:inA ac e.1
  ·rw[NK h1];refine Ev2.neg rfl (Ev2.bind (Ev1.of_rfl 1 (λk=>vN k e.2)) ?_);by_cases h2:LEnt.okM e.2
   ·rw[NK h2,NI ⟨h1,h2⟩];refine Ev2.neg rfl (Ev3.diag (f:=λk m1 m=>eh k m1 m ac es (es.length:Int) (i:Int) x y z e.1 e.2) ?_);refine Ev3.step (λk m1 m=>lM k m1 m ac es (es.length:Int) (i:Int) x y z e.1 e.2 _ rfl) (Ev3.pos (aj h1.1 h1.2) ?_);have h012:=hc.at h1;have ec:(ac.getD (Int.toNat e.1) (0,0,0)).1=(acAt ac e.1).1:=rfl;rw[ec];generalize (acAt ac e.1).1=c at h012 ⊢;refine Ev3.negD (by omega) (Ev3.negD (by omega) (Ev2.drop (f:=λk m=>cQ k m k ac c es (es.length:Int) (i:Int) x y z e.1 e.2) (Ev3.diag (f:=λk m1 m=>cQ k m1 m ac c es (es.length:Int) (i:Int) x y z e.1 e.2) ?_)));have hin:inb c 3=true:=aj (by omega) (by omega);refine Ev3.step (λk m1 m=>lL k m1 m ac c es (es.length:Int) (i:Int) x y z e.1 e.2) (Ev3.pos hin (Ev3.bind (JQ (cH c [x,y,z]) e.2) ?_));have eg:cH c [x,y,z]=getS c (x,y,z):=rfl;rw[eg,C2];by_cases h3:LEnt.okM (getS c (x,y,z))/\LEnt.okM e.2/\LEnt.okM (getS c (x,y,z)+e.2)
    ·rw[NI h3,NI h3];refine Ev3.neg rfl (Ev3.pos hin ?_);rw[wnat (by omega)];exact Ev2.drop (ML ac hc es hl d (i+1) _ _ _ (by omega))
    ·rw[ND h3,ND h3];exact Ev3.pos rfl (Ev3.now _)
   ·rw[NF h2,ND (λh=>h2 h.2)];exact Ev2.pos rfl (Ev2.now _)
  ·rw[NF h1,ND (λh=>h1 h.1)];exact Ev2.pos rfl (Ev2.now _)
theorem A3 (ac:List Acc)(hc:Curs ac)(es:List En)(hl:es.length<=140737488351232):Ev1 (λk=>CF k sBo fA [inj KA ac,inj KEs es]) (balF ac es (0,0,0)):=
 Ev1.step (λk=>pH k ac es) (ML ac hc es hl es.length 0 0 0 0 (by omega)).diag
def rN (a b:Int):Int:=cH b [cH a [1,11,1],cH a [9,1,1],cH a [150,160,1]]
def rD (a b:Int):Int:=cH b [cH a [1,10,151],cH a [10,1,161],cH a [1,1,1]]
theorem Ku {a b:Int}(ha:a=0\/a=1\/a=2)(hb:b=0\/b=1\/b=2):okR (rN a b) (rD a b):=by
 rcases ha with rfl|rfl|rfl<;>rcases hb with rfl|rfl|rfl<;>(unfold okR;decide)
def bJ (ac:List Acc)(f t n:Int):List En×Option Int:=
 if inA ac f/\inA ac t then
  (if f=t\/¬ (1<=n/\n<=1099511627776)then([],some 1)
   else if(acAt ac f).1=(acAt ac t).1 then([(f,-n),(t,n)],none)
   else(if 1099511627776<n*rN (acAt ac f).1 (acAt ac t).1/rD (acAt ac f).1 (acAt ac t).1 then([],some 4)
    else if n*rN (acAt ac f).1 (acAt ac t).1/rD (acAt ac f).1 (acAt ac t).1=0 then([],some 1)
    else([(f,-n),(3*(acAt ac f).1+1,n),(3*(acAt ac t).1+1,-(n*rN (acAt ac f).1 (acAt ac t).1/rD (acAt ac f).1 (acAt ac t).1)),(t,n*rN (acAt ac f).1 (acAt ac t).1/rD (acAt ac f).1 (acAt ac t).1)],none)))
 else([],some 2)
theorem jI (ac:List Acc)(hc:Curs ac)(f t n:Int):Ev1 (λk=>CF k sEs n_eV [inj KA ac,inj I f,inj I t,inj I n]) (bJ ac f t n):=by
 refine Ev1.step (λk=>f_eV k ac f t n) (Ev1.bind (Ic ac f) ?_);rw[KM];unfold bJ;by_cases h1:inA ac f
 ·rw[NK h1];refine Ev1.neg rfl (Ev1.bind (Ic ac t) ?_);rw[KM];by_cases h2:inA ac t
  ·rw[NK h2,NI ⟨h1,h2⟩];refine Ev1.neg rfl ?_;by_cases h3:f=t
   ·rw[NI (.inl h3)];exact Ev1.posD h3 (Ev1.now _)
   ·refine Ev1.negD h3 (Ev1.bind (Ev1.of_rfl 1 (λk=>lh k n)) ?_);by_cases h4:1<=n/\n<=1099511627776
    ·rw[NK h4,ND (by omega)];refine Ev1.neg rfl (Ev2.diag (f:=λk m=>h_eV k m ac f t n) ?_);refine Ev2.step (λk m=>Mj k m ac f t n _ rfl _ rfl) (Ev2.pos (aj h1.1 h1.2) (Ev2.pos (aj h2.1 h2.2) ?_));have ha:=hc.at h1;have hb:=hc.at h2;have ea:(ac.getD (Int.toNat f) (0,0,0)).1=(acAt ac f).1:=rfl;have eb:(ac.getD (Int.toNat t) (0,0,0)).1=(acAt ac t).1:=rfl;rw[ea,eb];generalize (acAt ac f).1=a at ha ⊢;generalize (acAt ac t).1=b at hb ⊢;by_cases h5:a=b
     ·rw[NI h5];refine Ev2.posD h5 (Ev2.const ?_);rw[aL (by omega),show 0-n=-n by omega]
     ·rw[ND h5];refine Ev2.negD h5 (Ev2.bind (ko 1 a) (Ev2.bind (ko 1 b) ?_));have n1:numV 1 a=3*a+1:=by unfold numV;rw[ND (by omega)]
      have n2:numV 1 b=3*b+1:=by unfold numV;rw[ND (by omega)]
      rw[n1,n2];refine Ev2.negD (by omega) (Ev2.negD (by omega) (Ev1.drop (Ev2.diag (f:=λk m=>FR k m f t n a b (3*a+1) (3*b+1)) ?_)));refine Ev2.step (λk m=>It k m f t n a b (3*a+1) (3*b+1)) (Ev2.bind (Ev1.step (λk=>wx k) (Ev1.now _)) (Ev2.pos (aj (by omega) (by omega)) (Ev2.pos (aj (by omega) (by omega)) (Ev2.bind (D4 n (rN a b) (rD a b)) ?_))));have hok:=Ku ha hb;generalize rN a b=p at hok ⊢;generalize rD a b=q at hok ⊢;rcases AU n p q hok with⟨e,g⟩|⟨e,g,g2⟩|⟨e,g,g2,g3⟩
      ·omega
      ·rw[e,NI g2];exact Ev2.pos rfl (Ev2.now _)
      ·rw[e,ND (by omega)];refine Ev2.neg rfl ?_;by_cases g0:n*p/q=0
       ·rw[NI g0];exact Ev2.posD g0 (Ev2.now _)
       ·rw[ND g0];refine Ev2.negD g0 (Ev2.const ?_);dsimp only;rw[aL (x:=0-n) (by omega),aL (x:=0-n*p/q) (by omega),show 0-n=-n by omega,show 0-n*p/q=-(n*p/q) by omega]
    ·rw[NF h4,NI (.inr h4)];exact Ev1.pos rfl (Ev1.now _)
  ·rw[NF h2,ND (λh=>h2 h.2)];exact Ev1.pos rfl (Ev1.now _)
 ·rw[NF h1,ND (λh=>h1 h.1)];exact Ev1.pos rfl (Ev1.now _)
end Go.Eng.Top
namespace Go.Eng.Top
open Go.RowKit Go.Eng Go.Eng.LChart Go.Eng.LEnt
set_option maxRecDepth 100000
abbrev sAe:Sig:=⟨[(false,.slice af),(false,.err)],[]⟩
abbrev sAs:Sig:=⟨[(true,.slice af)],[]⟩
theorem getA (l:List Acc)(i:Nat)(h:i<l.length):l.getD (Int.toNat (i:Int)) (0,0,0)=l[i]:=by
 rw[NQ];exact bc l i _ h
theorem xn (e:Option Int):Ev1 (λk=>CF k sIn cU [inj .err e]) (e.getD 0):=Ev1.step (λk=>(rfl:CF (k+1) sIn cU [inj .err e]=some (e.getD 0))) (Ev1.now _)
theorem BX (ac:List Acc)(i:Int):Ev1 (λk=>CF k sBo b6 [inj KA ac,inj I i]) (decide (9<=i/\i<(ac.length:Int))):=by
 refine Ev1.step (λk=>pI k ac i) (Ev1.bind (Ic ac i) ?_);unfold ofV;by_cases h:inA ac i
 ·rw[NI h];by_cases h9:i<9
  ·rw[NI h9];refine Ev1.pos rfl (Ev1.const (congrArg some ?_));rw[PE h.1];exact Pq.2 (by omega)
  ·rw[ND h9];refine Ev1.pos rfl (Ev1.const (congrArg some ?_));exact Pq.2 (by unfold inA at h;omega)
 ·rw[ND h];exact Ev1.neg rfl (Ev1.const (congrArg some (NF (by unfold inA at h;omega)).symm))
theorem qh (ac:List Acc)(hl:ac.length<=64):Ev1 (λk=>CF k sAs c8 [inj KA ac]) ac:=Ev1.step (λk=>wD k ac) (Ev1.posD (by omega) (Ev1.now _))
def fM (ac:List Acc)(n a:Int):List Acc×Option Int:=
 if 9<=n/\n<(ac.length:Int)then(if 1<=a/\a<=1099511627776 then(if(acAt ac n).2.1-(acAt ac n).2.2<a then([],some 3)
  else(ac.set (Int.toNat n) ((acAt ac n).1,(acAt ac n).2.1,(acAt ac n).2.2+a),none))else([],some 1))else([],some 2)
def relF (ac:List Acc)(n a:Int):List Acc×Option Int:=
 if 9<=n/\n<(ac.length:Int)then(if 1<=a/\a<=1099511627776 then(if(acAt ac n).2.2<a then([],some 6)
  else(ac.set (Int.toNat n) ((acAt ac n).1,(acAt ac n).2.1,(acAt ac n).2.2-a),none))else([],some 1))else([],some 2)
theorem mF {ac:List Acc}(h:Rt ac){n:Int}(hn:9<=n/\n<(ac.length:Int)):inA ac n/\0<=(acAt ac n).2.2/\(acAt ac n).2.2<=(acAt ac n).2.1/\(acAt ac n).2.1<=1125899906842624:=by
 obtain⟨q,rfl⟩:=Oj (show 0<=n by omega);have hq:q<ac.length:=by omega
 rw[eD ac q hq];have ho:=h.ok q hq;exact⟨⟨by omega,hn.2⟩,(ho.2.2.2.2.2 (by omega)).1,(ho.2.2.2.2.2 (by omega)).2,ho.2.2.2.1⟩
theorem FL (ac:List Acc)(h:Rt ac)(n a:Int):Ev1 (λk=>CF k sAe pW [inj KA ac,inj I n,inj I a]) (fM ac n a):=by
 refine Ev1.step (λk=>IP k ac n a) (Ev1.bind (BX ac n) ?_);unfold fM;by_cases h1:9<=n/\n<(ac.length:Int)
 ·rw[NK h1,NI h1];obtain⟨g1,g2,g3,g4⟩:=mF h h1;refine Ev1.neg rfl (Ev1.bind (Ev1.of_rfl 1 (λk=>lh k a)) ?_);by_cases h2:1<=a/\a<=1099511627776
  ·rw[NK h2,NI h2];refine Ev1.neg rfl (Ev1.pos (aj g1.1 g1.2) ?_);have e:ac.getD (Int.toNat n) (0,0,0)=acAt ac n:=rfl;rw[e];refine Ev1.bind (Ev1.step (λk=>kW k (acAt ac n)) (Ev1.now _)) ?_;rw[aL (by omega)];by_cases h3:(acAt ac n).2.1-(acAt ac n).2.2<a
   ·rw[NI h3];exact Ev1.posD h3 (Ev1.now _)
   ·rw[ND h3];refine Ev1.negD h3 (Ev1.bind (qh ac h.hi) (Ev1.pos (aj g1.1 g1.2) (Ev1.pos (aj g1.1 g1.2) ?_)));rw[e,aL (by omega)];exact Ev1.now _
  ·rw[NF h2,ND h2];exact Ev1.pos rfl (Ev1.now _)
 ·rw[NF h1,ND h1];exact Ev1.pos rfl (Ev1.now _)
theorem EV (ac:List Acc)(h:Rt ac)(n a:Int):Ev1 (λk=>CF k sAe gw [inj KA ac,inj I n,inj I a]) (relF ac n a):=by
 refine Ev1.step (λk=>AD k ac n a) (Ev1.bind (BX ac n) ?_);unfold relF;by_cases h1:9<=n/\n<(ac.length:Int)
 ·rw[NK h1,NI h1];obtain⟨g1,g2,g3,g4⟩:=mF h h1;refine Ev1.neg rfl (Ev1.bind (Ev1.of_rfl 1 (λk=>lh k a)) ?_);by_cases h2:1<=a/\a<=1099511627776
  ·rw[NK h2,NI h2];refine Ev1.neg rfl (Ev1.pos (aj g1.1 g1.2) ?_);have e:ac.getD (Int.toNat n) (0,0,0)=acAt ac n:=rfl;rw[e];by_cases h3:(acAt ac n).2.2<a
   ·rw[NI h3];exact Ev1.posD h3 (Ev1.now _)
   ·rw[ND h3];refine Ev1.negD h3 (Ev1.bind (qh ac h.hi) (Ev1.pos (aj g1.1 g1.2) (Ev1.pos (aj g1.1 g1.2) ?_)));rw[e,aL (by omega)];exact Ev1.now _
  ·rw[NF h2,ND h2];exact Ev1.pos rfl (Ev1.now _)
 ·rw[NF h1,ND h1];exact Ev1.pos rfl (Ev1.now _)
theorem FN {ac:List Acc}(h:Rt ac){n v:Int}(hn:9<=n/\n<(ac.length:Int))(hv:0<=v/\v<=(acAt ac n).2.1):Rt (ac.set (Int.toNat n) ((acAt ac n).1,(acAt ac n).2.1,v)):=by
 obtain⟨q,rfl⟩:=Oj (show 0<=n by omega);have hq:q<ac.length:=by omega
 rw[eD ac q hq]at hv ⊢;rw[NQ];refine⟨by rw[NA];exact h.lo,by rw[NA];exact h.hi,λk hk=>?_,λc=>?_⟩
 ·rw[NA]at hk;rw[List.getElem_set];split
  ·rename_i e;subst e;have ho:=h.ok q hq;exact⟨ho.1,ho.2.1,ho.2.2.1,ho.2.2.2.1,λh9=>by omega,λ_=>hv⟩
  ·exact h.ok k hk
 ·rw[vc c ac q _ hq,h.sum c];unfold cur;dsimp only;omega
theorem B5 {ac:List Acc}(h:Rt ac){n a:Int}(hn:(fM ac n a).2=none):Rt (fM ac n a).1/\(fM ac n a).1.length=ac.length:=by
 unfold fM at hn ⊢;split at hn
 ·rename_i h1;split at hn
  ·rename_i h2;split at hn
   ·cases hn
   ·rename_i h3;rw[NI h1,NI h2,ND h3];obtain⟨g1,g2,g3,g4⟩:=mF h h1;exact⟨FN h h1 (by omega),NA⟩
  ·cases hn
 ·cases hn
theorem qC {ac:List Acc}(h:Rt ac){n a:Int}(hn:(relF ac n a).2=none):Rt (relF ac n a).1/\(relF ac n a).1.length=ac.length:=by
 unfold relF at hn ⊢;split at hn
 ·rename_i h1;split at hn
  ·rename_i h2;split at hn
   ·cases hn
   ·rename_i h3;rw[NI h1,NI h2,ND h3];obtain⟨g1,g2,g3,g4⟩:=mF h h1;exact⟨FN h h1 (by omega),NA⟩
  ·cases hn
 ·cases hn
def finP:Option (List Acc)->List Acc×Option Int
 |none=>([],some 4)
 |some o=>bif ym (o.drop 9)then(o,none)else([],some 3)
theorem qJ (ac:List Acc)(es:List En):gm ac es=bif balF ac es (0,0,0)then finP (runF ac es)else([],some 13):=by
 unfold gm finP;rfl
theorem Gh (a:Acc)(l:List Acc):ym (a::l)=((!decide (w64 (a.2.1-a.2.2)<0))&&ym l):=rfl
theorem E5 (out : List Acc) (hl : out.length ≤ 64) : ∀ (d i : Nat), i + d = out.length → Ev2 (fun k m => gf k m (out.length : Int) (i : Int) out) (bif ym (out.drop (max 9 i)) then (out, none) else ([], some 3))
  | 0, i, h => by
    refine Ev2.step (fun k m => pj k m (out.length : Int) (i : Int) out _ rfl) (Ev2.negD (by omega) ?_)
    rw [Oi (by omega)]
    exact Ev2.now _
  | d + 1, i, h => by
    have hlt : i < out.length := by omega
    have ih := E5 out hl d (i + 1) (by omega)
    refine Ev2.step (fun k m => pj k m (out.length : Int) (i : Int) out ((i + 1 : Nat) : Int) (wnat (by omega)).symm) (Ev2.posD (by omega) (Ev2.pos (aj (by omega) (by omega)) (Ev2.bind (BX out (i : Int)) ?_)))
    by_cases h9 : 9 ≤ i
    · rw [NK (by omega), getA out i hlt]
      refine Ev2.pos rfl (Ev2.bind (Ev1.step (fun k => kW k out[i]) (Ev1.now _)) ?_)
      rw [show max 9 i = i by omega, Ob hlt, Gh]
      rw [show max 9 (i + 1) = i + 1 by omega] at ih
      by_cases hf : w64 (out[i].2.1 - out[i].2.2) < 0
      · rw [NK hf]; exact Ev2.pos rfl (Ev2.now _)
      · rw [NF hf]
        exact Ev2.neg rfl ih
    · rw [NF (by omega)]
      rw [show max 9 (i + 1) = 9 by omega] at ih
      rw [show max 9 i = 9 by omega]
      exact Ev2.neg rfl ih
theorem Jw (es : List En) (hl : es.length ≤ 140737488351232) : ∀ (d i : Nat) (out : List Acc), i + d = es.length → (∀ e ∈ es.drop i, inA out e.1) → out.length ≤ 64 → Ev2 (fun k m => nf k m es (es.length : Int) (i : Int) out) (finP (runF out (es.drop i)))
  | 0, i, out, h, hin, ho => by
    refine Ev2.step (fun k m => uH k m es (es.length : Int) (i : Int) out _ rfl _ rfl _ rfl) (Ev2.negD (by omega) ?_)
    rw [Oi (by omega)]
    exact Ev1.drop (Ev2.diag (f := fun k m => gf k m (out.length : Int) 0 out) (E5 out ho out.length 0 (by omega)))
  | d + 1, i, out, h, hin, ho => by
    have hlt : i < es.length := by omega
    rw [Ob hlt] at hin ⊢
    refine Ev2.step (fun k m => uH k m es (es.length : Int) (i : Int) out es[i] (getE es i hlt).symm _ rfl (acAt out es[i].1) rfl) (Ev2.posD (by omega) (Ev2.pos (aj (by omega) (by omega)) ?_))
    generalize es[i] = e at hin ⊢
    have h1 := hin e (by simp)
    refine Ev2.pos (aj h1.1 h1.2) (Ev2.bind (JQ (acAt out e.1).2.1 e.2) ?_)
    rw [C2]
    unfold runF
    by_cases h3 : LEnt.okM (acAt out e.1).2.1 ∧ LEnt.okM e.2 ∧ LEnt.okM ((acAt out e.1).2.1 + e.2)
    · rw [NI h3, NI h3]
      refine Ev2.neg rfl (Ev2.pos (aj h1.1 h1.2) ?_)
      rw [wnat (by omega)]
      exact Jw es hl d (i + 1) _ (by omega) (fun a ha => by have := hin a (by simp [ha]); unfold inA at this ⊢; rw [NA]; exact this) (by rw [NA]; exact ho)
    · rw [ND h3, ND h3]
      exact Ev2.pos rfl (Ev2.now _)
theorem vq (ac : List Acc) (h : Rt ac) (es : List En) (hl : es.length ≤ 140737488351232) : Ev1 (fun k => CF k sAe lB [inj KA ac, inj KEs es]) (gm ac es) := by
  refine Ev1.step (fun k => IN k ac es) (Ev1.bind (A3 ac h.curs es hl) ?_)
  rw [qJ]
  cases hb : balF ac es (0, 0, 0) with
  | false => exact Ev1.pos rfl (Ev1.now _)
  | true =>
    obtain ⟨hin, _⟩ := sK ac h.curs es 0 0 0 hb
    refine Ev1.neg rfl (Ev1.bind (qh ac h.hi) ?_)
    exact Ev2.diag (f := fun k m => nf k m es (es.length : Int) 0 ac) (Jw es hl es.length 0 ac (by omega) (fun e he => (hin e he).1) h.hi)
theorem mM {ac : List Acc} (h : Rt ac) {es : List En} (hn : (gm ac es).2 = none) : balF ac es (0, 0, 0) = true ∧ runF ac es = some (gm ac es).1 ∧ Rt (gm ac es).1 ∧ (gm ac es).1.length = ac.length := by
  rw [qJ] at hn ⊢
  cases hb : balF ac es (0, 0, 0) with
  | false => rw [hb] at hn; cases hn
  | true =>
    rw [hb] at hn
    dsimp only [cond_true] at hn ⊢
    cases hr : runF ac es with
    | none => rw [hr] at hn; cases hn
    | some out =>
      rw [hr] at hn
      unfold finP at hn ⊢
      dsimp only at hn ⊢
      cases hf : ym (out.drop 9) with
      | false => rw [hf] at hn; cases hn
      | true =>
        obtain ⟨hin, _⟩ := sK ac h.curs es 0 0 0 hb
        obtain ⟨k1, _, _⟩ := pQ es ac out (fun e he => (hin e he).1) hr
        exact ⟨rfl, rfl, h.post hb hr hf, k1.len⟩
def eG (ac:List Acc)(a:Int)(es:List En):List Acc×Option Int:=
 match es with
 |[]=>([],some 13)
 |e::_=>match relF ac e.1 a with
  |(o,none)=>gm o es
  |(_,some c)=>([],some c)
theorem Bk (ac:List Acc)(h:Rt ac)(a:Int)(es:List En)(hl:es.length<=140737488351232):Ev1 (λk=>CF k sAe mX [inj KA ac,inj I a,inj KEs es]) (eG ac a es):=by
 refine Ev1.step (λk=>Gx k ac a es) ?_;cases es with
 |nil=>exact Ev1.posD rfl (Ev1.now _)
 |cons e r=>
  refine Ev1.negD (by simp only[NC];omega) (Ev1.pos (aj (by omega) (by simp only[NC];omega)) (Ev1.bind (EV ac h e.1 a) ?_));show Ev1 _ (match relF ac e.1 a with|(o,none)=>gm o (e::r)|(_,some c)=>([],some c));have hr:=qC h (n:=e.1) (a:=a);generalize relF ac e.1 a=w at hr;obtain⟨o,g⟩:=w;cases g with
  |some c=>exact Ev1.pos rfl (Ev1.now _)
  |none=>exact Ev1.neg rfl (Ev1.bind (vq o (hr rfl).1 (e::r) hl) (Ev1.now _))
theorem oq (ac:List Acc)(f t n:Int):(∃c,bJ ac f t n=([],some c))\/∃v r,bJ ac f t n=((f,v)::r,none)/\r.length<=3:=by
 unfold bJ;split
 ·split
  ·exact .inl ⟨_,rfl⟩
  ·split
   ·exact .inr ⟨_,_,rfl,by simp⟩
   ·split
    ·exact .inl ⟨_,rfl⟩
    ·split
     ·exact .inl ⟨_,rfl⟩
     ·exact .inr ⟨_,_,rfl,by simp⟩
 ·exact .inl ⟨_,rfl⟩
end Go.Eng.Top
namespace Go.Eng.Top
open Go.RowKit Go.Eng
set_option maxRecDepth 100000
abbrev KL:K:=.slice aW
abbrev sRe:Sig:=⟨[(false,aK),(false,.bool)],[]⟩
abbrev sKe:Sig:=⟨[(false,.slice aW),(false,.err)],[]⟩
abbrev d0:aI:=(((0:Int),(0:Int),(0:Int),(0:Int),(0:Int),(0:Int),(0:Int)),((0:Int),(0:Int)),false)
def fndI (key:Int):List Int->Option Nat
 |[]=>none
 |k::r=>if k=key then some 0 else(fndI key r).map (·+1)
def cg (ks:List aI):List Int:=ks.map λk=>k.1.1
def fnd (key:Int)(ks:List aI):Option Nat:=fndI key (cg ks)
def num:Option Nat->Int
 |none=>-1
 |some i=>(i:Int)
theorem r8 {key:Int}:∀{l:List Int} {i:Nat},fndI key l=some i->∃h:i<l.length,l[i]=key
 |[],i,h=>by cases h
 |k::r,i,h=>by
  unfold fndI at h;split at h
  ·rename_i e;cases h;exact⟨by simp,e⟩
  ·cases hq:fndI key r with
   |none=>rw[hq]at h;cases h
   |some j=>
    rw[hq]at h;cases h;obtain⟨h1,h2⟩:=r8 hq;exact⟨by simp;omega,by simpa using h2⟩
theorem IG (key:Int)(l:List Int)(x:Int):fndI key (l++[x])=match fndI key l with|some i=>some i|none=>if x=key then some l.length else none:=by
 induction l with
 |nil=>simp only[OJ,fndI];split<;>rfl
 |cons k r ih=>
  rw[N4];unfold fndI;split
  ·rfl
  ·rw[ih];cases fndI key r with
   |some i=>rfl
   |none=>dsimp only;split<;>simp
theorem eu {key:Int}{ks:List aI}{i:Nat}(h:fnd key ks=some i):∃h:i<ks.length,ks[i].1.1=key:=by
 obtain⟨h1,h2⟩:=r8 h;have h3:i<ks.length:=by simpa[cg]using h1
 exact⟨h3,by simpa[cg]using h2⟩
theorem oA (ks:List aI)(i:Nat)(x:aI)(h:i<ks.length)(hx:x.1.1=ks[i].1.1):cg (ks.set i x)=cg ks:=by
 unfold cg;rw[Rh,hx];have:i<(ks.map λk=>k.1.1).length:=by simpa using h
 conv=>lhs;rw[show ks[i].1.1=(ks.map λk=>k.1.1)[i] by simp]
 rw[PA]
theorem getK (l:List aI)(i:Nat)(h:i<l.length):l.getD (Int.toNat (i:Int)) d0=l[i]:=by rw[NQ];exact bc l i _ h
theorem JI (key : Int) (ks : List aI) (hl : ks.length ≤ 140737488351232) : ∀ (d i : Nat), i + d = ks.length → Ev2 (fun k m => jJ k m key ks (ks.length : Int) (i : Int)) (match fndI key ((cg ks).drop i) with | none => -1 | some j => ((i + j : Nat) : Int))
  | 0, i, h => by
    refine Ev2.step (fun k m => ng k m key ks (ks.length : Int) (i : Int)) (Ev2.negD (by omega) ?_)
    rw [Oi (by unfold cg; rw [OC]; omega)]
    exact Ev2.now _
  | d + 1, i, h => by
    have hlt : i < ks.length := by omega
    have hk : i < (cg ks).length := by unfold cg; rw [OC]; omega
    have ek : (cg ks)[i] = ks[i].1.1 := by simp [cg]
    have ih := JI key ks hl d (i + 1) (by omega)
    refine Ev2.step (fun k m => ng k m key ks (ks.length : Int) (i : Int)) (Ev2.posD (by omega) (Ev2.pos (aj (by omega) (by omega)) ?_))
    have eg := getK ks i hlt
    unfold d0 at eg
    rw [eg, Ob hk, ek, wnat (by omega)]
    unfold fndI
    by_cases hq : ks[i].1.1 = key
    · rw [NI hq]; exact Ev2.posD hq (Ev2.now _)
    · rw [ND hq]
      refine Ev2.negD hq ?_
      cases hf : fndI key ((cg ks).drop (i + 1)) with
      | none => rw [hf] at ih; exact ih
      | some j =>
        rw [hf] at ih
        show Ev2 _ (((i + (j + 1) : Nat)) : Int)
        rw [show i + (j + 1) = i + 1 + j by omega]
        exact ih
theorem Au (ks : List aI) (key : Int) (hl : ks.length ≤ 140737488351232) : Ev1 (fun k => CF k sIn gy [inj KL ks, inj I key]) (num (fnd key ks)) := by
  refine Ev1.step (fun k => AG k ks key) ?_
  have := (JI key ks hl ks.length 0 (by omega)).diag
  rw [Pm] at this
  unfold fnd num
  cases hf : fndI key (cg ks) with
  | none => rw [hf] at this; exact this
  | some j => rw [hf] at this; simpa using this
def askF (ks:List aI)(r:ae):ah×Bool:=
 match fnd r.1 ks with
 |none=>((0,0),false)
 |some i=>if(ks.getD i d0).1=r then(if(ks.getD i d0).2.2=true then((ks.getD i d0).2.1,true)else((10,0),true))else((5,0),true)
def qm (ks:List aI)(key:Int)(x:ah):List aI×Option Int:=
 match fnd key ks with
 |none=>([],some 2)
 |some i=>if(ks.getD i d0).2.2=true then([],some 6)else(ks.set i ((ks.getD i d0).1,x,true),none)
def putF (ks:List aI)(r:ae):List aI×Option Int:=
 match fnd r.1 ks with
 |some _=>([],some 5)
 |none=>if 256<=ks.length then([],some 7)else(ks++[(r,(0,0),false)],none)
theorem LL (a r:ae):(decide (a.1=r.1)&&(decide (a.2.1=r.2.1)&&(decide (a.2.2.1=r.2.2.1)&&(decide (a.2.2.2.1=r.2.2.2.1)&&(decide (a.2.2.2.2.1=r.2.2.2.2.1)&&(decide (a.2.2.2.2.2.1=r.2.2.2.2.2.1)&&(decide (a.2.2.2.2.2.2=r.2.2.2.2.2.2)&&true)))))))=decide (a=r):=by
 obtain⟨a1,a2,a3,a4,a5,a6,a7⟩:=a;obtain⟨r1,r2,r3,r4,r5,r6,r7⟩:=r;rw[Qi];simp
theorem MN (ks:List aI)(r:ae)(hl:ks.length<=140737488351232):Ev1 (λk=>CF k sRe oh [inj KL ks,inj aq r]) (askF ks r):=by
 refine Ev1.step (λk=>DQ k ks r) (Ev1.bind (Au ks r.1 hl) ?_);unfold askF;cases hf:fnd r.1 ks with
 |none=>exact Ev1.posD (by show(-1:Int)<0;omega) (Ev1.now _)
 |some i=>
  obtain⟨h1,h2⟩:=eu hf;have hin:inb (num (some i)) ks.length=true:=aj (by show(0:Int)<=(i:Int);omega) (by show(i:Int)<_;omega);refine Ev1.negD (by show ¬ ((i:Int)<0);omega) (Ev1.pos hin ?_);have eg:ks.getD (Int.toNat (num (some i))) d0=ks.getD i d0:=by show ks.getD (Int.toNat (i:Int)) d0=_;rw[NQ]
  unfold d0 at eg ⊢;rw[eg,LL];dsimp only;generalize ks.getD i ((0,0,0,0,0,0,0),(0,0),false)=kn;by_cases c1:kn.1=r
  ·rw[NI c1,NK c1];refine Ev1.neg rfl (Ev1.pos hin ?_);cases hb:kn.2.2 with
   |true=>exact Ev1.neg rfl (Ev1.pos hin (Ev1.now _))
   |false=>exact Ev1.pos rfl (Ev1.now _)
  ·rw[ND c1,NF c1];exact Ev1.pos rfl (Ev1.now _)
theorem zk (ks:List aI)(key:Int)(x:ah)(hl:ks.length*80<=140737488355328):Ev1 (λk=>CF k sKe gx [inj KL ks,inj I key,inj aK x]) (qm ks key x):=by
 refine Ev1.step (λk=>AF k ks key x) (Ev1.bind (Au ks key (by omega)) ?_);unfold qm;cases hf:fnd key ks with
 |none=>exact Ev1.posD (by show(-1:Int)<0;omega) (Ev1.now _)
 |some i=>
  obtain⟨h1,h2⟩:=eu hf;have hin:inb (num (some i)) ks.length=true:=aj (by show(0:Int)<=(i:Int);omega) (by show(i:Int)<_;omega);refine Ev1.negD (by show ¬ ((i:Int)<0);omega) (Ev1.pos hin ?_);have en:Int.toNat (num (some i))=i:=by show Int.toNat (i:Int)=_;rw[NQ]
  rw[en];unfold d0;dsimp only;generalize hk:ks.getD i ((0,0,0,0,0,0,0),(0,0),false)=kn;cases hb:kn.2.2 with
  |true=>exact Ev1.pos rfl (Ev1.now _)
  |false=>
   refine Ev1.neg rfl (Ev1.posD (by omega) (Ev1.pos hin (Ev1.pos (by rw[NA];exact hin) (Ev1.const ?_))));have eg:(ks.set i (kn.1,x,false)).getD i ((0,0,0,0,0,0,0),(0,0),false)=(kn.1,x,false):=by
    rw[bc _ i _ (by rw[NA];exact h1),List.getElem_set_self]
   rw[eg,Ri];rfl
theorem LQ (ks:List aI)(r:ae)(hl:ks.length*80<=140737488355328):Ev1 (λk=>CF k sKe og [inj KL ks,inj aq r]) (putF ks r):=by
 refine Ev1.step (λk=>DP k ks r _ rfl) (Ev1.bind (Au ks r.1 (by omega)) ?_);unfold putF;cases hf:fnd r.1 ks with
 |some i=>exact Ev1.posD (by show(0:Int)<=(i:Int);omega) (Ev1.now _)
 |none=>
  refine Ev1.negD (by show ¬ (0:Int)<=-1;omega) ?_;by_cases h:256<=ks.length
  ·rw[NI h];exact Ev1.posD (by omega) (Ev1.now _)
  ·rw[ND h];exact Ev1.negD (by omega) (Ev1.posD (by omega) (Ev1.posD (by simp only[NC,NL];omega) (Ev1.now _)))
theorem kU (key:Int)(ks:List aI)(x:aI):fnd key (ks++[x])=match fnd key ks with|some i=>some i|none=>if x.1.1=key then some ks.length else none:=by
 unfold fnd cg;rw[Po,NV,OY,IG,OC]
theorem nt (ks:List aI)(x:aI)(d:aI):(ks++[x]).getD ks.length d=x:=by
 rw[bc _ _ _ (by rw[Ny];simp),List.getElem_append_right (NG _)];simp
theorem HE (ks:List aI)(x y:aI):(ks++[x]).set ks.length y=ks++[y]:=by
 rw[PB _ _ (NG _)];simp
end Go.Eng.Top
namespace Go.Eng.Top
open Go.RowKit Go.Eng
set_option maxRecDepth 100000
abbrev BB:K:=.slice (.int .u8)
abbrev MF:=List (Int×Option Nat)
structure Dk (F:List MF)(R L:List Int)(S:List Bool)(d:Nat):Prop where
 hd:d<F.length
 room:R.getD d 0=262144
 left:L.getD d 0=-1
 stop:S.getD d false=false
theorem ai {α:Type}(l:List α)(i:Nat)(x z:α)(h:i<l.length):(l.set i x).getD i z=x:=by
 rw[NP,OG h];rfl
theorem getD_set_ne {α:Type}(l:List α){i j:Nat}(x z:α)(h:i≠j):(l.set i x).getD j z=l.getD j z:=by
 rw[NP,OH h,NP]
theorem bk {α:Type}(l:List α)(x z:α):(l++[x]).getD l.length z=x:=by
 rw[NP,N6 (NG _),QL];rfl
theorem bN {α:Type}(l:List α)(x z:α){i:Nat}(h:i<l.length):(l++[x]).getD i z=l.getD i z:=by
 rw[NP,NZ h,NP]
section
variable {F:List MF} {R L:List Int} {S:List Bool} {d:Nat} {B:List (List Int)} {sf:List Int}
theorem Hq (h:Dk F R L S d):Ev1 (λk=>CF k oE dR [inj (.ref 29) (some d),Ck L,Cl S]) (true,L,S):=by
 have h2:Ev2 (λk m=>fa k m (some d) L S) (true,L,S):=by
  refine Ev2.step (λk m=>iD k m (some d) L S _ rfl) (Ev2.pos rfl (Ev2.negD ?_ (Ev2.pos rfl (Ev2.const ?_))))
  ·show ¬ (0<L.getD d 0);rw[h.left];omega
  ·show some (!(S.getD d false),L,S)=_;rw[h.stop];rfl
 refine Ev1.step (λk=>lI k (some d) L S) (Ev1.pos rfl (Ev1.negD ?_ h2.diag));show ¬ (L.getD d 0=0);rw[h.left];omega
def sumL (B:List (List Int)):MF->Nat
 |[]=>0
 |e::r=>(B.getD (e.2.getD 0) []).length+sumL B r
theorem wX (B:List (List Int)):∀M:MF,sumL B M<4611686018427387904->oZ B M=(sumL B M:Int)
 |[],_=>rfl
 |e::r,h=>by
  unfold sumL at h;unfold oZ sumL;rw[wX B r (by omega),bP (by omega) (by omega)];omega
def allS (M:MF):Bool:=M.all λe=>e.2.isSome
theorem qj (M:MF)(hM:F.getD d []=M)(ha:allS M=true)(hs:sumL B M<4611686018427387904):Ev1 (λk=>CF k yi qX [inj (.ref 29) (some d),Ci F,Ct B]) ((sumL B M:Int),F,B):=by
 refine Ev1.step (λk=>(rfl:CF (k+1) yi qX [inj (.ref 29) (some d),Ci F,Ct B]=zh (some d) F B)) (Ev1.const ?_);show(bif allS (F.getD d [])then some (oZ B (F.getD d []),F,B)else none)=_;rw[hM,ha,NH,wX B M hs]
theorem Fl (M:MF)(hM:F.getD d []=M)(hl:M.length<=3)(hn:nodI (M.map (·.1))=true):Ev1 (λk=>CF k uL oi [inj (.ref 29) (some d),Ci F]) (hZ (M.map (·.1)),F):=by
 refine Ev1.step (λk=>(rfl:CF (k+1) uL oi [inj (.ref 29) (some d),Ci F]=xp (some d) F)) (Ev1.const ?_);show(bif Nat.ble (F.getD d []).length 3&&nodI ((F.getD d []).map (·.1))then some (hZ ((F.getD d []).map (·.1)),F)else none)=_;rw[hM,hn,On hl];rfl
section
variable {M:MF} {name:Int} {b:List Int}
end
theorem EU (h:Dk F R L S d){M:MF}(hM:F.getD d []=M){name:Int}{g:Nat}(hg:aO none M name=some g):
  Ev1 (λk=>CF k gQ cT [inj (.ref 29) (some d),inj (.int .i64) name,Ci F,Ck L,Cl S]) (none,F.set d (cx M name),L,S):=by
 refine Ev1.step (λk=>mn k (some d) name F L S) (Ev1.pos rfl (Ev1.neg h.stop (Ev1.pos rfl ?_)));simp only[NN];rw[hM,hg];exact Ev1.neg rfl (Ev1.bind (Hq h) (Ev1.neg rfl (Ev1.pos rfl (Ev1.now _))))
theorem qD {M:MF}(hM:F.getD d []=M){name:Int}(hg:aO none M name=none):
  Ev1 (λk=>CF k rX gz [inj (.ref 29) (some d),inj (.int .i64) name,Ci F,Ct B]) ([],false,F,B):=by
 refine Ev1.step (λk=>yK k (some d) name F B _ rfl) (Ev1.pos rfl ?_);simp only[NN];subst hM;simp only[hg];exact Ev1.pos rfl (Ev1.now _)
theorem kj {M:MF}(hM:F.getD d []=M){name:Int}{g:Nat}(hg:aO none M name=some g)(hl:(B.getD g []).length<=1000000):
  Ev1 (λk=>CF k rX gz [inj (.ref 29) (some d),inj (.int .i64) name,Ci F,Ct B]) (B.getD g [],true,F,B):=by
 refine Ev1.step (λk=>yK k (some d) name F B _ rfl) (Ev1.pos rfl ?_);simp only[NN];subst hM;simp only[hg];exact Ev1.neg rfl (Ev1.pos rfl (Ev1.posD (by simp only[NN];omega) (Ev1.now _)))
theorem GY (n:Int):Ev1 (λk=>CF k Ge qW [inj (.int .i64) n,Ci F,Cj R,Ck L,Cl S]) (some F.length,F++[[]],R++[maxI 0 (minI n 262144)],L++[-1],S++[false]):=Ev1.step (λk=>GD k n F R L S) (Ev1.now _)
end
end Go.Eng.Top
namespace Go.Eng.LCrc
open Go.Eng
theorem JU (a b:BitVec 32):b7 .u32 .xor (a.toNat:Int) (b.toNat:Int)=((a ^^^ b).toNat:Int):=by
 have h1:BitVec.ofInt 32 (a.toNat:Int)=a:=by rw[Qo,QA,QB]
 have h2:BitVec.ofInt 32 (b.toNat:Int)=b:=by rw[Qo,QA,QB]
 show IntKind.u32.wrap ((BitVec.ofInt 32 (a.toNat:Int) ^^^ BitVec.ofInt 32 (b.toNat:Int)).toNat:Int)=_;rw[h1,h2];have:=(a ^^^ b).isLt;have hw:IntKind.u32.wrap ((a ^^^ b).toNat:Int)=((a ^^^ b).toNat:Int)%4294967296:=by simp[IntKind.wrap,IntKind.bits,IntKind.signed]
 rw[hw];omega
theorem Lw (a:BitVec 32)(c:Int):b7 .u32 .xor (a.toNat:Int) (c%4294967296)=((a ^^^ BitVec.ofInt 32 c).toNat:Int):=by
 rw[<- JU];congr 1;rw[Ps];omega
theorem Lr (a:BitVec 32):b7 .u32 .and (a.toNat:Int) 1=(a.toNat:Int)%2:=by
 have h1:BitVec.ofInt 32 (a.toNat:Int)=a:=by rw[Qo,QA,QB]
 show IntKind.u32.wrap ((BitVec.ofInt 32 (a.toNat:Int) &&& BitVec.ofInt 32 1).toNat:Int)=_;rw[h1];have h2:(a &&& BitVec.ofInt 32 1).toNat=a.toNat%2:=by
  rw[QK,show(BitVec.ofInt 32 1).toNat=1 from rfl,Rg]
 rw[h2];have hw:∀x:Int,IntKind.u32.wrap x=x%4294967296:=λx=>by simp[IntKind.wrap,IntKind.bits,IntKind.signed]
 rw[hw];omega
def P:BitVec 32:=3988292384#32
def R (x:BitVec 32):BitVec 32:=(x >>> 1) ^^^ (if x.getLsbD 0=true then P else 0#32)
def Rn:Nat->BitVec 32->BitVec 32
 |0,x=>x
 |n+1,x=>Rn n (R x)
def stp (r:BitVec 32)(c:Int):BitVec 32:=Rn 8 (r ^^^ BitVec.ofInt 32 c)
def fold (r:BitVec 32)(l:List Int):BitVec 32:=l.foldl stp r
def pC (l:List Int):Int:=((~~~ fold (BitVec.allOnes 32) l).toNat:Int)
theorem Bh (l:List Int):0<=pC l/\pC l<4294967296:=by unfold pC;have:=(~~~ fold (BitVec.allOnes 32) l).isLt;omega
theorem half (x:BitVec 32):Int.ofNat x.toNat/(2:Int)=Int.ofNat (x >>> 1).toNat:=by
 rw[BitVec.toNat_ushiftRight,Nat.shiftRight_eq_div_pow];simp only[Int.ofNat_eq_natCast];omega
theorem lsb (x:BitVec 32):x.getLsbD 0=true ↔ (x.toNat:Int)%2=1:=by
 rw[BitVec.getLsbD,Nat.testBit_zero];simp;omega
theorem Nw {x:BitVec 32}(h:(x.toNat:Int)%2=1):b7 .u32 .xor ((x.toNat:Int)/2) 3988292384=((R x).toNat:Int):=by
 have hh:(x.toNat:Int)/(2:Int)=((x >>> 1).toNat:Int):=half x;rw[hh,show(3988292384:Int)=(P.toNat:Int) from rfl,JU];unfold R;rw[NI ((lsb x).2 h)]
theorem M3 {x:BitVec 32}(h:¬ (x.toNat:Int)%2=1):(x.toNat:Int)/2=((R x).toNat:Int):=by
 have hh:(x.toNat:Int)/(2:Int)=((x >>> 1).toNat:Int):=half x;rw[hh];unfold R;rw[ND (λhh=>h ((lsb x).1 hh))];simp
theorem Na (x:BitVec 32):b7 .u32 .xor 4294967295 (x.toNat:Int)=((~~~ x).toNat:Int):=by
 rw[show(4294967295:Int)=((BitVec.allOnes 32).toNat:Int) from rfl,JU,Qz]
theorem GS {l:List Int}{i:Nat}(h:i<l.length):l.drop i=l[i]::l.drop (i+1):=Ob h
end Go.Eng.LCrc
