/- Definitions and lemmas for the law TopBank: what the program's functions come to. Conditions: as each lemma says. -/
import Derived.Test.YtbbnmhmfdbcmhaaGreatDoorG2
import Derived.Test.YtbbnmhmfdbcmhaaGreatDoorProg
set_option linter.all false
set_option linter.unusedVariables false
set_option linter.unusedSimpArgs false
set_option linter.deprecated false
namespace Go.Eng.Top
open Go.Proofs Go.Eng
abbrev qB:K:=(.slice (.int .u8))
abbrev qI:K:=(.int .i64)
abbrev KReply:K:=(.strct (.prod qI qI))
abbrev KAccount:K:=(.strct (.prod qI (.prod qI qI)))
abbrev KRequest:K:=(.strct (.prod qI (.prod qI (.prod qI (.prod qI (.prod qI (.prod qI qI)))))))
abbrev KPayment:K:=(.strct (.prod qI (.prod qI (.prod qI (.prod qI (.prod qI (.prod qI (.prod qI qI))))))))
abbrev KSaid:K:=(.strct (.prod KRequest KReply))
abbrev KEvent:K:=(.strct (.prod qI (.prod KRequest (.prod qI .bool))))
abbrev KKnown:K:=(.strct (.prod KRequest (.prod KReply .bool)))
abbrev KSaga:K:=(.strct (.prod KRequest (.prod qI (.prod qI (.prod qI qI)))))
abbrev KState:K:=(.strct (.prod (.slice KAccount) (.prod (.slice KPayment) (.prod (.slice KSaga) (.prod (.slice KKnown) qI)))))
abbrev Kmachine:K:=(.strct KState)
def aOwn:Nat->List Bool:=fun f=>match f with
 | 22=>[true]
 | 29=>[true]
 | 37=>[true]
 | 67=>[true]
 | 96=>[true]
 | 113=>[true]
 | 151=>[true]
 | 157=>[true,false]
 | _=>[]
def aMv:Nat->List Bool:=fun f=>match f with
 | 96=>[true,false]
 | _=>[]
def aProm:Nat->List Nat:=fun f=>match f with
 | 22=>[3]
 | 27=>[3]
 | 29=>[1]
 | 34=>[5]
 | 37=>[1]
 | 48=>[3]
 | 53=>[5]
 | 67=>[3]
 | 80=>[3]
 | 83=>[6]
 | 112=>[3]
 | 113=>[4]
 | 162=>[7]
 | _=>[]
def aNils:Nat->List Nat:=fun f=>match f with
 | 6=>[13]
 | 9=>[2]
 | 14=>[2]
 | 16=>[5]
 | 20=>[8]
 | 22=>[2]
 | 27=>[2]
 | 29=>[0]
 | 33=>[2]
 | 37=>[0]
 | 39=>[9]
 | 48=>[2]
 | 53=>[4]
 | 56=>[4]
 | 59=>[6]
 | 66=>[2]
 | 67=>[2]
 | 68=>[2]
 | 70=>[2]
 | 79=>[2]
 | 80=>[2]
 | 83=>[2]
 | 96=>[4]
 | 97=>[2]
 | 98=>[2]
 | 104=>[4]
 | 110=>[2]
 | 111=>[3]
 | 112=>[2]
 | 113=>[2]
 | 133=>[6]
 | 136=>[6]
 | 137=>[6]
 | 146=>[3]
 | 147=>[3]
 | 151=>[2]
 | 157=>[6]
 | 158=>[4]
 | 162=>[4,5]
 | _=>[]
def aKeep:Nat->Nat->List Nat:=fun f b=>match f,b with
 | 3,0=>[4,5,21,22,23,1050240,1050241,1050242,1050243,1050244,1050245,1050246,1050251,1050432,1050433,1050434,1050435,1050496,1050497,1054912,1054913,1054914,1054915,1054916,1062592,1062593]
 | 7,0=>[1,5,6,20,21,22,1050240,1050241,1050242,1050243,1050244,1050245,1050246,1050251,1050432,1050433,1050434,1050435,1050496,1050497,1054912,1054913,1054914,1054915,1054916,1062592,1062593]
 | 7,2=>[1,5,6,8,9,20,21,22,1050240,1050241,1050242,1050243,1050244,1050245,1050246,1050251,1050432,1050433,1050434,1050435,1050496,1050497,1054912,1054913,1054914,1054915,1054916,1062592,1062593]
 | 11,0=>[2,3,21,22]
 | 13,0=>[0,5,11,12,13,1050240,1050241,1050242,1050243,1050244,1050245,1050246,1050251,1050432,1050433,1050434,1050435,1050496,1050497,1054912,1054913,1054914,1054915,1054916,1062592,1062593]
 | 22,0=>[0,3,4]
 | 25,0=>[1,2,17,18,19]
 | 27,0=>[0,3]
 | 29,0=>[1,2]
 | 29,2=>[1,3]
 | 34,0=>[0,1,5,18,19,20,1050432,1050433,1050434,1050435,1054912,1054913,1054915,1054916,1062592,1062593]
 | 34,2=>[0,47,48,49,1050432,1050433,1050434,1050435,1054912,1054913,1054915,1054916,1062592,1062593]
 | 37,0=>[1,3]
 | 37,2=>[1,2,3,6]
 | 38,0=>[1,7,8,9]
 | 46,0=>[0,6,42,43,44,1050432,1050434,1050435,1050496,1050497,1054912,1054913,1054914,1054915,1054916,1062592,1062593]
 | 48,0=>[3,7,8,9]
 | 52,0=>[0,43,44,45,1050240,1050241,1050243,1050244,1050245,1050246,1050251,1050432,1050434,1050435,1050496,1050497,1054912,1054913,1054914,1054915,1054916,1062592,1062593]
 | 53,0=>[0,1,5,9,10,11]
 | 58,0=>[4,6,7,9,11,12,13,14]
 | 61,0=>[2,3,30,31]
 | 62,0=>[0,1,12,13]
 | 66,0=>[1,3,20,21,22]
 | 66,2=>[1,3,43,44,45]
 | 66,4=>[1,3,76,77,78]
 | 66,6=>[3,106,107,108]
 | 67,0=>[3,6,7,8]
 | 76,0=>[0,4,67,68,69,1050432,1050434,1050435,1054912,1054913,1054914,1054915,1054916,1062592,1062593]
 | 78,0=>[2,4,5,15,16]
 | 78,2=>[2,4,5,32,33]
 | 78,4=>[2,4,5,72,73]
 | 78,6=>[2,4,5,106,107]
 | 80,0=>[0,3,9,10,11,1054915]
 | 82,0=>[0,1,12,1050432,1050434,1050435,1062592,1062593]
 | 83,0=>[3,9,10,11]
 | 83,2=>[3,6]
 | 93,0=>[0,1,12,13]
 | 94,0=>[1,8,9,10]
 | 96,0=>[0,5]
 | 99,0=>[3,6,7,8]
 | 111,0=>[0,5,6]
 | 112,0=>[0,3,9,1050432]
 | 113,0=>[0,4,5]
 | 120,0=>[13,14,15]
 | 132,0=>[0,7,8,9]
 | 138,0=>[0,10]
 | 139,0=>[0,3,10,1050432,1062592]
 | 158,0=>[6,20,21,22]
 | 158,2=>[6,48,49,50]
 | 162,0=>[0,1,7]
 | 164,0=>[0,5,13,14,15]
 | _,_=>[]
def aCut:Nat->Nat->Option (List Nat):=fun f b=>match f,b with
 | 7,11=>some [1,5,6,8,20,21,22,1050240,1050241,1050242,1050243,1050244,1050245,1050246,1050251,1050432,1050433,1050434,1050435,1050496,1050497,1054912,1054913,1054914,1054915,1054916,1062592,1062593]
 | 7,13=>some [1,5,6,8,20,21,22,1050240,1050241,1050242,1050243,1050244,1050245,1050246,1050251,1050432,1050433,1050434,1050435,1050496,1050497,1054912,1054913,1054914,1054915,1054916,1062592,1062593]
 | 7,18=>some [1,5,6,8,9,20,21,22,1050240,1050241,1050242,1050243,1050244,1050245,1050246,1050251,1050432,1050433,1050434,1050435,1050496,1050497,1054912,1054913,1054914,1054915,1054916,1062592,1062593]
 | 7,19=>some [1,5,6,8,20,21,22,1050240,1050241,1050242,1050243,1050244,1050245,1050246,1050251,1050432,1050433,1050434,1050435,1050496,1050497,1054912,1054913,1054914,1054915,1054916,1062592,1062593]
 | 8,4=>some [1,1050240,1050241,1050242,1050243,1050244,1050245,1050246,1050251,1050432,1050433,1050434,1050435,1050496,1050497,1054912,1054913,1054914,1054915,1054916,1062592,1062593]
 | 11,3=>some [2,3]
 | 15,12=>some [0,4,5,6,8,1050432,1050433,1050434,1050435,1050496,1050497,1054912,1054913,1054914,1054915,1054916,1062592,1062593]
 | 20,9=>some [0,1,2,3]
 | 20,15=>some [1,2,3,14,15,16,17]
 | 26,13=>some [4,6,7,11,13,14,15]
 | 46,10=>some [0,4,6,1050432,1050434,1050435,1050496,1050497,1054912,1054913,1054914,1054915,1054916,1062592,1062593]
 | 55,3=>some [1]
 | 55,5=>some [1]
 | 58,11=>some [4,6,7,9,11,13,14]
 | 58,16=>some [4,6,7,9,11,13,14]
 | 61,3=>some [2,3]
 | 63,9=>some [0,4,5]
 | 64,16=>some [0,4,5,6]
 | 76,7=>some [0,4,7,1050432,1050434,1050435,1054912,1054913,1054914,1054915,1054916,1062592,1062593]
 | 76,10=>some [0,4,10,11,1050432,1050434,1050435,1054912,1054913,1054914,1054915,1054916,1062592,1062593]
 | 76,11=>some [0,4,1050432,1050434,1050435,1054912,1054913,1054914,1054915,1054916,1062592,1062593]
 | 81,9=>some [2,4,5]
 | 82,7=>some [0,1,5,7,12,1050432,1050434,1050435,1062592,1062593]
 | 96,7=>some [0,5]
 | 100,10=>some [0,2,7,8,1050432,1050433,1050434,1050435,1062592,1062593]
 | 110,6=>some [0,5]
 | 111,5=>some [0,5,6]
 | 111,7=>some [0,5,6,7]
 | 111,10=>some [0,5,6]
 | 114,10=>some [0,2,7,1050432,1050434,1050435,1062592,1062593]
 | 118,3=>some [1]
 | 120,3=>some [0]
 | 120,8=>some [3,4,13,14,15]
 | 127,7=>some [0,3,4]
 | 131,12=>some [0,3,4,6,8]
 | 140,3=>some [0,1050434,1050435]
 | 147,4=>some [2,5,6]
 | 153,3=>some [0,3,4,5]
 | 163,6=>some [2,3,6,8]
 | 164,8=>some [0,5,7,13,14,15]
 | 164,11=>some [0,5,7,10,13,14,15]
 | _,_=>none
def aCols:Nat->List Nat:=fun f=>match f with
 | 3=>[1050240,1050241,1050242,1050243,1050244,1050245,1050246,1050251,1050432,1050433,1050434,1050435,1050496,1050497,1054912,1054913,1054914,1054915,1054916,1062592,1062593]
 | 7=>[1050240,1050241,1050242,1050243,1050244,1050245,1050246,1050251,1050432,1050433,1050434,1050435,1050496,1050497,1054912,1054913,1054914,1054915,1054916,1062592,1062593]
 | 8=>[1050240,1050241,1050242,1050243,1050244,1050245,1050246,1050251,1050432,1050433,1050434,1050435,1050496,1050497,1054912,1054913,1054914,1054915,1054916,1062592,1062593]
 | 12=>[1050497]
 | 13=>[1050240,1050241,1050242,1050243,1050244,1050245,1050246,1050251,1050432,1050433,1050434,1050435,1050496,1050497,1054912,1054913,1054914,1054915,1054916,1062592,1062593]
 | 15=>[1050432,1050433,1050434,1050435,1050496,1050497,1054912,1054913,1054914,1054915,1054916,1062592,1062593]
 | 23=>[1050240,1050241,1050242,1050243,1050244,1050245,1050246,1050251,1050432,1050433,1050434,1050435,1050496,1050497,1054912,1054913,1054914,1054915,1054916,1062592,1062593]
 | 24=>[1050240,1050241,1050242,1050243,1050244,1050245,1050246,1050251,1050432,1050433,1050434,1050435,1050496,1050497,1054912,1054913,1054914,1054915,1054916,1062592,1062593]
 | 30=>[1054916]
 | 34=>[1050432,1050433,1050434,1050435,1054912,1054913,1054915,1054916,1062592,1062593]
 | 35=>[1050432,1050433,1050434,1050435,1050496,1050497,1054912,1054913,1054914,1054915,1054916,1062592,1062593]
 | 45=>[1050432,1050433,1050434,1050435]
 | 46=>[1050432,1050434,1050435,1050496,1050497,1054912,1054913,1054914,1054915,1054916,1062592,1062593]
 | 47=>[1050241,1050242,1050243,1050246,1050251,1050432,1050433,1050434,1050435,1050496,1050497,1054912,1054913,1054914,1054915,1054916,1062592,1062593]
 | 49=>[1050241,1050243,1050246,1050251,1050432,1050433,1050434,1050435,1050496,1050497,1054912,1054913,1054914,1054915,1054916,1062592,1062593]
 | 50=>[1050434]
 | 51=>[1050435]
 | 52=>[1050240,1050241,1050243,1050244,1050245,1050246,1050251,1050432,1050434,1050435,1050496,1050497,1054912,1054913,1054914,1054915,1054916,1062592,1062593]
 | 71=>[1050432,1050433,1050434,1050435,1054912,1054916,1062592,1062593]
 | 72=>[1050432,1050433,1050434,1050435,1054912,1054913,1054914,1054915,1054916,1062592,1062593]
 | 76=>[1050432,1050434,1050435,1054912,1054913,1054914,1054915,1054916,1062592,1062593]
 | 77=>[1054913]
 | 79=>[1054914]
 | 80=>[1054915]
 | 82=>[1050432,1050434,1050435,1062592,1062593]
 | 100=>[1050432,1050433,1050434,1050435,1062592,1062593]
 | 101=>[1054916]
 | 102=>[1050432,1050434,1050435,1062592,1062593]
 | 103=>[1050432,1050434,1050435]
 | 104=>[1050432,1062592]
 | 105=>[1050432,1050434,1050435]
 | 112=>[1050432]
 | 114=>[1050432,1050434,1050435,1062592,1062593]
 | 139=>[1050432,1062592]
 | 140=>[1050434,1050435]
 | _=>[]
def aMan:Nat->List (Nat × Mode × K):=fun f=>match f with
 | 26=>[(0,.dat,(.ref 29)),(1,.dat,(.ref 30)),(2,.own,(.slice KSaid)),(3,.own,(.slice KEvent)),(4,.dat,qI),(5,.dat,.err),(6,.dat,KState),(11,.own,(.slice KEvent))]
 | 29=>[(0,.mp,(.slice (.prod qI (.ref 219)))),(1,.dat,qI),(2,.dat,qI),(3,.dat,.bool)]
 | 30=>[(0,.dat,(.ref 99)),(1,.dat,KState)]
 | 99=>[(0,.dat,(.ref 29)),(1,.dat,qI),(2,.dat,qB),(3,.own,(.slice qB)),(4,.dat,.bool)]
 | 219=>[(0,.own,qB),(1,.dat,qI)]
 | _=>[]
def aRecv:Nat->Nat:=fun f=>match f with
 | 63=>141
 | 64=>141
 | 65=>141
 | 86=>234
 | _=>0
def A:Ann:=⟨46,aOwn,aMv,aProm,aKeep,aNils,aCut,aCols,aMan,aRecv⟩
abbrev Ca (x:List (K.T (.ref 29))):AV:=.val false [.co 1050240 26 0 .dat (.ref 29) x]
abbrev Cb (x:List (K.T (.ref 30))):AV:=.val false [.co 1050241 26 1 .dat (.ref 30) x]
abbrev Cc (x:List (K.T (.slice KSaid))):AV:=.val false [.co 1050242 26 2 .own (.slice KSaid) x]
abbrev Cd (x:List (K.T (.slice KEvent))):AV:=.val false [.co 1050243 26 3 .own (.slice KEvent) x]
abbrev Ce (x:List (K.T qI)):AV:=.val false [.co 1050244 26 4 .dat qI x]
abbrev Cf (x:List (K.T .err)):AV:=.val false [.co 1050245 26 5 .dat .err x]
abbrev Cg (x:List (K.T KState)):AV:=.val false [.co 1050246 26 6 .dat KState x]
abbrev Ch (x:List (K.T (.slice KEvent))):AV:=.val false [.co 1050251 26 11 .own (.slice KEvent) x]
abbrev Cm (x:List (K.T (.ref 99))):AV:=.val false [.co 1050496 30 0 .dat (.ref 99) x]
abbrev Cn (x:List (K.T KState)):AV:=.val false [.co 1050497 30 1 .dat KState x]
abbrev Co (x:List (K.T (.ref 29))):AV:=.val false [.co 1054912 99 0 .dat (.ref 29) x]
abbrev Cp (x:List (K.T qI)):AV:=.val false [.co 1054913 99 1 .dat qI x]
abbrev Cq (x:List (K.T qB)):AV:=.val false [.co 1054914 99 2 .dat qB x]
abbrev Cr (x:List (K.T (.slice qB))):AV:=.val false [.co 1054915 99 3 .own (.slice qB) x]
abbrev Cs (x:List (K.T .bool)):AV:=.val false [.co 1054916 99 4 .dat .bool x]
abbrev Ci (x:List (K.T (.slice (.prod qI (.ref 219))))):AV:=.val false [.co 1050432 29 0 .mp (.slice (.prod qI (.ref 219))) x]
abbrev Cj (x:List (K.T qI)):AV:=.val false [.co 1050433 29 1 .dat qI x]
abbrev Ck (x:List (K.T qI)):AV:=.val false [.co 1050434 29 2 .dat qI x]
abbrev Cl (x:List (K.T .bool)):AV:=.val false [.co 1050435 29 3 .dat .bool x]
abbrev Ct (x:List (K.T qB)):AV:=.val false [.co 1062592 219 0 .own qB x]
abbrev Cu (x:List (K.T qI)):AV:=.val false [.co 1062593 219 1 .dat qI x]
abbrev X:Outer:=(XTop 36 83 139 112)
noncomputable abbrev CF:Nat->CallF:=callF Tryz.prog A X
set_option maxRecDepth 1000000
set_option maxHeartbeats 0
abbrev TReply:Type:=(Int) × Int
abbrev TAccount:Type:=(Int) × (Int) × Int
abbrev TRequest:Type:=(Int) × (Int) × (Int) × (Int) × (Int) × (Int) × Int
abbrev TPayment:Type:=(Int) × (Int) × (Int) × (Int) × (Int) × (Int) × (Int) × Int
abbrev TSaid:Type:=(TRequest) × TReply
abbrev TEvent:Type:=(Int) × (TRequest) × (Int) × Bool
abbrev TKnown:Type:=(TRequest) × (TReply) × Bool
abbrev TSaga:Type:=(TRequest) × (Int) × (Int) × (Int) × Int
abbrev TState:Type:=(List (TAccount)) × (List (TPayment)) × (List (TSaga)) × (List (TKnown)) × Int
abbrev Tmachine:Type:=TState
abbrev S1:Sig:=⟨[(false,(.ref 26))],[(.slice (.ref 29)),(.slice (.ref 30)),(.slice (.slice KSaid)),(.slice (.slice KEvent)),(.slice qI),(.slice .err),(.slice KState),(.slice (.slice KEvent)),(.slice (.slice (.prod qI (.ref 219)))),(.slice qI),(.slice qI),(.slice .bool),(.slice (.ref 99)),(.slice KState),(.slice (.ref 29)),(.slice qI),(.slice qB),(.slice (.slice qB)),(.slice .bool),(.slice qB),(.slice qI)]⟩
abbrev S2:Sig:=⟨[(false,.bool)],[(.slice (.ref 29)),(.slice (.ref 30)),(.slice (.slice KSaid)),(.slice (.slice KEvent)),(.slice qI),(.slice .err),(.slice KState),(.slice (.slice KEvent)),(.slice (.slice (.prod qI (.ref 219)))),(.slice qI),(.slice qI),(.slice .bool),(.slice (.ref 99)),(.slice KState),(.slice (.ref 29)),(.slice qI),(.slice qB),(.slice (.slice qB)),(.slice .bool),(.slice qB),(.slice qI)]⟩
abbrev S3:Sig:=⟨[(false,KReply)],[(.slice (.ref 30)),(.slice (.slice KEvent)),(.slice KState),(.slice (.slice KEvent)),(.slice (.slice (.prod qI (.ref 219)))),(.slice qI),(.slice qI),(.slice .bool),(.slice (.ref 99)),(.slice KState),(.slice (.ref 29)),(.slice qI),(.slice qB),(.slice (.slice qB)),(.slice .bool),(.slice qB),(.slice qI)]⟩
abbrev S4:Sig:=⟨[(false,KReply)],[(.slice (.slice (.prod qI (.ref 219)))),(.slice qI),(.slice qI),(.slice .bool),(.slice (.ref 99)),(.slice KState),(.slice (.ref 29)),(.slice qI),(.slice qB),(.slice (.slice qB)),(.slice .bool),(.slice qB),(.slice qI)]⟩
abbrev S5:Sig:=⟨[(false,.err)],[(.slice (.slice (.prod qI (.ref 219)))),(.slice qI),(.slice qI),(.slice .bool),(.slice (.ref 99)),(.slice KState),(.slice (.ref 29)),(.slice qI),(.slice qB),(.slice (.slice qB)),(.slice .bool),(.slice qB),(.slice qI)]⟩
abbrev S6:Sig:=⟨[(false,(.ref 30)),(false,.err)],[(.slice (.slice (.prod qI (.ref 219)))),(.slice qI),(.slice .bool),(.slice (.ref 99)),(.slice KState),(.slice (.ref 29)),(.slice qI),(.slice qB),(.slice (.slice qB)),(.slice .bool),(.slice qB),(.slice qI)]⟩
abbrev S7:Sig:=⟨[(false,.err)],[(.slice (.slice (.prod qI (.ref 219)))),(.slice qI),(.slice qI),(.slice .bool),(.slice (.ref 29)),(.slice qI),(.slice qB),(.slice (.slice qB)),(.slice .bool),(.slice qB),(.slice qI)]⟩
abbrev S8:Sig:=⟨[(false,(.ref 99)),(false,.err)],[(.slice (.slice (.prod qI (.ref 219)))),(.slice qI),(.slice .bool),(.slice (.ref 29)),(.slice qI),(.slice qB),(.slice (.slice qB)),(.slice .bool),(.slice qB),(.slice qI)]⟩
abbrev S9:Sig:=⟨[(false,.err)],[(.slice (.slice (.prod qI (.ref 219)))),(.slice qI),(.slice qI),(.slice .bool),(.slice (.ref 29)),(.slice qI),(.slice (.slice qB)),(.slice .bool),(.slice qB),(.slice qI)]⟩
abbrev S10:Sig:=⟨[(false,.err)],[(.slice (.slice (.prod qI (.ref 219)))),(.slice qI),(.slice qI),(.slice .bool),(.slice (.ref 29)),(.slice .bool),(.slice qB),(.slice qI)]⟩
abbrev S11:Sig:=⟨[(false,.err)],[(.slice (.slice (.prod qI (.ref 219)))),(.slice qI),(.slice qI),(.slice .bool),(.slice qB),(.slice qI)]⟩
abbrev S12:Sig:=⟨[(false,(.strct (.prod (.strct (.prod KReply (.prod KReply KReply))) (.prod (.strct (.prod KReply (.prod KReply KReply))) (.strct (.prod KReply (.prod KReply KReply)))))))],[]⟩
abbrev S13:Sig:=⟨[(false,.err)],[(.slice (.slice (.prod qI (.ref 219)))),(.slice qI),(.slice .bool),(.slice qB),(.slice qI)]⟩
abbrev S14:Sig:=⟨[(false,(.ref 29))],[(.slice (.slice (.prod qI (.ref 219)))),(.slice qI),(.slice qI),(.slice .bool)]⟩
abbrev S15:Sig:=⟨[(false,qB),(false,.bool)],[(.slice (.slice (.prod qI (.ref 219)))),(.slice qB)]⟩
abbrev S16:Sig:=⟨[(false,.err)],[(.slice (.slice (.prod qI (.ref 219)))),(.slice qI),(.slice .bool)]⟩
abbrev S17:Sig:=⟨[(false,qI)],[(.slice (.slice (.prod qI (.ref 219)))),(.slice qB)]⟩
abbrev S18:Sig:=⟨[(false,(.slice qI))],[(.slice (.slice (.prod qI (.ref 219))))]⟩
abbrev S20:Sig:=⟨[(false,(.slice qB))],[(.slice (.slice qB))]⟩
abbrev S21:Sig:=⟨[(false,qB),(false,qI),(false,.bool)],[]⟩
abbrev S25:Sig:=⟨[(false,KPayment),(false,KPayment),(false,.err)],[Kmachine]⟩
abbrev S26:Sig:=⟨[(true,(.slice qB)),(false,qI)],[]⟩
abbrev S27:Sig:=⟨[(false,qI),(false,qI),(false,.err)],[]⟩
abbrev S28:Sig:=⟨[(false,qB)],[(.slice qB)]⟩
abbrev S29:Sig:=⟨[(false,KState),(false,KReply),(false,qI)],[]⟩
abbrev S30:Sig:=⟨[(false,.bool)],[(.slice qI),(.slice .bool)]⟩
abbrev S31:Sig:=⟨[(true,(.slice KReply)),(false,.err)],[Kmachine]⟩
abbrev S32:Sig:=⟨[(false,qB),(false,.bool)],[]⟩
abbrev S33:Sig:=⟨[(false,(.slice KAccount)),(false,.err)],[]⟩
abbrev S34:Sig:=⟨[(false,qI)],[(.slice qI)]⟩
abbrev S35:Sig:=⟨[(false,(.slice KKnown)),(false,.err)],[]⟩
abbrev S36:Sig:=⟨[(false,(.slice KReply)),(false,.err)],[]⟩
abbrev S37:Sig:=⟨[(false,qI),(false,.bool)],[]⟩
abbrev S38:Sig:=⟨[(false,qI),(false,.err)],[]⟩
abbrev S39:Sig:=⟨[(false,KPayment),(false,.bool)],[]⟩
abbrev S40:Sig:=⟨[(false,KState),(false,KReply)],[]⟩
abbrev S41:Sig:=⟨[(false,KPayment),(false,.err)],[]⟩
abbrev S42:Sig:=⟨[(false,KReply),(false,.bool)],[]⟩
abbrev S43:Sig:=⟨[(false,KEvent),(false,.bool)],[]⟩
abbrev S44:Sig:=⟨[(false,KState),(false,.bool)],[]⟩
abbrev S45:Sig:=⟨[(false,KState),(false,.err)],[]⟩
abbrev S46:Sig:=⟨[(false,KState)],[(.slice KState)]⟩
abbrev S47:Sig:=⟨[(false,(.slice qI))],[]⟩
abbrev S48:Sig:=⟨[(false,.bool)],[(.slice .bool)]⟩
abbrev S49:Sig:=⟨[(false,qB)],[]⟩
abbrev S50:Sig:=⟨[(false,.err)],[(.slice .bool)]⟩
abbrev S52:Sig:=⟨[(true,qB)],[]⟩
abbrev S53:Sig:=⟨[(true,(.slice KAccount))],[]⟩
abbrev S55:Sig:=⟨[(false,(.slice KEvent))],[]⟩
abbrev S56:Sig:=⟨[(false,KReply)],[Kmachine]⟩
abbrev S57:Sig:=⟨[(true,(.slice KReply))],[]⟩
abbrev S59:Sig:=⟨[(false,.bool)],[Kmachine]⟩
abbrev S60:Sig:=⟨[(false,qI)],[]⟩
abbrev S61:Sig:=⟨[(false,(.int .u32))],[]⟩
abbrev YF:Type:=List (List ((Int) × Option Nat))
abbrev YR:Type:=List (List (List (Int)))
abbrev YE:Type:=List (List (TEvent))
abbrev YS:Type:=List (List (TSaid))
abbrev YB:Type:=List (List (Int))
abbrev YO:Type:=List (Option Nat)
abbrev YI:Type:=List (Option Int)
abbrev YT:Type:=List (TState)
abbrev YL:Type:=List (Bool)
abbrev YN:Type:=List (Int)
abbrev YA:Type:=List (TAccount)
abbrev YP:Type:=List (TPayment)
abbrev YG:Type:=List (TSaga)
abbrev YK:Type:=List (TKnown)
abbrev Z0:Sig:=⟨[(false,.bool)],[]⟩
abbrev Z1:Sig:=⟨[(false,KSaga)],[]⟩
abbrev Z2:Sig:=⟨[(false,KReply)],[]⟩
abbrev Z3:Sig:=⟨[],[(.slice (.ref 29)),(.slice (.ref 30)),(.slice (.slice KEvent)),(.slice qI),(.slice .err),(.slice KState),(.slice (.slice KEvent)),(.slice (.slice (.prod qI (.ref 219)))),(.slice qI),(.slice .bool),(.slice (.ref 99)),(.slice KState),(.slice (.ref 29)),(.slice qI),(.slice qB),(.slice (.slice qB)),(.slice .bool),(.slice qB),(.slice qI)]⟩
abbrev Z4:Sig:=⟨[],[(.slice (.ref 29)),(.slice (.ref 30)),(.slice (.slice KSaid)),(.slice (.slice KEvent)),(.slice qI),(.slice .err),(.slice KState),(.slice (.slice KEvent)),(.slice (.slice (.prod qI (.ref 219)))),(.slice qI),(.slice qI),(.slice .bool),(.slice (.ref 99)),(.slice KState),(.slice (.ref 29)),(.slice qI),(.slice qB),(.slice (.slice qB)),(.slice .bool),(.slice qB),(.slice qI)]⟩
abbrev Z5:Sig:=⟨[(false,KState)],[]⟩
abbrev Z6:Sig:=⟨[(false,.fn)],[]⟩
abbrev Z7:Sig:=⟨[],[(.slice (.ref 30)),(.slice (.slice KSaid)),(.slice (.slice KEvent)),(.slice KState),(.slice (.slice KEvent)),(.slice (.slice (.prod qI (.ref 219)))),(.slice qI),(.slice qI),(.slice .bool),(.slice (.ref 99)),(.slice KState),(.slice (.ref 29)),(.slice qI),(.slice qB),(.slice (.slice qB)),(.slice .bool),(.slice qB),(.slice qI)]⟩
abbrev R1:Type:=(Option Nat) × YO × YO × YS × YE × YN × YI × YT × YE × YF × YN × YN × YL × YO × YT × YO × YN × YB × YR × YL × YB × YN
abbrev R2:Type:=Bool × YO × YO × YS × YE × YN × YI × YT × YE × YF × YN × YN × YL × YO × YT × YO × YN × YB × YR × YL × YB × YN
abbrev R3:Type:=YO × YO × YS × YE × YN × YI × YT × YE × YF × YN × YN × YL × YO × YT × YO × YN × YB × YR × YL × YB × YN
abbrev R4:Type:=YO × YO × YE × YN × YI × YT × YE × YF × YN × YL × YO × YT × YO × YN × YB × YR × YL × YB × YN
abbrev R5:Type:=YO × YS × YE × YT × YE × YF × YN × YN × YL × YO × YT × YO × YN × YB × YR × YL × YB × YN
abbrev R6:Type:=TReply × YO × YE × YT × YE × YF × YN × YN × YL × YO × YT × YO × YN × YB × YR × YL × YB × YN
abbrev R7:Type:=(Option Nat) × (Option Int) × YF × YN × YL × YO × YT × YO × YN × YB × YR × YL × YB × YN
abbrev R8:Type:=(Option Int) × YF × YN × YN × YL × YO × YT × YO × YN × YB × YR × YL × YB × YN
abbrev R9:Type:=TReply × YF × YN × YN × YL × YO × YT × YO × YN × YB × YR × YL × YB × YN
abbrev R10:Type:=(Option Nat) × (Option Int) × YF × YN × YL × YO × YN × YB × YR × YL × YB × YN
abbrev R11:Type:=(Option Int) × YF × YN × YN × YL × YO × YN × YB × YR × YL × YB × YN
abbrev R12:Type:=(Option Int) × YF × YN × YN × YL × YO × YN × YR × YL × YB × YN
abbrev R13:Type:=(Option Int) × YF × YN × YN × YL × YO × YL × YB × YN
abbrev R14:Type:=(Option Int) × YF × YN × YN × YL × YB × YN
abbrev R15:Type:=(Option Int) × YF × YN × YL × YB × YN
abbrev R17:Type:=(((TReply) × (TReply) × TReply) × ((TReply) × (TReply) × TReply) × (TReply) × (TReply) × TReply)
abbrev R18:Type:=(Option Nat) × YF × YN × YN × YL
abbrev R19:Type:=(Option Int) × YF × YN × YL
abbrev R20:Type:=YN × Bool × YF × YB
abbrev R21:Type:=Int × YF × YB
abbrev n_tB:Nat:=7
abbrev n_oD_open:Nat:=124
abbrev n_oD_deposit:Nat:=125
abbrev n_oD_transfer:Nat:=126
abbrev n_oD_auth:Nat:=127
abbrev n_oD_capture:Nat:=128
abbrev n_oD_void:Nat:=129
abbrev n_oD_refund:Nat:=130
abbrev n_oD_charge:Nat:=131
abbrev n_payment_capture:Nat:=181
abbrev n_payment_refund:Nat:=182
abbrev n_payment_charge:Nat:=183
abbrev n_payment_shut:Nat:=184
abbrev n_tw:Nat:=8
abbrev n_top_acts:Nat:=9
abbrev n_dE_State:Nat:=12
abbrev n_s17:Nat:=11
abbrev n_wO:Nat:=23
abbrev n_ops_New:Nat:=17
abbrev n_wW_Act:Nat:=24
abbrev n_ops_Tick:Nat:=25
abbrev n_bank_Do:Nat:=26
abbrev n_keys_Ask:Nat:=18
abbrev n_chart_Clone:Nat:=151
abbrev n_oD_take:Nat:=150
abbrev n_oD_clients:Nat:=132
abbrev n_chart_Number:Nat:=21
abbrev n_oD_post:Nat:=152
abbrev n_l_Hold:Nat:=133
abbrev n_oD_both:Nat:=153
abbrev n_ops_number:Nat:=154
abbrev n_eV:Nat:=20
abbrev n_l_Spend:Nat:=136
abbrev n_oD_pay:Nat:=155
abbrev n_payment_Left:Nat:=156
abbrev n_l_Release:Nat:=137
abbrev n_oD_back:Nat:=157
abbrev n_l_Post:Nat:=158
abbrev n_chart_Free:Nat:=159
abbrev n_payment_Gave:Nat:=145
abbrev n_law24_All:Nat:=14
abbrev n_wR:Nat:=13
abbrev n_sA:Nat:=27
abbrev n_law16_Same:Nat:=28
abbrev n_disk_Of:Nat:=45
abbrev n_dO:Nat:=46
abbrev n_wW_ask:Nat:=47
abbrev n_dD_Stopped:Nat:=51
abbrev n_wW_again:Nat:=52
abbrev n_engine_Waits:Nat:=48
abbrev n_wW_does:Nat:=49
abbrev n_dE_Keep:Nat:=35
abbrev n_dD_Arm:Nat:=50
abbrev n_due_By:Nat:=53
abbrev n_ops_Do:Nat:=54
abbrev n_rM:Nat:=55
abbrev n_keys_Put:Nat:=56
abbrev n_api_Number:Nat:=36
abbrev n_request_Long:Nat:=57
abbrev n_bw:Nat:=58
abbrev n_keys_Tell:Nat:=59
abbrev n_keys_Find:Nat:=38
abbrev n_chart_IsClient:Nat:=160
abbrev n_money_Amount:Nat:=42
abbrev n_pD:Nat:=163
abbrev n_chart_Of:Nat:=41
abbrev n_money_Rates:Nat:=44
abbrev n_money_Convert:Nat:=43
abbrev n_entry_Back:Nat:=22
abbrev n_entry_Balanced:Nat:=164
abbrev n_money_Add:Nat:=165
abbrev n_law24_Rich:Nat:=29
abbrev n_script_one:Nat:=60
abbrev n_s15:Nat:=61
abbrev n_law11_Same:Nat:=62
abbrev n_jO:Nat:=76
abbrev n_jJ_Turn:Nat:=77
abbrev n_jJ_Base:Nat:=79
abbrev n_codec_ReadState:Nat:=78
abbrev n_jJ_Records:Nat:=80
abbrev n_codec_ReadEvent:Nat:=81
abbrev n_engine_Do:Nat:=31
abbrev n_cS:Nat:=66
abbrev n_dE_Do:Nat:=15
abbrev n_jJ_Save:Nat:=72
abbrev n_due_All:Nat:=83
abbrev n_ops_by:Nat:=84
abbrev n_ops_Reserve:Nat:=85
abbrev n_saga_Begin:Nat:=87
abbrev n_saga_Ready:Nat:=88
abbrev n_bank_Legs_next:Nat:=86
abbrev n_saga_Leg:Nat:=89
abbrev n_ops_Settle:Nat:=90
abbrev n_saga_Turn:Nat:=91
abbrev n_ops_Undo:Nat:=92
abbrev n_payment_by:Nat:=168
abbrev n_money_Rate_right:Nat:=75
abbrev n_money_May:Nat:=169
abbrev n_law07_Same:Nat:=93
abbrev n_dD_Read:Nat:=104
abbrev n_frame_One:Nat:=110
abbrev n_dD_Names:Nat:=112
abbrev n_dD_Remove:Nat:=105
abbrev n_frame_Scan:Nat:=113
abbrev n_dD_Cut:Nat:=114
abbrev n_eM_submit:Nat:=63
abbrev n_eM_step:Nat:=64
abbrev n_eM_tick:Nat:=65
abbrev n_v_All:Nat:=67
abbrev n_v_Put:Nat:=96
abbrev n_request_Bytes:Nat:=68
abbrev n_request_Reply:Nat:=97
abbrev n_codec_flag:Nat:=69
abbrev n_jJ_Broken:Nat:=30
abbrev n_ds:Nat:=32
abbrev n_codec_Event:Nat:=33
abbrev n_jJ_Append:Nat:=34
abbrev n_frame_Make:Nat:=70
abbrev n_jJ_put:Nat:=71
abbrev n_dD_Rename:Nat:=103
abbrev n_jJ_fail:Nat:=101
abbrev n_saga_agree:Nat:=135
abbrev n_saga_refuse:Nat:=134
abbrev n_crc_Sum:Nat:=99
abbrev n_dD_works:Nat:=140
abbrev n_engine_Find:Nat:=94
abbrev n_eM_end:Nat:=95
abbrev n_request_numbers:Nat:=98
abbrev n_dD_Append:Nat:=100
abbrev n_dD_Sync:Nat:=102
abbrev n_crc_step:Nat:=138
abbrev n_dD_Used:Nat:=139
abbrev vf:=AV.val false
noncomputable section
def cl0:List Nat:=[1050240,1050241,1050242,1050243,1050244,1050245,1050246,1050251,1050432,1050433,1050434,1050435,1050496,1050497,1054912,1054913,1054914,1054915,1054916,1062592,1062593]
def cu0:List (Nat × AV):=[(1050240,.undef),(1050241,.undef),(1050242,.undef),(1050243,.undef),(1050244,.undef),(1050245,.undef),(1050246,.undef),(1050251,.undef),(1050432,.undef),(1050433,.undef),(1050434,.undef),(1050435,.undef),(1050496,.undef),(1050497,.undef),(1054912,.undef),(1054913,.undef),(1054914,.undef),(1054915,.undef),(1054916,.undef),(1062592,.undef),(1062593,.undef)]
def cw0 (ua:YO)(ub:YO)(uc:YS)(ud:YE)(ue:YN)(uf:YI)(ug:YT)(uh:YE)(ui:YF)(uj:YN)(uk:YN)(ul:YL)(um:YO)(un:YT)(uo:YO)(up:YN)(uq:YB)(ur:YR)(us:YL)(ut:YB)(uu:YN):List (Nat × Go.Eng.Obj):=[(1050240,.col 26 0 .dat (.ref 29) ua 0 none),(1050241,.col 26 1 .dat (.ref 30) ub 0 none),(1050242,.col 26 2 .own (.slice KSaid) uc 0 none),(1050243,.col 26 3 .own (.slice KEvent) ud 0 none),(1050244,.col 26 4 .dat qI ue 0 none),(1050245,.col 26 5 .dat .err uf 0 none),(1050246,.col 26 6 .dat KState ug 0 none),(1050251,.col 26 11 .own (.slice KEvent) uh 0 none),(1050432,.col 29 0 .mp (.slice (.prod qI (.ref 219))) ui 0 none),(1050433,.col 29 1 .dat qI uj 0 none),(1050434,.col 29 2 .dat qI uk 0 none),(1050435,.col 29 3 .dat .bool ul 0 none),(1050496,.col 30 0 .dat (.ref 99) um 0 none),(1050497,.col 30 1 .dat KState un 0 none),(1054912,.col 99 0 .dat (.ref 29) uo 0 none),(1054913,.col 99 1 .dat qI up 0 none),(1054914,.col 99 2 .dat qB uq 0 none),(1054915,.col 99 3 .own (.slice qB) ur 0 none),(1054916,.col 99 4 .dat .bool us 0 none),(1062592,.col 219 0 .own qB ut 0 none),(1062593,.col 219 1 .dat qI uu 0 none)]
abbrev hb (k:Nat):=headB Tryz.prog A (CF k) k
def h_tB (k m:Nat)(legs_:YL)(w_:Option Nat)(t20:List (TEvent))(t21:Int)(t22:Int)(s_:YA)(s_1:YP)(s_2:YG)(s_3:YK)(s_4:Int)(ua:YO)(ub:YO)(uc:YS)(ud:YE)(ue:YN)(uf:YI)(ug:YT)(uh:YE)(ui:YF)(uj:YN)(uk:YN)(ul:YL)(um:YO)(un:YT)(uo:YO)(up:YN)(uq:YB)(ur:YR)(us:YL)(ut:YB)(uu:YN):Option (R2):=hb k S2 7 cl0 [.r,.r,.r,.r,.l,.r,.l] m ⟨[(1,vf [.sl .bool legs_]),(5,vf [.ref 26 w_]),(6,vf [.ptr 6 0 0 []]),(20,vf [.sl KEvent t20]),(21,vf [.int .i64 t21]),(22,vf [.int .i64 t22])]++cu0,[(6,.box [.sl KAccount s_,.sl KPayment s_1,.sl KSaga s_2,.sl KKnown s_3,.int .i64 s_4])]++cw0 ua ub uc ud ue uf ug uh ui uj uk ul um un uo up uq ur us ut uu⟩
def h_tB_1 (k m1 m:Nat)(legs_:YL)(w_:Option Nat)(t20:List (TEvent))(t21:Int)(t22:Int)(s_:YA)(s_1:YP)(s_2:YG)(s_3:YK)(s_4:Int)(a_:Int)(a_1:Int)(a_2:Int)(a_3:Int)(a_4:Int)(a_5:Int)(a_6:Int)(a_7:Int)(a_8:Int)(a_9:Bool)(ua:YO)(ub:YO)(uc:YS)(ud:YE)(ue:YN)(uf:YI)(ug:YT)(uh:YE)(ui:YF)(uj:YN)(uk:YN)(ul:YL)(um:YO)(un:YT)(uo:YO)(up:YN)(uq:YB)(ur:YR)(us:YL)(ut:YB)(uu:YN):Option (R2):=hb k S2 7 cl0 [.r,.r,.r,.r,.l,.r,.l,.lp m1,.r,.r,.l,.l,.r,.r,.l,.l] m ⟨[(1,vf [.sl .bool legs_]),(5,vf [.ref 26 w_]),(6,vf [.ptr 6 0 0 []]),(8,vf [.ptr 8 0 0 []]),(20,vf [.sl KEvent t20]),(21,vf [.int .i64 t21]),(22,vf [.int .i64 t22])]++cu0,[(6,.box [.sl KAccount s_,.sl KPayment s_1,.sl KSaga s_2,.sl KKnown s_3,.int .i64 s_4]),(8,.box [.int .i64 a_,.int .i64 a_1,.int .i64 a_2,.int .i64 a_3,.int .i64 a_4,.int .i64 a_5,.int .i64 a_6,.int .i64 a_7,.int .i64 a_8,.bool a_9])]++cw0 ua ub uc ud ue uf ug uh ui uj uk ul um un uo up uq ur us ut uu⟩
def h_tB_2 (k m1 m:Nat)(legs_:YL)(w_:Option Nat)(t20:List (TEvent))(t21:Int)(t22:Int)(s_:YA)(s_1:YP)(s_2:YG)(s_3:YK)(s_4:Int)(a_:Int)(a_1:Int)(a_2:Int)(a_3:Int)(a_4:Int)(a_5:Int)(a_6:Int)(a_7:Int)(a_8:Int)(a_9:Bool)(ua:YO)(ub:YO)(uc:YS)(ud:YE)(ue:YN)(uf:YI)(ug:YT)(uh:YE)(ui:YF)(uj:YN)(uk:YN)(ul:YL)(um:YO)(un:YT)(uo:YO)(up:YN)(uq:YB)(ur:YR)(us:YL)(ut:YB)(uu:YN):Option (R2):=hb k S2 7 cl0 [.r,.r,.r,.r,.l,.r,.l,.lp m1,.r,.r,.l,.l,.r,.r,.r,.l,.l] m ⟨[(1,vf [.sl .bool legs_]),(5,vf [.ref 26 w_]),(6,vf [.ptr 6 0 0 []]),(8,vf [.ptr 8 0 0 []]),(20,vf [.sl KEvent t20]),(21,vf [.int .i64 t21]),(22,vf [.int .i64 t22])]++cu0,[(6,.box [.sl KAccount s_,.sl KPayment s_1,.sl KSaga s_2,.sl KKnown s_3,.int .i64 s_4]),(8,.box [.int .i64 a_,.int .i64 a_1,.int .i64 a_2,.int .i64 a_3,.int .i64 a_4,.int .i64 a_5,.int .i64 a_6,.int .i64 a_7,.int .i64 a_8,.bool a_9])]++cw0 ua ub uc ud ue uf ug uh ui uj uk ul um un uo up uq ur us ut uu⟩
def h_tB_3 (k m1 m:Nat)(legs_:YL)(w_:Option Nat)(n_:Int)(t20:List (TEvent))(t21:Int)(t22:Int)(s_:YA)(s_1:YP)(s_2:YG)(s_3:YK)(s_4:Int)(a_:Int)(a_1:Int)(a_2:Int)(a_3:Int)(a_4:Int)(a_5:Int)(a_6:Int)(a_7:Int)(a_8:Int)(a_9:Bool)(ua:YO)(ub:YO)(uc:YS)(ud:YE)(ue:YN)(uf:YI)(ug:YT)(uh:YE)(ui:YF)(uj:YN)(uk:YN)(ul:YL)(um:YO)(un:YT)(uo:YO)(up:YN)(uq:YB)(ur:YR)(us:YL)(ut:YB)(uu:YN):Option (R2):=hb k S2 7 cl0 [.r,.r,.r,.r,.l,.r,.l,.lp m1,.r,.r,.l,.l,.r,.r,.r,.r,.r,.l,.r,.l] m ⟨[(1,vf [.sl .bool legs_]),(5,vf [.ref 26 w_]),(6,vf [.ptr 6 0 0 []]),(8,vf [.ptr 8 0 0 []]),(9,vf [.int .i64 n_]),(20,vf [.sl KEvent t20]),(21,vf [.int .i64 t21]),(22,vf [.int .i64 t22])]++cu0,[(6,.box [.sl KAccount s_,.sl KPayment s_1,.sl KSaga s_2,.sl KKnown s_3,.int .i64 s_4]),(8,.box [.int .i64 a_,.int .i64 a_1,.int .i64 a_2,.int .i64 a_3,.int .i64 a_4,.int .i64 a_5,.int .i64 a_6,.int .i64 a_7,.int .i64 a_8,.bool a_9])]++cw0 ua ub uc ud ue uf ug uh ui uj uk ul um un uo up uq ur us ut uu⟩
def h_tB_4 (k m1 m2 m:Nat)(legs_:YL)(w_:Option Nat)(n_:Int)(t20:List (TEvent))(t21:Int)(t22:Int)(s_:YA)(s_1:YP)(s_2:YG)(s_3:YK)(s_4:Int)(a_:Int)(a_1:Int)(a_2:Int)(a_3:Int)(a_4:Int)(a_5:Int)(a_6:Int)(a_7:Int)(a_8:Int)(a_9:Bool)(ua:YO)(ub:YO)(uc:YS)(ud:YE)(ue:YN)(uf:YI)(ug:YT)(uh:YE)(ui:YF)(uj:YN)(uk:YN)(ul:YL)(um:YO)(un:YT)(uo:YO)(up:YN)(uq:YB)(ur:YR)(us:YL)(ut:YB)(uu:YN):Option (R2):=hb k S2 7 cl0 [.r,.r,.r,.r,.l,.r,.l,.lp m1,.r,.r,.l,.l,.r,.r,.r,.r,.r,.l,.r,.l,.lp m2,.r,.l,.l] m ⟨[(1,vf [.sl .bool legs_]),(5,vf [.ref 26 w_]),(6,vf [.ptr 6 0 0 []]),(8,vf [.ptr 8 0 0 []]),(9,vf [.int .i64 n_]),(20,vf [.sl KEvent t20]),(21,vf [.int .i64 t21]),(22,vf [.int .i64 t22])]++cu0,[(6,.box [.sl KAccount s_,.sl KPayment s_1,.sl KSaga s_2,.sl KKnown s_3,.int .i64 s_4]),(8,.box [.int .i64 a_,.int .i64 a_1,.int .i64 a_2,.int .i64 a_3,.int .i64 a_4,.int .i64 a_5,.int .i64 a_6,.int .i64 a_7,.int .i64 a_8,.bool a_9])]++cw0 ua ub uc ud ue uf ug uh ui uj uk ul um un uo up uq ur us ut uu⟩
def h_tB_5 (k m1 m:Nat)(legs_:YL)(w_:Option Nat)(t20:List (TEvent))(t21:Int)(t22:Int)(s_:YA)(s_1:YP)(s_2:YG)(s_3:YK)(s_4:Int)(a_:Int)(a_1:Int)(a_2:Int)(a_3:Int)(a_4:Int)(a_5:Int)(a_6:Int)(a_7:Int)(a_8:Int)(a_9:Bool)(ua:YO)(ub:YO)(uc:YS)(ud:YE)(ue:YN)(uf:YI)(ug:YT)(uh:YE)(ui:YF)(uj:YN)(uk:YN)(ul:YL)(um:YO)(un:YT)(uo:YO)(up:YN)(uq:YB)(ur:YR)(us:YL)(ut:YB)(uu:YN):Option (R2):=hb k S2 7 cl0 [.r,.r,.r,.r,.l,.r,.l,.lp m1,.r,.r,.l,.l,.r,.r,.r,.r,.r,.r,.l] m ⟨[(1,vf [.sl .bool legs_]),(5,vf [.ref 26 w_]),(6,vf [.ptr 6 0 0 []]),(8,vf [.ptr 8 0 0 []]),(20,vf [.sl KEvent t20]),(21,vf [.int .i64 t21]),(22,vf [.int .i64 t22])]++cu0,[(6,.box [.sl KAccount s_,.sl KPayment s_1,.sl KSaga s_2,.sl KKnown s_3,.int .i64 s_4]),(8,.box [.int .i64 a_,.int .i64 a_1,.int .i64 a_2,.int .i64 a_3,.int .i64 a_4,.int .i64 a_5,.int .i64 a_6,.int .i64 a_7,.int .i64 a_8,.bool a_9])]++cw0 ua ub uc ud ue uf ug uh ui uj uk ul um un uo up uq ur us ut uu⟩
def h_oD_auth (k m:Nat)(d_:YA)(d_1:YP)(d_2:YG)(d_3:YK)(d_4:Int)(r_:Int)(r_1:Int)(r_2:Int)(r_3:Int)(r_4:Int)(r_5:Int)(r_6:Int)(t4:Int)(t41:Int):Option (TReply × Tmachine):=hb k S56 127 [0] [.r,.r,.l] m ⟨[(0,vf [.ptr 0 0 0 []]),(3,vf [.ptr 3 0 0 []]),(4,vf [.ptr 4 0 0 []])],[(0,.box [.sl KAccount d_,.sl KPayment d_1,.sl KSaga d_2,.sl KKnown d_3,.int .i64 d_4]),(3,.box [.int .i64 r_,.int .i64 r_1,.int .i64 r_2,.int .i64 r_3,.int .i64 r_4,.int .i64 r_5,.int .i64 r_6]),(4,.box [.int .i64 t4,.int .i64 t41])]⟩
def h_oD_charge (k m:Nat)(d_:YA)(d_1:YP)(d_2:YG)(d_3:YK)(d_4:Int)(r_:Int)(r_1:Int)(r_2:Int)(r_3:Int)(r_4:Int)(r_5:Int)(r_6:Int)(t4:Int)(t41:Int)(q_:Int)(q_1:Int)(q_2:Int)(q_3:Int)(q_4:Int)(q_5:Int)(q_6:Int)(q_7:Int)(un:List (TReply)):Option (TReply × Tmachine):=hb k S56 131 [0] [.r,.r,.r,.r,.r,.r,.r,.l] m ⟨[(0,vf [.ptr 0 0 0 []]),(3,vf [.ptr 3 0 0 []]),(4,vf [.ptr 4 0 0 []]),(6,vf [.ptr 6 0 0 []]),(8,vf [.vw 8 0])],[(0,.box [.sl KAccount d_,.sl KPayment d_1,.sl KSaga d_2,.sl KKnown d_3,.int .i64 d_4]),(3,.box [.int .i64 r_,.int .i64 r_1,.int .i64 r_2,.int .i64 r_3,.int .i64 r_4,.int .i64 r_5,.int .i64 r_6]),(4,.box [.int .i64 t4,.int .i64 t41]),(6,.box [.int .i64 q_,.int .i64 q_1,.int .i64 q_2,.int .i64 q_3,.int .i64 q_4,.int .i64 q_5,.int .i64 q_6,.int .i64 q_7]),(8,.row KReply un 0 [] false)]⟩
def h_tw (k m:Nat)(w_:Option Nat)(ua:YO)(ub:YO)(uc:YS)(ud:YE)(ue:YN)(uf:YI)(ug:YT)(uh:YE)(ui:YF)(uj:YN)(uk:YN)(ul:YL)(um:YO)(un:YT)(uo:YO)(up:YN)(uq:YB)(ur:YR)(us:YL)(ut:YB)(uu:YN):Option (R2):=hb k S2 8 cl0 [.r,.r,.r,.l] m ⟨[(1,vf [.ref 26 w_])]++cu0,cw0 ua ub uc ud ue uf ug uh ui uj uk ul um un uo up uq ur us ut uu⟩
def h_s17 (k m:Nat)(a_:YA)(a_1:YP)(a_2:YG)(a_3:YK)(a_4:Int)(b_:YA)(b_1:YP)(b_2:YG)(b_3:YK)(b_4:Int):Option (Bool):=hb k Z0 11 [] [.r,.r,.l,.l] m ⟨[(2,vf [.ptr 2 0 0 []]),(3,vf [.ptr 3 0 0 []])],[(2,.box [.sl KAccount a_,.sl KPayment a_1,.sl KSaga a_2,.sl KKnown a_3,.int .i64 a_4]),(3,.box [.sl KAccount b_,.sl KPayment b_1,.sl KSaga b_2,.sl KKnown b_3,.int .i64 b_4])]⟩
def h_s17_1 (k m:Nat)(t21:Int)(t22:Int)(a_:YA)(a_1:YP)(a_2:YG)(a_3:YK)(a_4:Int)(b_:YA)(b_1:YP)(b_2:YG)(b_3:YK)(b_4:Int):Option (Bool):=hb k Z0 11 [] [.r,.r,.l,.r,.l] m ⟨[(2,vf [.ptr 2 0 0 []]),(3,vf [.ptr 3 0 0 []]),(21,vf [.int .i64 t21]),(22,vf [.int .i64 t22])],[(2,.box [.sl KAccount a_,.sl KPayment a_1,.sl KSaga a_2,.sl KKnown a_3,.int .i64 a_4]),(3,.box [.sl KAccount b_,.sl KPayment b_1,.sl KSaga b_2,.sl KKnown b_3,.int .i64 b_4])]⟩
def h_ops_Tick (k m:Nat)(t17:YN)(t18:Int)(t19:Int)(s_:YA)(s_1:YP)(s_2:YG)(s_3:YK)(s_4:Int)(t2:Int):Option (TState):=hb k Z5 25 [] [.r,.r,.r,.l,.r,.l] m ⟨[(1,vf [.ptr 1 0 0 []]),(2,vf [.ptr 2 0 0 []]),(17,vf [.sl qI t17]),(18,vf [.int .i64 t18]),(19,vf [.int .i64 t19])],[(1,.box [.sl KAccount s_,.sl KPayment s_1,.sl KSaga s_2,.sl KKnown s_3,.int .i64 s_4]),(2,.box [.nilS,.nilS,.nilS,.nilS,.int .i64 t2])]⟩
def h_bank_Do (k m:Nat)(ks_:YK)(n_:Int)(r_:Int)(r_1:Int)(r_2:Int)(r_3:Int)(r_4:Int)(r_5:Int)(r_6:Int)(t6:Int)(t7:Int)(t71:Int)(t_:YA)(t_1:YP)(t_2:YG)(t_3:YK)(t_4:Int)(out_:Int)(out_1:Int):Option (TState × TReply × Int):=hb k S29 26 [] [.r,.r,.r,.r,.r,.r,.r,.l] m ⟨[(4,vf [.ptr 4 0 0 []]),(6,vf [.ptr 6 0 0 []]),(7,vf [.ptr 7 0 0 []]),(11,vf [.sl KKnown ks_]),(13,vf [.ptr 13 0 0 []]),(14,vf [.ptr 14 0 0 []]),(15,vf [.int .i64 n_])],[(4,.box [.int .i64 r_,.int .i64 r_1,.int .i64 r_2,.int .i64 r_3,.int .i64 r_4,.int .i64 r_5,.int .i64 r_6]),(6,.box [.nilS,.nilS,.nilS,.nilS,.int .i64 t6]),(7,.box [.int .i64 t7,.int .i64 t71]),(13,.box [.sl KAccount t_,.sl KPayment t_1,.sl KSaga t_2,.sl KKnown t_3,.int .i64 t_4]),(14,.box [.int .i64 out_,.int .i64 out_1])]⟩
def h_oD_clients (k m:Nat)(t7:YN)(t8:Int)(t9:Int)(d_:YA)(d_1:YP)(d_2:YG)(d_3:YK)(d_4:Int):Option (Bool × Tmachine):=hb k S59 132 [0] [.r,.l,.r,.l] m ⟨[(0,vf [.ptr 0 0 0 []]),(7,vf [.sl qI t7]),(8,vf [.int .i64 t8]),(9,vf [.int .i64 t9])],[(0,.box [.sl KAccount d_,.sl KPayment d_1,.sl KSaga d_2,.sl KKnown d_3,.int .i64 d_4])]⟩
def h_oD_both (k m:Nat)(d_:YA)(d_1:YP)(d_2:YG)(d_3:YK)(d_4:Int)(r_:Int)(r_1:Int)(r_2:Int)(r_3:Int)(r_4:Int)(r_5:Int)(r_6:Int)(t4:Int)(t41:Int)(t42:Int)(t43:Int)(t44:Int)(t45:Int)(t46:Int)(t47:Int)(t5:Int)(t51:Int)(t52:Int)(t53:Int)(t54:Int)(t55:Int)(t56:Int)(t57:Int):Option (TPayment × TPayment × (Option Int) × Tmachine):=hb k S25 153 [0] [.r,.r,.l] m ⟨[(0,vf [.ptr 0 0 0 []]),(3,vf [.ptr 3 0 0 []]),(4,vf [.ptr 4 0 0 []]),(5,vf [.ptr 5 0 0 []])],[(0,.box [.sl KAccount d_,.sl KPayment d_1,.sl KSaga d_2,.sl KKnown d_3,.int .i64 d_4]),(3,.box [.int .i64 r_,.int .i64 r_1,.int .i64 r_2,.int .i64 r_3,.int .i64 r_4,.int .i64 r_5,.int .i64 r_6]),(4,.box [.int .i64 t4,.int .i64 t41,.int .i64 t42,.int .i64 t43,.int .i64 t44,.int .i64 t45,.int .i64 t46,.int .i64 t47]),(5,.box [.int .i64 t5,.int .i64 t51,.int .i64 t52,.int .i64 t53,.int .i64 t54,.int .i64 t55,.int .i64 t56,.int .i64 t57])]⟩
def h_eV (k m:Nat)(as_:YA)(from_:Int)(to_:Int)(amount_:Int):Option ((List (TReply)) × (Option Int)):=hb k S36 20 [] [.r,.r,.r,.r,.l] m ⟨[(0,vf [.sl KAccount as_]),(1,vf [.int .i64 from_]),(2,vf [.int .i64 to_]),(3,vf [.int .i64 amount_])],[]⟩
def h_eV_1 (k m:Nat)(from_:Int)(to_:Int)(amount_:Int)(a_:Int)(b_:Int)(x_:Int)(y_:Int):Option ((List (TReply)) × (Option Int)):=hb k S36 20 [] [.r,.r,.r,.r,.r,.r,.r,.r,.l] m ⟨[(1,vf [.int .i64 from_]),(2,vf [.int .i64 to_]),(3,vf [.int .i64 amount_]),(14,vf [.int .i64 a_]),(15,vf [.int .i64 b_]),(16,vf [.int .i64 x_]),(17,vf [.int .i64 y_])],[]⟩
def h_l_Post (k m:Nat)(t20:List (TReply))(t21:Int)(t22:Int)(out_:YA):Option (YA × (Option Int)):=hb k S33 158 [] [.r,.r,.r,.l,.r,.l] m ⟨[(6,vf [.vw 6 0]),(20,vf [.sl KReply t20]),(21,vf [.int .i64 t21]),(22,vf [.int .i64 t22])],[(6,.row KAccount out_ 0 [] false)]⟩
def h_l_Post_1 (k m:Nat)(t49:Int)(t50:Int)(out_:YA):Option (YA × (Option Int)):=hb k S33 158 [] [.r,.r,.r,.r,.l,.r,.l] m ⟨[(6,vf [.vw 6 0]),(48,vf [.vw 6 0]),(49,vf [.int .i64 t49]),(50,vf [.int .i64 t50])],[(6,.row KAccount out_ 0 [] false)]⟩
def h_wR (k m:Nat)(b_:YN)(w_:Option Nat)(t11:List (TEvent))(t12:Int)(t13:Int)(ua:YO)(ub:YO)(uc:YS)(ud:YE)(ue:YN)(uf:YI)(ug:YT)(uh:YE)(ui:YF)(uj:YN)(uk:YN)(ul:YL)(um:YO)(un:YT)(uo:YO)(up:YN)(uq:YB)(ur:YR)(us:YL)(ut:YB)(uu:YN):Option (R1):=hb k S1 13 cl0 [.r,.r,.l,.r,.l] m ⟨[(0,vf [.sl (.int .u8) b_]),(5,vf [.ref 26 w_]),(11,vf [.sl KEvent t11]),(12,vf [.int .i64 t12]),(13,vf [.int .i64 t13])]++cu0,cw0 ua ub uc ud ue uf ug uh ui uj uk ul um un uo up uq ur us ut uu⟩
def h_sA (k m:Nat)(b_:YN)(out_:List (TEvent)):Option ((List (TEvent))):=hb k S55 27 [] [.r,.r,.l,.l] m ⟨[(0,vf [.sl (.int .u8) b_]),(3,vf [.vw 3 0])],[(3,.row KEvent out_ 0 [] false)]⟩
def h_dO (k m:Nat)(d_:Option Nat)(j_:Option Nat)(x_:Nat)(ui:YF)(uk:YN)(ul:YL)(um:YO)(un:YT)(uo:YO)(up:YN)(uq:YB)(ur:YR)(us:YL)(ut:YB)(uu:YN):Option (R7):=hb k S6 46 [1050432,1050434,1050435,1050496,1050497,1054912,1054913,1054914,1054915,1054916,1062592,1062593] [.r,.r,.r,.r,.r,.l,.l] m ⟨[(0,vf [.ref 29 d_]),(4,vf [.ref 99 j_]),(6,vf [.rb 30 x_]),(1050432,.undef),(1050434,.undef),(1050435,.undef),(1050496,.undef),(1050497,.undef),(1054912,.undef),(1054913,.undef),(1054914,.undef),(1054915,.undef),(1054916,.undef),(1062592,.undef),(1062593,.undef)],[(1050432,.col 29 0 .mp (.slice (.prod qI (.ref 219))) ui 0 none),(1050434,.col 29 2 .dat qI uk 0 none),(1050435,.col 29 3 .dat .bool ul 0 none),(1050496,.col 30 0 .dat (.ref 99) um 0 none),(1050497,.col 30 1 .dat KState un 0 none),(1054912,.col 99 0 .dat (.ref 29) uo 0 none),(1054913,.col 99 1 .dat qI up 0 none),(1054914,.col 99 2 .dat qB uq 0 none),(1054915,.col 99 3 .own (.slice qB) ur 0 none),(1054916,.col 99 4 .dat .bool us 0 none),(1062592,.col 219 0 .own qB ut 0 none),(1062593,.col 219 1 .dat qI uu 0 none)]⟩
def h_dO_1 (k m:Nat)(d_:Option Nat)(x_:Nat)(t42:YB)(t43:Int)(t44:Int)(ui:YF)(uk:YN)(ul:YL)(um:YO)(un:YT)(uo:YO)(up:YN)(uq:YB)(ur:YR)(us:YL)(ut:YB)(uu:YN):Option (R7):=hb k S6 46 [1050432,1050434,1050435,1050496,1050497,1054912,1054913,1054914,1054915,1054916,1062592,1062593] [.r,.r,.r,.r,.r,.l,.r,.l] m ⟨[(0,vf [.ref 29 d_]),(6,vf [.rb 30 x_]),(42,vf [.sl qB t42]),(43,vf [.int .i64 t43]),(44,vf [.int .i64 t44]),(1050432,.undef),(1050434,.undef),(1050435,.undef),(1050496,.undef),(1050497,.undef),(1054912,.undef),(1054913,.undef),(1054914,.undef),(1054915,.undef),(1054916,.undef),(1062592,.undef),(1062593,.undef)],[(1050432,.col 29 0 .mp (.slice (.prod qI (.ref 219))) ui 0 none),(1050434,.col 29 2 .dat qI uk 0 none),(1050435,.col 29 3 .dat .bool ul 0 none),(1050496,.col 30 0 .dat (.ref 99) um 0 none),(1050497,.col 30 1 .dat KState un 0 none),(1054912,.col 99 0 .dat (.ref 29) uo 0 none),(1054913,.col 99 1 .dat qI up 0 none),(1054914,.col 99 2 .dat qB uq 0 none),(1054915,.col 99 3 .own (.slice qB) ur 0 none),(1054916,.col 99 4 .dat .bool us 0 none),(1062592,.col 219 0 .own qB ut 0 none),(1062593,.col 219 1 .dat qI uu 0 none)]⟩
def h_engine_Waits (k m:Nat)(t7:YG)(t8:Int)(t9:Int)(out_:YN):Option (YN):=hb k S47 48 [] [.r,.r,.l,.r,.l] m ⟨[(3,vf [.vw 3 0]),(7,vf [.sl KSaga t7]),(8,vf [.int .i64 t8]),(9,vf [.int .i64 t9])],[(3,.row qI out_ 0 [] false)]⟩
def h_due_By (k m:Nat)(ps_:YP)(now_:Int)(t9:YN)(t10:Int)(t11:Int)(out_:YN):Option (YN):=hb k S47 53 [] [.r,.r,.l,.r,.l] m ⟨[(0,vf [.sl KPayment ps_]),(1,vf [.int .i64 now_]),(5,vf [.vw 5 0]),(9,vf [.sl qI t9]),(10,vf [.int .i64 t10]),(11,vf [.int .i64 t11])],[(5,.row qI out_ 0 [] false)]⟩
def h_rM (k m:Nat)(r_:Int)(r_1:Int)(r_2:Int)(r_3:Int)(r_4:Int)(r_5:Int)(r_6:Int):Option (Bool):=hb k Z0 55 [] [.r,.r,.l,.l] m ⟨[(1,vf [.ptr 1 0 0 []])],[(1,.box [.int .i64 r_,.int .i64 r_1,.int .i64 r_2,.int .i64 r_3,.int .i64 r_4,.int .i64 r_5,.int .i64 r_6])]⟩
def h_rM_1 (k m:Nat)(r_:Int)(r_1:Int)(r_2:Int)(r_3:Int)(r_4:Int)(r_5:Int)(r_6:Int):Option (Bool):=hb k Z0 55 [] [.r,.r,.r,.l,.l] m ⟨[(1,vf [.ptr 1 0 0 []])],[(1,.box [.int .i64 r_,.int .i64 r_1,.int .i64 r_2,.int .i64 r_3,.int .i64 r_4,.int .i64 r_5,.int .i64 r_6])]⟩
def h_bw (k m:Nat)(n_:Int)(asked_:Int)(r_:Int)(r_1:Int)(r_2:Int)(r_3:Int)(r_4:Int)(r_5:Int)(r_6:Int)(t6:Int)(t7:Int)(t71:Int)(t_:YA)(t_1:YP)(t_2:YG)(t_3:YK)(t_4:Int)(ask_:YL)(g_:Int)(g_1:Int)(g_2:Int)(g_3:Int)(g_4:Int)(g_5:Int)(g_6:Int)(g_7:Int)(g_8:Int)(g_9:Int)(g_10:Int):Option (TState × TReply × Int):=hb k S29 58 [] [.r,.r,.r,.r,.r,.r,.r,.l,.l] m ⟨[(4,vf [.ptr 4 0 0 []]),(6,vf [.ptr 6 0 0 []]),(7,vf [.ptr 7 0 0 []]),(9,vf [.ptr 9 0 0 []]),(11,vf [.int .i64 n_]),(12,vf [.bm 86 12]),(13,vf [.ptr 13 0 0 []]),(14,vf [.int .i64 asked_])],[(4,.box [.int .i64 r_,.int .i64 r_1,.int .i64 r_2,.int .i64 r_3,.int .i64 r_4,.int .i64 r_5,.int .i64 r_6]),(6,.box [.nilS,.nilS,.nilS,.nilS,.int .i64 t6]),(7,.box [.int .i64 t7,.int .i64 t71]),(9,.box [.sl KAccount t_,.sl KPayment t_1,.sl KSaga t_2,.sl KKnown t_3,.int .i64 t_4]),(12,.box [.sl .bool ask_]),(13,.box [.int .i64 g_,.int .i64 g_1,.int .i64 g_2,.int .i64 g_3,.int .i64 g_4,.int .i64 g_5,.int .i64 g_6,.int .i64 g_7,.int .i64 g_8,.int .i64 g_9,.int .i64 g_10])]⟩
def h_bw_1 (k m:Nat)(n_:Int)(asked_:Int)(r_:Int)(r_1:Int)(r_2:Int)(r_3:Int)(r_4:Int)(r_5:Int)(r_6:Int)(t6:Int)(t7:Int)(t71:Int)(t_:YA)(t_1:YP)(t_2:YG)(t_3:YK)(t_4:Int)(g_:Int)(g_1:Int)(g_2:Int)(g_3:Int)(g_4:Int)(g_5:Int)(g_6:Int)(g_7:Int)(g_8:Int)(g_9:Int)(g_10:Int):Option (TState × TReply × Int):=hb k S29 58 [] [.r,.r,.r,.r,.r,.r,.r,.r,.l,.l] m ⟨[(4,vf [.ptr 4 0 0 []]),(6,vf [.ptr 6 0 0 []]),(7,vf [.ptr 7 0 0 []]),(9,vf [.ptr 9 0 0 []]),(11,vf [.int .i64 n_]),(13,vf [.ptr 13 0 0 []]),(14,vf [.int .i64 asked_])],[(4,.box [.int .i64 r_,.int .i64 r_1,.int .i64 r_2,.int .i64 r_3,.int .i64 r_4,.int .i64 r_5,.int .i64 r_6]),(6,.box [.nilS,.nilS,.nilS,.nilS,.int .i64 t6]),(7,.box [.int .i64 t7,.int .i64 t71]),(9,.box [.sl KAccount t_,.sl KPayment t_1,.sl KSaga t_2,.sl KKnown t_3,.int .i64 t_4]),(13,.box [.int .i64 g_,.int .i64 g_1,.int .i64 g_2,.int .i64 g_3,.int .i64 g_4,.int .i64 g_5,.int .i64 g_6,.int .i64 g_7,.int .i64 g_8,.int .i64 g_9,.int .i64 g_10])]⟩
def h_bw_2 (k m:Nat)(n_:Int)(asked_:Int)(r_:Int)(r_1:Int)(r_2:Int)(r_3:Int)(r_4:Int)(r_5:Int)(r_6:Int)(t6:Int)(t7:Int)(t71:Int)(t_:YA)(t_1:YP)(t_2:YG)(t_3:YK)(t_4:Int)(g_:Int)(g_1:Int)(g_2:Int)(g_3:Int)(g_4:Int)(g_5:Int)(g_6:Int)(g_7:Int)(g_8:Int)(g_9:Int)(g_10:Int):Option (TState × TReply × Int):=hb k S29 58 [] [.r,.r,.r,.r,.r,.r,.r,.r,.r,.l] m ⟨[(4,vf [.ptr 4 0 0 []]),(6,vf [.ptr 6 0 0 []]),(7,vf [.ptr 7 0 0 []]),(9,vf [.ptr 9 0 0 []]),(11,vf [.int .i64 n_]),(13,vf [.ptr 13 0 0 []]),(14,vf [.int .i64 asked_])],[(4,.box [.int .i64 r_,.int .i64 r_1,.int .i64 r_2,.int .i64 r_3,.int .i64 r_4,.int .i64 r_5,.int .i64 r_6]),(6,.box [.nilS,.nilS,.nilS,.nilS,.int .i64 t6]),(7,.box [.int .i64 t7,.int .i64 t71]),(9,.box [.sl KAccount t_,.sl KPayment t_1,.sl KSaga t_2,.sl KKnown t_3,.int .i64 t_4]),(13,.box [.int .i64 g_,.int .i64 g_1,.int .i64 g_2,.int .i64 g_3,.int .i64 g_4,.int .i64 g_5,.int .i64 g_6,.int .i64 g_7,.int .i64 g_8,.int .i64 g_9,.int .i64 g_10])]⟩
def h_keys_Find (k m:Nat)(key_:Int)(t7:YK)(t8:Int)(t9:Int):Option (Int):=hb k S60 38 [] [.r,.l,.r,.l] m ⟨[(1,vf [.int .i64 key_]),(7,vf [.sl KKnown t7]),(8,vf [.int .i64 t8]),(9,vf [.int .i64 t9])],[]⟩
def h_pD (k m:Nat)(n_:Int)(do_:Option Nat)(p_:Int)(p_1:Int)(p_2:Int)(p_3:Int)(p_4:Int)(p_5:Int)(p_6:Int)(p_7:Int)(t6:Int)(t61:Int)(t62:Int)(t63:Int)(t64:Int)(t65:Int)(t66:Int)(t67:Int):Option (TPayment × (Option Int)):=hb k S41 163 [] [.r,.r,.r,.l] m ⟨[(2,vf [.int .i64 n_]),(3,vf [.ptr 3 0 0 []]),(6,vf [.ptr 6 0 0 []]),(8,vf [.fn do_])],[(3,.box [.int .i64 p_,.int .i64 p_1,.int .i64 p_2,.int .i64 p_3,.int .i64 p_4,.int .i64 p_5,.int .i64 p_6,.int .i64 p_7]),(6,.box [.int .i64 t6,.int .i64 t61,.int .i64 t62,.int .i64 t63,.int .i64 t64,.int .i64 t65,.int .i64 t66,.int .i64 t67])]⟩
def h_entry_Back (k m:Nat)(un:List (TReply))(k_:Int)(out_:List (TReply)):Option ((List (TReply))):=hb k S57 22 [] [.r,.r,.l,.r,.l] m ⟨[(0,vf [.sl KReply un]),(3,vf [.vw 3 0]),(4,vf [.int .i64 k_])],[(3,.row KReply out_ 0 [] false)]⟩
def h_entry_Balanced (k m:Nat)(as_:YA)(t13:List (TReply))(t14:Int)(t15:Int)(sums_:Int)(sums_1:Int)(sums_2:Int):Option (Bool):=hb k Z0 164 [] [.r,.r,.l,.r,.l] m ⟨[(0,vf [.sl KAccount as_]),(5,vf [.ptr 5 0 0 []]),(13,vf [.sl KReply t13]),(14,vf [.int .i64 t14]),(15,vf [.int .i64 t15])],[(5,.box [.int .i64 sums_,.int .i64 sums_1,.int .i64 sums_2])]⟩
def h_entry_Balanced_1 (k m1 m:Nat)(as_:YA)(t13:List (TReply))(t14:Int)(t15:Int)(sums_:Int)(sums_1:Int)(sums_2:Int)(e_:Int)(e_1:Int):Option (Bool):=hb k Z0 164 [] [.r,.r,.l,.r,.l,.lp m1,.r,.r,.l,.l,.r,.r,.l] m ⟨[(0,vf [.sl KAccount as_]),(5,vf [.ptr 5 0 0 []]),(7,vf [.ptr 7 0 0 []]),(13,vf [.sl KReply t13]),(14,vf [.int .i64 t14]),(15,vf [.int .i64 t15])],[(5,.box [.int .i64 sums_,.int .i64 sums_1,.int .i64 sums_2]),(7,.box [.int .i64 e_,.int .i64 e_1])]⟩
def h_entry_Balanced_2 (k m1 m:Nat)(as_:YA)(c_:Int)(t13:List (TReply))(t14:Int)(t15:Int)(sums_:Int)(sums_1:Int)(sums_2:Int)(e_:Int)(e_1:Int):Option (Bool):=hb k Z0 164 [] [.r,.r,.l,.r,.l,.lp m1,.r,.r,.l,.l,.r,.r,.r,.r,.l] m ⟨[(0,vf [.sl KAccount as_]),(5,vf [.ptr 5 0 0 []]),(7,vf [.ptr 7 0 0 []]),(10,vf [.int .i64 c_]),(13,vf [.sl KReply t13]),(14,vf [.int .i64 t14]),(15,vf [.int .i64 t15])],[(5,.box [.int .i64 sums_,.int .i64 sums_1,.int .i64 sums_2]),(7,.box [.int .i64 e_,.int .i64 e_1])]⟩
def h_s15 (k m:Nat)(a_:YA)(a_1:YP)(a_2:YG)(a_3:YK)(a_4:Int)(b_:YA)(b_1:YP)(b_2:YG)(b_3:YK)(b_4:Int):Option (Bool):=hb k Z0 61 [] [.r,.r,.l,.l] m ⟨[(2,vf [.ptr 2 0 0 []]),(3,vf [.ptr 3 0 0 []])],[(2,.box [.sl KAccount a_,.sl KPayment a_1,.sl KSaga a_2,.sl KKnown a_3,.int .i64 a_4]),(3,.box [.sl KAccount b_,.sl KPayment b_1,.sl KSaga b_2,.sl KKnown b_3,.int .i64 b_4])]⟩
def h_s15_1 (k m:Nat)(t30:Int)(t31:Int)(a_:YA)(a_1:YP)(a_2:YG)(a_3:YK)(a_4:Int)(b_:YA)(b_1:YP)(b_2:YG)(b_3:YK)(b_4:Int):Option (Bool):=hb k Z0 61 [] [.r,.r,.l,.r,.l] m ⟨[(2,vf [.ptr 2 0 0 []]),(3,vf [.ptr 3 0 0 []]),(30,vf [.int .i64 t30]),(31,vf [.int .i64 t31])],[(2,.box [.sl KAccount a_,.sl KPayment a_1,.sl KSaga a_2,.sl KKnown a_3,.int .i64 a_4]),(3,.box [.sl KAccount b_,.sl KPayment b_1,.sl KSaga b_2,.sl KKnown b_3,.int .i64 b_4])]⟩
def h_law11_Same (k m:Nat)(a_:YK)(b_:YK)(t12:Int)(t13:Int):Option (Bool):=hb k Z0 62 [] [.r,.r,.l,.r,.l] m ⟨[(0,vf [.sl KKnown a_]),(1,vf [.sl KKnown b_]),(12,vf [.int .i64 t12]),(13,vf [.int .i64 t13])],[]⟩
def h_jO (k m:Nat)(d_:Option Nat)(j_:Nat)(x_:YN)(ui:YF)(uk:YN)(ul:YL)(uo:YO)(up:YN)(uq:YB)(ur:YR)(us:YL)(ut:YB)(uu:YN):Option (R10):=hb k S8 76 [1050432,1050434,1050435,1054912,1054913,1054914,1054915,1054916,1062592,1062593] [.r,.r,.l,.r,.r,.l,.r,.r,.l] m ⟨[(0,vf [.ref 29 d_]),(4,vf [.rb 99 j_]),(7,vf [.sl (.int .u8) x_]),(1050432,.undef),(1050434,.undef),(1050435,.undef),(1054912,.undef),(1054913,.undef),(1054914,.undef),(1054915,.undef),(1054916,.undef),(1062592,.undef),(1062593,.undef)],[(1050432,.col 29 0 .mp (.slice (.prod qI (.ref 219))) ui 0 none),(1050434,.col 29 2 .dat qI uk 0 none),(1050435,.col 29 3 .dat .bool ul 0 none),(1054912,.col 99 0 .dat (.ref 29) uo 0 none),(1054913,.col 99 1 .dat qI up 0 none),(1054914,.col 99 2 .dat qB uq 0 none),(1054915,.col 99 3 .own (.slice qB) ur 0 none),(1054916,.col 99 4 .dat .bool us 0 none),(1062592,.col 219 0 .own qB ut 0 none),(1062593,.col 219 1 .dat qI uu 0 none)]⟩
def h_jO_1 (k m:Nat)(d_:Option Nat)(j_:Nat)(ui:YF)(uk:YN)(ul:YL)(uo:YO)(up:YN)(uq:YB)(ur:YR)(us:YL)(ut:YB)(uu:YN):Option (R10):=hb k S8 76 [1050432,1050434,1050435,1054912,1054913,1054914,1054915,1054916,1062592,1062593] [.r,.r,.r,.l,.l] m ⟨[(0,vf [.ref 29 d_]),(4,vf [.rb 99 j_]),(1050432,.undef),(1050434,.undef),(1050435,.undef),(1054912,.undef),(1054913,.undef),(1054914,.undef),(1054915,.undef),(1054916,.undef),(1062592,.undef),(1062593,.undef)],[(1050432,.col 29 0 .mp (.slice (.prod qI (.ref 219))) ui 0 none),(1050434,.col 29 2 .dat qI uk 0 none),(1050435,.col 29 3 .dat .bool ul 0 none),(1054912,.col 99 0 .dat (.ref 29) uo 0 none),(1054913,.col 99 1 .dat qI up 0 none),(1054914,.col 99 2 .dat qB uq 0 none),(1054915,.col 99 3 .own (.slice qB) ur 0 none),(1054916,.col 99 4 .dat .bool us 0 none),(1062592,.col 219 0 .own qB ut 0 none),(1062593,.col 219 1 .dat qI uu 0 none)]⟩
def h_jO_3 (k m:Nat)(d_:Option Nat)(j_:Nat)(t67:YN)(t68:Int)(t69:Int)(ui:YF)(uk:YN)(ul:YL)(uo:YO)(up:YN)(uq:YB)(ur:YR)(us:YL)(ut:YB)(uu:YN):Option (R10):=hb k S8 76 [1050432,1050434,1050435,1054912,1054913,1054914,1054915,1054916,1062592,1062593] [.r,.r,.r,.l,.r,.l] m ⟨[(0,vf [.ref 29 d_]),(4,vf [.rb 99 j_]),(67,vf [.sl qI t67]),(68,vf [.int .i64 t68]),(69,vf [.int .i64 t69]),(1050432,.undef),(1050434,.undef),(1050435,.undef),(1054912,.undef),(1054913,.undef),(1054914,.undef),(1054915,.undef),(1054916,.undef),(1062592,.undef),(1062593,.undef)],[(1050432,.col 29 0 .mp (.slice (.prod qI (.ref 219))) ui 0 none),(1050434,.col 29 2 .dat qI uk 0 none),(1050435,.col 29 3 .dat .bool ul 0 none),(1054912,.col 99 0 .dat (.ref 29) uo 0 none),(1054913,.col 99 1 .dat qI up 0 none),(1054914,.col 99 2 .dat qB uq 0 none),(1054915,.col 99 3 .own (.slice qB) ur 0 none),(1054916,.col 99 4 .dat .bool us 0 none),(1062592,.col 219 0 .own qB ut 0 none),(1062593,.col 219 1 .dat qI uu 0 none)]⟩
def h_jJ_Records (k m:Nat)(j_:Option Nat)(t9:Nat)(t10:Int)(t11:Int)(out_:YB)(ur:YR):Option (YB × YR):=hb k S20 80 [1054915] [.r,.r,.l,.r,.l] m ⟨[(0,vf [.ref 99 j_]),(3,vf [.vw 3 0]),(9,vf [.ov 1054915 0 t9]),(10,vf [.int .i64 t10]),(11,vf [.int .i64 t11]),(1054915,.undef)],[(3,.row qB out_ 0 [] false),(1054915,.col 99 3 .own (.slice qB) ur 0 none)]⟩
def h_cS (k m:Nat)(t20:YA)(t21:Int)(t22:Int)(s_:YA)(s_1:YP)(s_2:YG)(s_3:YK)(s_4:Int)(out_:YN):Option (YN):=hb k S49 66 [] [.r,.r,.l,.r,.l] m ⟨[(1,vf [.ptr 1 0 0 []]),(3,vf [.vw 3 0]),(20,vf [.sl KAccount t20]),(21,vf [.int .i64 t21]),(22,vf [.int .i64 t22])],[(1,.box [.sl KAccount s_,.sl KPayment s_1,.sl KSaga s_2,.sl KKnown s_3,.int .i64 s_4]),(3,.row (.int .u8) out_ 0 [] false)]⟩
def h_cS_1 (k m:Nat)(t43:YP)(t44:Int)(t45:Int)(s_:YA)(s_1:YP)(s_2:YG)(s_3:YK)(s_4:Int)(out_:YN):Option (YN):=hb k S49 66 [] [.r,.r,.r,.r,.l,.r,.l] m ⟨[(1,vf [.ptr 1 0 0 []]),(3,vf [.vw 3 0]),(43,vf [.sl KPayment t43]),(44,vf [.int .i64 t44]),(45,vf [.int .i64 t45])],[(1,.box [.sl KAccount s_,.sl KPayment s_1,.sl KSaga s_2,.sl KKnown s_3,.int .i64 s_4]),(3,.row (.int .u8) out_ 0 [] false)]⟩
def h_cS_2 (k m:Nat)(t76:YG)(t77:Int)(t78:Int)(s_:YA)(s_1:YP)(s_2:YG)(s_3:YK)(s_4:Int)(out_:YN):Option (YN):=hb k S49 66 [] [.r,.r,.r,.r,.r,.r,.l,.r,.l] m ⟨[(1,vf [.ptr 1 0 0 []]),(3,vf [.vw 3 0]),(76,vf [.sl KSaga t76]),(77,vf [.int .i64 t77]),(78,vf [.int .i64 t78])],[(1,.box [.sl KAccount s_,.sl KPayment s_1,.sl KSaga s_2,.sl KKnown s_3,.int .i64 s_4]),(3,.row (.int .u8) out_ 0 [] false)]⟩
def h_cS_3 (k m:Nat)(t106:YK)(t107:Int)(t108:Int)(out_:YN):Option (YN):=hb k S49 66 [] [.r,.r,.r,.r,.r,.r,.r,.r,.l,.r,.l] m ⟨[(3,vf [.vw 3 0]),(106,vf [.sl KKnown t106]),(107,vf [.int .i64 t107]),(108,vf [.int .i64 t108])],[(3,.row (.int .u8) out_ 0 [] false)]⟩
def h_dE_Do (k m:Nat)(x_:Option Nat)(err_:Option Int)(t4:Int)(t41:Int)(t_:YA)(t_1:YP)(t_2:YG)(t_3:YK)(t_4:Int)(out_:Int)(out_1:Int)(ui:YF)(uj:YN)(uk:YN)(ul:YL)(um:YO)(un:YT)(uo:YO)(up:YN)(uq:YB)(ur:YR)(us:YL)(ut:YB)(uu:YN):Option (R9):=hb k S4 15 [1050432,1050433,1050434,1050435,1050496,1050497,1054912,1054913,1054914,1054915,1054916,1062592,1062593] [.r,.r,.r,.r,.r,.r,.r,.l,.l] m ⟨[(0,vf [.ref 30 x_]),(4,vf [.ptr 4 0 0 []]),(5,vf [.ptr 5 0 0 []]),(6,vf [.ptr 6 0 0 []]),(8,vf [.err err_]),(1050432,.undef),(1050433,.undef),(1050434,.undef),(1050435,.undef),(1050496,.undef),(1050497,.undef),(1054912,.undef),(1054913,.undef),(1054914,.undef),(1054915,.undef),(1054916,.undef),(1062592,.undef),(1062593,.undef)],[(4,.box [.int .i64 t4,.int .i64 t41]),(5,.box [.sl KAccount t_,.sl KPayment t_1,.sl KSaga t_2,.sl KKnown t_3,.int .i64 t_4]),(6,.box [.int .i64 out_,.int .i64 out_1]),(1050432,.col 29 0 .mp (.slice (.prod qI (.ref 219))) ui 0 none),(1050433,.col 29 1 .dat qI uj 0 none),(1050434,.col 29 2 .dat qI uk 0 none),(1050435,.col 29 3 .dat .bool ul 0 none),(1050496,.col 30 0 .dat (.ref 99) um 0 none),(1050497,.col 30 1 .dat KState un 0 none),(1054912,.col 99 0 .dat (.ref 29) uo 0 none),(1054913,.col 99 1 .dat qI up 0 none),(1054914,.col 99 2 .dat qB uq 0 none),(1054915,.col 99 3 .own (.slice qB) ur 0 none),(1054916,.col 99 4 .dat .bool us 0 none),(1062592,.col 219 0 .own qB ut 0 none),(1062593,.col 219 1 .dat qI uu 0 none)]⟩
def h_law07_Same (k m:Nat)(a_:YA)(b_:YA)(t12:Int)(t13:Int):Option (Bool):=hb k Z0 93 [] [.r,.r,.l,.r,.l] m ⟨[(0,vf [.sl KAccount a_]),(1,vf [.sl KAccount b_]),(12,vf [.int .i64 t12]),(13,vf [.int .i64 t13])],[]⟩
def h_eM_submit (k m:Nat)(m_:YA)(m_1:YP)(m_2:YG)(m_3:YK)(m_4:Int)(t4:Int)(t41:Int)(r_:Int)(r_1:Int)(r_2:Int)(r_3:Int)(r_4:Int)(r_5:Int)(r_6:Int):Option (TReply × Tmachine):=hb k S56 63 [0] [.r,.r,.r,.r,.r,.l] m ⟨[(0,vf [.ptr 0 0 0 []]),(4,vf [.ptr 4 0 0 []]),(5,vf [.ptr 5 0 0 []])],[(0,.box [.sl KAccount m_,.sl KPayment m_1,.sl KSaga m_2,.sl KKnown m_3,.int .i64 m_4]),(4,.box [.int .i64 t4,.int .i64 t41]),(5,.box [.int .i64 r_,.int .i64 r_1,.int .i64 r_2,.int .i64 r_3,.int .i64 r_4,.int .i64 r_5,.int .i64 r_6])]⟩
def h_eM_step (k m:Nat)(k_:Int)(m_:YA)(m_1:YP)(m_2:YG)(m_3:YK)(m_4:Int)(t4:Int)(t41:Int)(g_:Int)(g_1:Int)(g_2:Int)(g_3:Int)(g_4:Int)(g_5:Int)(g_6:Int)(g_7:Int)(g_8:Int)(g_9:Int)(g_10:Int):Option (TReply × Tmachine):=hb k S56 64 [0] [.r,.r,.r,.r,.r,.l] m ⟨[(0,vf [.ptr 0 0 0 []]),(4,vf [.ptr 4 0 0 []]),(5,vf [.int .i64 k_]),(6,vf [.ptr 6 0 0 []])],[(0,.box [.sl KAccount m_,.sl KPayment m_1,.sl KSaga m_2,.sl KKnown m_3,.int .i64 m_4]),(4,.box [.int .i64 t4,.int .i64 t41]),(6,.box [.int .i64 g_,.int .i64 g_1,.int .i64 g_2,.int .i64 g_3,.int .i64 g_4,.int .i64 g_5,.int .i64 g_6,.int .i64 g_7,.int .i64 g_8,.int .i64 g_9,.int .i64 g_10])]⟩
def h_v_All (k m:Nat)(t6:YN)(t7:Int)(t8:Int)(out_:YN):Option (YN):=hb k S52 67 [] [.r,.r,.l,.r,.l] m ⟨[(3,vf [.vw 3 0]),(6,vf [.sl qI t6]),(7,vf [.int .i64 t7]),(8,vf [.int .i64 t8])],[(3,.row (.int .u8) out_ 0 [] false)]⟩
def h_v_Put (k m:Nat)(u_:Int)(b_:YN):Option (YN):=hb k S52 96 [] [.r,.r,.r,.l,.l] m ⟨[(0,vf [.vw 0 0]),(5,vf [.int .u64 u_])],[(0,.row (.int .u8) b_ 0 [] false)]⟩
def h_v_Put_1 (k m:Nat)(u_:Int)(b_:YN):Option (YN):=hb k S52 96 [] [.r,.r,.r,.r,.l] m ⟨[(0,vf [.vw 0 0]),(5,vf [.int .u64 u_])],[(0,.row (.int .u8) b_ 0 [] false)]⟩
def h_jJ_Append (k m:Nat)(j_:Option Nat)(rs_:YB)(t18:YB)(t19:Int)(t20:Int)(all_:YN)(ui:YF)(uj:YN)(uk:YN)(ul:YL)(uo:YO)(up:YN)(ur:YR)(us:YL)(ut:YB)(uu:YN):Option (R12):=hb k S9 34 [1050432,1050433,1050434,1050435,1054912,1054913,1054915,1054916,1062592,1062593] [.r,.r,.r,.l,.r,.l] m ⟨[(0,vf [.ref 99 j_]),(1,vf [.sl qB rs_]),(5,vf [.vw 5 0]),(18,vf [.sl qB t18]),(19,vf [.int .i64 t19]),(20,vf [.int .i64 t20]),(1050432,.undef),(1050433,.undef),(1050434,.undef),(1050435,.undef),(1054912,.undef),(1054913,.undef),(1054915,.undef),(1054916,.undef),(1062592,.undef),(1062593,.undef)],[(5,.row (.int .u8) all_ 0 [] false),(1050432,.col 29 0 .mp (.slice (.prod qI (.ref 219))) ui 0 none),(1050433,.col 29 1 .dat qI uj 0 none),(1050434,.col 29 2 .dat qI uk 0 none),(1050435,.col 29 3 .dat .bool ul 0 none),(1054912,.col 99 0 .dat (.ref 29) uo 0 none),(1054913,.col 99 1 .dat qI up 0 none),(1054915,.col 99 3 .own (.slice qB) ur 0 none),(1054916,.col 99 4 .dat .bool us 0 none),(1062592,.col 219 0 .own qB ut 0 none),(1062593,.col 219 1 .dat qI uu 0 none)]⟩
def h_jJ_Append_1 (k m:Nat)(j_:Option Nat)(t47:YB)(t48:Int)(t49:Int)(ui:YF)(uj:YN)(uk:YN)(ul:YL)(uo:YO)(up:YN)(ur:YR)(us:YL)(ut:YB)(uu:YN):Option (R12):=hb k S9 34 [1050432,1050433,1050434,1050435,1054912,1054913,1054915,1054916,1062592,1062593] [.r,.r,.r,.r,.r,.l,.r,.l] m ⟨[(0,vf [.ref 99 j_]),(47,vf [.sl qB t47]),(48,vf [.int .i64 t48]),(49,vf [.int .i64 t49]),(1050432,.undef),(1050433,.undef),(1050434,.undef),(1050435,.undef),(1054912,.undef),(1054913,.undef),(1054915,.undef),(1054916,.undef),(1062592,.undef),(1062593,.undef)],[(1050432,.col 29 0 .mp (.slice (.prod qI (.ref 219))) ui 0 none),(1050433,.col 29 1 .dat qI uj 0 none),(1050434,.col 29 2 .dat qI uk 0 none),(1050435,.col 29 3 .dat .bool ul 0 none),(1054912,.col 99 0 .dat (.ref 29) uo 0 none),(1054913,.col 99 1 .dat qI up 0 none),(1054915,.col 99 3 .own (.slice qB) ur 0 none),(1054916,.col 99 4 .dat .bool us 0 none),(1062592,.col 219 0 .own qB ut 0 none),(1062593,.col 219 1 .dat qI uu 0 none)]⟩
def h_crc_Sum (k m:Nat)(r_:Int)(t6:YN)(t7:Int)(t8:Int):Option (Int):=hb k S61 99 [] [.r,.r,.l,.r,.l] m ⟨[(3,vf [.int .u32 r_]),(6,vf [.sl (.int .u8) t6]),(7,vf [.int .i64 t7]),(8,vf [.int .i64 t8])],[]⟩
def h_dD_works (k m:Nat)(d_:Option Nat)(uk:YN)(ul:YL):Option (Bool × YN × YL):=hb k S30 140 [1050434,1050435] [.r,.r,.l,.l] m ⟨[(0,vf [.ref 29 d_]),(1050434,.undef),(1050435,.undef)],[(1050434,.col 29 2 .dat qI uk 0 none),(1050435,.col 29 3 .dat .bool ul 0 none)]⟩
def h_engine_Find (k m:Nat)(key_:Int)(t8:YG)(t9:Int)(t10:Int):Option (Int):=hb k S60 94 [] [.r,.l,.r,.l] m ⟨[(1,vf [.int .i64 key_]),(8,vf [.sl KSaga t8]),(9,vf [.int .i64 t9]),(10,vf [.int .i64 t10])],[]⟩
def h_dD_Append (k m:Nat)(d_:Option Nat)(b_:YN)(works_:Bool)(f_:Nat)(ui:YF)(uj:YN)(uk:YN)(ul:YL)(ut:YB)(uu:YN):Option (R14):=hb k S11 100 [1050432,1050433,1050434,1050435,1062592,1062593] [.r,.r,.r,.r,.r,.r,.l] m ⟨[(0,vf [.ref 29 d_]),(2,vf [.sl (.int .u8) b_]),(7,vf [.bool works_]),(8,vf [.rb 219 f_]),(1050432,.undef),(1050433,.undef),(1050434,.undef),(1050435,.undef),(1062592,.undef),(1062593,.undef)],[(1050432,.col 29 0 .mp (.slice (.prod qI (.ref 219))) ui 0 none),(1050433,.col 29 1 .dat qI uj 0 none),(1050434,.col 29 2 .dat qI uk 0 none),(1050435,.col 29 3 .dat .bool ul 0 none),(1062592,.col 219 0 .own qB ut 0 none),(1062593,.col 219 1 .dat qI uu 0 none)]⟩
def h_dD_Append_1 (k m:Nat)(d_:Option Nat)(b_:YN)(works_:Bool)(f_:Option Nat)(ui:YF)(uj:YN)(uk:YN)(ul:YL)(ut:YB)(uu:YN):Option (R14):=hb k S11 100 [1050432,1050433,1050434,1050435,1062592,1062593] [.r,.r,.r,.r,.r,.r,.l] m ⟨[(0,vf [.ref 29 d_]),(2,vf [.sl (.int .u8) b_]),(7,vf [.bool works_]),(8,vf [.ref 219 f_]),(1050432,.undef),(1050433,.undef),(1050434,.undef),(1050435,.undef),(1062592,.undef),(1062593,.undef)],[(1050432,.col 29 0 .mp (.slice (.prod qI (.ref 219))) ui 0 none),(1050433,.col 29 1 .dat qI uj 0 none),(1050434,.col 29 2 .dat qI uk 0 none),(1050435,.col 29 3 .dat .bool ul 0 none),(1062592,.col 219 0 .own qB ut 0 none),(1062593,.col 219 1 .dat qI uu 0 none)]⟩
def h_crc_step (k m:Nat)(r_:Int)(t10:Int):Option (Int):=hb k S61 138 [] [.r,.r,.l,.r,.l] m ⟨[(0,vf [.int .u32 r_]),(10,vf [.int .i64 t10])],[]⟩
theorem f_tB (k:Nat)(b_:YN)(legs_:YL)(ua:YO)(ub:YO)(uc:YS)(ud:YE)(ue:YN)(uf:YI)(ug:YT)(uh:YE)(ui:YF)(uj:YN)(uk:YN)(ul:YL)(um:YO)(un:YT)(uo:YO)(up:YN)(uq:YB)(ur:YR)(us:YL)(ut:YB)(uu:YN):CF (k+1) S2 n_tB [inj qB b_,inj (.slice .bool) legs_,Ca ua,Cb ub,Cc uc,Cd ud,Ce ue,Cf uf,Cg ug,Ch uh,Ci ui,Cj uj,Ck uk,Cl ul,Cm um,Cn un,Co uo,Cp up,Cq uq,Cr ur,Cs us,Ct ut,Cu uu]=(((CF k S2 n_tw [Ca ua,Cb ub,Cc uc,Cd ud,Ce ue,Cf uf,Cg ug,Ch uh,Ci ui,Cj uj,Ck uk,Cl ul,Cm um,Cn un,Co uo,Cp up,Cq uq,Cr ur,Cs us,Ct ut,Cu uu]).bind fun (r:R2)=>(bif (!r.1) then some (false,r.2) else ((CF k S1 n_wO [inj qI 262144,Ca r.2.1,Cb r.2.2.1,Cc r.2.2.2.1,Cd r.2.2.2.2.1,Ce r.2.2.2.2.2.1,Cf r.2.2.2.2.2.2.1,Cg r.2.2.2.2.2.2.2.1,Ch r.2.2.2.2.2.2.2.2.1,Ci r.2.2.2.2.2.2.2.2.2.1,Cj r.2.2.2.2.2.2.2.2.2.2.1,Ck r.2.2.2.2.2.2.2.2.2.2.2.1,Cl r.2.2.2.2.2.2.2.2.2.2.2.2.1,Cm r.2.2.2.2.2.2.2.2.2.2.2.2.2.1,Cn r.2.2.2.2.2.2.2.2.2.2.2.2.2.2.1,Co r.2.2.2.2.2.2.2.2.2.2.2.2.2.2.2.1,Cp r.2.2.2.2.2.2.2.2.2.2.2.2.2.2.2.2.1,Cq r.2.2.2.2.2.2.2.2.2.2.2.2.2.2.2.2.2.1,Cr r.2.2.2.2.2.2.2.2.2.2.2.2.2.2.2.2.2.2.1,Cs r.2.2.2.2.2.2.2.2.2.2.2.2.2.2.2.2.2.2.2.1,Ct r.2.2.2.2.2.2.2.2.2.2.2.2.2.2.2.2.2.2.2.2.1,Cu r.2.2.2.2.2.2.2.2.2.2.2.2.2.2.2.2.2.2.2.2.2]).bind fun (r_1:R1)=>((CF k Z5 n_ops_New []).bind fun (r_2:TState)=>((CF k S55 n_top_acts [inj qB b_]).bind fun (r_3:(List (TEvent)))=>(h_tB k k legs_ r_1.1 r_3 (r_3.length:Int) 0 r_2.1 r_2.2.1 r_2.2.2.1 r_2.2.2.2.1 r_2.2.2.2.2 r_1.2.1 r_1.2.2.1 r_1.2.2.2.1 r_1.2.2.2.2.1 r_1.2.2.2.2.2.1 r_1.2.2.2.2.2.2.1 r_1.2.2.2.2.2.2.2.1 r_1.2.2.2.2.2.2.2.2.1 r_1.2.2.2.2.2.2.2.2.2.1 r_1.2.2.2.2.2.2.2.2.2.2.1 r_1.2.2.2.2.2.2.2.2.2.2.2.1 r_1.2.2.2.2.2.2.2.2.2.2.2.2.1 r_1.2.2.2.2.2.2.2.2.2.2.2.2.2.1 r_1.2.2.2.2.2.2.2.2.2.2.2.2.2.2.1 r_1.2.2.2.2.2.2.2.2.2.2.2.2.2.2.2.1 r_1.2.2.2.2.2.2.2.2.2.2.2.2.2.2.2.2.1 r_1.2.2.2.2.2.2.2.2.2.2.2.2.2.2.2.2.2.1 r_1.2.2.2.2.2.2.2.2.2.2.2.2.2.2.2.2.2.2.1 r_1.2.2.2.2.2.2.2.2.2.2.2.2.2.2.2.2.2.2.2.1 r_1.2.2.2.2.2.2.2.2.2.2.2.2.2.2.2.2.2.2.2.2.1 r_1.2.2.2.2.2.2.2.2.2.2.2.2.2.2.2.2.2.2.2.2.2)))))):Option (R2)):=by kernel_rfl
theorem h_tB_s (k m:Nat)(legs_:YL)(w_:Option Nat)(t20:List (TEvent))(t21:Int)(t22:Int)(s_:YA)(s_1:YP)(s_2:YG)(s_3:YK)(s_4:Int)(ua:YO)(ub:YO)(uc:YS)(ud:YE)(ue:YN)(uf:YI)(ug:YT)(uh:YE)(ui:YF)(uj:YN)(uk:YN)(ul:YL)(um:YO)(un:YT)(uo:YO)(up:YN)(uq:YB)(ur:YR)(us:YL)(ut:YB)(uu:YN)(e1:(Int × ((Int × (Int × (Int × (Int × (Int × (Int × Int)))))) × (Int × Bool))))(h_e1:e1=(List.getD t20 (Int.toNat t22) (0,(0,0,0,0,0,0,0),0,false)))(e2:((List (Int × (Int × Int))) × ((List (Int × (Int × (Int × (Int × (Int × (Int × (Int × Int)))))))) × ((List ((Int × (Int × (Int × (Int × (Int × (Int × Int)))))) × (Int × (Int × (Int × Int))))) × ((List ((Int × (Int × (Int × (Int × (Int × (Int × Int)))))) × ((Int × Int) × Bool))) × Int)))))(h_e2:e2=(s_,s_1,s_2,s_3,s_4))(e3:Int)(h_e3:e3=e1.2.1.2.2.2.2.1)(e4:(Int × Int))(h_e4:e4=e1.2.1.2.2.2.2.2):h_tB k (m+1) legs_ w_ t20 t21 t22 s_ s_1 s_2 s_3 s_4 ua ub uc ud ue uf ug uh ui uj uk ul um un uo up uq ur us ut uu=(bif decide (t22 < t21) then (bif (inb t22 t20.length) then (bif decide (e1.1=3) then ((CF k Z4 n_wW_Act [inj (.ref 26) w_,inj KEvent e1,inj qI 0,Ca ua,Cb ub,Cc uc,Cd ud,Ce ue,Cf uf,Cg ug,Ch uh,Ci ui,Cj uj,Ck uk,Cl ul,Cm um,Cn un,Co uo,Cp up,Cq uq,Cr ur,Cs us,Ct ut,Cu uu]).bind fun (r:R3)=>((CF k Z5 n_ops_Tick [inj KState e2]).bind fun (r_1:TState)=>(h_tB_1 k m k legs_ w_ t20 t21 t22 r_1.1 r_1.2.1 r_1.2.2.1 r_1.2.2.2.1 r_1.2.2.2.2 e1.1 e1.2.1.1 e1.2.1.2.1 e1.2.1.2.2.1 e1.2.1.2.2.2.1 e3 e4.1 e4.2 e1.2.2.1 e1.2.2.2 r.1 r.2.1 r.2.2.1 r.2.2.2.1 r.2.2.2.2.1 r.2.2.2.2.2.1 r.2.2.2.2.2.2.1 r.2.2.2.2.2.2.2.1 r.2.2.2.2.2.2.2.2.1 r.2.2.2.2.2.2.2.2.2.1 r.2.2.2.2.2.2.2.2.2.2.1 r.2.2.2.2.2.2.2.2.2.2.2.1 r.2.2.2.2.2.2.2.2.2.2.2.2.1 r.2.2.2.2.2.2.2.2.2.2.2.2.2.1 r.2.2.2.2.2.2.2.2.2.2.2.2.2.2.1 r.2.2.2.2.2.2.2.2.2.2.2.2.2.2.2.1 r.2.2.2.2.2.2.2.2.2.2.2.2.2.2.2.2.1 r.2.2.2.2.2.2.2.2.2.2.2.2.2.2.2.2.2.1 r.2.2.2.2.2.2.2.2.2.2.2.2.2.2.2.2.2.2.1 r.2.2.2.2.2.2.2.2.2.2.2.2.2.2.2.2.2.2.2.1 r.2.2.2.2.2.2.2.2.2.2.2.2.2.2.2.2.2.2.2.2))) else (h_tB_1 k m k legs_ w_ t20 t21 t22 s_ s_1 s_2 s_3 s_4 e1.1 e1.2.1.1 e1.2.1.2.1 e1.2.1.2.2.1 e1.2.1.2.2.2.1 e3 e4.1 e4.2 e1.2.2.1 e1.2.2.2 ua ub uc ud ue uf ug uh ui uj uk ul um un uo up uq ur us ut uu)) else none) else (bif w_.isSome then ((CF k S46 n_dE_State [inj (.ref 30) (List.getD ub (w_.getD 0) none),Cn un]).bind fun (r:TState × YT)=>((CF k Z0 n_s17 [inj KState e2,inj KState r.1]).bind fun (r_1:Bool)=>some (r_1,ua,ub,uc,ud,ue,uf,ug,uh,ui,uj,uk,ul,um,r.2,uo,up,uq,ur,us,ut,uu))) else none)):=by
 subst h_e1 h_e2 h_e3 h_e4
 kernel_rfl
theorem h_tB_1_s (k m1 m:Nat)(legs_:YL)(w_:Option Nat)(t20:List (TEvent))(t21:Int)(t22:Int)(s_:YA)(s_1:YP)(s_2:YG)(s_3:YK)(s_4:Int)(a_:Int)(a_1:Int)(a_2:Int)(a_3:Int)(a_4:Int)(a_5:Int)(a_6:Int)(a_7:Int)(a_8:Int)(a_9:Bool)(ua:YO)(ub:YO)(uc:YS)(ud:YE)(ue:YN)(uf:YI)(ug:YT)(uh:YE)(ui:YF)(uj:YN)(uk:YN)(ul:YL)(um:YO)(un:YT)(uo:YO)(up:YN)(uq:YB)(ur:YR)(us:YL)(ut:YB)(uu:YN):h_tB_1 k m1 (m+1) legs_ w_ t20 t21 t22 s_ s_1 s_2 s_3 s_4 a_ a_1 a_2 a_3 a_4 a_5 a_6 a_7 a_8 a_9 ua ub uc ud ue uf ug uh ui uj uk ul um un uo up uq ur us ut uu=(bif decide (a_=4) then ((CF k Z4 n_wW_Act [inj (.ref 26) w_,inj KEvent (a_,(a_1,a_2,a_3,a_4,a_5,a_6,a_7),a_8,a_9),inj qI 0,Ca ua,Cb ub,Cc uc,Cd ud,Ce ue,Cf uf,Cg ug,Ch uh,Ci ui,Cj uj,Ck uk,Cl ul,Cm um,Cn un,Co uo,Cp up,Cq uq,Cr ur,Cs us,Ct ut,Cu uu]).bind fun (r:R3)=>(h_tB_2 k m1 k legs_ w_ t20 t21 t22 s_ s_1 s_2 s_3 s_4 a_ a_1 a_2 a_3 a_4 a_5 a_6 a_7 a_8 a_9 r.1 r.2.1 r.2.2.1 r.2.2.2.1 r.2.2.2.2.1 r.2.2.2.2.2.1 r.2.2.2.2.2.2.1 r.2.2.2.2.2.2.2.1 r.2.2.2.2.2.2.2.2.1 r.2.2.2.2.2.2.2.2.2.1 r.2.2.2.2.2.2.2.2.2.2.1 r.2.2.2.2.2.2.2.2.2.2.2.1 r.2.2.2.2.2.2.2.2.2.2.2.2.1 r.2.2.2.2.2.2.2.2.2.2.2.2.2.1 r.2.2.2.2.2.2.2.2.2.2.2.2.2.2.1 r.2.2.2.2.2.2.2.2.2.2.2.2.2.2.2.1 r.2.2.2.2.2.2.2.2.2.2.2.2.2.2.2.2.1 r.2.2.2.2.2.2.2.2.2.2.2.2.2.2.2.2.2.1 r.2.2.2.2.2.2.2.2.2.2.2.2.2.2.2.2.2.2.1 r.2.2.2.2.2.2.2.2.2.2.2.2.2.2.2.2.2.2.2.1 r.2.2.2.2.2.2.2.2.2.2.2.2.2.2.2.2.2.2.2.2)) else (h_tB_2 k m1 k legs_ w_ t20 t21 t22 s_ s_1 s_2 s_3 s_4 a_ a_1 a_2 a_3 a_4 a_5 a_6 a_7 a_8 a_9 ua ub uc ud ue uf ug uh ui uj uk ul um un uo up uq ur us ut uu)):=by kernel_rfl
theorem h_tB_2_s (k m1 m:Nat)(legs_:YL)(w_:Option Nat)(t20:List (TEvent))(t21:Int)(t22:Int)(s_:YA)(s_1:YP)(s_2:YG)(s_3:YK)(s_4:Int)(a_:Int)(a_1:Int)(a_2:Int)(a_3:Int)(a_4:Int)(a_5:Int)(a_6:Int)(a_7:Int)(a_8:Int)(a_9:Bool)(ua:YO)(ub:YO)(uc:YS)(ud:YE)(ue:YN)(uf:YI)(ug:YT)(uh:YE)(ui:YF)(uj:YN)(uk:YN)(ul:YL)(um:YO)(un:YT)(uo:YO)(up:YN)(uq:YB)(ur:YR)(us:YL)(ut:YB)(uu:YN):h_tB_2 k m1 (m+1) legs_ w_ t20 t21 t22 s_ s_1 s_2 s_3 s_4 a_ a_1 a_2 a_3 a_4 a_5 a_6 a_7 a_8 a_9 ua ub uc ud ue uf ug uh ui uj uk ul um un uo up uq ur us ut uu=(bif (!decide (a_=0)) then (h_tB k m1 legs_ w_ t20 t21 (w64 (t22+1)) s_ s_1 s_2 s_3 s_4 ua ub uc ud ue uf ug uh ui uj uk ul um un uo up uq ur us ut uu) else ((CF k Z4 n_wW_Act [inj (.ref 26) w_,inj KEvent (a_,(a_1,a_2,a_3,a_4,a_5,a_6,a_7),a_8,a_9),inj qI 0,Ca ua,Cb ub,Cc uc,Cd ud,Ce ue,Cf uf,Cg ug,Ch uh,Ci ui,Cj uj,Ck uk,Cl ul,Cm um,Cn un,Co uo,Cp up,Cq uq,Cr ur,Cs us,Ct ut,Cu uu]).bind fun (r:R3)=>(h_tB_3 k m1 k legs_ w_ 0 t20 t21 t22 s_ s_1 s_2 s_3 s_4 a_ a_1 a_2 a_3 a_4 a_5 a_6 a_7 a_8 a_9 r.1 r.2.1 r.2.2.1 r.2.2.2.1 r.2.2.2.2.1 r.2.2.2.2.2.1 r.2.2.2.2.2.2.1 r.2.2.2.2.2.2.2.1 r.2.2.2.2.2.2.2.2.1 r.2.2.2.2.2.2.2.2.2.1 r.2.2.2.2.2.2.2.2.2.2.1 r.2.2.2.2.2.2.2.2.2.2.2.1 r.2.2.2.2.2.2.2.2.2.2.2.2.1 r.2.2.2.2.2.2.2.2.2.2.2.2.2.1 r.2.2.2.2.2.2.2.2.2.2.2.2.2.2.1 r.2.2.2.2.2.2.2.2.2.2.2.2.2.2.2.1 r.2.2.2.2.2.2.2.2.2.2.2.2.2.2.2.2.1 r.2.2.2.2.2.2.2.2.2.2.2.2.2.2.2.2.2.1 r.2.2.2.2.2.2.2.2.2.2.2.2.2.2.2.2.2.2.1 r.2.2.2.2.2.2.2.2.2.2.2.2.2.2.2.2.2.2.2.1 r.2.2.2.2.2.2.2.2.2.2.2.2.2.2.2.2.2.2.2.2))):=by kernel_rfl
theorem h_tB_3_s (k m1 m:Nat)(legs_:YL)(w_:Option Nat)(n_:Int)(t20:List (TEvent))(t21:Int)(t22:Int)(s_:YA)(s_1:YP)(s_2:YG)(s_3:YK)(s_4:Int)(a_:Int)(a_1:Int)(a_2:Int)(a_3:Int)(a_4:Int)(a_5:Int)(a_6:Int)(a_7:Int)(a_8:Int)(a_9:Bool)(ua:YO)(ub:YO)(uc:YS)(ud:YE)(ue:YN)(uf:YI)(ug:YT)(uh:YE)(ui:YF)(uj:YN)(uk:YN)(ul:YL)(um:YO)(un:YT)(uo:YO)(up:YN)(uq:YB)(ur:YR)(us:YL)(ut:YB)(uu:YN):h_tB_3 k m1 (m+1) legs_ w_ n_ t20 t21 t22 s_ s_1 s_2 s_3 s_4 a_ a_1 a_2 a_3 a_4 a_5 a_6 a_7 a_8 a_9 ua ub uc ud ue uf ug uh ui uj uk ul um un uo up uq ur us ut uu=(bif w_.isSome then ((CF k S46 n_dE_State [inj (.ref 30) (List.getD ub (w_.getD 0) none),Cn un]).bind fun (r:TState × YT)=>(bif decide (0 < (r.1.2.2.1.length:Int)) then (bif decide (n_ < 40) then (h_tB_4 k m1 m k legs_ w_ n_ t20 t21 t22 s_ s_1 s_2 s_3 s_4 a_ a_1 a_2 a_3 a_4 a_5 a_6 a_7 a_8 a_9 ua ub uc ud ue uf ug uh ui uj uk ul um r.2 uo up uq ur us ut uu) else (h_tB_5 k m1 k legs_ w_ t20 t21 t22 s_ s_1 s_2 s_3 s_4 a_ a_1 a_2 a_3 a_4 a_5 a_6 a_7 a_8 a_9 ua ub uc ud ue uf ug uh ui uj uk ul um r.2 uo up uq ur us ut uu)) else (h_tB_5 k m1 k legs_ w_ t20 t21 t22 s_ s_1 s_2 s_3 s_4 a_ a_1 a_2 a_3 a_4 a_5 a_6 a_7 a_8 a_9 ua ub uc ud ue uf ug uh ui uj uk ul um r.2 uo up uq ur us ut uu))) else none):=by kernel_rfl
theorem h_tB_4_s (k m1 m2 m:Nat)(legs_:YL)(w_:Option Nat)(n_:Int)(t20:List (TEvent))(t21:Int)(t22:Int)(s_:YA)(s_1:YP)(s_2:YG)(s_3:YK)(s_4:Int)(a_:Int)(a_1:Int)(a_2:Int)(a_3:Int)(a_4:Int)(a_5:Int)(a_6:Int)(a_7:Int)(a_8:Int)(a_9:Bool)(ua:YO)(ub:YO)(uc:YS)(ud:YE)(ue:YN)(uf:YI)(ug:YT)(uh:YE)(ui:YF)(uj:YN)(uk:YN)(ul:YL)(um:YO)(un:YT)(uo:YO)(up:YN)(uq:YB)(ur:YR)(us:YL)(ut:YB)(uu:YN)(e1:Int)(h_e1:e1=(w64 (n_+1))):h_tB_4 k m1 m2 (m+1) legs_ w_ n_ t20 t21 t22 s_ s_1 s_2 s_3 s_4 a_ a_1 a_2 a_3 a_4 a_5 a_6 a_7 a_8 a_9 ua ub uc ud ue uf ug uh ui uj uk ul um un uo up uq ur us ut uu=(bif decide ((legs_.length:Int)<=n_) then ((CF k Z4 n_wW_Act [inj (.ref 26) w_,inj KEvent (2,(0,0,0,0,0,0,0),0,true),inj qI 0,Ca ua,Cb ub,Cc uc,Cd ud,Ce ue,Cf uf,Cg ug,Ch uh,Ci ui,Cj uj,Ck uk,Cl ul,Cm um,Cn un,Co uo,Cp up,Cq uq,Cr ur,Cs us,Ct ut,Cu uu]).bind fun (r:R3)=>(h_tB_3 k m1 m2 legs_ w_ e1 t20 t21 t22 s_ s_1 s_2 s_3 s_4 a_ a_1 a_2 a_3 a_4 a_5 a_6 a_7 a_8 a_9 r.1 r.2.1 r.2.2.1 r.2.2.2.1 r.2.2.2.2.1 r.2.2.2.2.2.1 r.2.2.2.2.2.2.1 r.2.2.2.2.2.2.2.1 r.2.2.2.2.2.2.2.2.1 r.2.2.2.2.2.2.2.2.2.1 r.2.2.2.2.2.2.2.2.2.2.1 r.2.2.2.2.2.2.2.2.2.2.2.1 r.2.2.2.2.2.2.2.2.2.2.2.2.1 r.2.2.2.2.2.2.2.2.2.2.2.2.2.1 r.2.2.2.2.2.2.2.2.2.2.2.2.2.2.1 r.2.2.2.2.2.2.2.2.2.2.2.2.2.2.2.1 r.2.2.2.2.2.2.2.2.2.2.2.2.2.2.2.2.1 r.2.2.2.2.2.2.2.2.2.2.2.2.2.2.2.2.2.1 r.2.2.2.2.2.2.2.2.2.2.2.2.2.2.2.2.2.2.1 r.2.2.2.2.2.2.2.2.2.2.2.2.2.2.2.2.2.2.2.1 r.2.2.2.2.2.2.2.2.2.2.2.2.2.2.2.2.2.2.2.2)) else (bif (inb n_ legs_.length) then ((CF k Z4 n_wW_Act [inj (.ref 26) w_,inj KEvent (2,(0,0,0,0,0,0,0),0,(List.getD legs_ (Int.toNat n_) false)),inj qI 0,Ca ua,Cb ub,Cc uc,Cd ud,Ce ue,Cf uf,Cg ug,Ch uh,Ci ui,Cj uj,Ck uk,Cl ul,Cm um,Cn un,Co uo,Cp up,Cq uq,Cr ur,Cs us,Ct ut,Cu uu]).bind fun (r:R3)=>(h_tB_3 k m1 m2 legs_ w_ e1 t20 t21 t22 s_ s_1 s_2 s_3 s_4 a_ a_1 a_2 a_3 a_4 a_5 a_6 a_7 a_8 a_9 r.1 r.2.1 r.2.2.1 r.2.2.2.1 r.2.2.2.2.1 r.2.2.2.2.2.1 r.2.2.2.2.2.2.1 r.2.2.2.2.2.2.2.1 r.2.2.2.2.2.2.2.2.1 r.2.2.2.2.2.2.2.2.2.1 r.2.2.2.2.2.2.2.2.2.2.1 r.2.2.2.2.2.2.2.2.2.2.2.1 r.2.2.2.2.2.2.2.2.2.2.2.2.1 r.2.2.2.2.2.2.2.2.2.2.2.2.2.1 r.2.2.2.2.2.2.2.2.2.2.2.2.2.2.1 r.2.2.2.2.2.2.2.2.2.2.2.2.2.2.2.1 r.2.2.2.2.2.2.2.2.2.2.2.2.2.2.2.2.1 r.2.2.2.2.2.2.2.2.2.2.2.2.2.2.2.2.2.1 r.2.2.2.2.2.2.2.2.2.2.2.2.2.2.2.2.2.2.1 r.2.2.2.2.2.2.2.2.2.2.2.2.2.2.2.2.2.2.2.1 r.2.2.2.2.2.2.2.2.2.2.2.2.2.2.2.2.2.2.2.2)) else none)):=by
 subst h_e1
 kernel_rfl
theorem h_tB_5_s (k m1 m:Nat)(legs_:YL)(w_:Option Nat)(t20:List (TEvent))(t21:Int)(t22:Int)(s_:YA)(s_1:YP)(s_2:YG)(s_3:YK)(s_4:Int)(a_:Int)(a_1:Int)(a_2:Int)(a_3:Int)(a_4:Int)(a_5:Int)(a_6:Int)(a_7:Int)(a_8:Int)(a_9:Bool)(ua:YO)(ub:YO)(uc:YS)(ud:YE)(ue:YN)(uf:YI)(ug:YT)(uh:YE)(ui:YF)(uj:YN)(uk:YN)(ul:YL)(um:YO)(un:YT)(uo:YO)(up:YN)(uq:YB)(ur:YR)(us:YL)(ut:YB)(uu:YN)(e1:Int)(h_e1:e1=(w64 (t22+1)))(e2:(Int × (Int × (Int × (Int × (Int × (Int × Int)))))))(h_e2:e2=(a_1,a_2,a_3,a_4,a_5,a_6,a_7)):h_tB_5 k m1 (m+1) legs_ w_ t20 t21 t22 s_ s_1 s_2 s_3 s_4 a_ a_1 a_2 a_3 a_4 a_5 a_6 a_7 a_8 a_9 ua ub uc ud ue uf ug uh ui uj uk ul um un uo up uq ur us ut uu=((CF k S29 n_bank_Do [inj KState (s_,s_1,s_2,s_3,s_4),inj KRequest e2,inj (.slice .bool) legs_]).bind fun (r:TState × TReply × Int)=>(bif w_.isSome then ((CF k S46 n_dE_State [inj (.ref 30) (List.getD ub (w_.getD 0) none),Cn un]).bind fun (r_1:TState × YT)=>((CF k S42 n_keys_Ask [inj (.slice KKnown) r_1.1.2.2.2.1,inj KRequest e2]).bind fun (r_2:TReply × Bool)=>(bif r_2.2 then (bif (!(decide (r_2.1.1=r.2.1.1) && (decide (r_2.1.2=r.2.1.2) && true))) then some (false,ua,ub,uc,ud,ue,uf,ug,uh,ui,uj,uk,ul,um,r_1.2,uo,up,uq,ur,us,ut,uu) else (bif (!r_2.2) then (bif (!decide (r.2.1.1=7)) then some (false,ua,ub,uc,ud,ue,uf,ug,uh,ui,uj,uk,ul,um,r_1.2,uo,up,uq,ur,us,ut,uu) else (h_tB k m1 legs_ w_ t20 t21 e1 r.1.1 r.1.2.1 r.1.2.2.1 r.1.2.2.2.1 r.1.2.2.2.2 ua ub uc ud ue uf ug uh ui uj uk ul um r_1.2 uo up uq ur us ut uu)) else (h_tB k m1 legs_ w_ t20 t21 e1 r.1.1 r.1.2.1 r.1.2.2.1 r.1.2.2.2.1 r.1.2.2.2.2 ua ub uc ud ue uf ug uh ui uj uk ul um r_1.2 uo up uq ur us ut uu))) else (bif (!r_2.2) then (bif (!decide (r.2.1.1=7)) then some (false,ua,ub,uc,ud,ue,uf,ug,uh,ui,uj,uk,ul,um,r_1.2,uo,up,uq,ur,us,ut,uu) else (h_tB k m1 legs_ w_ t20 t21 e1 r.1.1 r.1.2.1 r.1.2.2.1 r.1.2.2.2.1 r.1.2.2.2.2 ua ub uc ud ue uf ug uh ui uj uk ul um r_1.2 uo up uq ur us ut uu)) else (h_tB k m1 legs_ w_ t20 t21 e1 r.1.1 r.1.2.1 r.1.2.2.1 r.1.2.2.2.1 r.1.2.2.2.2 ua ub uc ud ue uf ug uh ui uj uk ul um r_1.2 uo up uq ur us ut uu))))) else none)):=by
 subst h_e1 h_e2
 kernel_rfl
theorem f_oD_open (k:Nat)(d_:Tmachine)(r_:TRequest)(e1:(List (Int × (Int × Int))))(h_e1:e1=[(r_.2.2.1,0,0)])(e2:Int)(h_e2:e2=(d_.1.length:Int)):CF (k+1) S56 n_oD_open [vf [.io Kmachine d_],inj KRequest r_]=((bif decide (64<=e2) then some ((7,0),d_) else ((CF k S53 n_chart_Clone [inj (.slice KAccount) d_.1]).bind fun (r:YA)=>(bif decide (((r.length+e1.length) * 24)<=211106232532992) then ((CF k S56 n_oD_take [vf [.io Kmachine d_],inj (.slice KAccount) (r++e1),inj .err none,inj qI e2]).bind fun (r_1:TReply × Tmachine)=>some r_1) else none))):Option (TReply × Tmachine)):=by
 subst h_e1 h_e2
 kernel_rfl
theorem f_oD_deposit (k:Nat)(d_:Tmachine)(r_:TRequest):CF (k+1) S56 n_oD_deposit [vf [.io Kmachine d_],inj KRequest r_]=(((CF k S59 n_oD_clients [vf [.io Kmachine d_],inj (.slice qI) [r_.2.2.1]]).bind fun (r:Bool × Tmachine)=>(bif (!r.1) then some ((2,0),r.2) else (bif (inb r_.2.2.1 r.2.1.length) then ((CF k S60 n_chart_Number [inj qI 0,inj qI (List.getD r.2.1 (Int.toNat r_.2.2.1) (0,0,0)).1]).bind fun (r_1:Int)=>((CF k S56 n_oD_post [vf [.io Kmachine r.2],inj qI r_1,inj qI r_.2.2.1,inj qI r_.2.2.2.2.1]).bind fun (r_2:TReply × Tmachine)=>some r_2)) else none))):Option (TReply × Tmachine)):=by kernel_rfl
theorem f_oD_transfer (k:Nat)(d_:Tmachine)(r_:TRequest):CF (k+1) S56 n_oD_transfer [vf [.io Kmachine d_],inj KRequest r_]=(((CF k S59 n_oD_clients [vf [.io Kmachine d_],inj (.slice qI) [r_.2.2.1,r_.2.2.2.1]]).bind fun (r:Bool × Tmachine)=>(bif (!r.1) then some ((2,0),r.2) else ((CF k S56 n_oD_post [vf [.io Kmachine r.2],inj qI r_.2.2.1,inj qI r_.2.2.2.1,inj qI r_.2.2.2.2.1]).bind fun (r_1:TReply × Tmachine)=>some r_1))):Option (TReply × Tmachine)):=by kernel_rfl
theorem f_oD_auth (k:Nat)(d_:Tmachine)(r_:TRequest):CF (k+1) S56 n_oD_auth [vf [.io Kmachine d_],inj KRequest r_]=(((CF k S59 n_oD_clients [vf [.io Kmachine d_],inj (.slice qI) [r_.2.2.1,r_.2.2.2.1]]).bind fun (r:Bool × Tmachine)=>(bif (!r.1) then some ((2,0),r.2) else (bif decide (r_.2.2.1=r_.2.2.2.1) then some ((1,0),r.2) else (bif decide (r_.2.2.2.2.2.2<=r.2.2.2.2.2) then some ((1,0),r.2) else (bif decide (64<=(r.2.2.1.length:Int)) then some ((7,0),r.2) else (h_oD_auth k k r.2.1 r.2.2.1 r.2.2.2.1 r.2.2.2.2.1 r.2.2.2.2.2 r_.1 r_.2.1 r_.2.2.1 r_.2.2.2.1 r_.2.2.2.2.1 r_.2.2.2.2.2.1 r_.2.2.2.2.2.2 0 0)))))):Option (TReply × Tmachine)):=by kernel_rfl
theorem h_oD_auth_s (k m:Nat)(d_:YA)(d_1:YP)(d_2:YG)(d_3:YK)(d_4:Int)(r_:Int)(r_1:Int)(r_2:Int)(r_3:Int)(r_4:Int)(r_5:Int)(r_6:Int)(t4:Int)(t41:Int)(e1:(List (Int × (Int × (Int × (Int × (Int × (Int × (Int × Int)))))))))(h_e1:e1=[(r_2,r_3,r_4,0,0,0,r_6,0)]):h_oD_auth k (m+1) d_ d_1 d_2 d_3 d_4 r_ r_1 r_2 r_3 r_4 r_5 r_6 t4 t41=((CF k S33 n_l_Hold [inj (.slice KAccount) d_,inj qI r_2,inj qI r_4]).bind fun (r:YA × (Option Int))=>((CF k S56 n_oD_take [vf [.io Kmachine (d_,d_1,d_2,d_3,d_4)],inj (.slice KAccount) r.1,inj .err r.2,inj qI (d_1.length:Int)]).bind fun (r_7:TReply × Tmachine)=>(bif (!r.2.isSome) then (bif decide ((r_7.2.2.1.length * 64)<=211106232532992) then (bif decide (((r_7.2.2.1.length+e1.length) * 64)<=211106232532992) then some (r_7.1,r_7.2.1,(r_7.2.2.1++e1),r_7.2.2.2) else none) else none) else some r_7))):=by
 subst h_e1
 kernel_rfl
theorem f_oD_capture (k:Nat)(d_:Tmachine)(r_:TRequest):CF (k+1) S56 n_oD_capture [vf [.io Kmachine d_],inj KRequest r_]=(((CF k S25 n_oD_both [vf [.io Kmachine d_],inj KRequest r_]).bind fun (r:TPayment × TPayment × (Option Int) × Tmachine)=>(bif r.2.2.1.isSome then ((CF k Z2 n_ops_number [inj .err r.2.2.1]).bind fun (r_1:TReply)=>some (r_1,r.2.2.2)) else ((CF k S36 n_eV [inj (.slice KAccount) r.2.2.2.1,inj qI r.1.1,inj qI r.1.2.1,inj qI r_.2.2.2.2.1]).bind fun (r_1:(List (TReply)) × (Option Int))=>(bif r_1.2.isSome then ((CF k Z2 n_ops_number [inj .err r_1.2]).bind fun (r_2:TReply)=>some (r_2,r.2.2.2)) else ((CF k S33 n_l_Spend [inj (.slice KAccount) r.2.2.2.1,inj qI r_.2.2.2.2.1,inj (.slice KReply) r_1.1]).bind fun (r_2:YA × (Option Int))=>((CF k S56 n_oD_pay [vf [.io Kmachine r.2.2.2],inj qI r_.2.2.1,inj KPayment r.2.1,inj (.slice KAccount) r_2.1,inj .err r_2.2]).bind fun (r_3:TReply × Tmachine)=>some r_3)))))):Option (TReply × Tmachine)):=by kernel_rfl
theorem f_oD_void (k:Nat)(d_:Tmachine)(r_:TRequest):CF (k+1) S56 n_oD_void [vf [.io Kmachine d_],inj KRequest r_]=(((CF k S25 n_oD_both [vf [.io Kmachine d_],inj KRequest r_]).bind fun (r:TPayment × TPayment × (Option Int) × Tmachine)=>(bif r.2.2.1.isSome then ((CF k Z2 n_ops_number [inj .err r.2.2.1]).bind fun (r_1:TReply)=>some (r_1,r.2.2.2)) else ((CF k S60 n_payment_Left [inj KPayment r.1]).bind fun (r_1:Int)=>((CF k S33 n_l_Release [inj (.slice KAccount) r.2.2.2.1,inj qI r.1.1,inj qI r_1]).bind fun (r_2:YA × (Option Int))=>((CF k S56 n_oD_pay [vf [.io Kmachine r.2.2.2],inj qI r_.2.2.1,inj KPayment r.2.1,inj (.slice KAccount) r_2.1,inj .err r_2.2]).bind fun (r_3:TReply × Tmachine)=>some r_3))))):Option (TReply × Tmachine)):=by kernel_rfl
theorem f_oD_refund (k:Nat)(d_:Tmachine)(r_:TRequest):CF (k+1) S56 n_oD_refund [vf [.io Kmachine d_],inj KRequest r_]=(((CF k S25 n_oD_both [vf [.io Kmachine d_],inj KRequest r_]).bind fun (r:TPayment × TPayment × (Option Int) × Tmachine)=>(bif r.2.2.1.isSome then ((CF k Z2 n_ops_number [inj .err r.2.2.1]).bind fun (r_1:TReply)=>some (r_1,r.2.2.2)) else ((CF k S31 n_oD_back [vf [.io Kmachine r.2.2.2],inj KPayment r.1,inj qI r_.2.2.2.2.1]).bind fun (r_1:(List (TReply)) × (Option Int) × Tmachine)=>(bif r_1.2.1.isSome then ((CF k Z2 n_ops_number [inj .err r_1.2.1]).bind fun (r_2:TReply)=>some (r_2,r_1.2.2)) else ((CF k S33 n_l_Post [inj (.slice KAccount) r_1.2.2.1,inj (.slice KReply) r_1.1]).bind fun (r_2:YA × (Option Int))=>((CF k S56 n_oD_pay [vf [.io Kmachine r_1.2.2],inj qI r_.2.2.1,inj KPayment r.2.1,inj (.slice KAccount) r_2.1,inj .err r_2.2]).bind fun (r_3:TReply × Tmachine)=>some r_3)))))):Option (TReply × Tmachine)):=by kernel_rfl
theorem f_oD_charge (k:Nat)(d_:Tmachine)(r_:TRequest):CF (k+1) S56 n_oD_charge [vf [.io Kmachine d_],inj KRequest r_]=(((CF k S25 n_oD_both [vf [.io Kmachine d_],inj KRequest r_]).bind fun (r:TPayment × TPayment × (Option Int) × Tmachine)=>(bif r.2.2.1.isSome then ((CF k Z2 n_ops_number [inj .err r.2.2.1]).bind fun (r_1:TReply)=>some (r_1,r.2.2.2)) else ((CF k S31 n_oD_back [vf [.io Kmachine r.2.2.2],inj KPayment r.1,inj qI r_.2.2.2.2.1]).bind fun (r_1:(List (TReply)) × (Option Int) × Tmachine)=>(bif r_1.2.1.isSome then ((CF k Z2 n_ops_number [inj .err r_1.2.1]).bind fun (r_2:TReply)=>some (r_2,r_1.2.2)) else (bif (inb r.1.2.1 r_1.2.2.1.length) then (bif (inb 0 r_1.1.length) then ((CF k S60 n_chart_Free [inj KAccount (List.getD r_1.2.2.1 (Int.toNat r.1.2.1) (0,0,0))]).bind fun (r_2:Int)=>(bif decide (0 < (w64 ((w64 (0 - (List.getD r_1.1 0 (0,0)).2)) - r_2))) then (bif (inb 0 r_1.1.length) then (bif (inb 0 r_1.1.length) then ((CF k S60 n_chart_Number [inj qI 2,inj qI (List.getD r_1.2.2.1 (Int.toNat r.1.2.1) (0,0,0)).1]).bind fun (r_3:Int)=>(bif decide ((((List.set r_1.1 0 ((List.getD r_1.1 0 (0,0)).1,(w64 ((List.getD r_1.1 0 (0,0)).2+(w64 ((w64 (0 - (List.getD r_1.1 0 (0,0)).2)) - r_2)))))).length+[(r_3,(w64 (0 - (w64 ((w64 (0 - (List.getD r_1.1 0 (0,0)).2)) - r_2)))))].length) * 16)<=211106232532992) then (h_oD_charge k k r_1.2.2.1 r_1.2.2.2.1 r_1.2.2.2.2.1 r_1.2.2.2.2.2.1 r_1.2.2.2.2.2.2 r_.1 r_.2.1 r_.2.2.1 r_.2.2.2.1 r_.2.2.2.2.1 r_.2.2.2.2.2.1 r_.2.2.2.2.2.2 0 0 r.2.1.1 r.2.1.2.1 r.2.1.2.2.1 r.2.1.2.2.2.1 r.2.1.2.2.2.2.1 r.2.1.2.2.2.2.2.1 r.2.1.2.2.2.2.2.2.1 r.2.1.2.2.2.2.2.2.2 ((List.set r_1.1 0 ((List.getD r_1.1 0 (0,0)).1,(w64 ((List.getD r_1.1 0 (0,0)).2+(w64 ((w64 (0 - (List.getD r_1.1 0 (0,0)).2)) - r_2))))))++[(r_3,(w64 (0 - (w64 ((w64 (0 - (List.getD r_1.1 0 (0,0)).2)) - r_2)))))])) else none)) else none) else none) else (h_oD_charge k k r_1.2.2.1 r_1.2.2.2.1 r_1.2.2.2.2.1 r_1.2.2.2.2.2.1 r_1.2.2.2.2.2.2 r_.1 r_.2.1 r_.2.2.1 r_.2.2.2.1 r_.2.2.2.2.1 r_.2.2.2.2.2.1 r_.2.2.2.2.2.2 0 0 r.2.1.1 r.2.1.2.1 r.2.1.2.2.1 r.2.1.2.2.2.1 r.2.1.2.2.2.2.1 r.2.1.2.2.2.2.2.1 r.2.1.2.2.2.2.2.2.1 r.2.1.2.2.2.2.2.2.2 r_1.1))) else none) else none))))):Option (TReply × Tmachine)):=by kernel_rfl
theorem h_oD_charge_s (k m:Nat)(d_:YA)(d_1:YP)(d_2:YG)(d_3:YK)(d_4:Int)(r_:Int)(r_1:Int)(r_2:Int)(r_3:Int)(r_4:Int)(r_5:Int)(r_6:Int)(t4:Int)(t41:Int)(q_:Int)(q_1:Int)(q_2:Int)(q_3:Int)(q_4:Int)(q_5:Int)(q_6:Int)(q_7:Int)(un:List (TReply)):h_oD_charge k (m+1) d_ d_1 d_2 d_3 d_4 r_ r_1 r_2 r_3 r_4 r_5 r_6 t4 t41 q_ q_1 q_2 q_3 q_4 q_5 q_6 q_7 un=((CF k S33 n_l_Post [inj (.slice KAccount) d_,inj (.slice KReply) un]).bind fun (r:YA × (Option Int))=>((CF k S56 n_oD_pay [vf [.io Kmachine (d_,d_1,d_2,d_3,d_4)],inj qI r_2,inj KPayment (q_,q_1,q_2,q_3,q_4,q_5,q_6,q_7),inj (.slice KAccount) r.1,inj .err r.2]).bind fun (r_7:TReply × Tmachine)=>some r_7)):=by kernel_rfl
theorem f_payment_capture (k:Nat)(p_:TPayment)(n_:Int)(e1:Int)(h_e1:e1=(w64 (p_.2.2.2.1+n_))):CF (k+1) S39 n_payment_capture [inj KPayment p_,inj qI n_]=(((CF k S60 n_payment_Left [inj KPayment p_]).bind fun (r:Int)=>(bif decide (e1=p_.2.2.1) then some ((p_.1,p_.2.1,p_.2.2.1,e1,p_.2.2.2.2.1,p_.2.2.2.2.2.1,p_.2.2.2.2.2.2.1,1),decide (n_<=r)) else some ((p_.1,p_.2.1,p_.2.2.1,e1,p_.2.2.2.2),decide (n_<=r)))):Option (TPayment × Bool)):=by
 subst h_e1
 kernel_rfl
theorem f_payment_refund (k:Nat)(p_:TPayment)(n_:Int):CF (k+1) S39 n_payment_refund [inj KPayment p_,inj qI n_]=(((CF k S60 n_payment_Gave [inj KPayment p_]).bind fun (r:Int)=>some ((p_.1,p_.2.1,p_.2.2.1,p_.2.2.2.1,(w64 (p_.2.2.2.2.1+n_)),p_.2.2.2.2.2),decide (n_<=r))):Option (TPayment × Bool)):=by kernel_rfl
theorem f_payment_charge (k:Nat)(p_:TPayment)(n_:Int):CF (k+1) S39 n_payment_charge [inj KPayment p_,inj qI n_]=(((CF k S60 n_payment_Gave [inj KPayment p_]).bind fun (r:Int)=>some ((p_.1,p_.2.1,p_.2.2.1,p_.2.2.2.1,p_.2.2.2.2.1,(w64 (p_.2.2.2.2.2.1+n_)),p_.2.2.2.2.2.2),decide (n_<=r))):Option (TPayment × Bool)):=by kernel_rfl
theorem f_payment_shut (k:Nat)(p_:TPayment)(a1_:Int):CF (k+1) S39 n_payment_shut [inj KPayment p_,inj qI a1_]=(some ((p_.1,p_.2.1,p_.2.2.1,p_.2.2.2.1,p_.2.2.2.2.1,p_.2.2.2.2.2.1,p_.2.2.2.2.2.2.1,1),decide (p_.2.2.2.2.2.2.2=0)):Option (TPayment × Bool)):=by kernel_rfl
theorem f_tw (k:Nat)(ua:YO)(ub:YO)(uc:YS)(ud:YE)(ue:YN)(uf:YI)(ug:YT)(uh:YE)(ui:YF)(uj:YN)(uk:YN)(ul:YL)(um:YO)(un:YT)(uo:YO)(up:YN)(uq:YB)(ur:YR)(us:YL)(ut:YB)(uu:YN):CF (k+1) S2 n_tw [Ca ua,Cb ub,Cc uc,Cd ud,Ce ue,Cf uf,Cg ug,Ch uh,Ci ui,Cj uj,Ck uk,Cl ul,Cm um,Cn un,Co uo,Cp up,Cq uq,Cr ur,Cs us,Ct ut,Cu uu]=(((CF k S49 n_law24_All [inj qB [6,2,0,3,10,2,1,0,1,0,0,0,1,0,1,0,0,0,1,0,1,0,0,0]]).bind fun (r:YN)=>((CF k S1 n_wR [inj qB r,inj qI 262144,Ca ua,Cb ub,Cc uc,Cd ud,Ce ue,Cf uf,Cg ug,Ch uh,Ci ui,Cj uj,Ck uk,Cl ul,Cm um,Cn un,Co uo,Cp up,Cq uq,Cr ur,Cs us,Ct ut,Cu uu]).bind fun (r_1:R1)=>(bif (!r_1.1.isSome) then some (false,r_1.2) else (bif r_1.1.isSome then (bif (!(List.getD r_1.2.2.1 (r_1.1.getD 0) none).isSome) then some (false,r_1.2) else (h_tw k k r_1.1 r_1.2.1 r_1.2.2.1 r_1.2.2.2.1 r_1.2.2.2.2.1 r_1.2.2.2.2.2.1 r_1.2.2.2.2.2.2.1 r_1.2.2.2.2.2.2.2.1 r_1.2.2.2.2.2.2.2.2.1 r_1.2.2.2.2.2.2.2.2.2.1 r_1.2.2.2.2.2.2.2.2.2.2.1 r_1.2.2.2.2.2.2.2.2.2.2.2.1 r_1.2.2.2.2.2.2.2.2.2.2.2.2.1 r_1.2.2.2.2.2.2.2.2.2.2.2.2.2.1 r_1.2.2.2.2.2.2.2.2.2.2.2.2.2.2.1 r_1.2.2.2.2.2.2.2.2.2.2.2.2.2.2.2.1 r_1.2.2.2.2.2.2.2.2.2.2.2.2.2.2.2.2.1 r_1.2.2.2.2.2.2.2.2.2.2.2.2.2.2.2.2.2.1 r_1.2.2.2.2.2.2.2.2.2.2.2.2.2.2.2.2.2.2.1 r_1.2.2.2.2.2.2.2.2.2.2.2.2.2.2.2.2.2.2.2.1 r_1.2.2.2.2.2.2.2.2.2.2.2.2.2.2.2.2.2.2.2.2.1 r_1.2.2.2.2.2.2.2.2.2.2.2.2.2.2.2.2.2.2.2.2.2)) else none)))):Option (R2)):=by kernel_rfl
theorem h_tw_s (k m:Nat)(w_:Option Nat)(ua:YO)(ub:YO)(uc:YS)(ud:YE)(ue:YN)(uf:YI)(ug:YT)(uh:YE)(ui:YF)(uj:YN)(uk:YN)(ul:YL)(um:YO)(un:YT)(uo:YO)(up:YN)(uq:YB)(ur:YR)(us:YL)(ut:YB)(uu:YN):h_tw k (m+1) w_ ua ub uc ud ue uf ug uh ui uj uk ul um un uo up uq ur us ut uu=(bif w_.isSome then ((CF k S46 n_dE_State [inj (.ref 30) (List.getD ub (w_.getD 0) none),Cn un]).bind fun (r:TState × YT)=>(bif w_.isSome then (bif (!(List.getD uf (w_.getD 0) none).isSome) then (bif w_.isSome then (bif decide (((List.getD uc (w_.getD 0) []).length:Int)=13) then (bif decide ((r.1.1.length:Int)=15) then (bif (inb 9 r.1.1.length) then (bif decide ((List.getD r.1.1 9 (0,0,0)).2.1=1680) then (bif (inb 12 r.1.1.length) then (bif decide ((List.getD r.1.1 12 (0,0,0)).2.1=1822) then some (decide ((r.1.2.2.1.length:Int)=0),ua,ub,uc,ud,ue,uf,ug,uh,ui,uj,uk,ul,um,r.2,uo,up,uq,ur,us,ut,uu) else some (false,ua,ub,uc,ud,ue,uf,ug,uh,ui,uj,uk,ul,um,r.2,uo,up,uq,ur,us,ut,uu)) else none) else some (false,ua,ub,uc,ud,ue,uf,ug,uh,ui,uj,uk,ul,um,r.2,uo,up,uq,ur,us,ut,uu)) else none) else some (false,ua,ub,uc,ud,ue,uf,ug,uh,ui,uj,uk,ul,um,r.2,uo,up,uq,ur,us,ut,uu)) else some (false,ua,ub,uc,ud,ue,uf,ug,uh,ui,uj,uk,ul,um,r.2,uo,up,uq,ur,us,ut,uu)) else none) else some (false,ua,ub,uc,ud,ue,uf,ug,uh,ui,uj,uk,ul,um,r.2,uo,up,uq,ur,us,ut,uu)) else none)) else none):=by kernel_rfl
theorem f_top_acts (k:Nat)(b_:YN):CF (k+1) S55 n_top_acts [inj qB b_]=(((CF k S49 n_law24_All [inj qB b_]).bind fun (r:YN)=>((CF k S55 n_sA [inj qB r]).bind fun (r_1:(List (TEvent)))=>some r_1)):Option ((List (TEvent)))):=by kernel_rfl
theorem f_dE_State (k:Nat)(x_:Option Nat)(un:YT):CF (k+1) S46 n_dE_State [inj (.ref 30) x_,Cn un]=((bif x_.isSome then some ((List.getD un (x_.getD 0) ([],[],[],[],0)),un) else none):Option (TState × YT)):=by kernel_rfl
theorem f_s17 (k:Nat)(a_:TState)(b_:TState):CF (k+1) Z0 n_s17 [inj KState a_,inj KState b_]=(((CF k Z0 n_law16_Same [inj KState a_,inj KState b_]).bind fun (r:Bool)=>(bif (!r) then some false else (bif (!decide ((a_.2.2.1.length:Int)=(b_.2.2.1.length:Int))) then some false else (h_s17 k k a_.1 a_.2.1 a_.2.2.1 a_.2.2.2.1 a_.2.2.2.2 b_.1 b_.2.1 b_.2.2.1 b_.2.2.2.1 b_.2.2.2.2)))):Option (Bool)):=by kernel_rfl
theorem h_s17_s (k m:Nat)(a_:YA)(a_1:YP)(a_2:YG)(a_3:YK)(a_4:Int)(b_:YA)(b_1:YP)(b_2:YG)(b_3:YK)(b_4:Int):h_s17 k (m+1) a_ a_1 a_2 a_3 a_4 b_ b_1 b_2 b_3 b_4=(h_s17_1 k k (a_2.length:Int) 0 a_ a_1 a_2 a_3 a_4 b_ b_1 b_2 b_3 b_4):=by kernel_rfl
theorem h_s17_1_s (k m:Nat)(t21:Int)(t22:Int)(a_:YA)(a_1:YP)(a_2:YG)(a_3:YK)(a_4:Int)(b_:YA)(b_1:YP)(b_2:YG)(b_3:YK)(b_4:Int)(e1:((Int × (Int × (Int × (Int × (Int × (Int × Int)))))) × (Int × (Int × (Int × Int)))))(h_e1:e1=(List.getD a_2 (Int.toNat t22) ((0,0,0,0,0,0,0),0,0,0,0)))(e2:((Int × (Int × (Int × (Int × (Int × (Int × Int)))))) × (Int × (Int × (Int × Int)))))(h_e2:e2=(List.getD b_2 (Int.toNat t22) ((0,0,0,0,0,0,0),0,0,0,0))):h_s17_1 k (m+1) t21 t22 a_ a_1 a_2 a_3 a_4 b_ b_1 b_2 b_3 b_4=(bif decide (t22 < t21) then (bif (inb t22 a_2.length) then (bif (inb t22 b_2.length) then (bif (!(decide (e1.1.1=e2.1.1) && (decide (e1.1.2.1=e2.1.2.1) && (decide (e1.1.2.2.1=e2.1.2.2.1) && (decide (e1.1.2.2.2.1=e2.1.2.2.2.1) && (decide (e1.1.2.2.2.2.1=e2.1.2.2.2.2.1) && (decide (e1.1.2.2.2.2.2.1=e2.1.2.2.2.2.2.1) && (decide (e1.1.2.2.2.2.2.2=e2.1.2.2.2.2.2.2) && (decide (e1.2.1=e2.2.1) && (decide (e1.2.2.1=e2.2.2.1) && (decide (e1.2.2.2.1=e2.2.2.2.1) && (decide (e1.2.2.2.2=e2.2.2.2.2) && true)))))))))))) then some false else (h_s17_1 k m t21 (w64 (t22+1)) a_ a_1 a_2 a_3 a_4 b_ b_1 b_2 b_3 b_4)) else none) else none) else some true):=by
 subst h_e1 h_e2
 kernel_rfl
theorem f_wO (k:Nat)(room_:Int)(ua:YO)(ub:YO)(uc:YS)(ud:YE)(ue:YN)(uf:YI)(ug:YT)(uh:YE)(ui:YF)(uj:YN)(uk:YN)(ul:YL)(um:YO)(un:YT)(uo:YO)(up:YN)(uq:YB)(ur:YR)(us:YL)(ut:YB)(uu:YN):CF (k+1) S1 n_wO [inj qI room_,Ca ua,Cb ub,Cc uc,Cd ud,Ce ue,Cf uf,Cg ug,Ch uh,Ci ui,Cj uj,Ck uk,Cl ul,Cm um,Cn un,Co uo,Cp up,Cq uq,Cr ur,Cs us,Ct ut,Cu uu]=(((CF k S14 n_disk_Of [inj qI room_,Ci ui,Cj uj,Ck uk,Cl ul]).bind fun (r:R18)=>((CF k S6 n_dO [inj (.ref 29) (List.getD (ua++[r.1]) ua.length none),Ci r.2.1,Ck r.2.2.2.1,Cl r.2.2.2.2,Cm um,Cn un,Co uo,Cp up,Cq uq,Cr ur,Cs us,Ct ut,Cu uu]).bind fun (r_1:R7)=>some (some ua.length,(ua++[r.1]),(List.set (ub++[none]) ua.length r_1.1),(uc++[[]]),(ud++[[]]),(ue++[0]),(List.set (uf++[none]) ua.length r_1.2.1),(ug++[([],[],[],[],0)]),(uh++[[]]),r_1.2.2.1,r.2.2.1,r_1.2.2.2))):Option (R1)):=by kernel_rfl
abbrev actEnd (k:Nat)(w_:Option Nat)(keep_:Int)(ua:YO)(ub:YO)(uc:YS)(ud:YE)(ue:YN)(uf:YI)(ug:YT)(uh:YE)(ui:YF)(uj:YN)(uk:YN)(ul:YL)(um:YO)(un:YT)(uo:YO)(up:YN)(uq:YB)(ur:YR)(us:YL)(ut:YB)(uu:YN):Option R3:=(bif w_.isSome then ((CF k S48 n_dD_Stopped [inj (.ref 29) (List.getD ua (w_.getD 0) none),Cl ul]).bind fun (r:Bool × YL)=>(bif r.1 then ((CF k Z3 n_wW_again [inj (.ref 26) w_,inj qI keep_,Ca ua,Cb ub,Cd ud,Ce ue,Cf uf,Cg ug,Ch uh,Ci ui,Ck uk,Cl r.2,Cm um,Cn un,Co uo,Cp up,Cq uq,Cr ur,Cs us,Ct ut,Cu uu]).bind fun (r_1:R4)=>some (r_1.1,r_1.2.1,uc,r_1.2.2.1,r_1.2.2.2.1,r_1.2.2.2.2.1,r_1.2.2.2.2.2.1,r_1.2.2.2.2.2.2.1,r_1.2.2.2.2.2.2.2.1,uj,r_1.2.2.2.2.2.2.2.2)) else some (ua,ub,uc,ud,ue,uf,ug,uh,ui,uj,uk,r.2,um,un,uo,up,uq,ur,us,ut,uu))) else none)
theorem f_wW_Act (k:Nat)(w_:Option Nat)(a_:TEvent)(keep_:Int)(ua:YO)(ub:YO)(uc:YS)(ud:YE)(ue:YN)(uf:YI)(ug:YT)(uh:YE)(ui:YF)(uj:YN)(uk:YN)(ul:YL)(um:YO)(un:YT)(uo:YO)(up:YN)(uq:YB)(ur:YR)(us:YL)(ut:YB)(uu:YN)(e1:(List ((Int × (Int × (Int × (Int × (Int × (Int × Int)))))) × (Int × Int))))(h_e1:e1=(List.getD uc (w_.getD 0) []))(e2:Int)(h_e2:e2=(e1.length:Int))(e3:Int)(h_e3:e3=(Int.tmod a_.2.2.1 e2)):CF (k+1) Z4 n_wW_Act [inj (.ref 26) w_,inj KEvent a_,inj qI keep_,Ca ua,Cb ub,Cc uc,Cd ud,Ce ue,Cf uf,Cg ug,Ch uh,Ci ui,Cj uj,Ck uk,Cl ul,Cm um,Cn un,Co uo,Cp up,Cq uq,Cr ur,Cs us,Ct ut,Cu uu]=((bif w_.isSome then (bif (List.getD uf (w_.getD 0) none).isSome then some (ua,ub,uc,ud,ue,uf,ug,uh,ui,uj,uk,ul,um,un,uo,up,uq,ur,us,ut,uu) else (bif decide (a_.1=0) then ((CF k Z7 n_wW_ask [inj (.ref 26) w_,inj KRequest a_.2.1,Cb ub,Cc uc,Cd ud,Cg ug,Ch uh,Ci ui,Cj uj,Ck uk,Cl ul,Cm um,Cn un,Co uo,Cp up,Cq uq,Cr ur,Cs us,Ct ut,Cu uu]).bind fun (r:R5)=>(actEnd k w_ keep_ ua r.1 r.2.1 r.2.2.1 ue uf r.2.2.2.1 r.2.2.2.2.1 r.2.2.2.2.2.1 r.2.2.2.2.2.2.1 r.2.2.2.2.2.2.2.1 r.2.2.2.2.2.2.2.2.1 r.2.2.2.2.2.2.2.2.2.1 r.2.2.2.2.2.2.2.2.2.2.1 r.2.2.2.2.2.2.2.2.2.2.2.1 r.2.2.2.2.2.2.2.2.2.2.2.2.1 r.2.2.2.2.2.2.2.2.2.2.2.2.2.1 r.2.2.2.2.2.2.2.2.2.2.2.2.2.2.1 r.2.2.2.2.2.2.2.2.2.2.2.2.2.2.2.1 r.2.2.2.2.2.2.2.2.2.2.2.2.2.2.2.2.1 r.2.2.2.2.2.2.2.2.2.2.2.2.2.2.2.2.2)) else (bif decide (a_.1=1) then (bif w_.isSome then (bif decide (0 < e2) then (bif w_.isSome then (bif w_.isSome then (bif (!decide (e2=0)) then (bif (inb e3 e1.length) then ((CF k Z7 n_wW_ask [inj (.ref 26) w_,inj KRequest (List.getD e1 (Int.toNat e3) ((0,0,0,0,0,0,0),0,0)).1,Cb ub,Cc uc,Cd ud,Cg ug,Ch uh,Ci ui,Cj uj,Ck uk,Cl ul,Cm um,Cn un,Co uo,Cp up,Cq uq,Cr ur,Cs us,Ct ut,Cu uu]).bind fun (r:R5)=>(actEnd k w_ keep_ ua r.1 r.2.1 r.2.2.1 ue uf r.2.2.2.1 r.2.2.2.2.1 r.2.2.2.2.2.1 r.2.2.2.2.2.2.1 r.2.2.2.2.2.2.2.1 r.2.2.2.2.2.2.2.2.1 r.2.2.2.2.2.2.2.2.2.1 r.2.2.2.2.2.2.2.2.2.2.1 r.2.2.2.2.2.2.2.2.2.2.2.1 r.2.2.2.2.2.2.2.2.2.2.2.2.1 r.2.2.2.2.2.2.2.2.2.2.2.2.2.1 r.2.2.2.2.2.2.2.2.2.2.2.2.2.2.1 r.2.2.2.2.2.2.2.2.2.2.2.2.2.2.2.1 r.2.2.2.2.2.2.2.2.2.2.2.2.2.2.2.2.1 r.2.2.2.2.2.2.2.2.2.2.2.2.2.2.2.2.2)) else none) else none) else none) else none) else (actEnd k w_ keep_ ua ub uc ud ue uf ug uh ui uj uk ul um un uo up uq ur us ut uu)) else none) else (bif decide (a_.1=2) then (bif w_.isSome then ((CF k S46 n_dE_State [inj (.ref 30) (List.getD ub (w_.getD 0) none),Cn un]).bind fun (r:TState × YT)=>((CF k S47 n_engine_Waits [inj KState r.1]).bind fun (r_1:YN)=>(bif decide (0 < (r_1.length:Int)) then (bif (!decide ((r_1.length:Int)=0)) then (bif (inb (Int.tmod a_.2.2.1 (r_1.length:Int)) r_1.length) then ((CF k S3 n_wW_does [inj (.ref 26) w_,inj KEvent (1,(0,0,0,0,0,0,0),(List.getD r_1 (Int.toNat (Int.tmod a_.2.2.1 (r_1.length:Int))) 0),a_.2.2.2),Cb ub,Cd ud,Cg ug,Ch uh,Ci ui,Cj uj,Ck uk,Cl ul,Cm um,Cn r.2,Co uo,Cp up,Cq uq,Cr ur,Cs us,Ct ut,Cu uu]).bind fun (r_2:R6)=>(actEnd k w_ keep_ ua r_2.2.1 uc r_2.2.2.1 ue uf r_2.2.2.2.1 r_2.2.2.2.2.1 r_2.2.2.2.2.2.1 r_2.2.2.2.2.2.2.1 r_2.2.2.2.2.2.2.2.1 r_2.2.2.2.2.2.2.2.2.1 r_2.2.2.2.2.2.2.2.2.2.1 r_2.2.2.2.2.2.2.2.2.2.2.1 r_2.2.2.2.2.2.2.2.2.2.2.2.1 r_2.2.2.2.2.2.2.2.2.2.2.2.2.1 r_2.2.2.2.2.2.2.2.2.2.2.2.2.2.1 r_2.2.2.2.2.2.2.2.2.2.2.2.2.2.2.1 r_2.2.2.2.2.2.2.2.2.2.2.2.2.2.2.2.1 r_2.2.2.2.2.2.2.2.2.2.2.2.2.2.2.2.2.1 r_2.2.2.2.2.2.2.2.2.2.2.2.2.2.2.2.2.2)) else none) else none) else (actEnd k w_ keep_ ua ub uc ud ue uf ug uh ui uj uk ul um r.2 uo up uq ur us ut uu)))) else none) else (bif decide (a_.1=3) then ((CF k S3 n_wW_does [inj (.ref 26) w_,inj KEvent (2,(0,0,0,0,0,0,0),0,false),Cb ub,Cd ud,Cg ug,Ch uh,Ci ui,Cj uj,Ck uk,Cl ul,Cm um,Cn un,Co uo,Cp up,Cq uq,Cr ur,Cs us,Ct ut,Cu uu]).bind fun (r:R6)=>(actEnd k w_ keep_ ua r.2.1 uc r.2.2.1 ue uf r.2.2.2.1 r.2.2.2.2.1 r.2.2.2.2.2.1 r.2.2.2.2.2.2.1 r.2.2.2.2.2.2.2.1 r.2.2.2.2.2.2.2.2.1 r.2.2.2.2.2.2.2.2.2.1 r.2.2.2.2.2.2.2.2.2.2.1 r.2.2.2.2.2.2.2.2.2.2.2.1 r.2.2.2.2.2.2.2.2.2.2.2.2.1 r.2.2.2.2.2.2.2.2.2.2.2.2.2.1 r.2.2.2.2.2.2.2.2.2.2.2.2.2.2.1 r.2.2.2.2.2.2.2.2.2.2.2.2.2.2.2.1 r.2.2.2.2.2.2.2.2.2.2.2.2.2.2.2.2.1 r.2.2.2.2.2.2.2.2.2.2.2.2.2.2.2.2.2)) else (bif decide (a_.1=4) then (bif w_.isSome then ((CF k S5 n_dE_Keep [inj (.ref 30) (List.getD ub (w_.getD 0) none),Ci ui,Cj uj,Ck uk,Cl ul,Cm um,Cn un,Co uo,Cp up,Cq uq,Cr ur,Cs us,Ct ut,Cu uu]).bind fun (r:R8)=>(actEnd k w_ keep_ ua ub uc ud ue uf ug uh r.2.1 r.2.2.1 r.2.2.2.1 r.2.2.2.2.1 r.2.2.2.2.2.1 r.2.2.2.2.2.2.1 r.2.2.2.2.2.2.2.1 r.2.2.2.2.2.2.2.2.1 r.2.2.2.2.2.2.2.2.2.1 r.2.2.2.2.2.2.2.2.2.2.1 r.2.2.2.2.2.2.2.2.2.2.2.1 r.2.2.2.2.2.2.2.2.2.2.2.2.1 r.2.2.2.2.2.2.2.2.2.2.2.2.2)) else none) else (bif decide (a_.1=5) then (bif w_.isSome then ((CF k ⟨[],[(.slice qI)]⟩ n_dD_Arm [inj (.ref 29) (List.getD ua (w_.getD 0) none),inj qI a_.2.2.1,Ck uk]).bind fun (r:YN)=>(actEnd k w_ keep_ ua ub uc ud ue uf ug uh ui uj r ul um un uo up uq ur us ut uu)) else none) else (actEnd k w_ keep_ ua ub uc ud ue uf ug uh ui uj uk ul um un uo up uq ur us ut uu)))))))) else none):Option (R3)):=by
 subst h_e1 h_e2 h_e3
 kernel_rfl
theorem f_ops_Tick (k:Nat)(s_:TState)(e1:Int)(h_e1:e1=(w64 (s_.2.2.2.2+1))):CF (k+1) Z5 n_ops_Tick [inj KState s_]=((bif decide (1073741824<=s_.2.2.2.2) then some s_ else ((CF k S47 n_due_By [inj (.slice KPayment) s_.2.1,inj qI e1]).bind fun (r:YN)=>(h_ops_Tick k k r (r.length:Int) 0 s_.1 s_.2.1 s_.2.2.1 s_.2.2.2.1 e1 0))):Option (TState)):=by
 subst h_e1
 kernel_rfl
theorem h_ops_Tick_s (k m:Nat)(t17:YN)(t18:Int)(t19:Int)(s_:YA)(s_1:YP)(s_2:YG)(s_3:YK)(s_4:Int)(t2:Int)(e1:((List (Int × (Int × Int))) × ((List (Int × (Int × (Int × (Int × (Int × (Int × (Int × Int)))))))) × ((List ((Int × (Int × (Int × (Int × (Int × (Int × Int)))))) × (Int × (Int × (Int × Int))))) × ((List ((Int × (Int × (Int × (Int × (Int × (Int × Int)))))) × ((Int × Int) × Bool))) × Int)))))(h_e1:e1=(s_,s_1,s_2,s_3,s_4)):h_ops_Tick k (m+1) t17 t18 t19 s_ s_1 s_2 s_3 s_4 t2=(bif decide (t19 < t18) then (bif (inb t19 t17.length) then ((CF k S40 n_ops_Do [inj KState e1,inj KRequest (0,5,(List.getD t17 (Int.toNat t19) 0),0,0,0,0)]).bind fun (r:TState × TReply)=>(h_ops_Tick k m t17 t18 (w64 (t19+1)) r.1.1 r.1.2.1 r.1.2.2.1 r.1.2.2.2.1 r.1.2.2.2.2 t2)) else none) else some e1):=by
 subst h_e1
 kernel_rfl
theorem f_bank_Do (k:Nat)(s_:TState)(r_:TRequest)(legs_:YL):CF (k+1) S29 n_bank_Do [inj KState s_,inj KRequest r_,inj (.slice .bool) legs_]=(((CF k Z0 n_rM [inj KRequest r_]).bind fun (r:Bool)=>(bif (!r) then some (s_,(1,0),0) else ((CF k S42 n_keys_Ask [inj (.slice KKnown) s_.2.2.2.1,inj KRequest r_]).bind fun (r_1:TReply × Bool)=>(bif r_1.2 then some (s_,r_1.1,0) else ((CF k S35 n_keys_Put [inj (.slice KKnown) s_.2.2.2.1,inj KRequest r_]).bind fun (r_2:YK × (Option Int))=>(bif r_2.2.isSome then ((CF k S60 n_api_Number [inj .err r_2.2]).bind fun (r_3:Int)=>some (s_,(r_3,0),0)) else ((CF k Z0 n_request_Long [inj KRequest r_]).bind fun (r_3:Bool)=>(bif r_3 then ((CF k S29 n_bw [inj KState s_,inj KRequest r_,inj (.slice .bool) legs_]).bind fun (r_4:TState × TReply × Int)=>(h_bank_Do k k r_2.1 r_4.2.2 r_.1 r_.2.1 r_.2.2.1 r_.2.2.2.1 r_.2.2.2.2.1 r_.2.2.2.2.2.1 r_.2.2.2.2.2.2 0 0 0 r_4.1.1 r_4.1.2.1 r_4.1.2.2.1 r_4.1.2.2.2.1 r_4.1.2.2.2.2 r_4.2.1.1 r_4.2.1.2)) else ((CF k S40 n_ops_Do [inj KState s_,inj KRequest r_]).bind fun (r_4:TState × TReply)=>(h_bank_Do k k r_2.1 0 r_.1 r_.2.1 r_.2.2.1 r_.2.2.2.1 r_.2.2.2.2.1 r_.2.2.2.2.2.1 r_.2.2.2.2.2.2 0 0 0 r_4.1.1 r_4.1.2.1 r_4.1.2.2.1 r_4.1.2.2.2.1 r_4.1.2.2.2.2 r_4.2.1 r_4.2.2)))))))))):Option (TState × TReply × Int)):=by kernel_rfl
theorem h_bank_Do_s (k m:Nat)(ks_:YK)(n_:Int)(r_:Int)(r_1:Int)(r_2:Int)(r_3:Int)(r_4:Int)(r_5:Int)(r_6:Int)(t6:Int)(t7:Int)(t71:Int)(t_:YA)(t_1:YP)(t_2:YG)(t_3:YK)(t_4:Int)(out_:Int)(out_1:Int):h_bank_Do k (m+1) ks_ n_ r_ r_1 r_2 r_3 r_4 r_5 r_6 t6 t7 t71 t_ t_1 t_2 t_3 t_4 out_ out_1=((CF k S35 n_keys_Tell [inj (.slice KKnown) ks_,inj qI r_,inj KReply (out_,out_1)]).bind fun (r:YK × (Option Int))=>some ((t_,t_1,t_2,r.1,t_4),(out_,out_1),n_)):=by kernel_rfl
theorem f_keys_Ask (k:Nat)(ks_:YK)(r_:TRequest):CF (k+1) S42 n_keys_Ask [inj (.slice KKnown) ks_,inj KRequest r_]=(((CF k S60 n_keys_Find [inj (.slice KKnown) ks_,inj qI r_.1]).bind fun (r:Int)=>(bif decide (r < 0) then some ((0,0),false) else (bif (inb r ks_.length) then (bif (!(decide ((List.getD ks_ (Int.toNat r) ((0,0,0,0,0,0,0),(0,0),false)).1.1=r_.1) && (decide ((List.getD ks_ (Int.toNat r) ((0,0,0,0,0,0,0),(0,0),false)).1.2.1=r_.2.1) && (decide ((List.getD ks_ (Int.toNat r) ((0,0,0,0,0,0,0),(0,0),false)).1.2.2.1=r_.2.2.1) && (decide ((List.getD ks_ (Int.toNat r) ((0,0,0,0,0,0,0),(0,0),false)).1.2.2.2.1=r_.2.2.2.1) && (decide ((List.getD ks_ (Int.toNat r) ((0,0,0,0,0,0,0),(0,0),false)).1.2.2.2.2.1=r_.2.2.2.2.1) && (decide ((List.getD ks_ (Int.toNat r) ((0,0,0,0,0,0,0),(0,0),false)).1.2.2.2.2.2.1=r_.2.2.2.2.2.1) && (decide ((List.getD ks_ (Int.toNat r) ((0,0,0,0,0,0,0),(0,0),false)).1.2.2.2.2.2.2=r_.2.2.2.2.2.2) && true)))))))) then some ((5,0),true) else (bif (inb r ks_.length) then (bif (!(List.getD ks_ (Int.toNat r) ((0,0,0,0,0,0,0),(0,0),false)).2.2) then some ((10,0),true) else (bif (inb r ks_.length) then some ((List.getD ks_ (Int.toNat r) ((0,0,0,0,0,0,0),(0,0),false)).2.1,true) else none)) else none)) else none))):Option (TReply × Bool)):=by kernel_rfl
theorem f_chart_Clone (k:Nat)(as_:YA):CF (k+1) S53 n_chart_Clone [inj (.slice KAccount) as_]=((bif decide ((as_.length * 24)<=211106232532992) then some as_ else none):Option (YA)):=by kernel_rfl
theorem f_oD_take (k:Nat)(d_:Tmachine)(as_:YA)(e_:Option Int)(id_:Int):CF (k+1) S56 n_oD_take [vf [.io Kmachine d_],inj (.slice KAccount) as_,inj .err e_,inj qI id_]=((bif e_.isSome then ((CF k Z2 n_ops_number [inj .err e_]).bind fun (r:TReply)=>some (r,d_)) else some ((0,id_),as_,d_.2)):Option (TReply × Tmachine)):=by kernel_rfl
theorem f_oD_clients (k:Nat)(d_:Tmachine)(ks_:YN):CF (k+1) S59 n_oD_clients [vf [.io Kmachine d_],inj (.slice qI) ks_]=((h_oD_clients k k ks_ (ks_.length:Int) 0 d_.1 d_.2.1 d_.2.2.1 d_.2.2.2.1 d_.2.2.2.2):Option (Bool × Tmachine)):=by kernel_rfl
theorem h_oD_clients_s (k m:Nat)(t7:YN)(t8:Int)(t9:Int)(d_:YA)(d_1:YP)(d_2:YG)(d_3:YK)(d_4:Int):h_oD_clients k (m+1) t7 t8 t9 d_ d_1 d_2 d_3 d_4=(bif decide (t9 < t8) then (bif (inb t9 t7.length) then ((CF k Z0 n_chart_IsClient [inj (.slice KAccount) d_,inj qI (List.getD t7 (Int.toNat t9) 0)]).bind fun (r:Bool)=>(bif (!r) then some (false,d_,d_1,d_2,d_3,d_4) else (h_oD_clients k m t7 t8 (w64 (t9+1)) d_ d_1 d_2 d_3 d_4))) else none) else some (true,d_,d_1,d_2,d_3,d_4)):=by kernel_rfl
theorem f_chart_Number (k:Nat)(k_:Int)(cur_:Int):CF (k+1) S60 n_chart_Number [inj qI k_,inj qI cur_]=((bif decide (k_ < 0) then some (-1:Int) else (bif decide (2 < k_) then some (-1:Int) else (bif decide (cur_ < 0) then some (-1:Int) else (bif decide (3<=cur_) then some (-1:Int) else some (w64 ((w64 (3 * cur_))+k_)))))):Option (Int)):=by kernel_rfl
theorem f_oD_post (k:Nat)(d_:Tmachine)(from_:Int)(to_:Int)(amount_:Int):CF (k+1) S56 n_oD_post [vf [.io Kmachine d_],inj qI from_,inj qI to_,inj qI amount_]=(((CF k S36 n_eV [inj (.slice KAccount) d_.1,inj qI from_,inj qI to_,inj qI amount_]).bind fun (r:(List (TReply)) × (Option Int))=>(bif r.2.isSome then ((CF k Z2 n_ops_number [inj .err r.2]).bind fun (r_1:TReply)=>some (r_1,d_)) else ((CF k S33 n_l_Post [inj (.slice KAccount) d_.1,inj (.slice KReply) r.1]).bind fun (r_1:YA × (Option Int))=>((CF k S56 n_oD_take [vf [.io Kmachine d_],inj (.slice KAccount) r_1.1,inj .err r_1.2,inj qI 0]).bind fun (r_2:TReply × Tmachine)=>some r_2)))):Option (TReply × Tmachine)):=by kernel_rfl
theorem f_l_Hold (k:Nat)(as_:YA)(k_:Int)(amount_:Int):CF (k+1) S33 n_l_Hold [inj (.slice KAccount) as_,inj qI k_,inj qI amount_]=(((CF k Z0 n_chart_IsClient [inj (.slice KAccount) as_,inj qI k_]).bind fun (r:Bool)=>(bif (!r) then some ([],some 2) else ((CF k Z0 n_money_Amount [inj qI amount_]).bind fun (r_1:Bool)=>(bif (!r_1) then some ([],some 1) else (bif (inb k_ as_.length) then ((CF k S60 n_chart_Free [inj KAccount (List.getD as_ (Int.toNat k_) (0,0,0))]).bind fun (r_2:Int)=>(bif decide (r_2 < amount_) then some ([],some 3) else ((CF k S53 n_chart_Clone [inj (.slice KAccount) as_]).bind fun (r_3:YA)=>(bif (inb k_ r_3.length) then (bif (inb k_ r_3.length) then some ((List.set r_3 (Int.toNat k_) ((List.getD r_3 (Int.toNat k_) (0,0,0)).1,(List.getD r_3 (Int.toNat k_) (0,0,0)).2.1,(w64 ((List.getD r_3 (Int.toNat k_) (0,0,0)).2.2+amount_)))),none) else none) else none)))) else none))))):Option (YA × (Option Int))):=by kernel_rfl
theorem f_oD_both (k:Nat)(d_:Tmachine)(r_:TRequest):CF (k+1) S25 n_oD_both [vf [.io Kmachine d_],inj KRequest r_]=((bif decide (r_.2.2.1 < 0) then some ((0,0,0,0,0,0,0,0),(0,0,0,0,0,0,0,0),some 2,d_) else (bif decide ((d_.2.1.length:Int)<=r_.2.2.1) then some ((0,0,0,0,0,0,0,0),(0,0,0,0,0,0,0,0),some 2,d_) else (h_oD_both k k d_.1 d_.2.1 d_.2.2.1 d_.2.2.2.1 d_.2.2.2.2 r_.1 r_.2.1 r_.2.2.1 r_.2.2.2.1 r_.2.2.2.2.1 r_.2.2.2.2.2.1 r_.2.2.2.2.2.2 0 0 0 0 0 0 0 0 0 0 0 0 0 0 0 0))):Option (TPayment × TPayment × (Option Int) × Tmachine)):=by kernel_rfl
theorem h_oD_both_s (k m:Nat)(d_:YA)(d_1:YP)(d_2:YG)(d_3:YK)(d_4:Int)(r_:Int)(r_1:Int)(r_2:Int)(r_3:Int)(r_4:Int)(r_5:Int)(r_6:Int)(t4:Int)(t41:Int)(t42:Int)(t43:Int)(t44:Int)(t45:Int)(t46:Int)(t47:Int)(t5:Int)(t51:Int)(t52:Int)(t53:Int)(t54:Int)(t55:Int)(t56:Int)(t57:Int)(e1:(Int × (Int × (Int × (Int × (Int × (Int × (Int × Int))))))))(h_e1:e1=(List.getD d_1 (Int.toNat r_2) (0,0,0,0,0,0,0,0))):h_oD_both k (m+1) d_ d_1 d_2 d_3 d_4 r_ r_1 r_2 r_3 r_4 r_5 r_6 t4 t41 t42 t43 t44 t45 t46 t47 t5 t51 t52 t53 t54 t55 t56 t57=(bif (inb r_2 d_1.length) then ((CF k S41 n_pD [inj KPayment e1,inj qI r_1,inj qI r_4]).bind fun (r:TPayment × (Option Int))=>some (e1,r.1,r.2,d_,d_1,d_2,d_3,d_4)) else none):=by
 subst h_e1
 kernel_rfl
theorem f_ops_number (k:Nat)(e_:Option Int):CF (k+1) Z2 n_ops_number [inj .err e_]=(((CF k S60 n_api_Number [inj .err e_]).bind fun (r:Int)=>some (r,0)):Option (TReply)):=by kernel_rfl
theorem f_eV (k:Nat)(as_:YA)(from_:Int)(to_:Int)(amount_:Int):CF (k+1) S36 n_eV [inj (.slice KAccount) as_,inj qI from_,inj qI to_,inj qI amount_]=(((CF k S37 n_chart_Of [inj (.slice KAccount) as_,inj qI from_]).bind fun (r:Int × Bool)=>(bif (!r.2) then some ([],some 2) else ((CF k S37 n_chart_Of [inj (.slice KAccount) as_,inj qI to_]).bind fun (r_1:Int × Bool)=>(bif (!r_1.2) then some ([],some 2) else (bif decide (from_=to_) then some ([],some 1) else ((CF k Z0 n_money_Amount [inj qI amount_]).bind fun (r_2:Bool)=>(bif (!r_2) then some ([],some 1) else (h_eV k k as_ from_ to_ amount_)))))))):Option ((List (TReply)) × (Option Int))):=by kernel_rfl
theorem h_eV_s (k m:Nat)(as_:YA)(from_:Int)(to_:Int)(amount_:Int)(e1:Int)(h_e1:e1=(List.getD as_ (Int.toNat to_) (0,0,0)).1)(e2:Int)(h_e2:e2=(List.getD as_ (Int.toNat from_) (0,0,0)).1):h_eV k (m+1) as_ from_ to_ amount_=(bif (inb from_ as_.length) then (bif (inb to_ as_.length) then (bif decide (e2=e1) then some ([(from_,(w64 (0 - amount_))),(to_,amount_)],none) else ((CF k S60 n_chart_Number [inj qI 1,inj qI e2]).bind fun (r:Int)=>((CF k S60 n_chart_Number [inj qI 1,inj qI e1]).bind fun (r_1:Int)=>(bif decide (r < 0) then some ([],some 2) else (bif decide (r_1 < 0) then some ([],some 2) else (h_eV_1 k k from_ to_ amount_ e2 e1 r r_1)))))) else none) else none):=by
 subst h_e1 h_e2
 kernel_rfl
theorem h_eV_1_s (k m:Nat)(from_:Int)(to_:Int)(amount_:Int)(a_:Int)(b_:Int)(x_:Int)(y_:Int):h_eV_1 k (m+1) from_ to_ amount_ a_ b_ x_ y_=((CF k S12 n_money_Rates []).bind fun (r:R17)=>(bif (inb a_ 3) then (bif (inb b_ 3) then ((CF k S27 n_money_Convert [inj qI amount_,inj KReply ((selInt b_ [(selInt a_ [r.1.1.1,r.2.1.1.1,r.2.2.1.1]),(selInt a_ [r.1.2.1.1,r.2.1.2.1.1,r.2.2.2.1.1]),(selInt a_ [r.1.2.2.1,r.2.1.2.2.1,r.2.2.2.2.1])]),(selInt b_ [(selInt a_ [r.1.1.2,r.2.1.1.2,r.2.2.1.2]),(selInt a_ [r.1.2.1.2,r.2.1.2.1.2,r.2.2.2.1.2]),(selInt a_ [r.1.2.2.2,r.2.1.2.2.2,r.2.2.2.2.2])]))]).bind fun (r_1:Int × Int × (Option Int))=>(bif r_1.2.2.isSome then some ([],r_1.2.2) else (bif decide (r_1.1=0) then some ([],some 1) else some ([(from_,(w64 (0 - amount_))),(x_,amount_),(y_,(w64 (0 - r_1.1))),(to_,r_1.1)],none)))) else none) else none)):=by kernel_rfl
theorem f_l_Spend (k:Nat)(as_:YA)(amount_:Int)(un:List (TReply)):CF (k+1) S33 n_l_Spend [inj (.slice KAccount) as_,inj qI amount_,inj (.slice KReply) un]=((bif decide ((un.length:Int)=0) then some ([],some 13) else (bif (inb 0 un.length) then ((CF k S33 n_l_Release [inj (.slice KAccount) as_,inj qI (List.getD un 0 (0,0)).1,inj qI amount_]).bind fun (r:YA × (Option Int))=>(bif r.2.isSome then some ([],r.2) else ((CF k S33 n_l_Post [inj (.slice KAccount) r.1,inj (.slice KReply) un]).bind fun (r_1:YA × (Option Int))=>some r_1))) else none)):Option (YA × (Option Int))):=by kernel_rfl
theorem f_oD_pay (k:Nat)(d_:Tmachine)(k_:Int)(p_:TPayment)(as_:YA)(e_:Option Int):CF (k+1) S56 n_oD_pay [vf [.io Kmachine d_],inj qI k_,inj KPayment p_,inj (.slice KAccount) as_,inj .err e_]=(((CF k S56 n_oD_take [vf [.io Kmachine d_],inj (.slice KAccount) as_,inj .err e_,inj qI 0]).bind fun (r:TReply × Tmachine)=>(bif (!e_.isSome) then (bif decide ((r.2.2.1.length * 64)<=211106232532992) then (bif (inb k_ r.2.2.1.length) then some (r.1,r.2.1,(List.set r.2.2.1 (Int.toNat k_) p_),r.2.2.2) else none) else none) else some r)):Option (TReply × Tmachine)):=by kernel_rfl
theorem f_payment_Left (k:Nat)(p_:TPayment):CF (k+1) S60 n_payment_Left [inj KPayment p_]=((bif (!decide (p_.2.2.2.2.2.2.2=0)) then some 0 else some (w64 (p_.2.2.1 - p_.2.2.2.1))):Option (Int)):=by kernel_rfl
theorem f_l_Release (k:Nat)(as_:YA)(k_:Int)(amount_:Int):CF (k+1) S33 n_l_Release [inj (.slice KAccount) as_,inj qI k_,inj qI amount_]=(((CF k Z0 n_chart_IsClient [inj (.slice KAccount) as_,inj qI k_]).bind fun (r:Bool)=>(bif (!r) then some ([],some 2) else ((CF k Z0 n_money_Amount [inj qI amount_]).bind fun (r_1:Bool)=>(bif (!r_1) then some ([],some 1) else (bif (inb k_ as_.length) then (bif decide ((List.getD as_ (Int.toNat k_) (0,0,0)).2.2 < amount_) then some ([],some 6) else ((CF k S53 n_chart_Clone [inj (.slice KAccount) as_]).bind fun (r_2:YA)=>(bif (inb k_ r_2.length) then (bif (inb k_ r_2.length) then some ((List.set r_2 (Int.toNat k_) ((List.getD r_2 (Int.toNat k_) (0,0,0)).1,(List.getD r_2 (Int.toNat k_) (0,0,0)).2.1,(w64 ((List.getD r_2 (Int.toNat k_) (0,0,0)).2.2 - amount_)))),none) else none) else none))) else none))))):Option (YA × (Option Int))):=by kernel_rfl
theorem f_oD_back (k:Nat)(d_:Tmachine)(p_:TPayment)(n_:Int):CF (k+1) S31 n_oD_back [vf [.io Kmachine d_],inj KPayment p_,inj qI n_]=(((CF k S36 n_eV [inj (.slice KAccount) d_.1,inj qI p_.1,inj qI p_.2.1,inj qI n_]).bind fun (r:(List (TReply)) × (Option Int))=>((CF k S57 n_entry_Back [inj (.slice KReply) r.1]).bind fun (r_1:(List (TReply)))=>some (r_1,r.2,d_))):Option ((List (TReply)) × (Option Int) × Tmachine)):=by kernel_rfl
theorem f_l_Post (k:Nat)(as_:YA)(un:List (TReply)):CF (k+1) S33 n_l_Post [inj (.slice KAccount) as_,inj (.slice KReply) un]=(((CF k Z0 n_entry_Balanced [inj (.slice KAccount) as_,inj (.slice KReply) un]).bind fun (r:Bool)=>(bif (!r) then some ([],some 13) else ((CF k S53 n_chart_Clone [inj (.slice KAccount) as_]).bind fun (r_1:YA)=>(h_l_Post k k un (un.length:Int) 0 r_1)))):Option (YA × (Option Int))):=by kernel_rfl
theorem h_l_Post_s (k m:Nat)(t20:List (TReply))(t21:Int)(t22:Int)(out_:YA)(e1:(Int × Int))(h_e1:e1=(List.getD t20 (Int.toNat t22) (0,0)))(e2:Nat)(h_e2:e2=(Int.toNat e1.1))(e3:(Int × (Int × Int)))(h_e3:e3=(List.getD out_ e2 (0,0,0))):h_l_Post k (m+1) t20 t21 t22 out_=(bif decide (t22 < t21) then (bif (inb t22 t20.length) then (bif (inb e1.1 out_.length) then ((CF k S38 n_money_Add [inj qI e3.2.1,inj qI e1.2]).bind fun (r:Int × (Option Int))=>(bif r.2.isSome then some ([],r.2) else (bif (inb e1.1 out_.length) then (h_l_Post k m t20 t21 (w64 (t22+1)) (List.set out_ e2 (e3.1,r.1,e3.2.2))) else none))) else none) else none) else (h_l_Post_1 k k (out_.length:Int) 0 out_)):=by
 subst h_e1 h_e2 h_e3
 kernel_rfl
theorem h_l_Post_1_s (k m:Nat)(t49:Int)(t50:Int)(out_:YA)(e1:Int)(h_e1:e1=(w64 (t50+1))):h_l_Post_1 k (m+1) t49 t50 out_=(bif decide (t50 < t49) then (bif (inb t50 out_.length) then ((CF k Z0 n_chart_IsClient [inj (.slice KAccount) out_,inj qI t50]).bind fun (r:Bool)=>(bif r then ((CF k S60 n_chart_Free [inj KAccount (List.getD out_ (Int.toNat t50) (0,0,0))]).bind fun (r_1:Int)=>(bif decide (r_1 < 0) then some ([],some 3) else (h_l_Post_1 k m t49 e1 out_))) else (h_l_Post_1 k m t49 e1 out_))) else none) else some (out_,none)):=by
 subst h_e1
 kernel_rfl
theorem f_chart_Free (k:Nat)(a_:TAccount):CF (k+1) S60 n_chart_Free [inj KAccount a_]=(some (w64 (a_.2.1 - a_.2.2)):Option (Int)):=by kernel_rfl
theorem f_payment_Gave (k:Nat)(p_:TPayment):CF (k+1) S60 n_payment_Gave [inj KPayment p_]=(some (w64 ((w64 (p_.2.2.2.1 - p_.2.2.2.2.1)) - p_.2.2.2.2.2.1)):Option (Int)):=by kernel_rfl
theorem f_law24_All (k:Nat)(b_:YN)(e1:Int)(h_e1:e1=(b_.length:Int))(e2:Int)(h_e2:e2=(minI e1 3000))(e3:(List Int))(h_e3:e3=(List.take (Int.toNat e2) b_)):CF (k+1) S49 n_law24_All [inj qB b_]=(((CF k S52 n_law24_Rich []).bind fun (r:YN)=>(bif (decide (0<=e2) && decide (e2<=e1)) then (bif decide (((r.length+e3.length) * 1)<=211106232532992) then some (r++e3) else none) else none)):Option (YN)):=by
 subst h_e1 h_e2 h_e3
 kernel_rfl
theorem f_wR (k:Nat)(b_:YN)(room_:Int)(ua:YO)(ub:YO)(uc:YS)(ud:YE)(ue:YN)(uf:YI)(ug:YT)(uh:YE)(ui:YF)(uj:YN)(uk:YN)(ul:YL)(um:YO)(un:YT)(uo:YO)(up:YN)(uq:YB)(ur:YR)(us:YL)(ut:YB)(uu:YN):CF (k+1) S1 n_wR [inj qB b_,inj qI room_,Ca ua,Cb ub,Cc uc,Cd ud,Ce ue,Cf uf,Cg ug,Ch uh,Ci ui,Cj uj,Ck uk,Cl ul,Cm um,Cn un,Co uo,Cp up,Cq uq,Cr ur,Cs us,Ct ut,Cu uu]=(((CF k S1 n_wO [inj qI room_,Ca ua,Cb ub,Cc uc,Cd ud,Ce ue,Cf uf,Cg ug,Ch uh,Ci ui,Cj uj,Ck uk,Cl ul,Cm um,Cn un,Co uo,Cp up,Cq uq,Cr ur,Cs us,Ct ut,Cu uu]).bind fun (r:R1)=>((CF k S55 n_sA [inj qB b_]).bind fun (r_1:(List (TEvent)))=>(h_wR k k b_ r.1 r_1 (r_1.length:Int) 0 r.2.1 r.2.2.1 r.2.2.2.1 r.2.2.2.2.1 r.2.2.2.2.2.1 r.2.2.2.2.2.2.1 r.2.2.2.2.2.2.2.1 r.2.2.2.2.2.2.2.2.1 r.2.2.2.2.2.2.2.2.2.1 r.2.2.2.2.2.2.2.2.2.2.1 r.2.2.2.2.2.2.2.2.2.2.2.1 r.2.2.2.2.2.2.2.2.2.2.2.2.1 r.2.2.2.2.2.2.2.2.2.2.2.2.2.1 r.2.2.2.2.2.2.2.2.2.2.2.2.2.2.1 r.2.2.2.2.2.2.2.2.2.2.2.2.2.2.2.1 r.2.2.2.2.2.2.2.2.2.2.2.2.2.2.2.2.1 r.2.2.2.2.2.2.2.2.2.2.2.2.2.2.2.2.2.1 r.2.2.2.2.2.2.2.2.2.2.2.2.2.2.2.2.2.2.1 r.2.2.2.2.2.2.2.2.2.2.2.2.2.2.2.2.2.2.2.1 r.2.2.2.2.2.2.2.2.2.2.2.2.2.2.2.2.2.2.2.2.1 r.2.2.2.2.2.2.2.2.2.2.2.2.2.2.2.2.2.2.2.2.2))):Option (R1)):=by kernel_rfl
theorem h_wR_s (k m:Nat)(b_:YN)(w_:Option Nat)(t11:List (TEvent))(t12:Int)(t13:Int)(ua:YO)(ub:YO)(uc:YS)(ud:YE)(ue:YN)(uf:YI)(ug:YT)(uh:YE)(ui:YF)(uj:YN)(uk:YN)(ul:YL)(um:YO)(un:YT)(uo:YO)(up:YN)(uq:YB)(ur:YR)(us:YL)(ut:YB)(uu:YN)(e1:Int)(h_e1:e1=(w64 ((w64 (6 * t13))+5))):h_wR k (m+1) b_ w_ t11 t12 t13 ua ub uc ud ue uf ug uh ui uj uk ul um un uo up uq ur us ut uu=(bif decide (t13 < t12) then (bif (inb t13 t11.length) then (bif (inb e1 b_.length) then ((CF k Z4 n_wW_Act [inj (.ref 26) w_,inj KEvent (List.getD t11 (Int.toNat t13) (0,(0,0,0,0,0,0,0),0,false)),inj qI (w64 ((w64 (List.getD b_ (Int.toNat e1) 0)) * 7)),Ca ua,Cb ub,Cc uc,Cd ud,Ce ue,Cf uf,Cg ug,Ch uh,Ci ui,Cj uj,Ck uk,Cl ul,Cm um,Cn un,Co uo,Cp up,Cq uq,Cr ur,Cs us,Ct ut,Cu uu]).bind fun (r:R3)=>(h_wR k m b_ w_ t11 t12 (w64 (t13+1)) r.1 r.2.1 r.2.2.1 r.2.2.2.1 r.2.2.2.2.1 r.2.2.2.2.2.1 r.2.2.2.2.2.2.1 r.2.2.2.2.2.2.2.1 r.2.2.2.2.2.2.2.2.1 r.2.2.2.2.2.2.2.2.2.1 r.2.2.2.2.2.2.2.2.2.2.1 r.2.2.2.2.2.2.2.2.2.2.2.1 r.2.2.2.2.2.2.2.2.2.2.2.2.1 r.2.2.2.2.2.2.2.2.2.2.2.2.2.1 r.2.2.2.2.2.2.2.2.2.2.2.2.2.2.1 r.2.2.2.2.2.2.2.2.2.2.2.2.2.2.2.1 r.2.2.2.2.2.2.2.2.2.2.2.2.2.2.2.2.1 r.2.2.2.2.2.2.2.2.2.2.2.2.2.2.2.2.2.1 r.2.2.2.2.2.2.2.2.2.2.2.2.2.2.2.2.2.2.1 r.2.2.2.2.2.2.2.2.2.2.2.2.2.2.2.2.2.2.2.1 r.2.2.2.2.2.2.2.2.2.2.2.2.2.2.2.2.2.2.2.2)) else none) else none) else some (w_,ua,ub,uc,ud,ue,uf,ug,uh,ui,uj,uk,ul,um,un,uo,up,uq,ur,us,ut,uu)):=by
 subst h_e1
 kernel_rfl
theorem f_sA (k:Nat)(b_:YN):CF (k+1) S55 n_sA [inj qB b_]=((h_sA k k b_ []):Option ((List (TEvent)))):=by kernel_rfl
theorem h_sA_s (k m:Nat)(b_:YN)(out_:List (TEvent))(e1:Int)(h_e1:e1=(b_.length:Int)):h_sA k (m+1) b_ out_=(bif decide (6<=e1) then (bif decide (6<=e1) then ((CF k ⟨[(false,KEvent)],[]⟩ n_script_one [inj qB (List.take 6 b_),inj qI (out_.length:Int)]).bind fun (r:TEvent)=>(bif decide (((out_.length+[r].length) * 80)<=211106232532992) then (bif decide (6<=e1) then (h_sA k m (List.drop 6 b_) (out_++[r])) else none) else none)) else none) else some out_):=by
 subst h_e1
 kernel_rfl
theorem f_law16_Same (k:Nat)(a_:TState)(b_:TState):CF (k+1) Z0 n_law16_Same [inj KState a_,inj KState b_]=(((CF k Z0 n_s15 [inj KState a_,inj KState b_]).bind fun (r:Bool)=>(bif r then ((CF k Z0 n_law11_Same [inj (.slice KKnown) a_.2.2.2.1,inj (.slice KKnown) b_.2.2.2.1]).bind fun (r_1:Bool)=>some r_1) else some false)):Option (Bool)):=by kernel_rfl
theorem f_disk_Of (k:Nat)(room_:Int)(ui:YF)(uj:YN)(uk:YN)(ul:YL):CF (k+1) S14 n_disk_Of [inj qI room_,Ci ui,Cj uj,Ck uk,Cl ul]=(some (some ui.length,(ui++[[]]),(uj++[(maxI 0 (minI room_ 262144))]),(uk++[(-1:Int)]),(ul++[false])):Option (R18)):=by kernel_rfl
theorem f_dO (k:Nat)(d_:Option Nat)(ui:YF)(uk:YN)(ul:YL)(um:YO)(un:YT)(uo:YO)(up:YN)(uq:YB)(ur:YR)(us:YL)(ut:YB)(uu:YN):CF (k+1) S6 n_dO [inj (.ref 29) d_,Ci ui,Ck uk,Cl ul,Cm um,Cn un,Co uo,Cp up,Cq uq,Cr ur,Cs us,Ct ut,Cu uu]=(((CF k S8 n_jO [inj (.ref 29) d_,Ci ui,Ck uk,Cl ul,Co uo,Cp up,Cq uq,Cr ur,Cs us,Ct ut,Cu uu]).bind fun (r:R10)=>(bif r.2.1.isSome then some (none,r.2.1,r.2.2.1,r.2.2.2.1,r.2.2.2.2.1,um,un,r.2.2.2.2.2) else ((CF k Z5 n_ops_New []).bind fun (r_1:TState)=>((CF k S34 n_jJ_Turn [inj (.ref 99) r.1,Cp r.2.2.2.2.2.2.1]).bind fun (r_2:Int × YN)=>(bif decide (0 < r_2.1) then ((CF k S28 n_jJ_Base [inj (.ref 99) r.1,Cq r.2.2.2.2.2.2.2.1]).bind fun (r_3:YN × YB)=>((CF k S44 n_codec_ReadState [inj qB r_3.1]).bind fun (r_4:TState × Bool)=>(bif (!r_4.2) then some (none,some 11,r.2.2.1,r.2.2.2.1,r.2.2.2.2.1,(um++[r.1]),(un++[r_1]),r.2.2.2.2.2.1,r_2.2,r_3.2,r.2.2.2.2.2.2.2.2) else (h_dO k k d_ r.1 um.length r.2.2.1 r.2.2.2.1 r.2.2.2.2.1 (um++[r.1]) (List.set (un++[r_1]) um.length r_4.1) r.2.2.2.2.2.1 r_2.2 r_3.2 r.2.2.2.2.2.2.2.2.1 r.2.2.2.2.2.2.2.2.2.1 r.2.2.2.2.2.2.2.2.2.2.1 r.2.2.2.2.2.2.2.2.2.2.2)))) else (h_dO k k d_ r.1 um.length r.2.2.1 r.2.2.2.1 r.2.2.2.2.1 (um++[r.1]) (un++[r_1]) r.2.2.2.2.2.1 r_2.2 r.2.2.2.2.2.2.2.1 r.2.2.2.2.2.2.2.2.1 r.2.2.2.2.2.2.2.2.2.1 r.2.2.2.2.2.2.2.2.2.2.1 r.2.2.2.2.2.2.2.2.2.2.2)))))):Option (R7)):=by kernel_rfl
theorem h_dO_s (k m:Nat)(d_:Option Nat)(j_:Option Nat)(x_:Nat)(ui:YF)(uk:YN)(ul:YL)(um:YO)(un:YT)(uo:YO)(up:YN)(uq:YB)(ur:YR)(us:YL)(ut:YB)(uu:YN):h_dO k (m+1) d_ j_ x_ ui uk ul um un uo up uq ur us ut uu=((CF k S20 n_jJ_Records [inj (.ref 99) j_,Cr ur]).bind fun (r:YB × YR)=>(h_dO_1 k k d_ x_ r.1 (r.1.length:Int) 0 ui uk ul um un uo up uq r.2 us ut uu)):=by kernel_rfl
theorem h_dO_1_s (k m:Nat)(d_:Option Nat)(x_:Nat)(t42:YB)(t43:Int)(t44:Int)(ui:YF)(uk:YN)(ul:YL)(um:YO)(un:YT)(uo:YO)(up:YN)(uq:YB)(ur:YR)(us:YL)(ut:YB)(uu:YN):h_dO_1 k (m+1) d_ x_ t42 t43 t44 ui uk ul um un uo up uq ur us ut uu=(bif decide (t44 < t43) then (bif (inb t44 t42.length) then ((CF k S43 n_codec_ReadEvent [inj qB (List.getD t42 (Int.toNat t44) [])]).bind fun (r:TEvent × Bool)=>(bif (!r.2) then some (none,some 11,ui,uk,ul,um,un,uo,up,uq,ur,us,ut,uu) else ((CF k S40 n_engine_Do [inj KState (List.getD un x_ ([],[],[],[],0)),inj KEvent r.1]).bind fun (r_1:TState × TReply)=>(h_dO_1 k m d_ x_ t42 t43 (w64 (t44+1)) ui uk ul um (List.set un x_ r_1.1) uo up uq ur us ut uu)))) else none) else some (some x_,none,ui,uk,ul,um,un,uo,up,uq,ur,us,ut,uu)):=by kernel_rfl
theorem f_wW_ask (k:Nat)(w_:Option Nat)(r_:TRequest)(ub:YO)(uc:YS)(ud:YE)(ug:YT)(uh:YE)(ui:YF)(uj:YN)(uk:YN)(ul:YL)(um:YO)(un:YT)(uo:YO)(up:YN)(uq:YB)(ur:YR)(us:YL)(ut:YB)(uu:YN)(e1:(List ((Int × (Int × (Int × (Int × (Int × (Int × Int)))))) × (Int × Int))))(h_e1:e1=(List.getD uc (w_.getD 0) [])):CF (k+1) Z7 n_wW_ask [inj (.ref 26) w_,inj KRequest r_,Cb ub,Cc uc,Cd ud,Cg ug,Ch uh,Ci ui,Cj uj,Ck uk,Cl ul,Cm um,Cn un,Co uo,Cp up,Cq uq,Cr ur,Cs us,Ct ut,Cu uu]=((bif w_.isSome then ((CF k S3 n_wW_does [inj (.ref 26) w_,inj KEvent (0,r_,0,false),Cb ub,Cd ud,Cg ug,Ch uh,Ci ui,Cj uj,Ck uk,Cl ul,Cm um,Cn un,Co uo,Cp up,Cq uq,Cr ur,Cs us,Ct ut,Cu uu]).bind fun (r:R6)=>(bif decide (((e1.length+[(r_,r.1)].length) * 72)<=211106232532992) then (bif w_.isSome then (bif (decide ((w_.getD 0)=(w_.getD 0)) && decide ((w_.getD 0)=(w_.getD 0))) then some (r.2.1,(List.set uc (w_.getD 0) (e1++[(r_,r.1)])),r.2.2) else none) else none) else none)) else none):Option (R5)):=by
 subst h_e1
 kernel_rfl
theorem f_dD_Stopped (k:Nat)(d_:Option Nat)(ul:YL):CF (k+1) S48 n_dD_Stopped [inj (.ref 29) d_,Cl ul]=((bif d_.isSome then some ((List.getD ul (d_.getD 0) false),ul) else none):Option (Bool × YL)):=by kernel_rfl
theorem f_engine_Waits (k:Nat)(s_:TState):CF (k+1) S47 n_engine_Waits [inj KState s_]=((h_engine_Waits k k s_.2.2.1 (s_.2.2.1.length:Int) 0 []):Option (YN)):=by kernel_rfl
theorem h_engine_Waits_s (k m:Nat)(t7:YG)(t8:Int)(t9:Int)(out_:YN)(e1:(List Int))(h_e1:e1=[(List.getD t7 (Int.toNat t9) ((0,0,0,0,0,0,0),0,0,0,0)).1.1]):h_engine_Waits k (m+1) t7 t8 t9 out_=(bif decide (t9 < t8) then (bif (inb t9 t7.length) then (bif decide (((out_.length+e1.length) * 8)<=211106232532992) then (h_engine_Waits k m t7 t8 (w64 (t9+1)) (out_++e1)) else none) else none) else some out_):=by
 subst h_e1
 kernel_rfl
theorem f_wW_does (k:Nat)(w_:Option Nat)(e_:TEvent)(ub:YO)(ud:YE)(ug:YT)(uh:YE)(ui:YF)(uj:YN)(uk:YN)(ul:YL)(um:YO)(un:YT)(uo:YO)(up:YN)(uq:YB)(ur:YR)(us:YL)(ut:YB)(uu:YN)(e1:(List (Int × ((Int × (Int × (Int × (Int × (Int × (Int × Int)))))) × (Int × Bool)))))(h_e1:e1=(List.getD ud (w_.getD 0) []))(e2:(List (Int × ((Int × (Int × (Int × (Int × (Int × (Int × Int)))))) × (Int × Bool)))))(h_e2:e2=(List.getD uh (w_.getD 0) [])):CF (k+1) S3 n_wW_does [inj (.ref 26) w_,inj KEvent e_,Cb ub,Cd ud,Cg ug,Ch uh,Ci ui,Cj uj,Ck uk,Cl ul,Cm um,Cn un,Co uo,Cp up,Cq uq,Cr ur,Cs us,Ct ut,Cu uu]=((bif w_.isSome then ((CF k S46 n_dE_State [inj (.ref 30) (List.getD ub (w_.getD 0) none),Cn un]).bind fun (r:TState × YT)=>(bif w_.isSome then (bif w_.isSome then ((CF k S4 n_dE_Do [inj (.ref 30) (List.getD ub (w_.getD 0) none),inj KEvent e_,Ci ui,Cj uj,Ck uk,Cl ul,Cm um,Cn r.2,Co uo,Cp up,Cq uq,Cr ur,Cs us,Ct ut,Cu uu]).bind fun (r_1:R9)=>(bif decide (r_1.1.1=12) then (bif w_.isSome then (bif decide (((e2.length+[e_].length) * 80)<=211106232532992) then (bif w_.isSome then (bif (decide ((w_.getD 0)=(w_.getD 0)) && decide ((w_.getD 0)=(w_.getD 0))) then some (r_1.1,ub,ud,(List.set ug (w_.getD 0) r.1),(List.set uh (w_.getD 0) (e2++[e_])),r_1.2) else none) else none) else none) else none) else (bif decide (r_1.1.1=8) then some (r_1.1,ub,ud,(List.set ug (w_.getD 0) r.1),uh,r_1.2) else (bif w_.isSome then (bif decide (((e1.length+[e_].length) * 80)<=211106232532992) then (bif w_.isSome then (bif (decide ((w_.getD 0)=(w_.getD 0)) && decide ((w_.getD 0)=(w_.getD 0))) then some (r_1.1,ub,(List.set ud (w_.getD 0) (e1++[e_])),(List.set ug (w_.getD 0) r.1),uh,r_1.2) else none) else none) else none) else none)))) else none) else none)) else none):Option (R6)):=by
 subst h_e1 h_e2
 kernel_rfl
theorem f_dE_Keep (k:Nat)(x_:Option Nat)(ui:YF)(uj:YN)(uk:YN)(ul:YL)(um:YO)(un:YT)(uo:YO)(up:YN)(uq:YB)(ur:YR)(us:YL)(ut:YB)(uu:YN):CF (k+1) S5 n_dE_Keep [inj (.ref 30) x_,Ci ui,Cj uj,Ck uk,Cl ul,Cm um,Cn un,Co uo,Cp up,Cq uq,Cr ur,Cs us,Ct ut,Cu uu]=((bif x_.isSome then (bif x_.isSome then ((CF k S49 n_cS [inj KState (List.getD un (x_.getD 0) ([],[],[],[],0))]).bind fun (r:YN)=>((CF k S7 n_jJ_Save [inj (.ref 99) (List.getD um (x_.getD 0) none),inj qB r,Ci ui,Cj uj,Ck uk,Cl ul,Co uo,Cp up,Cq uq,Cr ur,Cs us,Ct ut,Cu uu]).bind fun (r_1:R11)=>some (r_1.1,r_1.2.1,r_1.2.2.1,r_1.2.2.2.1,r_1.2.2.2.2.1,um,un,r_1.2.2.2.2.2))) else none) else none):Option (R8)):=by kernel_rfl
theorem f_due_By (k:Nat)(ps_:YP)(now_:Int):CF (k+1) S47 n_due_By [inj (.slice KPayment) ps_,inj qI now_]=(((CF k S47 n_due_All [inj (.slice KPayment) ps_]).bind fun (r:YN)=>(h_due_By k k ps_ now_ r (r.length:Int) 0 [])):Option (YN)):=by kernel_rfl
theorem h_due_By_s (k m:Nat)(ps_:YP)(now_:Int)(t9:YN)(t10:Int)(t11:Int)(out_:YN)(e1:Int)(h_e1:e1=(List.getD t9 (Int.toNat t11) 0)):h_due_By k (m+1) ps_ now_ t9 t10 t11 out_=(bif decide (t11 < t10) then (bif (inb t11 t9.length) then (bif (inb e1 ps_.length) then (bif decide (now_ < (List.getD ps_ (Int.toNat e1) (0,0,0,0,0,0,0,0)).2.2.2.2.2.2.1) then some out_ else (bif decide (((out_.length+[e1].length) * 8)<=211106232532992) then (h_due_By k m ps_ now_ t9 t10 (w64 (t11+1)) (out_++[e1])) else none)) else none) else none) else some out_):=by
 subst h_e1
 kernel_rfl
theorem f_ops_Do (k:Nat)(s_:TState)(r_:TRequest):CF (k+1) S40 n_ops_Do [inj KState s_,inj KRequest r_]=(((CF k Z6 n_ops_by [inj qI r_.2.1]).bind fun (r:(Option Nat))=>(bif (!r.isSome) then some (s_,1,0) else (bif r.isSome then ((CF k S56 (r.getD 0) [vf [.io Kmachine s_],inj KRequest r_]).bind fun (r_1:TReply × Tmachine)=>some (r_1.2,r_1.1)) else none))):Option (TState × TReply)):=by kernel_rfl
theorem f_rM (k:Nat)(r_:TRequest):CF (k+1) Z0 n_rM [inj KRequest r_]=((bif decide (r_.1 < 0) then some false else (bif decide (1073741824<=r_.1) then some false else (bif decide (r_.2.2.2.2.2.1 < 0) then some false else (bif decide (4 < r_.2.2.2.2.2.1) then some false else (bif decide (r_.2.2.2.2.2.2 < 0) then some false else (bif decide (1073741824 < r_.2.2.2.2.2.2) then some false else (h_rM k k r_.1 r_.2.1 r_.2.2.1 r_.2.2.2.1 r_.2.2.2.2.1 r_.2.2.2.2.2.1 r_.2.2.2.2.2.2))))))):Option (Bool)):=by kernel_rfl
theorem h_rM_s (k m:Nat)(r_:Int)(r_1:Int)(r_2:Int)(r_3:Int)(r_4:Int)(r_5:Int)(r_6:Int):h_rM k (m+1) r_ r_1 r_2 r_3 r_4 r_5 r_6=(bif decide (0 < r_5) then (bif (!decide (r_1=2)) then some false else (h_rM_1 k k r_ r_1 r_2 r_3 r_4 r_5 r_6)) else (h_rM_1 k k r_ r_1 r_2 r_3 r_4 r_5 r_6)):=by kernel_rfl
theorem h_rM_1_s (k m:Nat)(r_:Int)(r_1:Int)(r_2:Int)(r_3:Int)(r_4:Int)(r_5:Int)(r_6:Int):h_rM_1 k (m+1) r_ r_1 r_2 r_3 r_4 r_5 r_6=(bif decide (r_1=0) then (bif decide (0<=r_2) then some (decide (r_2 < 3)) else some false) else (bif decide (r_1=5) then some true else (bif decide (r_1=1) then (bif decide (r_1=1) then ((CF k Z0 n_money_Amount [inj qI r_4]).bind fun (r:Bool)=>some r) else some false) else (bif decide (r_1=2) then (bif decide (r_1=2) then ((CF k Z0 n_money_Amount [inj qI r_4]).bind fun (r:Bool)=>some r) else some false) else (bif decide (r_1=3) then (bif decide (r_1=3) then ((CF k Z0 n_money_Amount [inj qI r_4]).bind fun (r:Bool)=>some r) else some false) else (bif decide (r_1=4) then (bif decide (r_1=4) then ((CF k Z0 n_money_Amount [inj qI r_4]).bind fun (r:Bool)=>some r) else some false) else (bif decide (r_1=6) then (bif decide (r_1=6) then ((CF k Z0 n_money_Amount [inj qI r_4]).bind fun (r:Bool)=>some r) else some false) else (bif decide (r_1=7) then ((CF k Z0 n_money_Amount [inj qI r_4]).bind fun (r:Bool)=>some r) else some false)))))))):=by kernel_rfl
theorem f_keys_Put (k:Nat)(ks_:YK)(r_:TRequest)(e1:(List ((Int × (Int × (Int × (Int × (Int × (Int × Int)))))) × ((Int × Int) × Bool))))(h_e1:e1=[(r_,(0,0),false)]):CF (k+1) S35 n_keys_Put [inj (.slice KKnown) ks_,inj KRequest r_]=(((CF k S60 n_keys_Find [inj (.slice KKnown) ks_,inj qI r_.1]).bind fun (r:Int)=>(bif decide (0<=r) then some ([],some 5) else (bif decide (256<=(ks_.length:Int)) then some ([],some 7) else (bif decide ((ks_.length * 80)<=211106232532992) then (bif decide (((ks_.length+e1.length) * 80)<=211106232532992) then some ((ks_++e1),none) else none) else none)))):Option (YK × (Option Int))):=by
 subst h_e1
 kernel_rfl
theorem f_request_Long (k:Nat)(r_:TRequest):CF (k+1) Z0 n_request_Long [inj KRequest r_]=((bif decide (0 < r_.2.2.2.2.2.1) then some (decide (r_.2.1=2)) else some false):Option (Bool)):=by kernel_rfl
theorem f_bw (k:Nat)(s_:TState)(r_:TRequest)(legs_:YL):CF (k+1) S29 n_bw [inj KState s_,inj KRequest r_,inj (.slice .bool) legs_]=(((CF k S45 n_ops_Reserve [inj KState s_,inj KRequest r_]).bind fun (r:TState × (Option Int))=>(bif r.2.isSome then ((CF k S60 n_api_Number [inj .err r.2]).bind fun (r_1:Int)=>some (s_,(r_1,0),0)) else ((CF k Z1 n_saga_Begin [inj KRequest r_]).bind fun (r_1:TSaga)=>(h_bw k k (legs_.length:Int) 0 r_.1 r_.2.1 r_.2.2.1 r_.2.2.2.1 r_.2.2.2.2.1 r_.2.2.2.2.2.1 r_.2.2.2.2.2.2 0 0 0 r.1.1 r.1.2.1 r.1.2.2.1 r.1.2.2.2.1 r.1.2.2.2.2 legs_ r_1.1.1 r_1.1.2.1 r_1.1.2.2.1 r_1.1.2.2.2.1 r_1.1.2.2.2.2.1 r_1.1.2.2.2.2.2.1 r_1.1.2.2.2.2.2.2 r_1.2.1 r_1.2.2.1 r_1.2.2.2.1 r_1.2.2.2.2)))):Option (TState × TReply × Int)):=by kernel_rfl
theorem h_bw_s (k m:Nat)(n_:Int)(asked_:Int)(r_:Int)(r_1:Int)(r_2:Int)(r_3:Int)(r_4:Int)(r_5:Int)(r_6:Int)(t6:Int)(t7:Int)(t71:Int)(t_:YA)(t_1:YP)(t_2:YG)(t_3:YK)(t_4:Int)(ask_:YL)(g_:Int)(g_1:Int)(g_2:Int)(g_3:Int)(g_4:Int)(g_5:Int)(g_6:Int)(g_7:Int)(g_8:Int)(g_9:Int)(g_10:Int)(e1:((Int × (Int × (Int × (Int × (Int × (Int × Int)))))) × (Int × (Int × (Int × Int)))))(h_e1:e1=((g_,g_1,g_2,g_3,g_4,g_5,g_6),g_7,g_8,g_9,g_10)):h_bw k (m+1) n_ asked_ r_ r_1 r_2 r_3 r_4 r_5 r_6 t6 t7 t71 t_ t_1 t_2 t_3 t_4 ask_ g_ g_1 g_2 g_3 g_4 g_5 g_6 g_7 g_8 g_9 g_10=(bif decide (g_7=0) then ((CF k Z0 n_saga_Ready [inj KSaga e1]).bind fun (r:Bool)=>(bif (!r) then ((CF k S48 n_bank_Legs_next [vf [.io (.slice .bool) ask_]]).bind fun (r_7:Bool × YL)=>((CF k Z1 n_saga_Leg [inj KSaga e1,inj .bool r_7.1]).bind fun (r_8:TSaga)=>(h_bw k m n_ (w64 (asked_+1)) r_ r_1 r_2 r_3 r_4 r_5 r_6 t6 t7 t71 t_ t_1 t_2 t_3 t_4 r_7.2 r_8.1.1 r_8.1.2.1 r_8.1.2.2.1 r_8.1.2.2.2.1 r_8.1.2.2.2.2.1 r_8.1.2.2.2.2.2.1 r_8.1.2.2.2.2.2.2 r_8.2.1 r_8.2.2.1 r_8.2.2.2.1 r_8.2.2.2.2))) else (h_bw_1 k k n_ asked_ r_ r_1 r_2 r_3 r_4 r_5 r_6 t6 t7 t71 t_ t_1 t_2 t_3 t_4 g_ g_1 g_2 g_3 g_4 g_5 g_6 g_7 g_8 g_9 g_10))) else (h_bw_1 k k n_ asked_ r_ r_1 r_2 r_3 r_4 r_5 r_6 t6 t7 t71 t_ t_1 t_2 t_3 t_4 g_ g_1 g_2 g_3 g_4 g_5 g_6 g_7 g_8 g_9 g_10)):=by
 subst h_e1
 kernel_rfl
theorem h_bw_1_s (k m:Nat)(n_:Int)(asked_:Int)(r_:Int)(r_1:Int)(r_2:Int)(r_3:Int)(r_4:Int)(r_5:Int)(r_6:Int)(t6:Int)(t7:Int)(t71:Int)(t_:YA)(t_1:YP)(t_2:YG)(t_3:YK)(t_4:Int)(g_:Int)(g_1:Int)(g_2:Int)(g_3:Int)(g_4:Int)(g_5:Int)(g_6:Int)(g_7:Int)(g_8:Int)(g_9:Int)(g_10:Int):h_bw_1 k (m+1) n_ asked_ r_ r_1 r_2 r_3 r_4 r_5 r_6 t6 t7 t71 t_ t_1 t_2 t_3 t_4 g_ g_1 g_2 g_3 g_4 g_5 g_6 g_7 g_8 g_9 g_10=(bif decide (g_7=0) then ((CF k S45 n_ops_Settle [inj KState (t_,t_1,t_2,t_3,t_4),inj KRequest (r_,r_1,r_2,r_3,r_4,r_5,r_6)]).bind fun (r:TState × (Option Int))=>(bif (!r.2.isSome) then some (r.1,(0,0),(minI asked_ n_)) else ((CF k S60 n_api_Number [inj .err r.2]).bind fun (r_7:Int)=>((CF k Z1 n_saga_Turn [inj KSaga ((g_,g_1,g_2,g_3,g_4,g_5,g_6),g_7,g_8,g_9,g_10),inj qI r_7]).bind fun (r_8:TSaga)=>(h_bw_2 k k n_ asked_ r_ r_1 r_2 r_3 r_4 r_5 r_6 t6 t7 t71 t_ t_1 t_2 t_3 t_4 r_8.1.1 r_8.1.2.1 r_8.1.2.2.1 r_8.1.2.2.2.1 r_8.1.2.2.2.2.1 r_8.1.2.2.2.2.2.1 r_8.1.2.2.2.2.2.2 r_8.2.1 r_8.2.2.1 r_8.2.2.2.1 r_8.2.2.2.2))))) else (h_bw_2 k k n_ asked_ r_ r_1 r_2 r_3 r_4 r_5 r_6 t6 t7 t71 t_ t_1 t_2 t_3 t_4 g_ g_1 g_2 g_3 g_4 g_5 g_6 g_7 g_8 g_9 g_10)):=by kernel_rfl
theorem h_bw_2_s (k m:Nat)(n_:Int)(asked_:Int)(r_:Int)(r_1:Int)(r_2:Int)(r_3:Int)(r_4:Int)(r_5:Int)(r_6:Int)(t6:Int)(t7:Int)(t71:Int)(t_:YA)(t_1:YP)(t_2:YG)(t_3:YK)(t_4:Int)(g_:Int)(g_1:Int)(g_2:Int)(g_3:Int)(g_4:Int)(g_5:Int)(g_6:Int)(g_7:Int)(g_8:Int)(g_9:Int)(g_10:Int):h_bw_2 k (m+1) n_ asked_ r_ r_1 r_2 r_3 r_4 r_5 r_6 t6 t7 t71 t_ t_1 t_2 t_3 t_4 g_ g_1 g_2 g_3 g_4 g_5 g_6 g_7 g_8 g_9 g_10=((CF k S45 n_ops_Undo [inj KState (t_,t_1,t_2,t_3,t_4),inj KRequest (r_,r_1,r_2,r_3,r_4,r_5,r_6)]).bind fun (r:TState × (Option Int))=>some (r.1,(g_10,0),(minI asked_ n_))):=by kernel_rfl
theorem f_keys_Tell (k:Nat)(ks_:YK)(key_:Int)(r_:TReply):CF (k+1) S35 n_keys_Tell [inj (.slice KKnown) ks_,inj qI key_,inj KReply r_]=(((CF k S60 n_keys_Find [inj (.slice KKnown) ks_,inj qI key_]).bind fun (r:Int)=>(bif decide (r < 0) then some ([],some 2) else (bif (inb r ks_.length) then (bif (List.getD ks_ (Int.toNat r) ((0,0,0,0,0,0,0),(0,0),false)).2.2 then some ([],some 6) else (bif decide ((ks_.length * 80)<=211106232532992) then (bif (inb r ks_.length) then (bif (inb r (List.set ks_ (Int.toNat r) ((List.getD ks_ (Int.toNat r) ((0,0,0,0,0,0,0),(0,0),false)).1,r_,(List.getD ks_ (Int.toNat r) ((0,0,0,0,0,0,0),(0,0),false)).2.2)).length) then some ((List.set (List.set ks_ (Int.toNat r) ((List.getD ks_ (Int.toNat r) ((0,0,0,0,0,0,0),(0,0),false)).1,r_,(List.getD ks_ (Int.toNat r) ((0,0,0,0,0,0,0),(0,0),false)).2.2)) (Int.toNat r) ((List.getD (List.set ks_ (Int.toNat r) ((List.getD ks_ (Int.toNat r) ((0,0,0,0,0,0,0),(0,0),false)).1,r_,(List.getD ks_ (Int.toNat r) ((0,0,0,0,0,0,0),(0,0),false)).2.2)) (Int.toNat r) ((0,0,0,0,0,0,0),(0,0),false)).1,(List.getD (List.set ks_ (Int.toNat r) ((List.getD ks_ (Int.toNat r) ((0,0,0,0,0,0,0),(0,0),false)).1,r_,(List.getD ks_ (Int.toNat r) ((0,0,0,0,0,0,0),(0,0),false)).2.2)) (Int.toNat r) ((0,0,0,0,0,0,0),(0,0),false)).2.1,true)),none) else none) else none) else none)) else none))):Option (YK × (Option Int))):=by kernel_rfl
theorem f_keys_Find (k:Nat)(ks_:YK)(key_:Int):CF (k+1) S60 n_keys_Find [inj (.slice KKnown) ks_,inj qI key_]=((h_keys_Find k k key_ ks_ (ks_.length:Int) 0):Option (Int)):=by kernel_rfl
theorem h_keys_Find_s (k m:Nat)(key_:Int)(t7:YK)(t8:Int)(t9:Int):h_keys_Find k (m+1) key_ t7 t8 t9=(bif decide (t9 < t8) then (bif (inb t9 t7.length) then (bif decide ((List.getD t7 (Int.toNat t9) ((0,0,0,0,0,0,0),(0,0),false)).1.1=key_) then some t9 else (h_keys_Find k m key_ t7 t8 (w64 (t9+1)))) else none) else some (-1:Int)):=by kernel_rfl
theorem f_chart_IsClient (k:Nat)(as_:YA)(k_:Int):CF (k+1) Z0 n_chart_IsClient [inj (.slice KAccount) as_,inj qI k_]=(((CF k S37 n_chart_Of [inj (.slice KAccount) as_,inj qI k_]).bind fun (r:Int × Bool)=>(bif r.2 then some (decide (r.1=3)) else some false)):Option (Bool)):=by kernel_rfl
theorem f_money_Amount (k:Nat)(n_:Int):CF (k+1) Z0 n_money_Amount [inj qI n_]=((bif decide (1<=n_) then some (decide (n_<=1099511627776)) else some false):Option (Bool)):=by kernel_rfl
theorem f_pD (k:Nat)(p_:TPayment)(op_:Int)(n_:Int)(e1:Int)(h_e1:e1=p_.2.2.2.2.2.2.1)(e2:Int)(h_e2:e2=p_.2.2.2.2.2.2.2):CF (k+1) S41 n_pD [inj KPayment p_,inj qI op_,inj qI n_]=(((CF k Z6 n_payment_by [inj qI op_]).bind fun (r:(Option Nat))=>(bif (!r.isSome) then some ((0,0,0,0,0,0,0,0),some 13) else (bif (!decide (op_=5)) then (bif decide (n_ < 1) then some ((0,0,0,0,0,0,0,0),some 1) else (h_pD k k n_ r p_.1 p_.2.1 p_.2.2.1 p_.2.2.2.1 p_.2.2.2.2.1 p_.2.2.2.2.2.1 e1 e2 0 0 0 0 0 0 0 0)) else (h_pD k k n_ r p_.1 p_.2.1 p_.2.2.1 p_.2.2.2.1 p_.2.2.2.2.1 p_.2.2.2.2.2.1 e1 e2 0 0 0 0 0 0 0 0)))):Option (TPayment × (Option Int))):=by
 subst h_e1 h_e2
 kernel_rfl
theorem h_pD_s (k m:Nat)(n_:Int)(do_:Option Nat)(p_:Int)(p_1:Int)(p_2:Int)(p_3:Int)(p_4:Int)(p_5:Int)(p_6:Int)(p_7:Int)(t6:Int)(t61:Int)(t62:Int)(t63:Int)(t64:Int)(t65:Int)(t66:Int)(t67:Int):h_pD k (m+1) n_ do_ p_ p_1 p_2 p_3 p_4 p_5 p_6 p_7 t6 t61 t62 t63 t64 t65 t66 t67=(bif do_.isSome then ((CF k S39 (do_.getD 0) [inj KPayment (p_,p_1,p_2,p_3,p_4,p_5,p_6,p_7),inj qI n_]).bind fun (r:TPayment × Bool)=>(bif (!r.2) then some ((0,0,0,0,0,0,0,0),some 6) else some (r.1,none))) else none):=by kernel_rfl
theorem f_chart_Of (k:Nat)(as_:YA)(k_:Int):CF (k+1) S37 n_chart_Of [inj (.slice KAccount) as_,inj qI k_]=((bif decide (k_ < 0) then some (0,false) else (bif decide ((as_.length:Int)<=k_) then some (0,false) else (bif decide (k_ < 9) then some ((Int.tmod k_ 3),true) else some (3,true)))):Option (Int × Bool)):=by kernel_rfl
theorem f_money_Rates (k:Nat):CF (k+1) S12 n_money_Rates []=(some (((1,1),(9,10),150,1),((11,10),(1,1),160,1),(1,151),(1,161),1,1):Option (R17)):=by kernel_rfl
theorem f_money_Convert (k:Nat)(n_:Int)(r_:TReply)(e1:Int)(h_e1:e1=(w64 (n_ * r_.1)))(e2:Int)(h_e2:e2=(w64 (Int.tdiv e1 r_.2))):CF (k+1) S27 n_money_Convert [inj qI n_,inj KReply r_]=(((CF k Z0 n_money_Amount [inj qI n_]).bind fun (r:Bool)=>(bif (!r) then some (0,0,some 13) else ((CF k Z0 n_money_Rate_right [inj KReply r_]).bind fun (r_1:Bool)=>(bif (!r_1) then some (0,0,some 13) else (bif (!decide (r_.2=0)) then (bif decide (1099511627776 < e2) then some (0,0,some 4) else (bif (!decide (r_.2=0)) then (bif (!decide (r_.2=0)) then some (e2,(Int.tmod e1 r_.2),none) else none) else none)) else none))))):Option (Int × Int × (Option Int))):=by
 subst h_e1 h_e2
 kernel_rfl
theorem f_entry_Back (k:Nat)(un:List (TReply)):CF (k+1) S57 n_entry_Back [inj (.slice KReply) un]=((h_entry_Back k k un (w64 ((un.length:Int) - 1)) []):Option ((List (TReply)))):=by kernel_rfl
theorem h_entry_Back_s (k m:Nat)(un:List (TReply))(k_:Int)(out_:List (TReply))(e1:(Int × Int))(h_e1:e1=(List.getD un (Int.toNat k_) (0,0)))(e2:(List (Int × Int)))(h_e2:e2=[(e1.1,(w64 (0 - e1.2)))]):h_entry_Back k (m+1) un k_ out_=(bif decide (0<=k_) then (bif (inb k_ un.length) then (bif (inb k_ un.length) then (bif decide (((out_.length+e2.length) * 16)<=211106232532992) then (h_entry_Back k m un (w64 (k_ - 1)) (out_++e2)) else none) else none) else none) else some out_):=by
 subst h_e1 h_e2
 kernel_rfl
theorem f_entry_Balanced (k:Nat)(as_:YA)(un:List (TReply)):CF (k+1) Z0 n_entry_Balanced [inj (.slice KAccount) as_,inj (.slice KReply) un]=((h_entry_Balanced k k as_ un (un.length:Int) 0 0 0 0):Option (Bool)):=by kernel_rfl
theorem h_entry_Balanced_s (k m:Nat)(as_:YA)(t13:List (TReply))(t14:Int)(t15:Int)(sums_:Int)(sums_1:Int)(sums_2:Int)(e1:(Int × Int))(h_e1:e1=(List.getD t13 (Int.toNat t15) (0,0))):h_entry_Balanced k (m+1) as_ t13 t14 t15 sums_ sums_1 sums_2=(bif decide (t15 < t14) then (bif (inb t15 t13.length) then ((CF k S37 n_chart_Of [inj (.slice KAccount) as_,inj qI e1.1]).bind fun (r:Int × Bool)=>(bif (!r.2) then some false else ((CF k Z0 n_money_May [inj qI e1.2]).bind fun (r_1:Bool)=>(bif (!r_1) then some false else (h_entry_Balanced_1 k m k as_ t13 t14 t15 sums_ sums_1 sums_2 e1.1 e1.2))))) else none) else some (decide (sums_=0) && (decide (sums_1=0) && (decide (sums_2=0) && true)))):=by
 subst h_e1
 kernel_rfl
theorem h_entry_Balanced_1_s (k m1 m:Nat)(as_:YA)(t13:List (TReply))(t14:Int)(t15:Int)(sums_:Int)(sums_1:Int)(sums_2:Int)(e_:Int)(e_1:Int)(e1:Int)(h_e1:e1=(List.getD as_ (Int.toNat e_) (0,0,0)).1):h_entry_Balanced_1 k m1 (m+1) as_ t13 t14 t15 sums_ sums_1 sums_2 e_ e_1=(bif (inb e_ as_.length) then (bif decide (e1 < 0) then some false else (bif decide (3<=e1) then some false else (h_entry_Balanced_2 k m1 k as_ e1 t13 t14 t15 sums_ sums_1 sums_2 e_ e_1))) else none):=by
 subst h_e1
 kernel_rfl
theorem h_entry_Balanced_2_s (k m1 m:Nat)(as_:YA)(c_:Int)(t13:List (TReply))(t14:Int)(t15:Int)(sums_:Int)(sums_1:Int)(sums_2:Int)(e_:Int)(e_1:Int):h_entry_Balanced_2 k m1 (m+1) as_ c_ t13 t14 t15 sums_ sums_1 sums_2 e_ e_1=(bif (inb c_ 3) then ((CF k S38 n_money_Add [inj qI (selInt c_ [sums_,sums_1,sums_2]),inj qI e_1]).bind fun (r:Int × (Option Int))=>(bif r.2.isSome then some false else (bif (inb c_ 3) then (h_entry_Balanced k m1 as_ t13 t14 (w64 (t15+1)) (bif decide (c_=0) then r.1 else sums_) (bif decide (c_=1) then r.1 else sums_1) (bif decide (c_=2) then r.1 else sums_2)) else none))) else none):=by kernel_rfl
theorem f_money_Add (k:Nat)(a_:Int)(b_:Int):CF (k+1) S38 n_money_Add [inj qI a_,inj qI b_]=(((CF k Z0 n_money_May [inj qI a_]).bind fun (r:Bool)=>(bif (!r) then some (0,some 4) else ((CF k Z0 n_money_May [inj qI b_]).bind fun (r_1:Bool)=>(bif (!r_1) then some (0,some 4) else ((CF k Z0 n_money_May [inj qI (w64 (a_+b_))]).bind fun (r_2:Bool)=>(bif (!r_2) then some (0,some 4) else some ((w64 (a_+b_)),none))))))):Option (Int × (Option Int))):=by kernel_rfl
theorem f_script_one (k:Nat)(b_:YN)(n_:Int)(e1:Int)(h_e1:e1=(List.getD b_ 5 0))(e2:Int)(h_e2:e2=(List.getD b_ 2 0))(e3:Int)(h_e3:e3=(List.getD b_ 1 0))(e4:Int)(h_e4:e4=(Int.tmod (List.getD b_ 0 0) 12))(e5:Int)(h_e5:e5=(Int.tmod e3 4))(e6:Int)(h_e6:e6=(Int.tmod e2 4))(e7:Int)(h_e7:e7=(w64 (Int.tmod e3 8)))(e8:Int)(h_e8:e8=(w64 (9+(w64 (Int.tmod (List.getD b_ 3 0) 6)))))(e9:Int)(h_e9:e9=(w64 (9+(w64 (Int.tmod e2 6)))))(e10:Int)(h_e10:e10=(w64 (1+(w64 ((w64 (List.getD b_ 4 0)) * 7)))))(e11:(Int × ((Int × (Int × (Int × (Int × (Int × (Int × Int)))))) × (Int × Bool))))(h_e11:e11=(5,(0,0,0,0,0,0,0),(w64 e6),false))(e12:(Int × ((Int × (Int × (Int × (Int × (Int × (Int × Int)))))) × (Int × Bool))))(h_e12:e12=(2,(0,0,0,0,0,0,0),(w64 e3),decide (0 < e6)))(e13:(Int × ((Int × (Int × (Int × (Int × (Int × (Int × Int)))))) × (Int × Bool))))(h_e13:e13=(0,(n_,e7,(w64 e6),e8,e10,0,0),0,false))(e14:(Int × ((Int × (Int × (Int × (Int × (Int × (Int × Int)))))) × (Int × Bool))))(h_e14:e14=(0,(n_,e7,(w64 (Int.tmod e2 3)),e8,e10,0,0),0,false))(e15:(Int × ((Int × (Int × (Int × (Int × (Int × (Int × Int)))))) × (Int × Bool))))(h_e15:e15=(0,(n_,e7,e9,e8,e10,0,0),0,false))(e16:(Int × ((Int × (Int × (Int × (Int × (Int × (Int × Int)))))) × (Int × Bool))))(h_e16:e16=(0,(n_,e7,e9,e8,e10,(w64 (Int.tmod e1 4)),0),0,false))(e17:(Int × ((Int × (Int × (Int × (Int × (Int × (Int × Int)))))) × (Int × Bool))))(h_e17:e17=(0,(n_,e7,e9,e8,e10,0,(w64 (1+(w64 (Int.tmod e1 8))))),0,false)):CF (k+1) ⟨[(false,KEvent)],[]⟩ n_script_one [inj qB b_,inj qI n_]=((bif (inb 0 b_.length) then (bif decide (e4=0) then (bif (inb 1 b_.length) then some (1,(0,0,0,0,0,0,0),(w64 e3),false) else none) else (bif decide (e4=1) then (bif decide (e4=1) then (bif (inb 1 b_.length) then (bif (inb 2 b_.length) then some e12 else none) else none) else (bif decide (e4=4) then some (3,(0,0,0,0,0,0,0),0,false) else (bif decide (e4=5) then (bif (inb 1 b_.length) then (bif decide (0 < e5) then some (4,(0,0,0,0,0,0,0),0,false) else (bif (inb 2 b_.length) then some e11 else none)) else none) else (bif (inb 1 b_.length) then (bif (inb 2 b_.length) then (bif (inb 3 b_.length) then (bif (inb 4 b_.length) then (bif decide (e7=0) then (bif (inb 2 b_.length) then some e14 else none) else (bif decide (e7=2) then (bif (inb 5 b_.length) then some e16 else none) else (bif decide (e7=3) then (bif (inb 5 b_.length) then some e17 else none) else (bif decide (e7=4) then (bif decide (e7=4) then (bif (inb 2 b_.length) then some e13 else none) else some e15) else (bif decide (e7=5) then (bif decide (e7=5) then (bif (inb 2 b_.length) then some e13 else none) else some e15) else (bif decide (e7=6) then (bif decide (e7=6) then (bif (inb 2 b_.length) then some e13 else none) else some e15) else (bif decide (e7=7) then (bif (inb 2 b_.length) then some e13 else none) else some e15))))))) else none) else none) else none) else none)))) else (bif decide (e4=2) then (bif decide (e4=2) then (bif (inb 1 b_.length) then (bif (inb 2 b_.length) then some e12 else none) else none) else (bif decide (e4=4) then some (3,(0,0,0,0,0,0,0),0,false) else (bif decide (e4=5) then (bif (inb 1 b_.length) then (bif decide (0 < e5) then some (4,(0,0,0,0,0,0,0),0,false) else (bif (inb 2 b_.length) then some e11 else none)) else none) else (bif (inb 1 b_.length) then (bif (inb 2 b_.length) then (bif (inb 3 b_.length) then (bif (inb 4 b_.length) then (bif decide (e7=0) then (bif (inb 2 b_.length) then some e14 else none) else (bif decide (e7=2) then (bif (inb 5 b_.length) then some e16 else none) else (bif decide (e7=3) then (bif (inb 5 b_.length) then some e17 else none) else (bif decide (e7=4) then (bif decide (e7=4) then (bif (inb 2 b_.length) then some e13 else none) else some e15) else (bif decide (e7=5) then (bif decide (e7=5) then (bif (inb 2 b_.length) then some e13 else none) else some e15) else (bif decide (e7=6) then (bif decide (e7=6) then (bif (inb 2 b_.length) then some e13 else none) else some e15) else (bif decide (e7=7) then (bif (inb 2 b_.length) then some e13 else none) else some e15))))))) else none) else none) else none) else none)))) else (bif decide (e4=3) then (bif (inb 1 b_.length) then (bif (inb 2 b_.length) then some e12 else none) else none) else (bif decide (e4=4) then some (3,(0,0,0,0,0,0,0),0,false) else (bif decide (e4=5) then (bif (inb 1 b_.length) then (bif decide (0 < e5) then some (4,(0,0,0,0,0,0,0),0,false) else (bif (inb 2 b_.length) then some e11 else none)) else none) else (bif (inb 1 b_.length) then (bif (inb 2 b_.length) then (bif (inb 3 b_.length) then (bif (inb 4 b_.length) then (bif decide (e7=0) then (bif (inb 2 b_.length) then some e14 else none) else (bif decide (e7=2) then (bif (inb 5 b_.length) then some e16 else none) else (bif decide (e7=3) then (bif (inb 5 b_.length) then some e17 else none) else (bif decide (e7=4) then (bif decide (e7=4) then (bif (inb 2 b_.length) then some e13 else none) else some e15) else (bif decide (e7=5) then (bif decide (e7=5) then (bif (inb 2 b_.length) then some e13 else none) else some e15) else (bif decide (e7=6) then (bif decide (e7=6) then (bif (inb 2 b_.length) then some e13 else none) else some e15) else (bif decide (e7=7) then (bif (inb 2 b_.length) then some e13 else none) else some e15))))))) else none) else none) else none) else none))))))) else none):Option (TEvent)):=by
 subst h_e1 h_e2 h_e3 h_e4 h_e5 h_e6 h_e7 h_e8 h_e9 h_e10 h_e11 h_e12 h_e13 h_e14 h_e15 h_e16 h_e17
 kernel_rfl
theorem f_s15 (k:Nat)(a_:TState)(b_:TState):CF (k+1) Z0 n_s15 [inj KState a_,inj KState b_]=(((CF k Z0 n_law07_Same [inj (.slice KAccount) a_.1,inj (.slice KAccount) b_.1]).bind fun (r:Bool)=>(bif (!r) then some false else (bif (!decide ((a_.2.1.length:Int)=(b_.2.1.length:Int))) then some false else (bif (!decide (a_.2.2.2.2=b_.2.2.2.2)) then some false else (h_s15 k k a_.1 a_.2.1 a_.2.2.1 a_.2.2.2.1 a_.2.2.2.2 b_.1 b_.2.1 b_.2.2.1 b_.2.2.2.1 b_.2.2.2.2))))):Option (Bool)):=by kernel_rfl
theorem h_s15_s (k m:Nat)(a_:YA)(a_1:YP)(a_2:YG)(a_3:YK)(a_4:Int)(b_:YA)(b_1:YP)(b_2:YG)(b_3:YK)(b_4:Int):h_s15 k (m+1) a_ a_1 a_2 a_3 a_4 b_ b_1 b_2 b_3 b_4=(h_s15_1 k k (a_1.length:Int) 0 a_ a_1 a_2 a_3 a_4 b_ b_1 b_2 b_3 b_4):=by kernel_rfl
theorem h_s15_1_s (k m:Nat)(t30:Int)(t31:Int)(a_:YA)(a_1:YP)(a_2:YG)(a_3:YK)(a_4:Int)(b_:YA)(b_1:YP)(b_2:YG)(b_3:YK)(b_4:Int)(e1:(Int × (Int × (Int × (Int × (Int × (Int × (Int × Int))))))))(h_e1:e1=(List.getD b_1 (Int.toNat t31) (0,0,0,0,0,0,0,0)))(e2:(Int × (Int × (Int × (Int × (Int × (Int × (Int × Int))))))))(h_e2:e2=(List.getD a_1 (Int.toNat t31) (0,0,0,0,0,0,0,0))):h_s15_1 k (m+1) t30 t31 a_ a_1 a_2 a_3 a_4 b_ b_1 b_2 b_3 b_4=(bif decide (t31 < t30) then (bif (inb t31 a_1.length) then (bif (inb t31 b_1.length) then (bif (!(decide (e2.1=e1.1) && (decide (e2.2.1=e1.2.1) && (decide (e2.2.2.1=e1.2.2.1) && (decide (e2.2.2.2.1=e1.2.2.2.1) && (decide (e2.2.2.2.2.1=e1.2.2.2.2.1) && (decide (e2.2.2.2.2.2.1=e1.2.2.2.2.2.1) && (decide (e2.2.2.2.2.2.2.1=e1.2.2.2.2.2.2.1) && (decide (e2.2.2.2.2.2.2.2=e1.2.2.2.2.2.2.2) && true))))))))) then some false else (h_s15_1 k m t30 (w64 (t31+1)) a_ a_1 a_2 a_3 a_4 b_ b_1 b_2 b_3 b_4)) else none) else none) else some true):=by
 subst h_e1 h_e2
 kernel_rfl
theorem f_law11_Same (k:Nat)(a_:YK)(b_:YK)(e1:Int)(h_e1:e1=(a_.length:Int)):CF (k+1) Z0 n_law11_Same [inj (.slice KKnown) a_,inj (.slice KKnown) b_]=((bif (!decide (e1=(b_.length:Int))) then some false else (h_law11_Same k k a_ b_ e1 0)):Option (Bool)):=by
 subst h_e1
 kernel_rfl
theorem h_law11_Same_s (k m:Nat)(a_:YK)(b_:YK)(t12:Int)(t13:Int)(e1:((Int × (Int × (Int × (Int × (Int × (Int × Int)))))) × ((Int × Int) × Bool)))(h_e1:e1=(List.getD b_ (Int.toNat t13) ((0,0,0,0,0,0,0),(0,0),false)))(e2:((Int × (Int × (Int × (Int × (Int × (Int × Int)))))) × ((Int × Int) × Bool)))(h_e2:e2=(List.getD a_ (Int.toNat t13) ((0,0,0,0,0,0,0),(0,0),false))):h_law11_Same k (m+1) a_ b_ t12 t13=(bif decide (t13 < t12) then (bif (inb t13 a_.length) then (bif (inb t13 b_.length) then (bif (!(decide (e2.1.1=e1.1.1) && (decide (e2.1.2.1=e1.1.2.1) && (decide (e2.1.2.2.1=e1.1.2.2.1) && (decide (e2.1.2.2.2.1=e1.1.2.2.2.1) && (decide (e2.1.2.2.2.2.1=e1.1.2.2.2.2.1) && (decide (e2.1.2.2.2.2.2.1=e1.1.2.2.2.2.2.1) && (decide (e2.1.2.2.2.2.2.2=e1.1.2.2.2.2.2.2) && (decide (e2.2.1.1=e1.2.1.1) && (decide (e2.2.1.2=e1.2.1.2) && ((e2.2.2 == e1.2.2) && true))))))))))) then some false else (h_law11_Same k m a_ b_ t12 (w64 (t13+1)))) else none) else none) else some true):=by
 subst h_e1 h_e2
 kernel_rfl
theorem f_jO (k:Nat)(d_:Option Nat)(ui:YF)(uk:YN)(ul:YL)(uo:YO)(up:YN)(uq:YB)(ur:YR)(us:YL)(ut:YB)(uu:YN)(e1:(List Bool))(h_e1:e1=(us++[false]))(e2:(List Int))(h_e2:e2=(up++[0]))(e3:(List (List Int)))(h_e3:e3=(uq++[[]]))(e4:(List (List (List Int))))(h_e4:e4=(ur++[[]])):CF (k+1) S8 n_jO [inj (.ref 29) d_,Ci ui,Ck uk,Cl ul,Co uo,Cp up,Cq uq,Cr ur,Cs us,Ct ut,Cu uu]=(((CF k S15 n_dD_Read [inj (.ref 29) d_,inj qI 0,Ci ui,Ct ut]).bind fun (r:R20)=>(bif r.2.1 then ((CF k S21 n_frame_One [inj qB r.1]).bind fun (r_1:YN × Int × Bool)=>(bif (!r_1.2.2) then some (none,some 11,r.2.2.1,uk,ul,(uo++[d_]),e2,e3,e4,e1,r.2.2.2,uu) else (bif (!decide (r_1.2.1=(r.1.length:Int))) then some (none,some 11,r.2.2.1,uk,ul,(uo++[d_]),e2,e3,e4,e1,r.2.2.2,uu) else (h_jO k k d_ uo.length r_1.1 r.2.2.1 uk ul (uo++[d_]) e2 e3 e4 e1 r.2.2.2 uu)))) else (h_jO_1 k k d_ uo.length r.2.2.1 uk ul (uo++[d_]) e2 e3 e4 e1 r.2.2.2 uu))):Option (R10)):=by
 subst h_e1 h_e2 h_e3 h_e4
 kernel_rfl
theorem h_jO_1_s (k m:Nat)(d_:Option Nat)(j_:Nat)(ui:YF)(uk:YN)(ul:YL)(uo:YO)(up:YN)(uq:YB)(ur:YR)(us:YL)(ut:YB)(uu:YN):h_jO_1 k (m+1) d_ j_ ui uk ul uo up uq ur us ut uu=((CF k S18 n_dD_Names [inj (.ref 29) d_,Ci ui]).bind fun (r:YN × YF)=>(h_jO_3 k k d_ j_ r.1 (r.1.length:Int) 0 r.2 uk ul uo up uq ur us ut uu)):=by kernel_rfl
theorem h_jO_3_s (k m:Nat)(d_:Option Nat)(j_:Nat)(t67:YN)(t68:Int)(t69:Int)(ui:YF)(uk:YN)(ul:YL)(uo:YO)(up:YN)(uq:YB)(ur:YR)(us:YL)(ut:YB)(uu:YN)(e1:Int)(h_e1:e1=(List.getD t67 (Int.toNat t69) 0))(e2:Int)(h_e2:e2=(w64 (t69+1)))(e3:Int)(h_e3:e3=(w64 (2+(List.getD up j_ 0)))):h_jO_3 k (m+1) d_ j_ t67 t68 t69 ui uk ul uo up uq ur us ut uu=(bif decide (t69 < t68) then (bif (inb t69 t67.length) then (bif (!decide (e1=0)) then (bif (!decide (e1=e3)) then ((CF k S16 n_dD_Remove [inj (.ref 29) d_,inj qI e1,Ci ui,Ck uk,Cl ul]).bind fun (r:R19)=>(bif r.1.isSome then some (none,r.1,r.2.1,r.2.2.1,r.2.2.2,uo,up,uq,ur,us,ut,uu) else (h_jO_3 k m d_ j_ t67 t68 e2 r.2.1 r.2.2.1 r.2.2.2 uo up uq ur us ut uu))) else (h_jO_3 k m d_ j_ t67 t68 e2 ui uk ul uo up uq ur us ut uu)) else (h_jO_3 k m d_ j_ t67 t68 e2 ui uk ul uo up uq ur us ut uu)) else none) else ((CF k S15 n_dD_Read [inj (.ref 29) d_,inj qI e3,Ci ui,Ct ut]).bind fun (r:R20)=>((CF k S26 n_frame_Scan [inj qB r.1]).bind fun (r_1:YB × Int)=>(bif r.2.1 then (bif decide (r_1.2 < (r.1.length:Int)) then ((CF k S13 n_dD_Cut [inj (.ref 29) d_,inj qI e3,inj qI r_1.2,Ci r.2.2.1,Ck uk,Cl ul,Ct r.2.2.2,Cu uu]).bind fun (r_2:R15)=>(bif r_2.1.isSome then some (none,r_2.1,r_2.2.1,r_2.2.2.1,r_2.2.2.2.1,uo,up,uq,(List.set ur j_ r_1.1),us,r_2.2.2.2.2) else some (some j_,none,r_2.2.1,r_2.2.2.1,r_2.2.2.2.1,uo,up,uq,(List.set ur j_ r_1.1),us,r_2.2.2.2.2))) else some (some j_,none,r.2.2.1,uk,ul,uo,up,uq,(List.set ur j_ r_1.1),us,r.2.2.2,uu)) else some (some j_,none,r.2.2.1,uk,ul,uo,up,uq,(List.set ur j_ r_1.1),us,r.2.2.2,uu))))):=by
 subst h_e1 h_e2 h_e3
 kernel_rfl
theorem f_jJ_Turn (k:Nat)(j_:Option Nat)(up:YN):CF (k+1) S34 n_jJ_Turn [inj (.ref 99) j_,Cp up]=((bif j_.isSome then some ((List.getD up (j_.getD 0) 0),up) else none):Option (Int × YN)):=by kernel_rfl
theorem f_jJ_Records (k:Nat)(j_:Option Nat)(ur:YR):CF (k+1) S20 n_jJ_Records [inj (.ref 99) j_,Cr ur]=((bif j_.isSome then (h_jJ_Records k k j_ (j_.getD 0) ((List.getD ur (j_.getD 0) []).length:Int) 0 [] ur) else none):Option (YB × YR)):=by kernel_rfl
theorem h_jJ_Records_s (k m:Nat)(j_:Option Nat)(t9:Nat)(t10:Int)(t11:Int)(out_:YB)(ur:YR)(e1:(List (List Int)))(h_e1:e1=(List.getD ur t9 []))(e2:(List Int))(h_e2:e2=(List.getD e1 (Int.toNat t11) [])):h_jJ_Records k (m+1) j_ t9 t10 t11 out_ ur=(bif decide (t11 < t10) then (bif (inb t11 e1.length) then (bif decide ((e2.length * 1)<=211106232532992) then (bif decide (((out_.length+[e2].length) * 24)<=211106232532992) then (h_jJ_Records k m j_ t9 t10 (w64 (t11+1)) (out_++[e2]) ur) else none) else none) else none) else some (out_,ur)):=by
 subst h_e1 h_e2
 kernel_rfl
theorem f_engine_Do (k:Nat)(s_:TState)(e_:TEvent):CF (k+1) S40 n_engine_Do [inj KState s_,inj KEvent e_]=((bif decide (e_.1=0) then ((CF k S56 n_eM_submit [vf [.io Kmachine s_],inj KEvent e_]).bind fun (r:TReply × Tmachine)=>some (r.2,r.1)) else (bif decide (e_.1=1) then ((CF k S56 n_eM_step [vf [.io Kmachine s_],inj KEvent e_]).bind fun (r:TReply × Tmachine)=>some (r.2,r.1)) else (bif decide (e_.1=2) then ((CF k S56 n_eM_tick [vf [.io Kmachine s_],inj KEvent e_]).bind fun (r:TReply × Tmachine)=>some (r.2,r.1)) else some (s_,1,0)))):Option (TState × TReply)):=by kernel_rfl
theorem f_cS (k:Nat)(s_:TState)(e1:Int)(h_e1:e1=(s_.1.length:Int)):CF (k+1) S49 n_cS [inj KState s_]=(((CF k S52 n_v_All [inj (.slice qI) [s_.2.2.2.2,e1]]).bind fun (r:YN)=>(h_cS k k s_.1 e1 0 s_.1 s_.2.1 s_.2.2.1 s_.2.2.2.1 s_.2.2.2.2 r)):Option (YN)):=by
 subst h_e1
 kernel_rfl
theorem h_cS_s (k m:Nat)(t20:YA)(t21:Int)(t22:Int)(s_:YA)(s_1:YP)(s_2:YG)(s_3:YK)(s_4:Int)(out_:YN)(e1:Int)(h_e1:e1=(s_1.length:Int))(e2:(Int × (Int × Int)))(h_e2:e2=(List.getD t20 (Int.toNat t22) (0,0,0))):h_cS k (m+1) t20 t21 t22 s_ s_1 s_2 s_3 s_4 out_=(bif decide (t22 < t21) then (bif (inb t22 t20.length) then ((CF k S52 n_v_All [inj (.slice qI) [e2.1,e2.2.1,e2.2.2]]).bind fun (r:YN)=>(bif decide (((out_.length+r.length) * 1)<=211106232532992) then (h_cS k m t20 t21 (w64 (t22+1)) s_ s_1 s_2 s_3 s_4 (out_++r)) else none)) else none) else ((CF k S52 n_v_Put [vf [.mv (.int .u8) out_],inj qI e1]).bind fun (r:YN)=>(h_cS_1 k k s_1 e1 0 s_ s_1 s_2 s_3 s_4 r))):=by
 subst h_e1 h_e2
 kernel_rfl
theorem h_cS_1_s (k m:Nat)(t43:YP)(t44:Int)(t45:Int)(s_:YA)(s_1:YP)(s_2:YG)(s_3:YK)(s_4:Int)(out_:YN)(e1:Int)(h_e1:e1=(s_2.length:Int))(e2:(Int × (Int × (Int × (Int × (Int × (Int × (Int × Int))))))))(h_e2:e2=(List.getD t43 (Int.toNat t45) (0,0,0,0,0,0,0,0))):h_cS_1 k (m+1) t43 t44 t45 s_ s_1 s_2 s_3 s_4 out_=(bif decide (t45 < t44) then (bif (inb t45 t43.length) then ((CF k S52 n_v_All [inj (.slice qI) [e2.1,e2.2.1,e2.2.2.1,e2.2.2.2.1,e2.2.2.2.2.1,e2.2.2.2.2.2.1,e2.2.2.2.2.2.2.1,e2.2.2.2.2.2.2.2]]).bind fun (r:YN)=>(bif decide (((out_.length+r.length) * 1)<=211106232532992) then (h_cS_1 k m t43 t44 (w64 (t45+1)) s_ s_1 s_2 s_3 s_4 (out_++r)) else none)) else none) else ((CF k S52 n_v_Put [vf [.mv (.int .u8) out_],inj qI e1]).bind fun (r:YN)=>(h_cS_2 k k s_2 e1 0 s_ s_1 s_2 s_3 s_4 r))):=by
 subst h_e1 h_e2
 kernel_rfl
theorem h_cS_2_s (k m:Nat)(t76:YG)(t77:Int)(t78:Int)(s_:YA)(s_1:YP)(s_2:YG)(s_3:YK)(s_4:Int)(out_:YN)(e1:Int)(h_e1:e1=(s_3.length:Int))(e2:((Int × (Int × (Int × (Int × (Int × (Int × Int)))))) × (Int × (Int × (Int × Int)))))(h_e2:e2=(List.getD t76 (Int.toNat t78) ((0,0,0,0,0,0,0),0,0,0,0))):h_cS_2 k (m+1) t76 t77 t78 s_ s_1 s_2 s_3 s_4 out_=(bif decide (t78 < t77) then (bif (inb t78 t76.length) then ((CF k S49 n_request_Bytes [inj KRequest e2.1]).bind fun (r:YN)=>(bif decide (((out_.length+r.length) * 1)<=211106232532992) then ((CF k S52 n_v_All [inj (.slice qI) [e2.2.1,e2.2.2.1,e2.2.2.2.1,e2.2.2.2.2]]).bind fun (r_1:YN)=>(bif decide ((((out_++r).length+r_1.length) * 1)<=211106232532992) then (h_cS_2 k m t76 t77 (w64 (t78+1)) s_ s_1 s_2 s_3 s_4 ((out_++r)++r_1)) else none)) else none)) else none) else ((CF k S52 n_v_Put [vf [.mv (.int .u8) out_],inj qI e1]).bind fun (r:YN)=>(h_cS_3 k k s_3 e1 0 r))):=by
 subst h_e1 h_e2
 kernel_rfl
theorem h_cS_3_s (k m:Nat)(t106:YK)(t107:Int)(t108:Int)(out_:YN)(e1:((Int × (Int × (Int × (Int × (Int × (Int × Int)))))) × ((Int × Int) × Bool)))(h_e1:e1=(List.getD t106 (Int.toNat t108) ((0,0,0,0,0,0,0),(0,0),false))):h_cS_3 k (m+1) t106 t107 t108 out_=(bif decide (t108 < t107) then (bif (inb t108 t106.length) then ((CF k S49 n_request_Bytes [inj KRequest e1.1]).bind fun (r:YN)=>(bif decide (((out_.length+r.length) * 1)<=211106232532992) then ((CF k S49 n_request_Reply [inj KReply e1.2.1]).bind fun (r_1:YN)=>(bif decide ((((out_++r).length+r_1.length) * 1)<=211106232532992) then ((CF k S60 n_codec_flag [inj .bool e1.2.2]).bind fun (r_2:Int)=>((CF k S52 n_v_Put [vf [.mv (.int .u8) ((out_++r)++r_1)],inj qI r_2]).bind fun (r_3:YN)=>(h_cS_3 k m t106 t107 (w64 (t108+1)) r_3))) else none)) else none)) else none) else some out_):=by
 subst h_e1
 kernel_rfl
theorem f_dE_Do (k:Nat)(x_:Option Nat)(e_:TEvent)(ui:YF)(uj:YN)(uk:YN)(ul:YL)(um:YO)(un:YT)(uo:YO)(up:YN)(uq:YB)(ur:YR)(us:YL)(ut:YB)(uu:YN)(e1:((List (Int × (Int × Int))) × ((List (Int × (Int × (Int × (Int × (Int × (Int × (Int × Int)))))))) × ((List ((Int × (Int × (Int × (Int × (Int × (Int × Int)))))) × (Int × (Int × (Int × Int))))) × ((List ((Int × (Int × (Int × (Int × (Int × (Int × Int)))))) × ((Int × Int) × Bool))) × Int)))))(h_e1:e1=(List.getD un (x_.getD 0) ([],[],[],[],0))):CF (k+1) S4 n_dE_Do [inj (.ref 30) x_,inj KEvent e_,Ci ui,Cj uj,Ck uk,Cl ul,Cm um,Cn un,Co uo,Cp up,Cq uq,Cr ur,Cs us,Ct ut,Cu uu]=((bif x_.isSome then ((CF k S48 n_jJ_Broken [inj (.ref 99) (List.getD um (x_.getD 0) none),Cs us]).bind fun (r:Bool × YL)=>(bif r.1 then some ((12,0),ui,uj,uk,ul,um,un,uo,up,uq,ur,r.2,ut,uu) else (bif x_.isSome then ((CF k S40 n_engine_Do [inj KState e1,inj KEvent e_]).bind fun (r_1:TState × TReply)=>(bif x_.isSome then ((CF k Z0 n_ds [inj KState e1,inj KState r_1.1]).bind fun (r_2:Bool)=>(bif r_2 then some (r_1.2,ui,uj,uk,ul,um,un,uo,up,uq,ur,r.2,ut,uu) else ((CF k S49 n_codec_Event [inj KEvent e_]).bind fun (r_3:YN)=>(bif x_.isSome then ((CF k S9 n_jJ_Append [inj (.ref 99) (List.getD um (x_.getD 0) none),inj (.slice qB) [r_3],Ci ui,Cj uj,Ck uk,Cl ul,Co uo,Cp up,Cr ur,Cs r.2,Ct ut,Cu uu]).bind fun (r_4:R12)=>(bif (r_4.1.isSome || (some 8).isSome) then (bif decide (r_4.1=some 8) then ((CF k S5 n_dE_Keep [inj (.ref 30) x_,Ci r_4.2.1,Cj r_4.2.2.1,Ck r_4.2.2.2.1,Cl r_4.2.2.2.2.1,Cm um,Cn un,Co r_4.2.2.2.2.2.1,Cp r_4.2.2.2.2.2.2.1,Cq uq,Cr r_4.2.2.2.2.2.2.2.1,Cs r_4.2.2.2.2.2.2.2.2.1,Ct r_4.2.2.2.2.2.2.2.2.2.1,Cu r_4.2.2.2.2.2.2.2.2.2.2]).bind fun (r_5:R8)=>(bif (!r_5.1.isSome) then (bif x_.isSome then ((CF k S9 n_jJ_Append [inj (.ref 99) (List.getD r_5.2.2.2.2.2.1 (x_.getD 0) none),inj (.slice qB) [r_3],Ci r_5.2.1,Cj r_5.2.2.1,Ck r_5.2.2.2.1,Cl r_5.2.2.2.2.1,Co r_5.2.2.2.2.2.2.2.1,Cp r_5.2.2.2.2.2.2.2.2.1,Cr r_5.2.2.2.2.2.2.2.2.2.2.1,Cs r_5.2.2.2.2.2.2.2.2.2.2.2.1,Ct r_5.2.2.2.2.2.2.2.2.2.2.2.2.1,Cu r_5.2.2.2.2.2.2.2.2.2.2.2.2.2]).bind fun (r_6:R12)=>(h_dE_Do k k x_ r_6.1 0 0 r_1.1.1 r_1.1.2.1 r_1.1.2.2.1 r_1.1.2.2.2.1 r_1.1.2.2.2.2 r_1.2.1 r_1.2.2 r_6.2.1 r_6.2.2.1 r_6.2.2.2.1 r_6.2.2.2.2.1 r_5.2.2.2.2.2.1 r_5.2.2.2.2.2.2.1 r_6.2.2.2.2.2.1 r_6.2.2.2.2.2.2.1 r_5.2.2.2.2.2.2.2.2.2.1 r_6.2.2.2.2.2.2.2.1 r_6.2.2.2.2.2.2.2.2.1 r_6.2.2.2.2.2.2.2.2.2.1 r_6.2.2.2.2.2.2.2.2.2.2)) else none) else (h_dE_Do k k x_ r_5.1 0 0 r_1.1.1 r_1.1.2.1 r_1.1.2.2.1 r_1.1.2.2.2.1 r_1.1.2.2.2.2 r_1.2.1 r_1.2.2 r_5.2.1 r_5.2.2.1 r_5.2.2.2.1 r_5.2.2.2.2.1 r_5.2.2.2.2.2.1 r_5.2.2.2.2.2.2.1 r_5.2.2.2.2.2.2.2.1 r_5.2.2.2.2.2.2.2.2.1 r_5.2.2.2.2.2.2.2.2.2.1 r_5.2.2.2.2.2.2.2.2.2.2.1 r_5.2.2.2.2.2.2.2.2.2.2.2.1 r_5.2.2.2.2.2.2.2.2.2.2.2.2.1 r_5.2.2.2.2.2.2.2.2.2.2.2.2.2))) else (h_dE_Do k k x_ r_4.1 0 0 r_1.1.1 r_1.1.2.1 r_1.1.2.2.1 r_1.1.2.2.2.1 r_1.1.2.2.2.2 r_1.2.1 r_1.2.2 r_4.2.1 r_4.2.2.1 r_4.2.2.2.1 r_4.2.2.2.2.1 um un r_4.2.2.2.2.2.1 r_4.2.2.2.2.2.2.1 uq r_4.2.2.2.2.2.2.2.1 r_4.2.2.2.2.2.2.2.2.1 r_4.2.2.2.2.2.2.2.2.2.1 r_4.2.2.2.2.2.2.2.2.2.2)) else none)) else none)))) else none)) else none))) else none):Option (R9)):=by
 subst h_e1
 kernel_rfl
theorem h_dE_Do_s (k m:Nat)(x_:Option Nat)(err_:Option Int)(t4:Int)(t41:Int)(t_:YA)(t_1:YP)(t_2:YG)(t_3:YK)(t_4:Int)(out_:Int)(out_1:Int)(ui:YF)(uj:YN)(uk:YN)(ul:YL)(um:YO)(un:YT)(uo:YO)(up:YN)(uq:YB)(ur:YR)(us:YL)(ut:YB)(uu:YN):h_dE_Do k (m+1) x_ err_ t4 t41 t_ t_1 t_2 t_3 t_4 out_ out_1 ui uj uk ul um un uo up uq ur us ut uu=(bif err_.isSome then ((CF k S60 n_api_Number [inj .err err_]).bind fun (r:Int)=>some ((r,0),ui,uj,uk,ul,um,un,uo,up,uq,ur,us,ut,uu)) else (bif x_.isSome then some ((out_,out_1),ui,uj,uk,ul,um,(List.set un (x_.getD 0) (t_,t_1,t_2,t_3,t_4)),uo,up,uq,ur,us,ut,uu) else none)):=by kernel_rfl
theorem f_jJ_Save (k:Nat)(j_:Option Nat)(b_:YN)(ui:YF)(uj:YN)(uk:YN)(ul:YL)(uo:YO)(up:YN)(uq:YB)(ur:YR)(us:YL)(ut:YB)(uu:YN)(e1:Int)(h_e1:e1=(List.getD up (j_.getD 0) 0))(e2:(List (List Int)))(h_e2:e2=(List.set uq (j_.getD 0) b_))(e3:(List (List (List Int))))(h_e3:e3=(List.set ur (j_.getD 0) []))(e4:Int)(h_e4:e4=(w64 (2+e1)))(e5:Int)(h_e5:e5=(w64 (e1+1)))(e6:(List Int))(h_e6:e6=(List.set up (j_.getD 0) e5)):CF (k+1) S7 n_jJ_Save [inj (.ref 99) j_,inj qB b_,Ci ui,Cj uj,Ck uk,Cl ul,Co uo,Cp up,Cq uq,Cr ur,Cs us,Ct ut,Cu uu]=((bif j_.isSome then (bif (List.getD us (j_.getD 0) false) then some (some 12,ui,uj,uk,ul,uo,up,uq,ur,us,ut,uu) else (bif j_.isSome then ((CF k S52 n_v_All [inj (.slice qI) [e5]]).bind fun (r:YN)=>(bif decide (((r.length+b_.length) * 1)<=211106232532992) then ((CF k S32 n_frame_Make [inj qB (r++b_)]).bind fun (r_1:YN × Bool)=>(bif (!r_1.2) then some (some 13,ui,uj,uk,ul,uo,up,uq,ur,us,ut,uu) else ((CF k S10 n_jJ_put [inj (.ref 99) j_,inj qI 1,inj qB r_1.1,Ci ui,Cj uj,Ck uk,Cl ul,Co uo,Cs us,Ct ut,Cu uu]).bind fun (r_2:R13)=>(bif r_2.1.isSome then some (r_2.1,r_2.2.1,r_2.2.2.1,r_2.2.2.2.1,r_2.2.2.2.2.1,r_2.2.2.2.2.2.1,up,uq,ur,r_2.2.2.2.2.2.2) else (bif j_.isSome then ((CF k S16 n_dD_Rename [inj (.ref 29) (List.getD r_2.2.2.2.2.2.1 (j_.getD 0) none),inj qI 1,inj qI 0,Ci r_2.2.1,Ck r_2.2.2.2.1,Cl r_2.2.2.2.2.1]).bind fun (r_3:R19)=>(bif r_3.1.isSome then ((CF k S50 n_jJ_fail [inj (.ref 99) j_,inj .err r_3.1,Cs r_2.2.2.2.2.2.2.1]).bind fun (r_4:(Option Int) × YL)=>some (r_4.1,r_3.2.1,r_2.2.2.1,r_3.2.2.1,r_3.2.2.2,r_2.2.2.2.2.2.1,up,uq,ur,r_4.2,r_2.2.2.2.2.2.2.2)) else (bif j_.isSome then (bif j_.isSome then (bif j_.isSome then (bif decide ((b_.length * 1)<=211106232532992) then (bif j_.isSome then (bif j_.isSome then (bif j_.isSome then ((CF k S15 n_dD_Read [inj (.ref 29) (List.getD r_2.2.2.2.2.2.1 (j_.getD 0) none),inj qI e4,Ci r_3.2.1,Ct r_2.2.2.2.2.2.2.2.1]).bind fun (r_4:R20)=>(bif r_4.2.1 then (bif j_.isSome then ((CF k S16 n_dD_Remove [inj (.ref 29) (List.getD r_2.2.2.2.2.2.1 (j_.getD 0) none),inj qI e4,Ci r_4.2.2.1,Ck r_3.2.2.1,Cl r_3.2.2.2]).bind fun (r_5:R19)=>((CF k S50 n_jJ_fail [inj (.ref 99) j_,inj .err r_5.1,Cs r_2.2.2.2.2.2.2.1]).bind fun (r_6:(Option Int) × YL)=>some (r_6.1,r_5.2.1,r_2.2.2.1,r_5.2.2.1,r_5.2.2.2,r_2.2.2.2.2.2.1,e6,e2,e3,r_6.2,r_4.2.2.2,r_2.2.2.2.2.2.2.2.2))) else none) else some (none,r_4.2.2.1,r_2.2.2.1,r_3.2.2.1,r_3.2.2.2,r_2.2.2.2.2.2.1,e6,e2,e3,r_2.2.2.2.2.2.2.1,r_4.2.2.2,r_2.2.2.2.2.2.2.2.2))) else none) else none) else none) else none) else none) else none) else none))) else none))))) else none)) else none)) else none):Option (R11)):=by
 subst h_e1 h_e2 h_e3 h_e4 h_e5 h_e6
 kernel_rfl
theorem f_ops_by (k:Nat)(op_:Int):CF (k+1) Z6 n_ops_by [inj qI op_]=((bif decide (op_ < 0) then some none else (bif decide (8<=op_) then some none else (bif (inb op_ 8) then some (List.getD [some 124,some 125,some 126,some 127,some 128,some 129,some 130,some 131] (Int.toNat op_) none) else none))):Option ((Option Nat))):=by kernel_rfl
theorem f_ops_Reserve (k:Nat)(s_:TState)(r_:TRequest):CF (k+1) S45 n_ops_Reserve [inj KState s_,inj KRequest r_]=(((CF k S59 n_oD_clients [vf [.io Kmachine s_],inj (.slice qI) [r_.2.2.1,r_.2.2.2.1]]).bind fun (r:Bool × Tmachine)=>(bif (!r.1) then some (s_,some 2) else ((CF k S36 n_eV [inj (.slice KAccount) s_.1,inj qI r_.2.2.1,inj qI r_.2.2.2.1,inj qI r_.2.2.2.2.1]).bind fun (r_1:(List (TReply)) × (Option Int))=>(bif r_1.2.isSome then some (s_,r_1.2) else ((CF k S33 n_l_Hold [inj (.slice KAccount) s_.1,inj qI r_.2.2.1,inj qI r_.2.2.2.2.1]).bind fun (r_2:YA × (Option Int))=>(bif r_2.2.isSome then some (s_,r_2.2) else some ((r_2.1,s_.2),none))))))):Option (TState × (Option Int))):=by kernel_rfl
theorem f_saga_Begin (k:Nat)(r_:TRequest):CF (k+1) Z1 n_saga_Begin [inj KRequest r_]=(some (r_,0,0,0,0):Option (TSaga)):=by kernel_rfl
theorem f_saga_Ready (k:Nat)(s_:TSaga):CF (k+1) Z0 n_saga_Ready [inj KSaga s_]=((bif decide (s_.2.1=0) then some (decide (s_.1.2.2.2.2.2.1<=s_.2.2.1)) else some false):Option (Bool)):=by kernel_rfl
theorem f_bank_Legs_next (k:Nat)(l_:YL)(e1:Int)(h_e1:e1=(l_.length:Int)):CF (k+1) S48 n_bank_Legs_next [vf [.io (.slice .bool) l_]]=((bif decide (e1=0) then some (true,l_) else (bif (inb 0 l_.length) then (bif decide (1<=e1) then some ((List.getD l_ 0 false),(List.drop 1 l_)) else none) else none)):Option (Bool × YL)):=by
 subst h_e1
 kernel_rfl
theorem f_saga_Leg (k:Nat)(s_:TSaga)(ok_:Bool):CF (k+1) Z1 n_saga_Leg [inj KSaga s_,inj .bool ok_]=((bif (!decide (s_.2.1=0)) then some s_ else ((CF k Z0 n_saga_Ready [inj KSaga s_]).bind fun (r:Bool)=>(bif r then some s_ else (bif ok_ then ((CF k Z1 n_saga_agree [inj KSaga s_]).bind fun (r_1:TSaga)=>some r_1) else ((CF k Z1 n_saga_refuse [inj KSaga s_]).bind fun (r_1:TSaga)=>some r_1))))):Option (TSaga)):=by kernel_rfl
theorem f_ops_Settle (k:Nat)(s_:TState)(r_:TRequest):CF (k+1) S45 n_ops_Settle [inj KState s_,inj KRequest r_]=(((CF k S36 n_eV [inj (.slice KAccount) s_.1,inj qI r_.2.2.1,inj qI r_.2.2.2.1,inj qI r_.2.2.2.2.1]).bind fun (r:(List (TReply)) × (Option Int))=>(bif r.2.isSome then some (s_,r.2) else ((CF k S33 n_l_Spend [inj (.slice KAccount) s_.1,inj qI r_.2.2.2.2.1,inj (.slice KReply) r.1]).bind fun (r_1:YA × (Option Int))=>(bif r_1.2.isSome then some (s_,r_1.2) else some ((r_1.1,s_.2),none))))):Option (TState × (Option Int))):=by kernel_rfl
theorem f_saga_Turn (k:Nat)(s_:TSaga)(why_:Int):CF (k+1) Z1 n_saga_Turn [inj KSaga s_,inj qI why_]=((bif decide (s_.2.1=0) then some (s_.1,1,s_.2.2.1,s_.2.2.2.1,why_) else some s_):Option (TSaga)):=by kernel_rfl
theorem f_ops_Undo (k:Nat)(s_:TState)(r_:TRequest):CF (k+1) S45 n_ops_Undo [inj KState s_,inj KRequest r_]=(((CF k S33 n_l_Release [inj (.slice KAccount) s_.1,inj qI r_.2.2.1,inj qI r_.2.2.2.2.1]).bind fun (r:YA × (Option Int))=>(bif r.2.isSome then some (s_,r.2) else some ((r.1,s_.2),none))):Option (TState × (Option Int))):=by kernel_rfl
theorem f_payment_by (k:Nat)(op_:Int):CF (k+1) Z6 n_payment_by [inj qI op_]=((bif decide (op_=4) then some (some 181) else (bif decide (op_=6) then some (some 182) else (bif decide (op_=7) then some (some 183) else (bif decide (op_=5) then some (some 184) else some none)))):Option ((Option Nat))):=by kernel_rfl
theorem f_money_Rate_right (k:Nat)(r_:TReply):CF (k+1) Z0 n_money_Rate_right [inj KReply r_]=((bif decide (1<=r_.1) then (bif decide (r_.1<=1024) then (bif decide (1<=r_.2) then some (decide (r_.2<=1024)) else some false) else some false) else some false):Option (Bool)):=by kernel_rfl
theorem f_money_May (k:Nat)(n_:Int):CF (k+1) Z0 n_money_May [inj qI n_]=((bif decide ((-1125899906842624:Int)<=n_) then some (decide (n_<=1125899906842624)) else some false):Option (Bool)):=by kernel_rfl
theorem f_law07_Same (k:Nat)(a_:YA)(b_:YA)(e1:Int)(h_e1:e1=(a_.length:Int)):CF (k+1) Z0 n_law07_Same [inj (.slice KAccount) a_,inj (.slice KAccount) b_]=((bif (!decide (e1=(b_.length:Int))) then some false else (h_law07_Same k k a_ b_ e1 0)):Option (Bool)):=by
 subst h_e1
 kernel_rfl
theorem h_law07_Same_s (k m:Nat)(a_:YA)(b_:YA)(t12:Int)(t13:Int)(e1:(Int × (Int × Int)))(h_e1:e1=(List.getD b_ (Int.toNat t13) (0,0,0)))(e2:(Int × (Int × Int)))(h_e2:e2=(List.getD a_ (Int.toNat t13) (0,0,0))):h_law07_Same k (m+1) a_ b_ t12 t13=(bif decide (t13 < t12) then (bif (inb t13 a_.length) then (bif (inb t13 b_.length) then (bif (!(decide (e2.1=e1.1) && (decide (e2.2.1=e1.2.1) && (decide (e2.2.2=e1.2.2) && true)))) then some false else (h_law07_Same k m a_ b_ t12 (w64 (t13+1)))) else none) else none) else some true):=by
 subst h_e1 h_e2
 kernel_rfl
theorem f_dD_Read (k:Nat)(d_:Option Nat)(name_:Int)(ui:YF)(ut:YB)(e1:(List Int))(h_e1:e1=(List.getD ut ((mapGet none (List.getD ui (d_.getD 0) []) name_).getD 0) [])):CF (k+1) S15 n_dD_Read [inj (.ref 29) d_,inj qI name_,Ci ui,Ct ut]=((bif d_.isSome then (bif (!(mapGet none (List.getD ui (d_.getD 0) []) name_).isSome) then some ([],false,ui,ut) else (bif (mapGet none (List.getD ui (d_.getD 0) []) name_).isSome then (bif decide ((e1.length * 1)<=211106232532992) then some (e1,true,ui,ut) else none) else none)) else none):Option (R20)):=by
 subst h_e1
 kernel_rfl
theorem f_dD_Remove (k:Nat)(d_:Option Nat)(name_:Int)(ui:YF)(uk:YN)(ul:YL):CF (k+1) S16 n_dD_Remove [inj (.ref 29) d_,inj qI name_,Ci ui,Ck uk,Cl ul]=((bif d_.isSome then (bif (List.getD ul (d_.getD 0) false) then some (some 12,ui,uk,ul) else (bif d_.isSome then (bif (!(mapGet none (List.getD ui (d_.getD 0) []) name_).isSome) then some (some 2,ui,uk,ul) else ((CF k S30 n_dD_works [inj (.ref 29) d_,Ck uk,Cl ul]).bind fun (r:Bool × YN × YL)=>(bif (!r.1) then some (some 12,ui,r.2) else (bif d_.isSome then some (none,(List.set ui (d_.getD 0) (mapDel (List.getD ui (d_.getD 0) []) name_)),r.2) else none)))) else none)) else none):Option (R19)):=by kernel_rfl
theorem f_eM_submit (k:Nat)(m_:Tmachine)(e_:TEvent)(e1:(Int × Int))(h_e1:e1=e_.2.1.2.2.2.2.2)(e2:Int)(h_e2:e2=e_.2.1.2.2.2.2.1):CF (k+1) S56 n_eM_submit [vf [.io Kmachine m_],inj KEvent e_]=(((CF k Z0 n_rM [inj KRequest e_.2.1]).bind fun (r:Bool)=>(bif (!r) then some ((1,0),m_) else ((CF k S42 n_keys_Ask [inj (.slice KKnown) m_.2.2.2.1,inj KRequest e_.2.1]).bind fun (r_1:TReply × Bool)=>(bif r_1.2 then some (r_1.1,m_) else ((CF k Z0 n_request_Long [inj KRequest e_.2.1]).bind fun (r_2:Bool)=>(bif r_2 then (bif decide (16<=(m_.2.2.1.length:Int)) then some ((7,0),m_) else (h_eM_submit k k m_.1 m_.2.1 m_.2.2.1 m_.2.2.2.1 m_.2.2.2.2 0 0 e_.2.1.1 e_.2.1.2.1 e_.2.1.2.2.1 e_.2.1.2.2.2.1 e2 e1.1 e1.2)) else (h_eM_submit k k m_.1 m_.2.1 m_.2.2.1 m_.2.2.2.1 m_.2.2.2.2 0 0 e_.2.1.1 e_.2.1.2.1 e_.2.1.2.2.1 e_.2.1.2.2.2.1 e2 e1.1 e1.2))))))):Option (TReply × Tmachine)):=by
 subst h_e1 h_e2
 kernel_rfl
theorem h_eM_submit_s (k m:Nat)(m_:YA)(m_1:YP)(m_2:YG)(m_3:YK)(m_4:Int)(t4:Int)(t41:Int)(r_:Int)(r_1:Int)(r_2:Int)(r_3:Int)(r_4:Int)(r_5:Int)(r_6:Int)(e1:(Int × (Int × (Int × (Int × (Int × (Int × Int)))))))(h_e1:e1=(r_,r_1,r_2,r_3,r_4,r_5,r_6))(e2:((List (Int × (Int × Int))) × ((List (Int × (Int × (Int × (Int × (Int × (Int × (Int × Int)))))))) × ((List ((Int × (Int × (Int × (Int × (Int × (Int × Int)))))) × (Int × (Int × (Int × Int))))) × ((List ((Int × (Int × (Int × (Int × (Int × (Int × Int)))))) × ((Int × Int) × Bool))) × Int)))))(h_e2:e2=(m_,m_1,m_2,m_3,m_4)):h_eM_submit k (m+1) m_ m_1 m_2 m_3 m_4 t4 t41 r_ r_1 r_2 r_3 r_4 r_5 r_6=((CF k S35 n_keys_Put [inj (.slice KKnown) m_3,inj KRequest e1]).bind fun (r:YK × (Option Int))=>(bif r.2.isSome then ((CF k S60 n_api_Number [inj .err r.2]).bind fun (r_7:Int)=>some ((r_7,0),m_,m_1,m_2,m_3,m_4)) else ((CF k Z0 n_request_Long [inj KRequest e1]).bind fun (r_7:Bool)=>(bif (!r_7) then ((CF k S40 n_ops_Do [inj KState e2,inj KRequest e1]).bind fun (r_8:TState × TReply)=>((CF k S35 n_keys_Tell [inj (.slice KKnown) r.1,inj qI r_,inj KReply r_8.2]).bind fun (r_9:YK × (Option Int))=>some (r_8.2,r_8.1.1,r_8.1.2.1,r_8.1.2.2.1,r_9.1,r_8.1.2.2.2.2))) else ((CF k S45 n_ops_Reserve [inj KState e2,inj KRequest e1]).bind fun (r_8:TState × (Option Int))=>(bif r_8.2.isSome then ((CF k S60 n_api_Number [inj .err r_8.2]).bind fun (r_9:Int)=>((CF k S35 n_keys_Tell [inj (.slice KKnown) r.1,inj qI r_,inj KReply (r_9,0)]).bind fun (r_10:YK × (Option Int))=>some ((r_9,0),m_,m_1,m_2,r_10.1,m_4))) else (bif decide ((r_8.1.2.2.1.length * 88)<=211106232532992) then ((CF k Z1 n_saga_Begin [inj KRequest e1]).bind fun (r_9:TSaga)=>(bif decide (((r_8.1.2.2.1.length+[r_9].length) * 88)<=211106232532992) then some ((10,0),r_8.1.1,r_8.1.2.1,(r_8.1.2.2.1++[r_9]),r.1,r_8.1.2.2.2.2) else none)) else none))))))):=by
 subst h_e1 h_e2
 kernel_rfl
theorem f_eM_step (k:Nat)(m_:Tmachine)(e_:TEvent):CF (k+1) S56 n_eM_step [vf [.io Kmachine m_],inj KEvent e_]=(((CF k S60 n_engine_Find [inj KState m_,inj qI e_.2.2.1]).bind fun (r:Int)=>(bif decide (r < 0) then some ((2,0),m_) else (bif (inb r m_.2.2.1.length) then (bif decide ((List.getD m_.2.2.1 (Int.toNat r) ((0,0,0,0,0,0,0),0,0,0,0)).2.1=1) then ((CF k S45 n_ops_Undo [inj KState m_,inj KRequest (List.getD m_.2.2.1 (Int.toNat r) ((0,0,0,0,0,0,0),0,0,0,0)).1]).bind fun (r_1:TState × (Option Int))=>((CF k S56 n_eM_end [vf [.io Kmachine r_1.1],inj qI r,inj KReply ((List.getD m_.2.2.1 (Int.toNat r) ((0,0,0,0,0,0,0),0,0,0,0)).2.2.2.2,0)]).bind fun (r_2:TReply × Tmachine)=>some r_2)) else ((CF k Z0 n_saga_Ready [inj KSaga (List.getD m_.2.2.1 (Int.toNat r) ((0,0,0,0,0,0,0),0,0,0,0))]).bind fun (r_1:Bool)=>(bif r_1 then ((CF k S45 n_ops_Settle [inj KState m_,inj KRequest (List.getD m_.2.2.1 (Int.toNat r) ((0,0,0,0,0,0,0),0,0,0,0)).1]).bind fun (r_2:TState × (Option Int))=>(bif (!r_2.2.isSome) then ((CF k S56 n_eM_end [vf [.io Kmachine r_2.1],inj qI r,inj KReply (0,0)]).bind fun (r_3:TReply × Tmachine)=>some r_3) else ((CF k S60 n_api_Number [inj .err r_2.2]).bind fun (r_3:Int)=>((CF k Z1 n_saga_Turn [inj KSaga (List.getD m_.2.2.1 (Int.toNat r) ((0,0,0,0,0,0,0),0,0,0,0)),inj qI r_3]).bind fun (r_4:TSaga)=>(h_eM_step k k r m_.1 m_.2.1 m_.2.2.1 m_.2.2.2.1 m_.2.2.2.2 0 0 r_4.1.1 r_4.1.2.1 r_4.1.2.2.1 r_4.1.2.2.2.1 r_4.1.2.2.2.2.1 r_4.1.2.2.2.2.2.1 r_4.1.2.2.2.2.2.2 r_4.2.1 r_4.2.2.1 r_4.2.2.2.1 r_4.2.2.2.2))))) else ((CF k Z1 n_saga_Leg [inj KSaga (List.getD m_.2.2.1 (Int.toNat r) ((0,0,0,0,0,0,0),0,0,0,0)),inj .bool e_.2.2.2]).bind fun (r_2:TSaga)=>(h_eM_step k k r m_.1 m_.2.1 m_.2.2.1 m_.2.2.2.1 m_.2.2.2.2 0 0 r_2.1.1 r_2.1.2.1 r_2.1.2.2.1 r_2.1.2.2.2.1 r_2.1.2.2.2.2.1 r_2.1.2.2.2.2.2.1 r_2.1.2.2.2.2.2.2 r_2.2.1 r_2.2.2.1 r_2.2.2.2.1 r_2.2.2.2.2))))) else none))):Option (TReply × Tmachine)):=by kernel_rfl
theorem h_eM_step_s (k m:Nat)(k_:Int)(m_:YA)(m_1:YP)(m_2:YG)(m_3:YK)(m_4:Int)(t4:Int)(t41:Int)(g_:Int)(g_1:Int)(g_2:Int)(g_3:Int)(g_4:Int)(g_5:Int)(g_6:Int)(g_7:Int)(g_8:Int)(g_9:Int)(g_10:Int):h_eM_step k (m+1) k_ m_ m_1 m_2 m_3 m_4 t4 t41 g_ g_1 g_2 g_3 g_4 g_5 g_6 g_7 g_8 g_9 g_10=(bif decide ((m_2.length * 88)<=211106232532992) then (bif (inb k_ m_2.length) then some ((10,0),m_,m_1,(List.set m_2 (Int.toNat k_) ((g_,g_1,g_2,g_3,g_4,g_5,g_6),g_7,g_8,g_9,g_10)),m_3,m_4) else none) else none):=by kernel_rfl
theorem f_eM_tick (k:Nat)(m_:Tmachine)(a1_:TEvent):CF (k+1) S56 n_eM_tick [vf [.io Kmachine m_],inj KEvent a1_]=(((CF k Z5 n_ops_Tick [inj KState m_]).bind fun (r:TState)=>some ((0,0),r)):Option (TReply × Tmachine)):=by kernel_rfl
theorem f_v_All (k:Nat)(ns_:YN):CF (k+1) S52 n_v_All [inj (.slice qI) ns_]=((h_v_All k k ns_ (ns_.length:Int) 0 []):Option (YN)):=by kernel_rfl
theorem h_v_All_s (k m:Nat)(t6:YN)(t7:Int)(t8:Int)(out_:YN):h_v_All k (m+1) t6 t7 t8 out_=(bif decide (t8 < t7) then (bif (inb t8 t6.length) then ((CF k S52 n_v_Put [vf [.mv (.int .u8) out_],inj qI (List.getD t6 (Int.toNat t8) 0)]).bind fun (r:YN)=>(h_v_All k m t6 t7 (w64 (t8+1)) r)) else none) else some out_):=by kernel_rfl
theorem f_v_Put (k:Nat)(b_:YN)(n_:Int)(e1:Int)(h_e1:e1=(wu64 ((wu64 n_) * 2))):CF (k+1) S52 n_v_Put [vf [.mv (.int .u8) b_],inj qI n_]=((bif decide (n_ < 0) then (h_v_Put k k (wrapb .u64 .xor 18446744073709551615 e1) b_) else (h_v_Put k k e1 b_)):Option (YN)):=by
 subst h_e1
 kernel_rfl
theorem h_v_Put_s (k m:Nat)(u_:Int)(b_:YN)(e1:(List Int))(h_e1:e1=[(wrapb .u8 .or (w8 u_) 128)]):h_v_Put k (m+1) u_ b_=(bif decide (128<=u_) then (bif decide (((b_.length+e1.length) * 1)<=211106232532992) then (h_v_Put k m (Int.fdiv u_ 128) (b_++e1)) else none) else (h_v_Put_1 k k u_ b_)):=by
 subst h_e1
 kernel_rfl
theorem h_v_Put_1_s (k m:Nat)(u_:Int)(b_:YN):h_v_Put_1 k (m+1) u_ b_=(bif decide (((b_.length+[(w8 u_)].length) * 1)<=211106232532992) then some (b_++[(w8 u_)]) else none):=by kernel_rfl
theorem f_request_Bytes (k:Nat)(r_:TRequest):CF (k+1) S49 n_request_Bytes [inj KRequest r_]=(((CF k S47 n_request_numbers [inj KRequest r_]).bind fun (r:YN)=>((CF k S52 n_v_All [inj (.slice qI) r]).bind fun (r_1:YN)=>some r_1)):Option (YN)):=by kernel_rfl
theorem f_request_Reply (k:Nat)(r_:TReply):CF (k+1) S49 n_request_Reply [inj KReply r_]=(((CF k S52 n_v_All [inj (.slice qI) [r_.1,r_.2]]).bind fun (r:YN)=>some r):Option (YN)):=by kernel_rfl
theorem f_codec_flag (k:Nat)(is_:Bool):CF (k+1) S60 n_codec_flag [inj .bool is_]=((bif is_ then some 1 else some 0):Option (Int)):=by kernel_rfl
theorem f_jJ_Broken (k:Nat)(j_:Option Nat)(us:YL):CF (k+1) S48 n_jJ_Broken [inj (.ref 99) j_,Cs us]=((bif j_.isSome then some ((List.getD us (j_.getD 0) false),us) else none):Option (Bool × YL)):=by kernel_rfl
theorem f_ds (k:Nat)(a_:TState)(b_:TState):CF (k+1) Z0 n_ds [inj KState a_,inj KState b_]=(((CF k S49 n_cS [inj KState a_]).bind fun (r:YN)=>((CF k S49 n_cS [inj KState b_]).bind fun (r_1:YN)=>some (decide (r=r_1)))):Option (Bool)):=by kernel_rfl
theorem f_codec_Event (k:Nat)(e_:TEvent):CF (k+1) S49 n_codec_Event [inj KEvent e_]=(((CF k S52 n_v_All [inj (.slice qI) [e_.1]]).bind fun (r:YN)=>(bif decide (e_.1=0) then ((CF k S49 n_request_Bytes [inj KRequest e_.2.1]).bind fun (r_1:YN)=>(bif decide (((r.length+r_1.length) * 1)<=211106232532992) then some (r++r_1) else none)) else (bif decide (e_.1=1) then ((CF k S60 n_codec_flag [inj .bool e_.2.2.2]).bind fun (r_1:Int)=>((CF k S52 n_v_All [inj (.slice qI) [e_.2.2.1,r_1]]).bind fun (r_2:YN)=>(bif decide (((r.length+r_2.length) * 1)<=211106232532992) then some (r++r_2) else none))) else some r))):Option (YN)):=by kernel_rfl
theorem f_jJ_Append (k:Nat)(j_:Option Nat)(rs_:YB)(ui:YF)(uj:YN)(uk:YN)(ul:YL)(uo:YO)(up:YN)(ur:YR)(us:YL)(ut:YB)(uu:YN):CF (k+1) S9 n_jJ_Append [inj (.ref 99) j_,inj (.slice qB) rs_,Ci ui,Cj uj,Ck uk,Cl ul,Co uo,Cp up,Cr ur,Cs us,Ct ut,Cu uu]=((bif j_.isSome then (bif (List.getD us (j_.getD 0) false) then some (some 12,ui,uj,uk,ul,uo,up,ur,us,ut,uu) else (h_jJ_Append k k j_ rs_ rs_ (rs_.length:Int) 0 [] ui uj uk ul uo up ur us ut uu)) else none):Option (R12)):=by kernel_rfl
theorem h_jJ_Append_s (k m:Nat)(j_:Option Nat)(rs_:YB)(t18:YB)(t19:Int)(t20:Int)(all_:YN)(ui:YF)(uj:YN)(uk:YN)(ul:YL)(uo:YO)(up:YN)(ur:YR)(us:YL)(ut:YB)(uu:YN):h_jJ_Append k (m+1) j_ rs_ t18 t19 t20 all_ ui uj uk ul uo up ur us ut uu=(bif decide (t20 < t19) then (bif (inb t20 t18.length) then ((CF k S32 n_frame_Make [inj qB (List.getD t18 (Int.toNat t20) [])]).bind fun (r:YN × Bool)=>(bif (!r.2) then some (some 13,ui,uj,uk,ul,uo,up,ur,us,ut,uu) else (bif decide (((all_.length+r.1.length) * 1)<=211106232532992) then (h_jJ_Append k m j_ rs_ t18 t19 (w64 (t20+1)) (all_++r.1) ui uj uk ul uo up ur us ut uu) else none))) else none) else (bif j_.isSome then ((CF k S10 n_jJ_put [inj (.ref 99) j_,inj qI (w64 (2+(List.getD up (j_.getD 0) 0))),inj qB all_,Ci ui,Cj uj,Ck uk,Cl ul,Co uo,Cs us,Ct ut,Cu uu]).bind fun (r:R13)=>(bif r.1.isSome then some (r.1,r.2.1,r.2.2.1,r.2.2.2.1,r.2.2.2.2.1,r.2.2.2.2.2.1,up,ur,r.2.2.2.2.2.2) else (h_jJ_Append_1 k k j_ rs_ (rs_.length:Int) 0 r.2.1 r.2.2.1 r.2.2.2.1 r.2.2.2.2.1 r.2.2.2.2.2.1 up ur r.2.2.2.2.2.2.1 r.2.2.2.2.2.2.2.1 r.2.2.2.2.2.2.2.2))) else none)):=by kernel_rfl
theorem h_jJ_Append_1_s (k m:Nat)(j_:Option Nat)(t47:YB)(t48:Int)(t49:Int)(ui:YF)(uj:YN)(uk:YN)(ul:YL)(uo:YO)(up:YN)(ur:YR)(us:YL)(ut:YB)(uu:YN)(e1:(List Int))(h_e1:e1=(List.getD t47 (Int.toNat t49) []))(e2:(List (List Int)))(h_e2:e2=(List.getD ur (j_.getD 0) [])):h_jJ_Append_1 k (m+1) j_ t47 t48 t49 ui uj uk ul uo up ur us ut uu=(bif decide (t49 < t48) then (bif (inb t49 t47.length) then (bif j_.isSome then (bif decide ((e1.length * 1)<=211106232532992) then (bif decide (((e2.length+[e1].length) * 24)<=211106232532992) then (bif j_.isSome then (bif (decide ((j_.getD 0)=(j_.getD 0)) && decide ((j_.getD 0)=(j_.getD 0))) then (h_jJ_Append_1 k m j_ t47 t48 (w64 (t49+1)) ui uj uk ul uo up (List.set ur (j_.getD 0) (e2++[e1])) us ut uu) else none) else none) else none) else none) else none) else none) else some (none,ui,uj,uk,ul,uo,up,ur,us,ut,uu)):=by
 subst h_e1 h_e2
 kernel_rfl
theorem f_frame_Make (k:Nat)(b_:YN)(e1:Int)(h_e1:e1=(b_.length:Int))(e2:Int)(h_e2:e2=(w8 (Int.fdiv e1 256))):CF (k+1) S32 n_frame_Make [inj qB b_]=((bif decide (16384 < e1) then some ([],false) else ((CF k S61 n_crc_Sum [inj qB b_]).bind fun (r:Int)=>(bif decide ((([e2,(w8 e1),(w8 (Int.fdiv r 16777216)),(w8 (Int.fdiv r 65536)),(w8 (Int.fdiv r 256)),(w8 r)].length+b_.length) * 1)<=211106232532992) then some (([e2,(w8 e1),(w8 (Int.fdiv r 16777216)),(w8 (Int.fdiv r 65536)),(w8 (Int.fdiv r 256)),(w8 r)]++b_),true) else none))):Option (YN × Bool)):=by
 subst h_e1 h_e2
 kernel_rfl
theorem f_jJ_put (k:Nat)(j_:Option Nat)(name_:Int)(b_:YN)(ui:YF)(uj:YN)(uk:YN)(ul:YL)(uo:YO)(us:YL)(ut:YB)(uu:YN):CF (k+1) S10 n_jJ_put [inj (.ref 99) j_,inj qI name_,inj qB b_,Ci ui,Cj uj,Ck uk,Cl ul,Co uo,Cs us,Ct ut,Cu uu]=((bif j_.isSome then ((CF k S11 n_dD_Append [inj (.ref 29) (List.getD uo (j_.getD 0) none),inj qI name_,inj qB b_,Ci ui,Cj uj,Ck uk,Cl ul,Ct ut,Cu uu]).bind fun (r:R14)=>(bif r.1.isSome then ((CF k S50 n_jJ_fail [inj (.ref 99) j_,inj .err r.1,Cs us]).bind fun (r_1:(Option Int) × YL)=>some (r_1.1,r.2.1,r.2.2.1,r.2.2.2.1,r.2.2.2.2.1,uo,r_1.2,r.2.2.2.2.2)) else (bif j_.isSome then ((CF k S13 n_dD_Sync [inj (.ref 29) (List.getD uo (j_.getD 0) none),inj qI name_,Ci r.2.1,Ck r.2.2.2.1,Cl r.2.2.2.2.1,Ct r.2.2.2.2.2.1,Cu r.2.2.2.2.2.2]).bind fun (r_1:R15)=>((CF k S50 n_jJ_fail [inj (.ref 99) j_,inj .err r_1.1,Cs us]).bind fun (r_2:(Option Int) × YL)=>some (r_2.1,r_1.2.1,r.2.2.1,r_1.2.2.1,r_1.2.2.2.1,uo,r_2.2,r_1.2.2.2.2))) else none))) else none):Option (R13)):=by kernel_rfl
theorem f_dD_Rename (k:Nat)(d_:Option Nat)(from_:Int)(to_:Int)(ui:YF)(uk:YN)(ul:YL):CF (k+1) S16 n_dD_Rename [inj (.ref 29) d_,inj qI from_,inj qI to_,Ci ui,Ck uk,Cl ul]=((bif d_.isSome then (bif d_.isSome then (bif (List.getD ul (d_.getD 0) false) then some (some 12,ui,uk,ul) else (bif (!(mapGet none (List.getD ui (d_.getD 0) []) from_).isSome) then some (some 2,ui,uk,ul) else ((CF k S30 n_dD_works [inj (.ref 29) d_,Ck uk,Cl ul]).bind fun (r:Bool × YN × YL)=>(bif (!r.1) then some (some 12,ui,r.2) else (bif d_.isSome then (bif d_.isSome then some (none,(List.set (List.set ui (d_.getD 0) (mapDel (List.getD ui (d_.getD 0) []) from_)) (d_.getD 0) (mapPut (List.getD (List.set ui (d_.getD 0) (mapDel (List.getD ui (d_.getD 0) []) from_)) (d_.getD 0) []) to_ (mapGet none (List.getD ui (d_.getD 0) []) from_))),r.2) else none) else none))))) else none) else none):Option (R19)):=by kernel_rfl
theorem f_jJ_fail (k:Nat)(j_:Option Nat)(e_:Option Int)(us:YL):CF (k+1) S50 n_jJ_fail [inj (.ref 99) j_,inj .err e_,Cs us]=((bif (e_.isSome || (some 12).isSome) then (bif decide (e_=some 12) then (bif j_.isSome then some (e_,(List.set us (j_.getD 0) true)) else none) else some (e_,us)) else none):Option ((Option Int) × YL)):=by kernel_rfl
theorem f_saga_agree (k:Nat)(s_:TSaga):CF (k+1) Z1 n_saga_agree [inj KSaga s_]=(some (s_.1,s_.2.1,(w64 (s_.2.2.1+1)),0,s_.2.2.2.2):Option (TSaga)):=by kernel_rfl
theorem f_saga_refuse (k:Nat)(s_:TSaga)(e1:Int)(h_e1:e1=(w64 (s_.2.2.2.1+1))):CF (k+1) Z1 n_saga_refuse [inj KSaga s_]=((bif decide (3 < e1) then some (s_.1,1,s_.2.2.1,e1,9) else some (s_.1,s_.2.1,s_.2.2.1,e1,s_.2.2.2.2)):Option (TSaga)):=by
 subst h_e1
 kernel_rfl
theorem f_crc_Sum (k:Nat)(b_:YN):CF (k+1) S61 n_crc_Sum [inj qB b_]=((h_crc_Sum k k 4294967295 b_ (b_.length:Int) 0):Option (Int)):=by kernel_rfl
theorem h_crc_Sum_s (k m:Nat)(r_:Int)(t6:YN)(t7:Int)(t8:Int):h_crc_Sum k (m+1) r_ t6 t7 t8=(bif decide (t8 < t7) then (bif (inb t8 t6.length) then ((CF k S61 n_crc_step [inj (.int .u32) r_,inj (.int .u8) (List.getD t6 (Int.toNat t8) 0)]).bind fun (r:Int)=>(h_crc_Sum k m r t6 t7 (w64 (t8+1)))) else none) else some (wrapb .u32 .xor 4294967295 r_)):=by kernel_rfl
theorem f_dD_works (k:Nat)(d_:Option Nat)(uk:YN)(ul:YL):CF (k+1) S30 n_dD_works [inj (.ref 29) d_,Ck uk,Cl ul]=((bif d_.isSome then (bif decide ((List.getD uk (d_.getD 0) 0)=0) then (bif d_.isSome then (h_dD_works k k d_ uk (List.set ul (d_.getD 0) true)) else none) else (h_dD_works k k d_ uk ul)) else none):Option (Bool × YN × YL)):=by kernel_rfl
theorem h_dD_works_s (k m:Nat)(d_:Option Nat)(uk:YN)(ul:YL)(e1:Int)(h_e1:e1=(List.getD uk (d_.getD 0) 0)):h_dD_works k (m+1) d_ uk ul=(bif d_.isSome then (bif decide (0 < e1) then (bif d_.isSome then (bif d_.isSome then (bif d_.isSome then some ((!(List.getD ul (d_.getD 0) false)),(List.set uk (d_.getD 0) (w64 (e1 - 1))),ul) else none) else none) else none) else (bif d_.isSome then some ((!(List.getD ul (d_.getD 0) false)),uk,ul) else none)) else none):=by
 subst h_e1
 kernel_rfl
theorem f_engine_Find (k:Nat)(s_:TState)(key_:Int):CF (k+1) S60 n_engine_Find [inj KState s_,inj qI key_]=((h_engine_Find k k key_ s_.2.2.1 (s_.2.2.1.length:Int) 0):Option (Int)):=by kernel_rfl
theorem h_engine_Find_s (k m:Nat)(key_:Int)(t8:YG)(t9:Int)(t10:Int):h_engine_Find k (m+1) key_ t8 t9 t10=(bif decide (t10 < t9) then (bif (inb t10 t8.length) then (bif decide ((List.getD t8 (Int.toNat t10) ((0,0,0,0,0,0,0),0,0,0,0)).1.1=key_) then some t10 else (h_engine_Find k m key_ t8 t9 (w64 (t10+1)))) else none) else some (-1:Int)):=by kernel_rfl
theorem f_eM_end (k:Nat)(m_:Tmachine)(k_:Int)(out_:TReply)(e1:Int)(h_e1:e1=(w64 (k_+1)))(e2:(List ((Int × (Int × (Int × (Int × (Int × (Int × Int)))))) × (Int × (Int × (Int × Int))))))(h_e2:e2=(List.take (Int.toNat k_) m_.2.2.1))(e3:Int)(h_e3:e3=(m_.2.2.1.length:Int))(e4:(List ((Int × (Int × (Int × (Int × (Int × (Int × Int)))))) × (Int × (Int × (Int × Int))))))(h_e4:e4=(List.drop (Int.toNat e1) m_.2.2.1)):CF (k+1) S56 n_eM_end [vf [.io Kmachine m_],inj qI k_,inj KReply out_]=((bif (inb k_ m_.2.2.1.length) then (bif (decide (0<=k_) && decide (k_<=e3)) then (bif decide ((e2.length * 88)<=211106232532992) then (bif (decide (0<=e1) && decide (e1<=e3)) then (bif decide (((e2.length+e4.length) * 88)<=211106232532992) then ((CF k S35 n_keys_Tell [inj (.slice KKnown) m_.2.2.2.1,inj qI (List.getD m_.2.2.1 (Int.toNat k_) ((0,0,0,0,0,0,0),0,0,0,0)).1.1,inj KReply out_]).bind fun (r:YK × (Option Int))=>some (out_,m_.1,m_.2.1,(e2++e4),r.1,m_.2.2.2.2)) else none) else none) else none) else none) else none):Option (TReply × Tmachine)):=by
 subst h_e1 h_e2 h_e3 h_e4
 kernel_rfl
theorem f_request_numbers (k:Nat)(r_:TRequest):CF (k+1) S47 n_request_numbers [inj KRequest r_]=(some [r_.1,r_.2.1,r_.2.2.1,r_.2.2.2.1,r_.2.2.2.2.1,r_.2.2.2.2.2.1,r_.2.2.2.2.2.2]:Option (YN)):=by kernel_rfl
theorem f_dD_Append (k:Nat)(d_:Option Nat)(name_:Int)(b_:YN)(ui:YF)(uj:YN)(uk:YN)(ul:YL)(ut:YB)(uu:YN):CF (k+1) S11 n_dD_Append [inj (.ref 29) d_,inj qI name_,inj qB b_,Ci ui,Cj uj,Ck uk,Cl ul,Ct ut,Cu uu]=((bif d_.isSome then (bif (List.getD ul (d_.getD 0) false) then some (some 12,ui,uj,uk,ul,ut,uu) else ((CF k S17 n_dD_Used [inj (.ref 29) d_,Ci ui,Ct ut]).bind fun (r:R21)=>(bif d_.isSome then (bif decide ((List.getD uj (d_.getD 0) 0) < (w64 (r.1+(b_.length:Int)))) then some (some 8,r.2.1,uj,uk,ul,r.2.2,uu) else ((CF k S30 n_dD_works [inj (.ref 29) d_,Ck uk,Cl ul]).bind fun (r_1:Bool × YN × YL)=>(bif d_.isSome then (bif (!(mapGet none (List.getD r.2.1 (d_.getD 0) []) name_).isSome) then (bif d_.isSome then (h_dD_Append k k d_ b_ r_1.1 r.2.2.length (List.set r.2.1 (d_.getD 0) (mapPut (List.getD r.2.1 (d_.getD 0) []) name_ (some r.2.2.length))) uj r_1.2.1 r_1.2.2 (r.2.2++[[]]) (uu++[0])) else none) else (h_dD_Append_1 k k d_ b_ r_1.1 (mapGet none (List.getD r.2.1 (d_.getD 0) []) name_) r.2.1 uj r_1.2.1 r_1.2.2 r.2.2 uu)) else none))) else none))) else none):Option (R14)):=by kernel_rfl
theorem h_dD_Append_s (k m:Nat)(d_:Option Nat)(b_:YN)(works_:Bool)(f_:Nat)(ui:YF)(uj:YN)(uk:YN)(ul:YL)(ut:YB)(uu:YN)(e1:(List Int))(h_e1:e1=(List.getD ut f_ []))(e2:(List (List Int)))(h_e2:e2=(List.set ut f_ (e1++b_))):h_dD_Append k (m+1) d_ b_ works_ f_ ui uj uk ul ut uu=(bif decide (((e1.length+b_.length) * 1)<=211106232532992) then (bif (decide (f_=f_) && decide (f_=f_)) then (bif (!works_) then some (some 12,ui,uj,uk,ul,e2,uu) else some (none,ui,uj,uk,ul,e2,uu)) else none) else none):=by
 subst h_e1 h_e2
 kernel_rfl
theorem h_dD_Append_1_s (k m:Nat)(d_:Option Nat)(b_:YN)(works_:Bool)(f_:Option Nat)(ui:YF)(uj:YN)(uk:YN)(ul:YL)(ut:YB)(uu:YN)(e1:(List Int))(h_e1:e1=(List.getD ut (f_.getD 0) []))(e2:(List (List Int)))(h_e2:e2=(List.set ut (f_.getD 0) (e1++b_))):h_dD_Append_1 k (m+1) d_ b_ works_ f_ ui uj uk ul ut uu=(bif f_.isSome then (bif decide (((e1.length+b_.length) * 1)<=211106232532992) then (bif f_.isSome then (bif (decide ((f_.getD 0)=(f_.getD 0)) && decide ((f_.getD 0)=(f_.getD 0))) then (bif (!works_) then some (some 12,ui,uj,uk,ul,e2,uu) else some (none,ui,uj,uk,ul,e2,uu)) else none) else none) else none) else none):=by
 subst h_e1 h_e2
 kernel_rfl
theorem f_dD_Sync (k:Nat)(d_:Option Nat)(name_:Int)(ui:YF)(uk:YN)(ul:YL)(ut:YB)(uu:YN)(e1:Nat)(h_e1:e1=((mapGet none (List.getD ui (d_.getD 0) []) name_).getD 0)):CF (k+1) S13 n_dD_Sync [inj (.ref 29) d_,inj qI name_,Ci ui,Ck uk,Cl ul,Ct ut,Cu uu]=((bif d_.isSome then (bif d_.isSome then (bif (List.getD ul (d_.getD 0) false) then some (some 12,ui,uk,ul,ut,uu) else (bif (!(mapGet none (List.getD ui (d_.getD 0) []) name_).isSome) then some (some 2,ui,uk,ul,ut,uu) else ((CF k S30 n_dD_works [inj (.ref 29) d_,Ck uk,Cl ul]).bind fun (r:Bool × YN × YL)=>(bif (!r.1) then some (some 12,ui,r.2.1,r.2.2,ut,uu) else (bif (mapGet none (List.getD ui (d_.getD 0) []) name_).isSome then (bif (mapGet none (List.getD ui (d_.getD 0) []) name_).isSome then some (none,ui,r.2.1,r.2.2,ut,(List.set uu e1 ((List.getD ut e1 []).length:Int))) else none) else none))))) else none) else none):Option (R15)):=by
 subst h_e1
 kernel_rfl
theorem f_crc_step (k:Nat)(r_:Int)(c_:Int):CF (k+1) S61 n_crc_step [inj (.int .u32) r_,inj (.int .u8) c_]=((h_crc_step k k (wrapb .u32 .xor r_ (w32 c_)) 0):Option (Int)):=by kernel_rfl
theorem h_crc_step_s (k m:Nat)(r_:Int)(t10:Int)(e1:Int)(h_e1:e1=(w64 (t10+1)))(e2:Int)(h_e2:e2=(Int.fdiv r_ 2)):h_crc_step k (m+1) r_ t10=(bif decide (t10 < 8) then (bif decide ((wrapb .u32 .and r_ 1)=1) then (h_crc_step k m (wrapb .u32 .xor e2 3988292384) e1) else (h_crc_step k m e2 e1)) else some r_):=by
 subst h_e1 h_e2
 kernel_rfl

end
end Go.Eng.Top
namespace Go.Eng.Top
open Go.Eng
abbrev g_tB:Sig:=S2
abbrev g_oD_open:Sig:=S56
abbrev g_oD_deposit:Sig:=S56
abbrev g_oD_transfer:Sig:=S56
abbrev g_oD_auth:Sig:=S56
abbrev g_oD_capture:Sig:=S56
abbrev g_oD_void:Sig:=S56
abbrev g_oD_refund:Sig:=S56
abbrev g_oD_charge:Sig:=S56
abbrev g_payment_capture:Sig:=S39
abbrev g_payment_refund:Sig:=S39
abbrev g_payment_charge:Sig:=S39
abbrev g_payment_shut:Sig:=S39
abbrev g_tw:Sig:=S2
abbrev g_top_acts:Sig:=S55
abbrev g_dE_State:Sig:=S46
abbrev g_s17:Sig:=⟨[(false,.bool)],[]⟩
abbrev g_wO:Sig:=S1
abbrev g_ops_New:Sig:=⟨[(false,KState)],[]⟩
abbrev g_wW_Act:Sig:=⟨[],[(.slice (.ref 29)),(.slice (.ref 30)),(.slice (.slice KSaid)),(.slice (.slice KEvent)),(.slice (.int .i64)),(.slice .err),(.slice KState),(.slice (.slice KEvent)),(.slice (.slice (.prod (.int .i64) (.ref 219)))),(.slice (.int .i64)),(.slice (.int .i64)),(.slice .bool),(.slice (.ref 99)),(.slice KState),(.slice (.ref 29)),(.slice (.int .i64)),(.slice (.slice (.int .u8))),(.slice (.slice (.slice (.int .u8)))),(.slice .bool),(.slice (.slice (.int .u8))),(.slice (.int .i64))]⟩
abbrev g_ops_Tick:Sig:=⟨[(false,KState)],[]⟩
abbrev g_bank_Do:Sig:=S29
abbrev g_oD_take:Sig:=S56
abbrev g_oD_clients:Sig:=S59
abbrev g_oD_post:Sig:=S56
abbrev g_oD_both:Sig:=S25
abbrev g_ops_number:Sig:=⟨[(false,KReply)],[]⟩
abbrev g_oD_pay:Sig:=S56
abbrev g_payment_Left:Sig:=S60
abbrev g_oD_back:Sig:=S31
abbrev g_payment_Gave:Sig:=S60
abbrev g_law24_All:Sig:=S49
abbrev g_wR:Sig:=S1
abbrev g_sA:Sig:=S55
abbrev g_law16_Same:Sig:=⟨[(false,.bool)],[]⟩
abbrev g_disk_Of:Sig:=S14
abbrev g_dO:Sig:=S6
abbrev g_wW_ask:Sig:=⟨[],[(.slice (.ref 30)),(.slice (.slice KSaid)),(.slice (.slice KEvent)),(.slice KState),(.slice (.slice KEvent)),(.slice (.slice (.prod (.int .i64) (.ref 219)))),(.slice (.int .i64)),(.slice (.int .i64)),(.slice .bool),(.slice (.ref 99)),(.slice KState),(.slice (.ref 29)),(.slice (.int .i64)),(.slice (.slice (.int .u8))),(.slice (.slice (.slice (.int .u8)))),(.slice .bool),(.slice (.slice (.int .u8))),(.slice (.int .i64))]⟩
abbrev g_dD_Stopped:Sig:=S48
abbrev g_engine_Waits:Sig:=S47
abbrev g_wW_does:Sig:=S3
abbrev g_dE_Keep:Sig:=S5
abbrev g_due_By:Sig:=S47
abbrev g_ops_Do:Sig:=S40
abbrev g_rM:Sig:=⟨[(false,.bool)],[]⟩
abbrev g_request_Long:Sig:=⟨[(false,.bool)],[]⟩
abbrev g_bw:Sig:=S29
abbrev g_keys_Tell:Sig:=S35
abbrev g_money_Amount:Sig:=⟨[(false,.bool)],[]⟩
abbrev g_pD:Sig:=S41
abbrev g_entry_Back:Sig:=S57
abbrev g_law24_Rich:Sig:=S52
abbrev g_script_one:Sig:=⟨[(false,KEvent)],[]⟩
abbrev g_s15:Sig:=⟨[(false,.bool)],[]⟩
abbrev g_jO:Sig:=S8
abbrev g_jJ_Turn:Sig:=S34
abbrev g_jJ_Records:Sig:=S20
abbrev g_engine_Do:Sig:=S40
abbrev g_cS:Sig:=S49
abbrev g_dE_Do:Sig:=S4
abbrev g_jJ_Save:Sig:=S7
abbrev g_ops_by:Sig:=⟨[(false,.fn)],[]⟩
abbrev g_ops_Reserve:Sig:=S45
abbrev g_saga_Begin:Sig:=⟨[(false,KSaga)],[]⟩
abbrev g_saga_Ready:Sig:=⟨[(false,.bool)],[]⟩
abbrev g_bank_Legs_next:Sig:=S48
abbrev g_saga_Leg:Sig:=⟨[(false,KSaga)],[]⟩
abbrev g_ops_Settle:Sig:=S45
abbrev g_saga_Turn:Sig:=⟨[(false,KSaga)],[]⟩
abbrev g_ops_Undo:Sig:=S45
abbrev g_payment_by:Sig:=⟨[(false,.fn)],[]⟩
abbrev g_dD_Read:Sig:=S15
abbrev g_dD_Remove:Sig:=S16
abbrev g_frame_Scan:Sig:=S26
abbrev g_eM_submit:Sig:=S56
abbrev g_eM_step:Sig:=S56
abbrev g_v_Put:Sig:=S52
abbrev g_request_Bytes:Sig:=S49
abbrev g_request_Reply:Sig:=S49
abbrev g_codec_flag:Sig:=S60
abbrev g_jJ_Broken:Sig:=S48
abbrev g_codec_Event:Sig:=S49
abbrev g_jJ_Append:Sig:=S9
abbrev g_frame_Make:Sig:=S32
abbrev g_jJ_put:Sig:=S10
abbrev g_dD_Rename:Sig:=S16
abbrev g_jJ_fail:Sig:=S50
abbrev g_saga_agree:Sig:=⟨[(false,KSaga)],[]⟩
abbrev g_saga_refuse:Sig:=⟨[(false,KSaga)],[]⟩
abbrev g_dD_works:Sig:=S30
abbrev g_engine_Find:Sig:=S60
abbrev g_eM_end:Sig:=S56
abbrev g_dD_Append:Sig:=S11
abbrev g_dD_Sync:Sig:=S13
abbrev g_dD_Used:Sig:=S17
abbrev g_dD_Names:Sig:=S18
abbrev g_due_All:Sig:=S47
end Go.Eng.Top
namespace Go.Eng.Top
open Go.RowKit Go.Eng
set_option maxRecDepth 100000
abbrev sBo:Sig:=⟨[(false,.bool)],[]⟩
abbrev sIn:Sig:=⟨[(false,.int .i64)],[]⟩
abbrev I:K:=.int .i64
abbrev sCv:Sig:=⟨[(false,.int .i64),(false,.int .i64),(false,.err)],[]⟩
abbrev sAd:Sig:=⟨[(false,.int .i64),(false,.err)],[]⟩
theorem amount_eq (k:Nat)(n:Int):CF (k+1) sBo n_money_Amount [inj I n]=some (decide (1<=n/\n<=1099511627776)):=by
 refine (f_money_Amount k n).trans ?_
 by_cases h:1<=n
 ·rw [decide_eq_true h,cond_true];exact congrArg some (decide_eq_decide.2 (by omega))
 ·rw [decide_eq_false h,cond_false,decide_eq_false (by omega)]
abbrev okM (n:Int):Prop:=-1125899906842624<=n/\n<=1125899906842624
theorem maym_eq (k:Nat)(n:Int):CF (k+1) sBo n_money_May [inj I n]=some (decide (okM n)):=by
 refine (f_money_May k n).trans ?_
 by_cases h:-1125899906842624<=n
 ·rw [decide_eq_true h,cond_true];exact congrArg some (decide_eq_decide.2 (by unfold okM;omega))
 ·rw [decide_eq_false h,cond_false,decide_eq_false (by unfold okM;omega)]
def addV (a b:Int):Int × Option Int:=if okM a/\okM b/\okM (a+b) then (a+b,none) else (0,some 4)
theorem add_eq (k:Nat)(a b:Int):CF (k+2) sAd n_money_Add [inj I a,inj I b]=some (addV a b):=by
 refine (f_money_Add (k+1) a b).trans ?_
 unfold addV
 refine bindE (maym_eq k a) ?_
 by_cases h1:okM a
 ·rw [decide_eq_true h1]
  refine bindE (maym_eq k b) ?_
  by_cases h2:okM b
  ·rw [decide_eq_true h2]
   have hw:w64 (a+b)=a+b:=w64_id (by unfold okM at h1 h2;omega)
   show ((CF (k+1) sBo n_money_May [inj I (w64 (a+b))]).bind _:Option (Int × Option Int))=_
   rw [hw]
   refine bindE (maym_eq k (a+b)) ?_
   by_cases h3:okM (a+b)
   ·rw [decide_eq_true h3,if_pos ⟨h1,h2,h3⟩];rfl
   ·rw [decide_eq_false h3,if_neg (fun h=>h3 h.2.2)];rfl
  ·rw [decide_eq_false h2,if_neg (fun h=>h2 h.2.1)];rfl
 ·rw [decide_eq_false h1,if_neg (fun h=>h1 h.1)];rfl
theorem add_ev (a b:Int):Ev1 (fun k=>CF k sAd n_money_Add [inj I a,inj I b]) (addV a b):=Ev1.of_rfl 2 (fun k=>add_eq k a b)
abbrev okR (num den:Int):Prop:=1<=num/\num<=1024/\1<=den/\den<=1024
theorem right_eq (k:Nat)(num den:Int):CF (k+1) sBo n_money_Rate_right [inj (.strct (.prod (.int .i64) (.int .i64))) (num,den)]=some (decide (okR num den)):=by
 refine (f_money_Rate_right k (num,den)).trans ?_
 simp only [cond_some]
 refine some_iff ?_
 simp only [cond_iff,decide_eq_true_eq,decide_eq_false_iff_not,Bool.false_eq_true,and_false,or_false]
def convV (n num den:Int):Int × Int × Option Int :=
 if (1<=n/\n<=1099511627776)/\okR num den then (if 1099511627776 < n * num / den then (0,0,some 4) else (n * num / den,n * num % den,none)) else (0,0,some 13)
theorem convert_eq (k:Nat)(n num den:Int):CF (k+2) sCv n_money_Convert [inj I n,inj (.strct (.prod (.int .i64) (.int .i64))) (num,den)]=some (convV n num den):=by
 refine (f_money_Convert (k+1) n (num,den) _ rfl _ rfl).trans (bindE (amount_eq k n) ?_)
 unfold convV
 by_cases h1:1<=n/\n<=1099511627776
 ·rw [decide_eq_true h1]
  refine bindE (right_eq k num den) ?_
  by_cases h2:okR num den
  ·rw [decide_eq_true h2,if_pos ⟨h1,h2⟩]
   obtain ⟨r1,r2,r3,r4⟩:=h2
   have hp0:0<=n * num:=Int.mul_nonneg (by omega) (by omega)
   have hp1:n * num<=1099511627776 * 1024:=Int.mul_le_mul h1.2 r2 (by omega) (by omega)
   have hq0:0<=n * num / den:=Int.ediv_nonneg hp0 (by omega)
   have hq1:n * num / den<=n * num:=Int.ediv_le_self _ hp0
   have e1:w64 (n * num)=n * num:=w64_id (by omega)
   dsimp only
   rw [e1,Int.tdiv_eq_ediv_of_nonneg hp0,Int.tmod_eq_emod_of_nonneg hp0,w64_id (x:=n * num / den) (by omega),decide_eq_false (show ¬ den=0 by omega)]
   by_cases h3:1099511627776 < n * num / den
   ·rw [decide_eq_true h3,if_pos h3];rfl
   ·rw [decide_eq_false h3,if_neg h3];rfl
  ·rw [decide_eq_false h2,if_neg (fun h=>h2 h.2)];rfl
 ·rw [decide_eq_false h1,if_neg (fun h=>h1 h.1)];rfl
theorem convert_ev (n num den:Int):Ev1 (fun k=>CF k sCv n_money_Convert [inj I n,inj (.strct (.prod (.int .i64) (.int .i64))) (num,den)]) (convV n num den):=Ev1.of_rfl 2 (fun k=>convert_eq k n num den)
theorem convV_cases (n p q:Int)(h:okR p q):(convV n p q=(0,0,some 13)/\¬ (1<=n/\n<=1099511627776))\/(convV n p q=(0,0,some 4)/\(1<=n/\n<=1099511627776)/\1099511627776 < n * p / q) \/
  (convV n p q=(n * p / q,n * p % q,none)/\(1<=n/\n<=1099511627776)/\n * p / q<=1099511627776/\0<=n * p / q):=by
 unfold convV
 by_cases hn:1<=n/\n<=1099511627776
 ·rw [if_pos ⟨hn,h⟩]
  by_cases ho:1099511627776 < n * p / q
  ·rw [if_pos ho];exact .inr (.inl ⟨rfl,hn,ho⟩)
  ·rw [if_neg ho]
   exact .inr (.inr ⟨rfl,hn,by omega,Int.ediv_nonneg (Int.mul_nonneg (by omega) (by unfold okR at h;omega)) (by unfold okR at h;omega)⟩)
 ·rw [if_neg (fun q=>hn q.1)];exact .inl ⟨rfl,hn⟩
end Go.Eng.Top
namespace Go.Eng.LVar
open Go.RowKit Go.Eng
theorem wrapu64 (x:Int):IntKind.u64.wrap x=x % 18446744073709551616:=by simp [IntKind.wrap,IntKind.bits,IntKind.signed]
theorem wrapu8 (x:Int):IntKind.u8.wrap x=x % 256:=by simp [IntKind.wrap,IntKind.bits,IntKind.signed]
theorem ofInt_toNat64 (a:Nat)(h:a < 18446744073709551616):(BitVec.ofInt 64 (a:Int)).toNat=a:=by
 rw [BitVec.toNat_ofInt];omega
theorem ofInt_toNat8 (a:Nat)(h:a < 256):(BitVec.ofInt 8 (a:Int)).toNat=a:=by
 rw [BitVec.toNat_ofInt];omega
theorem or8 (a:Nat)(h:a < 256):wrapb .u8 .or (a:Int) 128=((a % 128+128:Nat):Int):=by
 show IntKind.u8.wrap ((BitVec.ofInt 8 (a:Int) ||| BitVec.ofInt 8 128).toNat:Int)=_
 rw [BitVec.toNat_or,ofInt_toNat8 a h,show (BitVec.ofInt 8 128).toNat=128 from rfl,wrapu8]
 have key:∀ q:Fin 256,q.val ||| 128=q.val % 128+128:=by decide +kernel
 have:=key ⟨a,h⟩
 simp only at this
 rw [this];omega
theorem not64 (a:Nat)(h:a < 18446744073709551616):wrapb .u64 .xor 18446744073709551615 (a:Int)=((18446744073709551615 - a:Nat):Int):=by
 show IntKind.u64.wrap ((BitVec.ofInt 64 18446744073709551615 ^^^ BitVec.ofInt 64 (a:Int)).toNat:Int)=_
 have e:BitVec.ofInt 64 18446744073709551615=BitVec.allOnes 64:=by decide
 rw [e,BitVec.allOnes_xor,BitVec.toNat_not,ofInt_toNat64 a h,wrapu64]
 omega
def zig (n:Int):Nat:=if n < 0 then (-2 * n - 1).toNat else (2 * n).toNat
def unzig (u:Nat):Int:=if u % 2=1 then -1 - ((u / 2:Nat):Int) else ((u / 2:Nat):Int)
theorem unzig_zig (n:Int):unzig (zig n)=n:=by unfold unzig zig;split<;>split<;>omega
theorem zig_lt {n:Int} (h:-9223372036854775808<=n/\n<=9223372036854775807):zig n < 18446744073709551616:=by unfold zig;split<;>omega
def enc (u:Nat):List Int:=if h:128<=u then ((u % 128+128:Nat):Int)::enc (u / 128) else [(u:Int)]
termination_by u
theorem enc_big {u:Nat} (h:128<=u):enc u=((u % 128+128:Nat):Int)::enc (u / 128):=by rw [enc];simp [h]
theorem enc_small {u:Nat} (h:u < 128):enc u=[(u:Int)]:=by rw [enc];simp;omega
theorem enc_ne (u:Nat):enc u ≠ []:=by
 by_cases h:128<=u
 ·rw [enc_big h];simp
 ·rw [enc_small (by omega)];simp
theorem enc_len:∀ (d u:Nat),u < 128 ^ (d+1)->(enc u).length<=d+1
 | 0,u,h=>by rw [enc_small (by simpa using h)];simp
 | d+1,u,h=>by
  by_cases hu:128<=u
  ·rw [enc_big hu]
   have:=enc_len d (u / 128) (by rw [Nat.pow_succ] at h;exact Nat.div_lt_of_lt_mul (by rw [Nat.mul_comm];exact h))
   simp;omega
  ·rw [enc_small (by omega)];simp
theorem enc_len10 {u : Nat} (h : u < 18446744073709551616) : 1 ≤ (enc u).length ∧ (enc u).length ≤ 10 := by
  refine ⟨?_, enc_len 9 u (by have : (128 : Nat) ^ (9 + 1) = 1180591620717411303424 := by decide
                              omega)⟩
  have := enc_ne u
  have := List.length_pos_iff.2 this
  omega
def encs:List Int->List Int
 | []=>[]
 | n::ns=>enc (zig n)++encs ns
theorem encs_len:∀ {ns:List Int},I64 ns->(encs ns).length<=10 * ns.length
 | [],_=>by simp [encs]
 | n::ns,h=>by
  have h1:=enc_len10 (zig_lt (h n (by simp)))
  have h2:=encs_len (ns:=ns) (fun x hx=>h x (by simp [hx]))
  simp only [encs,List.length_append,List.length_cons];omega
def scan:(i:Nat)->(p:Nat)->List Int->(u:Nat)->Option (Nat × List Int)
 | _,_,[],_=>none
 | i,p,c::r,u=>if i=9/\1 < c then none else if 128<=c then scan (i+1) (128 * p) r (u+(c.toNat - 128) * p) else if 0 < i/\c=0 then none else some (u+c.toNat * p,r)
def get (b:List Int):Option (Nat × List Int):=scan 0 1 b 0
def told (b:List Int):Int × List Int × Bool:=match get b with
 | none=>(0,[],false)
 | some (u,r)=>(unzig u,r,true)
theorem pow9:2 ^ (7 * 9)=9223372036854775808:=by decide
theorem pow_succ7 (i:Nat):2 ^ (7 * (i+1))=128 * 2 ^ (7 * i):=by rw [show 7 * (i+1)=7 * i+7 by omega,Nat.pow_add];omega
theorem scan_complete (d:Nat):∀ (w i p u:Nat)(r:List Int),w < d->i<=9->p=2 ^ (7 * i)->(i=0\/0 < w)->u+w * p < 18446744073709551616->scan i p (enc w++r) u=some (u+w * p,r):=by
 induction d with
 | zero=>intro w i p u r h;omega
 | succ d ih =>
  intro w i p u r hd hi hp hw hlt
  have h9:i=9->w<=1:=by
   rintro rfl
   rcases Nat.lt_or_ge w 2 with q | q
   ·omega
   ·have:2 * p<=w * p:=Nat.mul_le_mul_right _ q
    rw [hp,pow9] at this hlt;omega
  by_cases hb:128<=w
  ·rw [enc_big hb]
   simp only [List.cons_append,scan]
   rw [if_neg (by rintro ⟨q,_⟩;have:=h9 q;omega),if_pos (by omega),Int.toNat_natCast]
   have e:w % 128+128 - 128=w % 128:=by omega
   have e2:u+w * p=u+w % 128 * p+w / 128 * (128 * p):=by
    have:w * p=(w % 128+128 * (w / 128)) * p:=by rw [Nat.mod_add_div]
    rw [this,Nat.add_mul,Nat.mul_assoc 128,Nat.mul_left_comm 128];omega
   rw [e,e2]
   have hi8:i<=8:=by
    rcases Nat.lt_or_ge i 9 with q | q
    ·omega
    ·have:=h9 (by omega);omega
   exact ih (w / 128) (i+1) (128 * p) _ r (by omega) (by omega) (by rw [pow_succ7,hp]) (Or.inr (by omega)) (by omega)
  ·rw [enc_small (by omega)]
   simp only [List.cons_append,List.nil_append,scan]
   rw [if_neg (by rintro ⟨q,q2⟩;have:=h9 q;omega),if_neg (by omega),if_neg (by omega),Int.toNat_natCast]
theorem get_enc (u:Nat)(r:List Int)(h:u < 18446744073709551616):get (enc u++r)=some (u,r):=by
 have:=scan_complete (u+1) u 0 1 0 r (by omega) (by omega) (by simp) (Or.inl rfl) (by omega)
 simpa [get] using this
theorem enc_prefix {u v:Nat} {r s:List Int} (hu:u < 18446744073709551616)(hv:v < 18446744073709551616)(h:enc u++r=enc v++s):u=v/\r=s:=by
 have h1:=get_enc u r hu
 rw [h,get_enc v s hv] at h1
 simp only [Option.some.injEq,Prod.mk.injEq] at h1
 exact ⟨h1.1.symm,h1.2.symm⟩
theorem encs_app:∀ (a b:List Int),encs (a++b)=encs a++encs b
 | [],b=>rfl
 | x::a,b=>by simp only [List.cons_append,encs,encs_app a b,List.append_assoc]
end Go.Eng.LVar
namespace Go.Eng.LChart
open Go.Eng
abbrev Acc:Type:=Int × Int × Int
def OkAt (k:Nat)(a:Acc):Prop:=0<=a.1/\a.1<=2/\-1125899906842624<=a.2.1/\a.2.1<=1125899906842624/\(k < 9->a.2.2=0/\a.1=((k / 3:Nat):Int))/\(9<=k->0<=a.2.2/\a.2.2<=a.2.1)
instance (k:Nat)(a:Acc):Decidable (OkAt k a):=by unfold OkAt;infer_instance
def okFrom:Nat->List Acc->Bool
 | _,[]=>true
 | i,a::r=>decide (OkAt i a) && okFrom (i+1) r
def rightB (ac:List Acc):Bool:=decide (9<=ac.length) && (decide (ac.length<=64) && okFrom 0 ac)
theorem okFrom_iff:∀ (l:List Acc)(i:Nat),okFrom i l=true ↔ ∀ (k:Nat)(h:k < l.length),OkAt (i+k) l[k]
 | [],i=>by simp [okFrom]
 | a::r,i=>by
  simp only [okFrom,Bool.and_eq_true,decide_eq_true_eq,okFrom_iff r (i+1)]
  constructor
  ·rintro ⟨h0,h⟩ k hk
   rcases k with _ | k
   ·exact h0
   ·have:=h k (by simpa using hk)
    rw [show i+(k+1)=i+1+k by omega];exact this
  ·intro h
   refine ⟨h 0 (by simp),fun k hk=>?_⟩
   have:=h (k+1) (by simpa using hk)
   rw [show i+1+k=i+(k+1) by omega];exact this
theorem rightB_iff (ac:List Acc):rightB ac=true ↔ 9<=ac.length/\ac.length<=64/\∀ (k:Nat)(h:k < ac.length),OkAt k ac[k]:=by
 unfold rightB
 simp only [Bool.and_eq_true,decide_eq_true_eq,okFrom_iff,Nat.zero_add]
def cur (c:Int)(a:Acc):Int:=if a.1=c then a.2.1 else 0
def sums (c:Int)(ac:List Acc):Int:=(ac.map (cur c)).sum
theorem sums_append (c:Int)(a b:List Acc):sums c (a++b)=sums c a+sums c b:=by unfold sums;simp
theorem sums_set (c:Int):∀ (l:List Acc)(k:Nat)(x:Acc)(h:k < l.length),sums c (l.set k x)=sums c l - cur c l[k]+cur c x
 | [],k,x,h=>by simp at h
 | a::l,0,x,h=>by simp [sums];omega
 | a::l,k+1,x,h=>by
  have:=sums_set c l k x (by simpa using h)
  simp only [sums,List.set_cons_succ,List.map_cons,List.sum_cons,List.getElem_cons_succ] at this ⊢
  omega
structure Book (i:Nat)(ac:List Acc):Prop where
 len:ac.length=9+i
 ok:∀ (k:Nat) (h:k < ac.length),OkAt k ac[k]
 low:∀ (k:Nat) (h:k < ac.length),-(100000 * (i:Int))<=ac[k].2.1/\ac[k].2.1<=100000
 sum:∀ c,sums c ac=0
theorem Book.right {i:Nat} {ac:List Acc} (h:Book i ac)(hi:i<=8):rightB ac=true:=(rightB_iff ac).2 ⟨by have:=h.len;omega,by have:=h.len;omega,h.ok⟩
end Go.Eng.LChart
namespace Go.Eng.LEnt
open Go.Eng Go.Eng.LChart
abbrev En:Type:=Int × Int
abbrev okM (n:Int):Prop:=-1125899906842624<=n/\n<=1125899906842624
def acAt (ac:List Acc)(i:Int):Acc:=ac.getD (Int.toNat i) (0,0,0)
theorem acAt_nat (ac:List Acc)(i:Nat)(h:i < ac.length):acAt ac (i:Int)=ac[i]:=by
 unfold acAt;rw [Int.toNat_natCast];exact getD_at _ _ _ h
abbrev inA (ac:List Acc)(i:Int):Prop:=0<=i/\i < (ac.length:Int)
abbrev S3:Type:=Int × Int × Int
def putS (c v:Int)(s:S3):S3:=(bif decide (c=0) then v else s.1,bif decide (c=1) then v else s.2.1,bif decide (c=2) then v else s.2.2)
def getS (c:Int)(s:S3):Int:=selInt c [s.1,s.2.1,s.2.2]
def balF (ac:List Acc):List En->S3->Bool
 | [],s=>decide (s.1=0) && (decide (s.2.1=0) && (decide (s.2.2=0) && true))
 | e::r,s=>if inA ac e.1/\okM e.2 then
   (if okM (getS (acAt ac e.1).1 s)/\okM e.2/\okM (getS (acAt ac e.1).1 s+e.2) then balF ac r (putS (acAt ac e.1).1 (getS (acAt ac e.1).1 s+e.2) s) else false) else false
def ecur (ac:List Acc)(c:Int)(e:En):Int:=if (acAt ac e.1).1=c then e.2 else 0
def esum (ac:List Acc)(c:Int)(es:List En):Int:=(es.map (ecur ac c)).sum
theorem esum_nil (ac:List Acc)(c:Int):esum ac c []=0:=rfl
theorem esum_cons (ac:List Acc)(c:Int)(e:En)(es:List En):esum ac c (e::es)=ecur ac c e+esum ac c es:=by simp [esum]
theorem esum_app (ac:List Acc)(c:Int)(a b:List En):esum ac c (a++b)=esum ac c a+esum ac c b:=by simp [esum]
def Curs (ac:List Acc):Prop:=∀ (k:Nat)(h:k < ac.length),0<=ac[k].1/\ac[k].1<=2
theorem Curs.at {ac:List Acc} (h:Curs ac) {i:Int} (hi:inA ac i):(acAt ac i).1=0\/(acAt ac i).1=1\/(acAt ac i).1=2:=by
 obtain ⟨n,rfl⟩:=Int.eq_ofNat_of_zero_le hi.1
 have hn:n < ac.length:=by have:=hi.2;omega
 rw [acAt_nat ac n hn]
 have:=h n hn
 omega
theorem put_sum {c v x y z:Int} (hc:c=0\/c=1\/c=2)(d:Int)(ac:List Acc)(e:En)(he:(acAt ac e.1).1=c)(hv:v=getS c (x,y,z)+e.2) :
  (putS c v (x,y,z)).1=x+ecur ac 0 e/\(putS c v (x,y,z)).2.1=y+ecur ac 1 e/\(putS c v (x,y,z)).2.2=z+ecur ac 2 e:=by
 subst hv
 unfold ecur
 rw [he]
 rcases hc with rfl | rfl | rfl<;>simp [putS,getS,selInt]
theorem bal_sum (ac:List Acc)(hc:Curs ac):∀ (es:List En)(x y z:Int),balF ac es (x,y,z)=true->(∀ e ∈ es,inA ac e.1/\okM e.2)/\x+esum ac 0 es=0/\y+esum ac 1 es=0/\z+esum ac 2 es=0
 | [],x,y,z,h=>by
  simp only [balF,Bool.and_eq_true,decide_eq_true_eq,and_true] at h
  exact ⟨fun e he=>(by cases he),by rw [esum_nil];omega,by rw [esum_nil];omega,by rw [esum_nil];omega⟩
 | e::es,x,y,z,h=>by
  unfold balF at h
  split at h
  ·rename_i h1
   split at h
   ·rename_i h2
    obtain ⟨p1,p2,p3⟩:=put_sum (x:=x) (y:=y) (z:=z) (hc.at h1.1) 0 ac e rfl rfl
    obtain ⟨q0,q1,q2,q3⟩:=bal_sum ac hc es (putS (acAt ac e.1).1 (getS (acAt ac e.1).1 (x,y,z)+e.2) (x,y,z)).1 (putS (acAt ac e.1).1 (getS (acAt ac e.1).1 (x,y,z)+e.2) (x,y,z)).2.1 (putS (acAt ac e.1).1 (getS (acAt ac e.1).1 (x,y,z)+e.2) (x,y,z)).2.2 h
    refine ⟨fun a ha=>?_,?_,?_,?_⟩
    ·rcases List.mem_cons.1 ha with rfl | ha
     ·exact h1
     ·exact q0 a ha
    all_goals rw [esum_cons];omega
   ·cases h
  ·cases h
theorem bal_small (ac:List Acc)(hc:Curs ac)(B:Int)(hB:0<=B):∀ (es:List En)(x y z M:Int),(∀ e ∈ es,inA ac e.1/\(-B<=e.2/\e.2<=B))->(-M<=x/\x<=M)->(-M<=y/\y<=M)->(-M<=z/\z<=M)->M+es.length * B<=1125899906842624 ->
  (balF ac es (x,y,z)=true ↔ (x+esum ac 0 es=0/\y+esum ac 1 es=0/\z+esum ac 2 es=0))
 | [],x,y,z,M,h,hx,hy,hz,hM=>by
  simp only [balF,Bool.and_eq_true,decide_eq_true_eq,and_true,esum_nil,Int.add_zero]
 | e::es,x,y,z,M,h,hx,hy,hz,hM=>by
  have he:=h e (by simp)
  simp only [List.length_cons] at hM
  have e1:((es.length+1:Nat):Int) * B=es.length * B+B:=by rw [Int.natCast_add,Int.add_mul];simp
  rw [e1] at hM
  have hlB:0<=(es.length:Int) * B:=Int.mul_nonneg (by omega) hB
  have hg:-M<=getS (acAt ac e.1).1 (x,y,z)/\getS (acAt ac e.1).1 (x,y,z)<=M:=by
   rcases hc.at he.1 with q | q | q<;>rw [q]<;>simp [getS,selInt]<;>omega
  obtain ⟨p1,p2,p3⟩:=put_sum (x:=x) (y:=y) (z:=z) (hc.at he.1) 0 ac e rfl rfl
  have hb0:∀ c,-B<=ecur ac c e/\ecur ac c e<=B:=fun c=>by unfold ecur;split<;>omega
  have h0:=hb0 0
  have h1:=hb0 1
  have h2:=hb0 2
  have ih:=bal_small ac hc B hB es (putS (acAt ac e.1).1 (getS (acAt ac e.1).1 (x,y,z)+e.2) (x,y,z)).1 (putS (acAt ac e.1).1 (getS (acAt ac e.1).1 (x,y,z)+e.2) (x,y,z)).2.1 (putS (acAt ac e.1).1 (getS (acAt ac e.1).1 (x,y,z)+e.2) (x,y,z)).2.2 (M+B)
   (fun a ha=>h a (by simp [ha])) (by omega) (by omega) (by omega) (by omega)
  unfold balF
  rw [if_pos ⟨he.1,by unfold okM;omega⟩,if_pos ⟨by unfold okM;omega,by unfold okM;omega,by unfold okM;omega⟩]
  rw [esum_cons,esum_cons,esum_cons]
  refine Iff.trans ih ?_
  rw [p1,p2,p3]
  omega
def runF:List Acc->List En->Option (List Acc)
 | ac,[]=>some ac
 | ac,e::r=>if okM (acAt ac e.1).2.1/\okM e.2/\okM ((acAt ac e.1).2.1+e.2) then runF (ac.set (Int.toNat e.1) ((acAt ac e.1).1,(acAt ac e.1).2.1+e.2,(acAt ac e.1).2.2)) r else none
def freeB (l:List Acc):Bool:=l.all fun a=>!decide (w64 (a.2.1 - a.2.2) < 0)
def postF (ac:List Acc)(es:List En):List Acc × Option Int :=
 bif balF ac es (0,0,0) then (match runF ac es with | none=>([],some 4) | some out=>bif freeB (out.drop 9) then (out,none) else ([],some 3)) else ([],some 13)
theorem acAt_set (ac:List Acc)(i:Int)(j:Int)(x:Acc)(hi:inA ac i)(hj:0<=j):acAt (ac.set (Int.toNat i) x) j=if j=i then x else acAt ac j:=by
 obtain ⟨n,rfl⟩:=Int.eq_ofNat_of_zero_le hi.1
 obtain ⟨m,rfl⟩:=Int.eq_ofNat_of_zero_le hj
 have hn:n < ac.length:=by have:=hi.2;omega
 unfold acAt
 rw [Int.toNat_natCast,Int.toNat_natCast,List.getD_eq_getElem?_getD,List.getD_eq_getElem?_getD,List.getElem?_set]
 by_cases h:n=m
 ·subst h;simp [hn]
 ·rw [if_neg h,if_neg (by omega)]
def neg (e:En):En:=(e.1,w64 (0 - e.2))
def back (es:List En):List En:=(es.map neg).reverse
theorem back_cons (e:En)(es:List En):back (e::es)=back es++[neg e]:=by simp [back]
theorem neg_ok {e:En} (h:okM e.2):neg e=(e.1,-e.2):=by unfold neg;rw [w64_id (by unfold okM at h;omega)];simp
structure Kept (ac out:List Acc):Prop where
 len:out.length=ac.length
 cur:∀ i:Int,0<=i->(acAt out i).1=(acAt ac i).1/\(acAt out i).2.2=(acAt ac i).2.2
theorem run_kept:∀ (es:List En)(ac out:List Acc),(∀ e ∈ es,inA ac e.1)->runF ac es=some out ->
  Kept ac out/\(∀ c,sums c out=sums c ac+esum ac c es)/\((∀ i:Int,0<=i->okM (acAt ac i).2.1)->∀ i:Int,0<=i->okM (acAt out i).2.1)
 | [],ac,out,_,h=>by
  cases h
  exact ⟨⟨rfl,fun _ _=>⟨rfl,rfl⟩⟩,fun c=>by rw [esum_nil];omega,fun h=>h⟩
 | e::es,ac,out,hin,h=>by
  unfold runF at h
  split at h
  ·rename_i hk
   have hi:=hin e (by simp)
   obtain ⟨n,hn⟩:=Int.eq_ofNat_of_zero_le hi.1
   have hnl:n < ac.length:=by have:=hi.2;omega
   obtain ⟨k1,k2,k3⟩:=run_kept es _ out (fun a ha=>by have:=hin a (by simp [ha]);unfold inA at this ⊢;rw [List.length_set];exact this) h
   have hcur:∀ i:Int,0<=i->(acAt (ac.set (Int.toNat e.1) ((acAt ac e.1).1,(acAt ac e.1).2.1+e.2,(acAt ac e.1).2.2)) i).1=(acAt ac i).1/\(acAt (ac.set (Int.toNat e.1) ((acAt ac e.1).1,(acAt ac e.1).2.1+e.2,(acAt ac e.1).2.2)) i).2.2=(acAt ac i).2.2:=by
    intro i h0
    rw [acAt_set ac e.1 i _ hi h0]
    split
    ·rename_i q;subst q;exact ⟨rfl,rfl⟩
    ·exact ⟨rfl,rfl⟩
   refine ⟨⟨by rw [k1.len,List.length_set],fun i h0=>?_⟩,fun c=>?_,fun hb=>k3 fun i h0=>?_⟩
   ·obtain ⟨a,b⟩:=k1.cur i h0
    obtain ⟨a',b'⟩:=hcur i h0
    exact ⟨a.trans a',b.trans b'⟩
   ·rw [k2 c,esum_cons]
    have es_eq:esum (ac.set (Int.toNat e.1) ((acAt ac e.1).1,(acAt ac e.1).2.1+e.2,(acAt ac e.1).2.2)) c es=esum ac c es:=by
     unfold esum
     congr 1
     refine List.map_congr_left fun a ha=>?_
     unfold ecur
     rw [(hcur a.1 (hin a (by simp [ha])).1).1]
    rw [es_eq,hn,Int.toNat_natCast,sums_set c ac n _ hnl,acAt_nat ac n hnl]
    unfold ecur cur
    rw [hn,acAt_nat ac n hnl]
    dsimp only
    split<;>omega
   ·rw [acAt_set ac e.1 i _ hi h0]
    split
    ·exact hk.2.2
    ·exact hb i h0
  ·cases h
structure Rt (ac:List Acc):Prop where
 lo:9<=ac.length
 hi:ac.length<=64
 ok:∀ (k:Nat) (h:k < ac.length),LChart.OkAt k ac[k]
 sum:∀ c,sums c ac=0
theorem Rt.curs {ac:List Acc} (h:Rt ac):Curs ac:=fun k hk=>⟨(h.ok k hk).1,(h.ok k hk).2.1⟩
theorem Rt.bal {ac:List Acc} (h:Rt ac):∀ i:Int,0<=i->okM (acAt ac i).2.1:=by
 intro i hi
 obtain ⟨n,rfl⟩:=Int.eq_ofNat_of_zero_le hi
 by_cases hn:n < ac.length
 ·rw [acAt_nat ac n hn];have:=h.ok n hn;exact ⟨this.2.2.1,this.2.2.2.1⟩
 ·unfold acAt
  rw [Int.toNat_natCast,List.getD_eq_getElem?_getD,List.getElem?_eq_none (by omega)]
  exact ⟨by show (-1125899906842624:Int)<=0;omega,by show (0:Int)<=1125899906842624;omega⟩
theorem zeros:∀ l:List Acc,(l.map fun _=>(0:Int)).sum=0
 | []=>rfl
 | a::r=>by simp only [List.map_cons,List.sum_cons,zeros r];rfl
theorem Rt.post {ac:List Acc} (h:Rt ac) {es:List En} {out:List Acc} (hb:balF ac es (0,0,0)=true)(hr:runF ac es=some out)(hf:freeB (out.drop 9)=true):Rt out:=by
 obtain ⟨b0,b1,b2,b3⟩:=bal_sum ac h.curs es 0 0 0 hb
 obtain ⟨k1,k2,k3⟩:=run_kept es ac out (fun e he=>(b0 e he).1) hr
 refine ⟨by rw [k1.len];exact h.lo,by rw [k1.len];exact h.hi,?_,?_⟩
 ·intro k hk
  have hk':k < ac.length:=by rw [<- k1.len];exact hk
  obtain ⟨c1,c2⟩:=k1.cur (k:Int) (by omega)
  have c3:=k3 h.bal (k:Int) (by omega)
  rw [acAt_nat out k hk,acAt_nat ac k hk'] at c1 c2
  rw [acAt_nat out k hk] at c3
  have ho:=h.ok k hk'
  refine ⟨by rw [c1];exact ho.1,by rw [c1];exact ho.2.1,c3.1,c3.2,fun h9=>⟨by rw [c2];exact (ho.2.2.2.2.1 h9).1,by rw [c1];exact (ho.2.2.2.2.1 h9).2⟩,fun h9=>?_⟩
  have ho9:=ho.2.2.2.2.2 h9
  refine ⟨by rw [c2];exact ho9.1,?_⟩
  have hm:out[k] ∈ out.drop 9:=by
   rw [List.mem_drop_iff_getElem]
   exact ⟨k - 9,by omega,by congr 1;omega⟩
  have:=List.all_eq_true.1 hf _ hm
  simp only [Bool.not_eq_true',decide_eq_false_iff_not] at this
  have hob:=ho.2.2.1
  have hob2:=ho.2.2.2.1
  have c31:=c3.1
  have c32:=c3.2
  rw [w64_id (by rw [c2];omega)] at this
  omega
 ·intro c
  by_cases hc:c=0\/c=1\/c=2
  ·rw [k2 c,h.sum c]
   rcases hc with rfl | rfl | rfl<;>omega
  ·unfold sums
   rw [show out.map (cur c)=out.map fun _=>(0:Int) from List.map_congr_left fun a ha=>by
    obtain ⟨k,hk,rfl⟩:=List.getElem_of_mem ha
    have hk':k < ac.length:=by rw [<- k1.len];exact hk
    obtain ⟨c1,_⟩:=k1.cur (k:Int) (by omega)
    rw [acAt_nat out k hk,acAt_nat ac k hk'] at c1
    have ho:=h.ok k hk'
    unfold cur
    rw [if_neg]
    rw [c1]
    have:=ho.1
    have:=ho.2.1
    omega]
   exact zeros out
theorem Rt.free {ac:List Acc} (h:Rt ac):freeB (ac.drop 9)=true:=by
 refine List.all_eq_true.2 fun a ha=>?_
 rw [List.mem_drop_iff_getElem] at ha
 obtain ⟨j,hj,rfl⟩:=ha
 have ho:=h.ok (9+j) (by omega)
 have h9:=ho.2.2.2.2.2 (by omega)
 have:=ho.2.2.1
 have:=ho.2.2.2.1
 have hd:¬ w64 (ac[9+j].2.1 - ac[9+j].2.2) < 0:=by rw [w64_id (by omega)];omega
 rw [decide_eq_false hd];rfl
structure Ents (ac:List Acc)(es:List En):Prop where
 len:es.length<=9
 mem:∀ e ∈ es,inA ac e.1/\(-300000<=e.2/\e.2<=300000)
 sum:esum ac 0 es=0/\esum ac 1 es=0/\esum ac 2 es=0
theorem Ents.bal {ac:List Acc} {es:List En} (h:Ents ac es)(hc:Curs ac):balF ac es (0,0,0)=true:=by
 have:=h.len
 refine (bal_small ac hc 300000 (by omega) es 0 0 0 0 h.mem (by omega) (by omega) (by omega) (by omega)).2 ?_
 rw [h.sum.1,h.sum.2.1,h.sum.2.2];exact ⟨rfl,rfl,rfl⟩
theorem ecur_neg {ac:List Acc} {c:Int} {e:En} (h:okM e.2):ecur ac c (neg e)=- ecur ac c e:=by
 rw [neg_ok h];unfold ecur;dsimp only;split<;>omega
theorem esum_back (ac:List Acc)(c:Int):∀ es:List En,(∀ e ∈ es,okM e.2)->esum ac c (back es)=- esum ac c es
 | [],_=>rfl
 | e::es,h=>by
  rw [back_cons,esum_app,esum_back ac c es (fun a ha=>h a (by simp [ha])),esum_cons,esum_cons,esum_nil,ecur_neg (h e (by simp))];omega
theorem mem_back {es:List En} {a:En} (h:a ∈ back es):∃ e ∈ es,a=neg e:=by
 unfold back at h
 rw [List.mem_reverse] at h
 obtain ⟨e,he,rfl⟩:=List.mem_map.1 h
 exact ⟨e,he,rfl⟩
theorem Ents.back {ac:List Acc} {es:List En} (h:Ents ac es):Ents ac (back es):=by
 have hm:∀ e ∈ es,okM e.2:=fun e he=>by have:=(h.mem e he).2;unfold okM;omega
 refine ⟨?_,?_,?_⟩
 ·have:=h.len;unfold LEnt.back;rw [List.length_reverse,List.length_map];omega
 ·intro a ha
  obtain ⟨e,he,rfl⟩:=mem_back ha
  rw [neg_ok (hm e he)]
  have:=h.mem e he
  exact ⟨this.1,by dsimp only;omega⟩
 ·rw [esum_back ac 0 es hm,esum_back ac 1 es hm,esum_back ac 2 es hm]
  have:=h.sum;omega
end Go.Eng.LEnt
namespace Go.Eng.Top
open Go.RowKit Go.Eng Go.Eng.LChart Go.Eng.LEnt
set_option maxRecDepth 100000
abbrev KEntry:K:=.strct (.prod (.int .i64) (.int .i64))
abbrev KA:K:=.slice KAccount
abbrev KEs:K:=.slice KEntry
abbrev sOf:Sig:=⟨[(false,.int .i64),(false,.bool)],[]⟩
abbrev sEs:Sig:=⟨[(false,.slice KEntry),(false,.err)],[]⟩
def ofV (ac:List Acc)(i:Int):Int × Bool:=if inA ac i then (if i < 9 then (Int.tmod i 3,true) else (3,true)) else (0,false)
theorem of_ev (ac:List Acc)(i:Int):Ev1 (fun k=>CF k sOf n_chart_Of [inj KA ac,inj I i]) (ofV ac i):=by
 refine Ev1.step (fun k=>f_chart_Of k ac i) ?_
 unfold ofV
 by_cases h:inA ac i
 ·rw [if_pos h]
  refine Ev1.negD (by omega) (Ev1.negD (by omega) ?_)
  by_cases h9:i < 9
  ·rw [if_pos h9];exact Ev1.posD h9 (Ev1.now _)
  ·rw [if_neg h9];exact Ev1.negD h9 (Ev1.now _)
 ·rw [if_neg h]
  exact Ev1.iff (fun _=>Ev1.now _) fun h0=>Ev1.posD (by unfold inA at h;omega) (Ev1.now _)
theorem ofV_2 (ac:List Acc)(i:Int):(ofV ac i).2=decide (inA ac i):=by
 unfold ofV
 split
 ·rename_i h;rw [decide_eq_true h];split<;>rfl
 ·rename_i h;rw [decide_eq_false h]
def numV (q c:Int):Int:=if q < 0\/2 < q\/c < 0\/3<=c then -1 else 3 * c+q
theorem number_ev (q c:Int):Ev1 (fun k=>CF k sIn n_chart_Number [inj I q,inj I c]) (numV q c):=by
 refine Ev1.step (fun k=>f_chart_Number k q c) ?_
 unfold numV
 by_cases h:q < 0\/2 < q\/c < 0\/3<=c
 ·rw [if_pos h]
  exact Ev1.iff (fun _=>Ev1.now _) fun h0=>Ev1.iff (fun _=>Ev1.now _) fun h1=>Ev1.iff (fun _=>Ev1.now _) fun h2=>Ev1.posD (by omega) (Ev1.now _)
 ·rw [if_neg h]
  refine Ev1.negD (by omega) (Ev1.negD (by omega) (Ev1.negD (by omega) (Ev1.negD (by omega) (Ev1.const ?_))))
  rw [w64_id (x:=3 * c) (by omega),w64_id (by omega)]
theorem getE (l:List En)(i:Nat)(h:i < l.length):l.getD (Int.toNat (i:Int)) (0,0)=l[i]:=by
 rw [Int.toNat_natCast];exact getD_at l i _ h
theorem addV_def (a b:Int):addV a b=if okM a/\okM b/\okM (a+b) then (a+b,none) else (0,some 4):=rfl
theorem bal_l (ac:List Acc)(hc:Curs ac)(es:List En)(hl:es.length<=140737488351232):∀ (d i:Nat)(x y z:Int),i+d=es.length ->
  Ev2 (fun k m=>h_entry_Balanced k m ac es (es.length:Int) (i:Int) x y z) (balF ac (es.drop i) (x,y,z))
 | 0,i,x,y,z,h=>by
  refine Ev2.step (fun k m=>h_entry_Balanced_s k m ac es (es.length:Int) (i:Int) x y z _ rfl) (Ev2.negD (by omega) ?_)
  rw [List.drop_of_length_le (by omega)]
  exact Ev2.now _
 | d+1,i,x,y,z,h=>by
  have hlt:i < es.length:=by omega
  refine Ev2.step (fun k m=>h_entry_Balanced_s k m ac es (es.length:Int) (i:Int) x y z es[i] (getE es i hlt).symm) (Ev2.posD (by omega) (Ev2.pos (inb_true (by omega) (by omega)) (Ev2.bind (of_ev ac es[i].1) ?_)))
  rw [ofV_2,List.drop_eq_getElem_cons hlt]
  generalize es[i]=e
  unfold balF
  by_cases h1:inA ac e.1
  ·rw [decide_eq_true h1]
   refine Ev2.neg rfl (Ev2.bind (Ev1.of_rfl 1 (fun k=>maym_eq k e.2)) ?_)
   by_cases h2:LEnt.okM e.2
   ·rw [decide_eq_true h2,if_pos ⟨h1,h2⟩]
    refine Ev2.neg rfl (Ev3.diag (f:=fun k m1 m=>h_entry_Balanced_1 k m1 m ac es (es.length:Int) (i:Int) x y z e.1 e.2) ?_)
    refine Ev3.step (fun k m1 m=>h_entry_Balanced_1_s k m1 m ac es (es.length:Int) (i:Int) x y z e.1 e.2 _ rfl) (Ev3.pos (inb_true h1.1 h1.2) ?_)
    have h012:=hc.at h1
    have ec:(ac.getD (Int.toNat e.1) (0,0,0)).1=(acAt ac e.1).1:=rfl
    rw [ec]
    generalize (acAt ac e.1).1=c at h012 ⊢
    refine Ev3.negD (by omega) (Ev3.negD (by omega) (Ev2.drop (f:=fun k m=>h_entry_Balanced_2 k m k ac c es (es.length:Int) (i:Int) x y z e.1 e.2) (Ev3.diag (f:=fun k m1 m=>h_entry_Balanced_2 k m1 m ac c es (es.length:Int) (i:Int) x y z e.1 e.2) ?_)))
    have hin:inb c 3=true:=inb_true (by omega) (by omega)
    refine Ev3.step (fun k m1 m=>h_entry_Balanced_2_s k m1 m ac c es (es.length:Int) (i:Int) x y z e.1 e.2) (Ev3.pos hin (Ev3.bind (add_ev (selInt c [x,y,z]) e.2) ?_))
    have eg:selInt c [x,y,z]=getS c (x,y,z):=rfl
    rw [eg,addV_def]
    by_cases h3:LEnt.okM (getS c (x,y,z))/\LEnt.okM e.2/\LEnt.okM (getS c (x,y,z)+e.2)
    ·rw [if_pos h3,if_pos h3]
     refine Ev3.neg rfl (Ev3.pos hin ?_)
     rw [wnat (by omega)]
     exact Ev2.drop (bal_l ac hc es hl d (i+1) _ _ _ (by omega))
    ·rw [if_neg h3,if_neg h3]
     exact Ev3.pos rfl (Ev3.now _)
   ·rw [decide_eq_false h2,if_neg (fun h=>h2 h.2)]
    exact Ev2.pos rfl (Ev2.now _)
  ·rw [decide_eq_false h1,if_neg (fun h=>h1 h.1)]
   exact Ev2.pos rfl (Ev2.now _)
theorem balanced_ev (ac:List Acc)(hc:Curs ac)(es:List En)(hl:es.length<=140737488351232):Ev1 (fun k=>CF k sBo n_entry_Balanced [inj KA ac,inj KEs es]) (balF ac es (0,0,0)) :=
 Ev1.step (fun k=>f_entry_Balanced k ac es) (bal_l ac hc es hl es.length 0 0 0 0 (by omega)).diag
def rN (a b:Int):Int:=selInt b [selInt a [1,11,1],selInt a [9,1,1],selInt a [150,160,1]]
def rD (a b:Int):Int:=selInt b [selInt a [1,10,151],selInt a [10,1,161],selInt a [1,1,1]]
theorem rate_ok {a b:Int} (ha:a=0\/a=1\/a=2)(hb:b=0\/b=1\/b=2):okR (rN a b) (rD a b):=by
 rcases ha with rfl | rfl | rfl<;>rcases hb with rfl | rfl | rfl<;>(unfold okR;decide)
def moveF (ac:List Acc)(f t n:Int):List En × Option Int :=
 if inA ac f/\inA ac t then
  (if f=t\/¬ (1<=n/\n<=1099511627776) then ([],some 1)
   else if (acAt ac f).1=(acAt ac t).1 then ([(f,-n),(t,n)],none)
   else (if 1099511627776 < n * rN (acAt ac f).1 (acAt ac t).1 / rD (acAt ac f).1 (acAt ac t).1 then ([],some 4)
    else if n * rN (acAt ac f).1 (acAt ac t).1 / rD (acAt ac f).1 (acAt ac t).1=0 then ([],some 1)
    else ([(f,-n),(3 * (acAt ac f).1+1,n),(3 * (acAt ac t).1+1,-(n * rN (acAt ac f).1 (acAt ac t).1 / rD (acAt ac f).1 (acAt ac t).1)),(t,n * rN (acAt ac f).1 (acAt ac t).1 / rD (acAt ac f).1 (acAt ac t).1)],none)))
 else ([],some 2)
theorem move_ev (ac:List Acc)(hc:Curs ac)(f t n:Int):Ev1 (fun k=>CF k sEs n_eV [inj KA ac,inj I f,inj I t,inj I n]) (moveF ac f t n):=by
 refine Ev1.step (fun k=>f_eV k ac f t n) (Ev1.bind (of_ev ac f) ?_)
 rw [ofV_2]
 unfold moveF
 by_cases h1:inA ac f
 ·rw [decide_eq_true h1]
  refine Ev1.neg rfl (Ev1.bind (of_ev ac t) ?_)
  rw [ofV_2]
  by_cases h2:inA ac t
  ·rw [decide_eq_true h2,if_pos ⟨h1,h2⟩]
   refine Ev1.neg rfl ?_
   by_cases h3:f=t
   ·rw [if_pos (.inl h3)];exact Ev1.posD h3 (Ev1.now _)
   ·refine Ev1.negD h3 (Ev1.bind (Ev1.of_rfl 1 (fun k=>amount_eq k n)) ?_)
    by_cases h4:1<=n/\n<=1099511627776
    ·rw [decide_eq_true h4,if_neg (by omega)]
     refine Ev1.neg rfl (Ev2.diag (f:=fun k m=>h_eV k m ac f t n) ?_)
     refine Ev2.step (fun k m=>h_eV_s k m ac f t n _ rfl _ rfl) (Ev2.pos (inb_true h1.1 h1.2) (Ev2.pos (inb_true h2.1 h2.2) ?_))
     have ha:=hc.at h1
     have hb:=hc.at h2
     have ea:(ac.getD (Int.toNat f) (0,0,0)).1=(acAt ac f).1:=rfl
     have eb:(ac.getD (Int.toNat t) (0,0,0)).1=(acAt ac t).1:=rfl
     rw [ea,eb]
     generalize (acAt ac f).1=a at ha ⊢
     generalize (acAt ac t).1=b at hb ⊢
     by_cases h5:a=b
     ·rw [if_pos h5]
      refine Ev2.posD h5 (Ev2.const ?_)
      rw [w64_id (by omega),show 0 - n=-n by omega]
     ·rw [if_neg h5]
      refine Ev2.negD h5 (Ev2.bind (number_ev 1 a) (Ev2.bind (number_ev 1 b) ?_))
      have n1:numV 1 a=3 * a+1:=by unfold numV;rw [if_neg (by omega)]
      have n2:numV 1 b=3 * b+1:=by unfold numV;rw [if_neg (by omega)]
      rw [n1,n2]
      refine Ev2.negD (by omega) (Ev2.negD (by omega) (Ev1.drop (Ev2.diag (f:=fun k m=>h_eV_1 k m f t n a b (3 * a+1) (3 * b+1)) ?_)))
      refine Ev2.step (fun k m=>h_eV_1_s k m f t n a b (3 * a+1) (3 * b+1)) (Ev2.bind (Ev1.step (fun k=>f_money_Rates k) (Ev1.now _)) (Ev2.pos (inb_true (by omega) (by omega)) (Ev2.pos (inb_true (by omega) (by omega)) (Ev2.bind (convert_ev n (rN a b) (rD a b)) ?_))))
      have hok:=rate_ok ha hb
      generalize rN a b=p at hok ⊢
      generalize rD a b=q at hok ⊢
      rcases convV_cases n p q hok with ⟨e,g⟩ | ⟨e,g,g2⟩ | ⟨e,g,g2,g3⟩
      ·omega
      ·rw [e,if_pos g2];exact Ev2.pos rfl (Ev2.now _)
      ·rw [e,if_neg (by omega)]
       refine Ev2.neg rfl ?_
       by_cases g0:n * p / q=0
       ·rw [if_pos g0];exact Ev2.posD g0 (Ev2.now _)
       ·rw [if_neg g0]
        refine Ev2.negD g0 (Ev2.const ?_)
        dsimp only
        rw [w64_id (x:=0 - n) (by omega),w64_id (x:=0 - n * p / q) (by omega),show 0 - n=-n by omega,show 0 - n * p / q=-(n * p / q) by omega]
    ·rw [decide_eq_false h4,if_pos (.inr h4)]
     exact Ev1.pos rfl (Ev1.now _)
  ·rw [decide_eq_false h2,if_neg (fun h=>h2 h.2)]
   exact Ev1.pos rfl (Ev1.now _)
 ·rw [decide_eq_false h1,if_neg (fun h=>h1 h.1)]
  exact Ev1.pos rfl (Ev1.now _)
end Go.Eng.Top
namespace Go.Eng.Top
open Go.RowKit Go.Eng Go.Eng.LChart Go.Eng.LEnt
set_option maxRecDepth 100000
abbrev sAe:Sig:=⟨[(false,.slice KAccount),(false,.err)],[]⟩
abbrev sAs:Sig:=⟨[(true,.slice KAccount)],[]⟩
theorem getA (l:List Acc)(i:Nat)(h:i < l.length):l.getD (Int.toNat (i:Int)) (0,0,0)=l[i]:=by
 rw [Int.toNat_natCast];exact getD_at l i _ h
theorem num_ev (e:Option Int):Ev1 (fun k=>CF k sIn n_api_Number [inj .err e]) (e.getD 0):=Ev1.step (fun k=>(rfl:CF (k+1) sIn n_api_Number [inj .err e]=some (e.getD 0))) (Ev1.now _)
theorem isc_ev (ac:List Acc)(i:Int):Ev1 (fun k=>CF k sBo n_chart_IsClient [inj KA ac,inj I i]) (decide (9<=i/\i < (ac.length:Int))):=by
 refine Ev1.step (fun k=>f_chart_IsClient k ac i) (Ev1.bind (of_ev ac i) ?_)
 unfold ofV
 by_cases h:inA ac i
 ·rw [if_pos h]
  by_cases h9:i < 9
  ·rw [if_pos h9]
   refine Ev1.pos rfl (Ev1.const (congrArg some ?_))
   rw [Int.tmod_eq_emod_of_nonneg h.1]
   exact decide_eq_decide.2 (by omega)
  ·rw [if_neg h9]
   refine Ev1.pos rfl (Ev1.const (congrArg some ?_))
   exact decide_eq_decide.2 (by unfold inA at h;omega)
 ·rw [if_neg h]
  exact Ev1.neg rfl (Ev1.const (congrArg some (decide_eq_false (by unfold inA at h;omega)).symm))
theorem clone_ev (ac:List Acc)(hl:ac.length<=64):Ev1 (fun k=>CF k sAs n_chart_Clone [inj KA ac]) ac:=Ev1.step (fun k=>f_chart_Clone k ac) (Ev1.posD (by omega) (Ev1.now _))
def holdF (ac:List Acc)(n a:Int):List Acc × Option Int :=
 if 9<=n/\n < (ac.length:Int) then (if 1<=a/\a<=1099511627776 then (if (acAt ac n).2.1 - (acAt ac n).2.2 < a then ([],some 3)
  else (ac.set (Int.toNat n) ((acAt ac n).1,(acAt ac n).2.1,(acAt ac n).2.2+a),none)) else ([],some 1)) else ([],some 2)
def relF (ac:List Acc)(n a:Int):List Acc × Option Int :=
 if 9<=n/\n < (ac.length:Int) then (if 1<=a/\a<=1099511627776 then (if (acAt ac n).2.2 < a then ([],some 6)
  else (ac.set (Int.toNat n) ((acAt ac n).1,(acAt ac n).2.1,(acAt ac n).2.2 - a),none)) else ([],some 1)) else ([],some 2)
theorem rt_client {ac:List Acc} (h:Rt ac) {n:Int} (hn:9<=n/\n < (ac.length:Int)):inA ac n/\0<=(acAt ac n).2.2/\(acAt ac n).2.2<=(acAt ac n).2.1/\(acAt ac n).2.1<=1125899906842624:=by
 obtain ⟨q,rfl⟩:=Int.eq_ofNat_of_zero_le (show 0<=n by omega)
 have hq:q < ac.length:=by omega
 rw [acAt_nat ac q hq]
 have ho:=h.ok q hq
 exact ⟨⟨by omega,hn.2⟩,(ho.2.2.2.2.2 (by omega)).1,(ho.2.2.2.2.2 (by omega)).2,ho.2.2.2.1⟩
theorem hold_ev (ac:List Acc)(h:Rt ac)(n a:Int):Ev1 (fun k=>CF k sAe n_l_Hold [inj KA ac,inj I n,inj I a]) (holdF ac n a):=by
 refine Ev1.step (fun k=>f_l_Hold k ac n a) (Ev1.bind (isc_ev ac n) ?_)
 unfold holdF
 by_cases h1:9<=n/\n < (ac.length:Int)
 ·rw [decide_eq_true h1,if_pos h1]
  obtain ⟨g1,g2,g3,g4⟩:=rt_client h h1
  refine Ev1.neg rfl (Ev1.bind (Ev1.of_rfl 1 (fun k=>amount_eq k a)) ?_)
  by_cases h2:1<=a/\a<=1099511627776
  ·rw [decide_eq_true h2,if_pos h2]
   refine Ev1.neg rfl (Ev1.pos (inb_true g1.1 g1.2) ?_)
   have e:ac.getD (Int.toNat n) (0,0,0)=acAt ac n:=rfl
   rw [e]
   refine Ev1.bind (Ev1.step (fun k=>f_chart_Free k (acAt ac n)) (Ev1.now _)) ?_
   rw [w64_id (by omega)]
   by_cases h3:(acAt ac n).2.1 - (acAt ac n).2.2 < a
   ·rw [if_pos h3];exact Ev1.posD h3 (Ev1.now _)
   ·rw [if_neg h3]
    refine Ev1.negD h3 (Ev1.bind (clone_ev ac h.hi) (Ev1.pos (inb_true g1.1 g1.2) (Ev1.pos (inb_true g1.1 g1.2) ?_)))
    rw [e,w64_id (by omega)]
    exact Ev1.now _
  ·rw [decide_eq_false h2,if_neg h2];exact Ev1.pos rfl (Ev1.now _)
 ·rw [decide_eq_false h1,if_neg h1];exact Ev1.pos rfl (Ev1.now _)
theorem rel_ev (ac:List Acc)(h:Rt ac)(n a:Int):Ev1 (fun k=>CF k sAe n_l_Release [inj KA ac,inj I n,inj I a]) (relF ac n a):=by
 refine Ev1.step (fun k=>f_l_Release k ac n a) (Ev1.bind (isc_ev ac n) ?_)
 unfold relF
 by_cases h1:9<=n/\n < (ac.length:Int)
 ·rw [decide_eq_true h1,if_pos h1]
  obtain ⟨g1,g2,g3,g4⟩:=rt_client h h1
  refine Ev1.neg rfl (Ev1.bind (Ev1.of_rfl 1 (fun k=>amount_eq k a)) ?_)
  by_cases h2:1<=a/\a<=1099511627776
  ·rw [decide_eq_true h2,if_pos h2]
   refine Ev1.neg rfl (Ev1.pos (inb_true g1.1 g1.2) ?_)
   have e:ac.getD (Int.toNat n) (0,0,0)=acAt ac n:=rfl
   rw [e]
   by_cases h3:(acAt ac n).2.2 < a
   ·rw [if_pos h3];exact Ev1.posD h3 (Ev1.now _)
   ·rw [if_neg h3]
    refine Ev1.negD h3 (Ev1.bind (clone_ev ac h.hi) (Ev1.pos (inb_true g1.1 g1.2) (Ev1.pos (inb_true g1.1 g1.2) ?_)))
    rw [e,w64_id (by omega)]
    exact Ev1.now _
  ·rw [decide_eq_false h2,if_neg h2];exact Ev1.pos rfl (Ev1.now _)
 ·rw [decide_eq_false h1,if_neg h1];exact Ev1.pos rfl (Ev1.now _)
theorem held_rt {ac:List Acc} (h:Rt ac) {n v:Int} (hn:9<=n/\n < (ac.length:Int))(hv:0<=v/\v<=(acAt ac n).2.1):Rt (ac.set (Int.toNat n) ((acAt ac n).1,(acAt ac n).2.1,v)):=by
 obtain ⟨q,rfl⟩:=Int.eq_ofNat_of_zero_le (show 0<=n by omega)
 have hq:q < ac.length:=by omega
 rw [acAt_nat ac q hq] at hv ⊢
 rw [Int.toNat_natCast]
 refine ⟨by rw [List.length_set];exact h.lo,by rw [List.length_set];exact h.hi,fun k hk=>?_,fun c=>?_⟩
 ·rw [List.length_set] at hk
  rw [List.getElem_set]
  split
  ·rename_i e;subst e
   have ho:=h.ok q hq
   exact ⟨ho.1,ho.2.1,ho.2.2.1,ho.2.2.2.1,fun h9=>by omega,fun _=>hv⟩
  ·exact h.ok k hk
 ·rw [sums_set c ac q _ hq,h.sum c]
  unfold cur
  dsimp only
  omega
theorem holdF_rt {ac:List Acc} (h:Rt ac) {n a:Int} (hn:(holdF ac n a).2=none):Rt (holdF ac n a).1/\(holdF ac n a).1.length=ac.length:=by
 unfold holdF at hn ⊢
 split at hn
 ·rename_i h1
  split at hn
  ·rename_i h2
   split at hn
   ·cases hn
   ·rename_i h3
    rw [if_pos h1,if_pos h2,if_neg h3]
    obtain ⟨g1,g2,g3,g4⟩:=rt_client h h1
    exact ⟨held_rt h h1 (by omega),List.length_set⟩
  ·cases hn
 ·cases hn
theorem relF_rt {ac:List Acc} (h:Rt ac) {n a:Int} (hn:(relF ac n a).2=none):Rt (relF ac n a).1/\(relF ac n a).1.length=ac.length:=by
 unfold relF at hn ⊢
 split at hn
 ·rename_i h1
  split at hn
  ·rename_i h2
   split at hn
   ·cases hn
   ·rename_i h3
    rw [if_pos h1,if_pos h2,if_neg h3]
    obtain ⟨g1,g2,g3,g4⟩:=rt_client h h1
    exact ⟨held_rt h h1 (by omega),List.length_set⟩
  ·cases hn
 ·cases hn
def finP:Option (List Acc)->List Acc × Option Int
 | none=>([],some 4)
 | some o=>bif freeB (o.drop 9) then (o,none) else ([],some 3)
theorem postF_def (ac:List Acc)(es:List En):postF ac es=bif balF ac es (0,0,0) then finP (runF ac es) else ([],some 13):=by
 unfold postF finP;rfl
theorem free_cons (a:Acc)(l:List Acc):freeB (a::l)=((!decide (w64 (a.2.1 - a.2.2) < 0)) && freeB l):=rfl
theorem post1_l (out : List Acc) (hl : out.length ≤ 64) : ∀ (d i : Nat), i + d = out.length → Ev2 (fun k m => h_l_Post_1 k m (out.length : Int) (i : Int) out) (bif freeB (out.drop (max 9 i)) then (out, none) else ([], some 3))
  | 0, i, h => by
    refine Ev2.step (fun k m => h_l_Post_1_s k m (out.length : Int) (i : Int) out _ rfl) (Ev2.negD (by omega) ?_)
    rw [List.drop_of_length_le (by omega)]
    exact Ev2.now _
  | d + 1, i, h => by
    have hlt : i < out.length := by omega
    have ih := post1_l out hl d (i + 1) (by omega)
    refine Ev2.step (fun k m => h_l_Post_1_s k m (out.length : Int) (i : Int) out ((i + 1 : Nat) : Int) (wnat (by omega)).symm) (Ev2.posD (by omega) (Ev2.pos (inb_true (by omega) (by omega)) (Ev2.bind (isc_ev out (i : Int)) ?_)))
    by_cases h9 : 9 ≤ i
    · rw [decide_eq_true (by omega), getA out i hlt]
      refine Ev2.pos rfl (Ev2.bind (Ev1.step (fun k => f_chart_Free k out[i]) (Ev1.now _)) ?_)
      rw [show max 9 i = i by omega, List.drop_eq_getElem_cons hlt, free_cons]
      rw [show max 9 (i + 1) = i + 1 by omega] at ih
      by_cases hf : w64 (out[i].2.1 - out[i].2.2) < 0
      · rw [decide_eq_true hf]; exact Ev2.pos rfl (Ev2.now _)
      · rw [decide_eq_false hf]
        exact Ev2.neg rfl ih
    · rw [decide_eq_false (by omega)]
      rw [show max 9 (i + 1) = 9 by omega] at ih
      rw [show max 9 i = 9 by omega]
      exact Ev2.neg rfl ih
theorem post_l (es : List En) (hl : es.length ≤ 140737488351232) : ∀ (d i : Nat) (out : List Acc), i + d = es.length → (∀ e ∈ es.drop i, inA out e.1) → out.length ≤ 64 → Ev2 (fun k m => h_l_Post k m es (es.length : Int) (i : Int) out) (finP (runF out (es.drop i)))
  | 0, i, out, h, hin, ho => by
    refine Ev2.step (fun k m => h_l_Post_s k m es (es.length : Int) (i : Int) out _ rfl _ rfl _ rfl) (Ev2.negD (by omega) ?_)
    rw [List.drop_of_length_le (by omega)]
    exact Ev1.drop (Ev2.diag (f := fun k m => h_l_Post_1 k m (out.length : Int) 0 out) (post1_l out ho out.length 0 (by omega)))
  | d + 1, i, out, h, hin, ho => by
    have hlt : i < es.length := by omega
    rw [List.drop_eq_getElem_cons hlt] at hin ⊢
    refine Ev2.step (fun k m => h_l_Post_s k m es (es.length : Int) (i : Int) out es[i] (getE es i hlt).symm _ rfl (acAt out es[i].1) rfl) (Ev2.posD (by omega) (Ev2.pos (inb_true (by omega) (by omega)) ?_))
    generalize es[i] = e at hin ⊢
    have h1 := hin e (by simp)
    refine Ev2.pos (inb_true h1.1 h1.2) (Ev2.bind (add_ev (acAt out e.1).2.1 e.2) ?_)
    rw [addV_def]
    unfold runF
    by_cases h3 : LEnt.okM (acAt out e.1).2.1 ∧ LEnt.okM e.2 ∧ LEnt.okM ((acAt out e.1).2.1 + e.2)
    · rw [if_pos h3, if_pos h3]
      refine Ev2.neg rfl (Ev2.pos (inb_true h1.1 h1.2) ?_)
      rw [wnat (by omega)]
      exact post_l es hl d (i + 1) _ (by omega) (fun a ha => by have := hin a (by simp [ha]); unfold inA at this ⊢; rw [List.length_set]; exact this) (by rw [List.length_set]; exact ho)
    · rw [if_neg h3, if_neg h3]
      exact Ev2.pos rfl (Ev2.now _)
theorem post_ev (ac : List Acc) (h : Rt ac) (es : List En) (hl : es.length ≤ 140737488351232) : Ev1 (fun k => CF k sAe n_l_Post [inj KA ac, inj KEs es]) (postF ac es) := by
  refine Ev1.step (fun k => f_l_Post k ac es) (Ev1.bind (balanced_ev ac h.curs es hl) ?_)
  rw [postF_def]
  cases hb : balF ac es (0, 0, 0) with
  | false => exact Ev1.pos rfl (Ev1.now _)
  | true =>
    obtain ⟨hin, _⟩ := bal_sum ac h.curs es 0 0 0 hb
    refine Ev1.neg rfl (Ev1.bind (clone_ev ac h.hi) ?_)
    exact Ev2.diag (f := fun k m => h_l_Post k m es (es.length : Int) 0 ac) (post_l es hl es.length 0 ac (by omega) (fun e he => (hin e he).1) h.hi)
theorem postF_rt {ac:List Acc} (h:Rt ac) {es:List En} (hn:(postF ac es).2=none):balF ac es (0,0,0)=true/\runF ac es=some (postF ac es).1/\Rt (postF ac es).1/\(postF ac es).1.length=ac.length:=by
 rw [postF_def] at hn ⊢
 cases hb:balF ac es (0,0,0) with
 | false=>rw [hb] at hn;cases hn
 | true =>
  rw [hb] at hn
  dsimp only [cond_true] at hn ⊢
  cases hr:runF ac es with
  | none=>rw [hr] at hn;cases hn
  | some out =>
   rw [hr] at hn
   unfold finP at hn ⊢
   dsimp only at hn ⊢
   cases hf:freeB (out.drop 9) with
   | false=>rw [hf] at hn;cases hn
   | true =>
    obtain ⟨hin,_⟩:=bal_sum ac h.curs es 0 0 0 hb
    obtain ⟨k1,_,_⟩:=run_kept es ac out (fun e he=>(hin e he).1) hr
    exact ⟨rfl,rfl,h.post hb hr hf,k1.len⟩
theorem same_l (a : List Acc) (hl : a.length ≤ 64) : ∀ (d i : Nat), i + d = a.length → Ev2 (fun k m => h_law07_Same k m a a (a.length : Int) (i : Int)) true
  | 0, i, h => Ev2.step (fun k m => h_law07_Same_s k m a a (a.length : Int) (i : Int) _ rfl _ rfl) (Ev2.negD (by omega) (Ev2.now _))
  | d + 1, i, h => by
    refine Ev2.step (fun k m => h_law07_Same_s k m a a (a.length : Int) (i : Int) _ rfl _ rfl) (Ev2.posD (by omega) (Ev2.pos (inb_true (by omega) (by omega)) (Ev2.pos (inb_true (by omega) (by omega)) (Ev2.neg (by simp) ?_))))
    rw [wnat (by omega)]
    exact same_l a hl d (i + 1) (by omega)
theorem same_ev (a : List Acc) (hl : a.length ≤ 64) : Ev1 (fun k => CF k sBo n_law07_Same [inj KA a, inj KA a]) true :=
  Ev1.step (fun k => f_law07_Same k a a _ rfl) (Ev1.neg (by simp) (same_l a hl a.length 0 (by omega)).diag)
def spendF (ac:List Acc)(a:Int)(es:List En):List Acc × Option Int :=
 match es with
 | []=>([],some 13)
 | e::_=>match relF ac e.1 a with
  | (o,none)=>postF o es
  | (_,some c)=>([],some c)
theorem spend_ev (ac:List Acc)(h:Rt ac)(a:Int)(es:List En)(hl:es.length<=140737488351232):Ev1 (fun k=>CF k sAe n_l_Spend [inj KA ac,inj I a,inj KEs es]) (spendF ac a es):=by
 refine Ev1.step (fun k=>f_l_Spend k ac a es) ?_
 cases es with
 | nil=>exact Ev1.posD rfl (Ev1.now _)
 | cons e r =>
  refine Ev1.negD (by simp only [List.length_cons];omega) (Ev1.pos (inb_true (by omega) (by simp only [List.length_cons];omega)) (Ev1.bind (rel_ev ac h e.1 a) ?_))
  show Ev1 _ (match relF ac e.1 a with | (o,none)=>postF o (e::r) | (_,some c)=>([],some c))
  have hr:=relF_rt h (n:=e.1) (a:=a)
  generalize relF ac e.1 a=w at hr
  obtain ⟨o,g⟩:=w
  cases g with
  | some c=>exact Ev1.pos rfl (Ev1.now _)
  | none=>exact Ev1.neg rfl (Ev1.bind (post_ev o (hr rfl).1 (e::r) hl) (Ev1.now _))
theorem move_cases (ac:List Acc)(f t n:Int):(∃ c,moveF ac f t n=([],some c))\/∃ v r,moveF ac f t n=((f,v)::r,none)/\r.length<=3:=by
 unfold moveF
 split
 ·split
  ·exact .inl ⟨_,rfl⟩
  ·split
   ·exact .inr ⟨_,_,rfl,by simp⟩
   ·split
    ·exact .inl ⟨_,rfl⟩
    ·split
     ·exact .inl ⟨_,rfl⟩
     ·exact .inr ⟨_,_,rfl,by simp⟩
 ·exact .inl ⟨_,rfl⟩
end Go.Eng.Top
namespace Go.Eng.Top
open Go.RowKit Go.Eng
set_option maxRecDepth 100000
abbrev KL:K:=.slice KKnown
abbrev sRe:Sig:=⟨[(false,KReply),(false,.bool)],[]⟩
abbrev sKe:Sig:=⟨[(false,.slice KKnown),(false,.err)],[]⟩
abbrev d0:TKnown:=(((0:Int),(0:Int),(0:Int),(0:Int),(0:Int),(0:Int),(0:Int)),((0:Int),(0:Int)),false)
def fndI (key:Int):List Int->Option Nat
 | []=>none
 | k::r=>if k=key then some 0 else (fndI key r).map (·+1)
def keysOf (ks:List TKnown):List Int:=ks.map fun k=>k.1.1
def fnd (key:Int)(ks:List TKnown):Option Nat:=fndI key (keysOf ks)
def num:Option Nat->Int
 | none=>-1
 | some i=>(i:Int)
theorem fndI_some {key:Int}:∀ {l:List Int} {i:Nat},fndI key l=some i->∃ h:i < l.length,l[i]=key
 | [],i,h=>by cases h
 | k::r,i,h=>by
  unfold fndI at h
  split at h
  ·rename_i e;cases h;exact ⟨by simp,e⟩
  ·cases hq:fndI key r with
   | none=>rw [hq] at h;cases h
   | some j =>
    rw [hq] at h;cases h
    obtain ⟨h1,h2⟩:=fndI_some hq
    exact ⟨by simp;omega,by simpa using h2⟩
theorem fndI_app (key:Int)(l:List Int)(x:Int):fndI key (l++[x])=match fndI key l with | some i=>some i | none=>if x=key then some l.length else none:=by
 induction l with
 | nil=>simp only [List.nil_append,fndI];split<;>rfl
 | cons k r ih =>
  rw [List.cons_append]
  unfold fndI
  split
  ·rfl
  ·rw [ih]
   cases fndI key r with
   | some i=>rfl
   | none=>dsimp only;split<;>simp
theorem fnd_some {key:Int} {ks:List TKnown} {i:Nat} (h:fnd key ks=some i):∃ h:i < ks.length,ks[i].1.1=key:=by
 obtain ⟨h1,h2⟩:=fndI_some h
 have h3:i < ks.length:=by simpa [keysOf] using h1
 exact ⟨h3,by simpa [keysOf] using h2⟩
theorem keysOf_set (ks:List TKnown)(i:Nat)(x:TKnown)(h:i < ks.length)(hx:x.1.1=ks[i].1.1):keysOf (ks.set i x)=keysOf ks:=by
 unfold keysOf
 rw [List.map_set,hx]
 have:i < (ks.map fun k=>k.1.1).length:=by simpa using h
 conv=>lhs;rw [show ks[i].1.1=(ks.map fun k=>k.1.1)[i] by simp]
 rw [List.set_getElem_self]
theorem getK (l:List TKnown)(i:Nat)(h:i < l.length):l.getD (Int.toNat (i:Int)) d0=l[i]:=by rw [Int.toNat_natCast];exact getD_at l i _ h
theorem find_l (key : Int) (ks : List TKnown) (hl : ks.length ≤ 140737488351232) : ∀ (d i : Nat), i + d = ks.length → Ev2 (fun k m => h_keys_Find k m key ks (ks.length : Int) (i : Int)) (match fndI key ((keysOf ks).drop i) with | none => -1 | some j => ((i + j : Nat) : Int))
  | 0, i, h => by
    refine Ev2.step (fun k m => h_keys_Find_s k m key ks (ks.length : Int) (i : Int)) (Ev2.negD (by omega) ?_)
    rw [List.drop_of_length_le (by unfold keysOf; rw [List.length_map]; omega)]
    exact Ev2.now _
  | d + 1, i, h => by
    have hlt : i < ks.length := by omega
    have hk : i < (keysOf ks).length := by unfold keysOf; rw [List.length_map]; omega
    have ek : (keysOf ks)[i] = ks[i].1.1 := by simp [keysOf]
    have ih := find_l key ks hl d (i + 1) (by omega)
    refine Ev2.step (fun k m => h_keys_Find_s k m key ks (ks.length : Int) (i : Int)) (Ev2.posD (by omega) (Ev2.pos (inb_true (by omega) (by omega)) ?_))
    have eg := getK ks i hlt
    unfold d0 at eg
    rw [eg, List.drop_eq_getElem_cons hk, ek, wnat (by omega)]
    unfold fndI
    by_cases hq : ks[i].1.1 = key
    · rw [if_pos hq]; exact Ev2.posD hq (Ev2.now _)
    · rw [if_neg hq]
      refine Ev2.negD hq ?_
      cases hf : fndI key ((keysOf ks).drop (i + 1)) with
      | none => rw [hf] at ih; exact ih
      | some j =>
        rw [hf] at ih
        show Ev2 _ (((i + (j + 1) : Nat)) : Int)
        rw [show i + (j + 1) = i + 1 + j by omega]
        exact ih
theorem find_ev (ks : List TKnown) (key : Int) (hl : ks.length ≤ 140737488351232) : Ev1 (fun k => CF k sIn n_keys_Find [inj KL ks, inj I key]) (num (fnd key ks)) := by
  refine Ev1.step (fun k => f_keys_Find k ks key) ?_
  have := (find_l key ks hl ks.length 0 (by omega)).diag
  rw [List.drop_zero] at this
  unfold fnd num
  cases hf : fndI key (keysOf ks) with
  | none => rw [hf] at this; exact this
  | some j => rw [hf] at this; simpa using this
def askF (ks:List TKnown)(r:TRequest):TReply × Bool :=
 match fnd r.1 ks with
 | none=>((0,0),false)
 | some i=>if (ks.getD i d0).1=r then (if (ks.getD i d0).2.2=true then ((ks.getD i d0).2.1,true) else ((10,0),true)) else ((5,0),true)
def tellF (ks:List TKnown)(key:Int)(x:TReply):List TKnown × Option Int :=
 match fnd key ks with
 | none=>([],some 2)
 | some i=>if (ks.getD i d0).2.2=true then ([],some 6) else (ks.set i ((ks.getD i d0).1,x,true),none)
def putF (ks:List TKnown)(r:TRequest):List TKnown × Option Int :=
 match fnd r.1 ks with
 | some _=>([],some 5)
 | none=>if 256<=ks.length then ([],some 7) else (ks++[(r,(0,0),false)],none)
theorem req_eq (a r:TRequest):(decide (a.1=r.1) && (decide (a.2.1=r.2.1) && (decide (a.2.2.1=r.2.2.1) && (decide (a.2.2.2.1=r.2.2.2.1) && (decide (a.2.2.2.2.1=r.2.2.2.2.1) && (decide (a.2.2.2.2.2.1=r.2.2.2.2.2.1) && (decide (a.2.2.2.2.2.2=r.2.2.2.2.2.2) && true)))))))=decide (a=r):=by
 obtain ⟨a1,a2,a3,a4,a5,a6,a7⟩:=a
 obtain ⟨r1,r2,r3,r4,r5,r6,r7⟩:=r
 rw [Bool.eq_iff_iff]
 simp
theorem ask_ev (ks:List TKnown)(r:TRequest)(hl:ks.length<=140737488351232):Ev1 (fun k=>CF k sRe n_keys_Ask [inj KL ks,inj KRequest r]) (askF ks r):=by
 refine Ev1.step (fun k=>f_keys_Ask k ks r) (Ev1.bind (find_ev ks r.1 hl) ?_)
 unfold askF
 cases hf:fnd r.1 ks with
 | none=>exact Ev1.posD (by show (-1:Int) < 0;omega) (Ev1.now _)
 | some i =>
  obtain ⟨h1,h2⟩:=fnd_some hf
  have hin:inb (num (some i)) ks.length=true:=inb_true (by show (0:Int)<=(i:Int);omega) (by show (i:Int) < _;omega)
  refine Ev1.negD (by show ¬ ((i:Int) < 0);omega) (Ev1.pos hin ?_)
  have eg:ks.getD (Int.toNat (num (some i))) d0=ks.getD i d0:=by show ks.getD (Int.toNat (i:Int)) d0=_;rw [Int.toNat_natCast]
  unfold d0 at eg ⊢
  rw [eg,req_eq]
  dsimp only
  generalize ks.getD i ((0,0,0,0,0,0,0),(0,0),false)=kn
  by_cases c1:kn.1=r
  ·rw [if_pos c1,decide_eq_true c1]
   refine Ev1.neg rfl (Ev1.pos hin ?_)
   cases hb:kn.2.2 with
   | true=>exact Ev1.neg rfl (Ev1.pos hin (Ev1.now _))
   | false=>exact Ev1.pos rfl (Ev1.now _)
  ·rw [if_neg c1,decide_eq_false c1]
   exact Ev1.pos rfl (Ev1.now _)
theorem tell_ev (ks:List TKnown)(key:Int)(x:TReply)(hl:ks.length * 80<=140737488355328):Ev1 (fun k=>CF k sKe n_keys_Tell [inj KL ks,inj I key,inj KReply x]) (tellF ks key x):=by
 refine Ev1.step (fun k=>f_keys_Tell k ks key x) (Ev1.bind (find_ev ks key (by omega)) ?_)
 unfold tellF
 cases hf:fnd key ks with
 | none=>exact Ev1.posD (by show (-1:Int) < 0;omega) (Ev1.now _)
 | some i =>
  obtain ⟨h1,h2⟩:=fnd_some hf
  have hin:inb (num (some i)) ks.length=true:=inb_true (by show (0:Int)<=(i:Int);omega) (by show (i:Int) < _;omega)
  refine Ev1.negD (by show ¬ ((i:Int) < 0);omega) (Ev1.pos hin ?_)
  have en:Int.toNat (num (some i))=i:=by show Int.toNat (i:Int)=_;rw [Int.toNat_natCast]
  rw [en]
  unfold d0
  dsimp only
  generalize hk:ks.getD i ((0,0,0,0,0,0,0),(0,0),false)=kn
  cases hb:kn.2.2 with
  | true=>exact Ev1.pos rfl (Ev1.now _)
  | false =>
   refine Ev1.neg rfl (Ev1.posD (by omega) (Ev1.pos hin (Ev1.pos (by rw [List.length_set];exact hin) (Ev1.const ?_))))
   have eg:(ks.set i (kn.1,x,false)).getD i ((0,0,0,0,0,0,0),(0,0),false)=(kn.1,x,false):=by
    rw [getD_at _ i _ (by rw [List.length_set];exact h1),List.getElem_set_self]
   rw [eg,List.set_set]
   rfl
theorem put_ev (ks:List TKnown)(r:TRequest)(hl:ks.length * 80<=140737488355328):Ev1 (fun k=>CF k sKe n_keys_Put [inj KL ks,inj KRequest r]) (putF ks r):=by
 refine Ev1.step (fun k=>f_keys_Put k ks r _ rfl) (Ev1.bind (find_ev ks r.1 (by omega)) ?_)
 unfold putF
 cases hf:fnd r.1 ks with
 | some i=>exact Ev1.posD (by show (0:Int)<=(i:Int);omega) (Ev1.now _)
 | none =>
  refine Ev1.negD (by show ¬ (0:Int)<=-1;omega) ?_
  by_cases h:256<=ks.length
  ·rw [if_pos h];exact Ev1.posD (by omega) (Ev1.now _)
  ·rw [if_neg h]
   exact Ev1.negD (by omega) (Ev1.posD (by omega) (Ev1.posD (by simp only [List.length_cons,List.length_nil];omega) (Ev1.now _)))
theorem ksame_l (a : List TKnown) (hl : a.length ≤ 140737488351232) : ∀ (d i : Nat), i + d = a.length → Ev2 (fun k m => h_law11_Same k m a a (a.length : Int) (i : Int)) true
  | 0, i, h => Ev2.step (fun k m => h_law11_Same_s k m a a (a.length : Int) (i : Int) _ rfl _ rfl) (Ev2.negD (by omega) (Ev2.now _))
  | d + 1, i, h => by
    refine Ev2.step (fun k m => h_law11_Same_s k m a a (a.length : Int) (i : Int) _ rfl _ rfl) (Ev2.posD (by omega) (Ev2.pos (inb_true (by omega) (by omega)) (Ev2.pos (inb_true (by omega) (by omega)) (Ev2.neg (by simp) ?_))))
    rw [wnat (by omega)]
    exact ksame_l a hl d (i + 1) (by omega)
theorem ksame_ev (a : List TKnown) (hl : a.length ≤ 140737488351232) : Ev1 (fun k => CF k sBo n_law11_Same [inj KL a, inj KL a]) true :=
  Ev1.step (fun k => f_law11_Same k a a _ rfl) (Ev1.neg (by simp) (ksame_l a hl a.length 0 (by omega)).diag)
theorem fnd_app (key:Int)(ks:List TKnown)(x:TKnown):fnd key (ks++[x])=match fnd key ks with | some i=>some i | none=>if x.1.1=key then some ks.length else none:=by
 unfold fnd keysOf
 rw [List.map_append,List.map_cons,List.map_nil,fndI_app,List.length_map]
theorem getD_last (ks:List TKnown)(x:TKnown)(d:TKnown):(ks++[x]).getD ks.length d=x:=by
 rw [getD_at _ _ _ (by rw [List.length_append];simp),List.getElem_append_right (Nat.le_refl _)];simp
theorem set_last (ks:List TKnown)(x y:TKnown):(ks++[x]).set ks.length y=ks++[y]:=by
 rw [List.set_append_right _ _ (Nat.le_refl _)];simp
end Go.Eng.Top
namespace Go.Eng.Top
open Go.RowKit Go.Eng
set_option maxRecDepth 100000
abbrev BB:K:=.slice (.int .u8)
abbrev MF:=List (Int × Option Nat)
structure Dk (F:List MF)(R L:List Int)(S:List Bool)(d:Nat):Prop where
 hd:d < F.length
 room:R.getD d 0=262144
 left:L.getD d 0=-1
 stop:S.getD d false=false
theorem Dk.set {F:List MF} {R L:List Int} {S:List Bool} {d:Nat} (h:Dk F R L S d)(M:MF):Dk (F.set d M) R L S d:=⟨by rw [List.length_set];exact h.hd,h.room,h.left,h.stop⟩
theorem getD_set_self {α:Type} (l:List α)(i:Nat)(x z:α)(h:i < l.length):(l.set i x).getD i z=x:=by
 rw [List.getD_eq_getElem?_getD,List.getElem?_set_self h];rfl
theorem getD_set_ne {α:Type} (l:List α) {i j:Nat} (x z:α)(h:i ≠ j):(l.set i x).getD j z=l.getD j z:=by
 rw [List.getD_eq_getElem?_getD,List.getElem?_set_ne h,List.getD_eq_getElem?_getD]
theorem getD_snoc {α:Type} (l:List α)(x z:α):(l++[x]).getD l.length z=x:=by
 rw [List.getD_eq_getElem?_getD,List.getElem?_append_right (Nat.le_refl _),Nat.sub_self];rfl
theorem getD_app {α:Type} (l:List α)(x z:α) {i:Nat} (h:i < l.length):(l++[x]).getD i z=l.getD i z:=by
 rw [List.getD_eq_getElem?_getD,List.getElem?_append_left h,List.getD_eq_getElem?_getD]
section
variable {F:List MF} {R L:List Int} {S:List Bool} {d:Nat} {B:List (List Int)} {sf:List Int}
theorem works_ev (h:Dk F R L S d):Ev1 (fun k=>CF k g_dD_works n_dD_works [inj (.ref 29) (some d),Ck L,Cl S]) (true,L,S):=by
 have h2:Ev2 (fun k m=>h_dD_works k m (some d) L S) (true,L,S):=by
  refine Ev2.step (fun k m=>h_dD_works_s k m (some d) L S _ rfl) (Ev2.pos rfl (Ev2.negD ?_ (Ev2.pos rfl (Ev2.const ?_))))
  ·show ¬ (0 < L.getD d 0)
   rw [h.left];omega
  ·show some (!(S.getD d false),L,S)=_
   rw [h.stop];rfl
 refine Ev1.step (fun k=>f_dD_works k (some d) L S) (Ev1.pos rfl (Ev1.negD ?_ h2.diag))
 show ¬ (L.getD d 0=0)
 rw [h.left];omega
def sumL (B:List (List Int)):MF->Nat
 | []=>0
 | e::r=>(B.getD (e.2.getD 0) []).length+sumL B r
theorem usedOf_eq (B:List (List Int)):∀ M:MF,sumL B M < 4611686018427387904->usedOf B M=(sumL B M:Int)
 | [],_=>rfl
 | e::r,h=>by
  unfold sumL at h
  unfold usedOf sumL
  rw [usedOf_eq B r (by omega),w64_eq (by omega) (by omega)]
  omega
def allS (M:MF):Bool:=M.all fun e=>e.2.isSome
theorem used_ev (M:MF)(hM:F.getD d []=M)(ha:allS M=true)(hs:sumL B M < 4611686018427387904):Ev1 (fun k=>CF k g_dD_Used n_dD_Used [inj (.ref 29) (some d),Ci F,Ct B]) ((sumL B M:Int),F,B):=by
 refine Ev1.step (fun k=>(rfl:CF (k+1) g_dD_Used n_dD_Used [inj (.ref 29) (some d),Ci F,Ct B]=usedX (some d) F B)) (Ev1.const ?_)
 show (bif allS (F.getD d []) then some (usedOf B (F.getD d []),F,B) else none)=_
 rw [hM,ha,cond_true,usedOf_eq B M hs]
theorem names_ev (hM:F.getD d []=[]):Ev1 (fun k=>CF k g_dD_Names n_dD_Names [inj (.ref 29) (some d),Ci F]) ([],F):=by
 refine Ev1.step (fun k=>(rfl:CF (k+1) g_dD_Names n_dD_Names [inj (.ref 29) (some d),Ci F]=namesX (some d) F)) (Ev1.const ?_)
 show (match F.getD d [] with | []=>some ([],F) | _=>none)=_
 rw [hM]
section
variable {M:MF} {name:Int} {b:List Int}
theorem append_old (h:Dk F R L S d)(hM:F.getD d []=M)(ha:allS M=true)(hs:sumL B M+b.length<=262144) {g:Nat} (hg:mapGet none M name=some g)(hl:(B.getD g []).length<=1000000) :
  Ev1 (fun k=>CF k g_dD_Append n_dD_Append [inj (.ref 29) (some d),inj (.int .i64) name,inj BB b,Ci F,Cj R,Ck L,Cl S,Ct B,Cu sf]) (none,F,R,L,S,B.set g (B.getD g []++b),sf):=by
 refine Ev1.step (fun k=>f_dD_Append k (some d) name b F R L S B sf) (Ev1.pos rfl (Ev1.neg h.stop (Ev1.bind (used_ev M hM ha (by omega)) (Ev1.pos rfl (Ev1.negD ?_ (Ev1.bind (works_ev h) (Ev1.pos rfl ?_)))))))
 ·show ¬ (R.getD d 0 < w64 ((sumL B M:Int)+(b.length:Int)))
  rw [h.room,w64_eq (by omega) (by omega)];omega
 ·simp only [Option.getD_some]
  rw [hM,hg]
  have h2:Ev2 (fun k m=>h_dD_Append_1 k m (some d) b true (some g) F R L S B sf) (none,F,R,L,S,B.set g (B.getD g []++b),sf) :=
   Ev2.step (fun k m=>h_dD_Append_1_s k m (some d) b true (some g) F R L S B sf _ rfl _ rfl) (Ev2.pos rfl (Ev2.posD (by simp only [Option.getD_some];omega) (Ev2.pos rfl (Ev2.pos (by simp) (Ev2.neg rfl (Ev2.now _))))))
  exact Ev1.neg rfl h2.diag
theorem append_new (h:Dk F R L S d)(hM:F.getD d []=M)(ha:allS M=true)(hs:sumL B M+b.length<=262144)(hg:mapGet none M name=none) :
  Ev1 (fun k=>CF k g_dD_Append n_dD_Append [inj (.ref 29) (some d),inj (.int .i64) name,inj BB b,Ci F,Cj R,Ck L,Cl S,Ct B,Cu sf]) (none,F.set d (mapPut M name (some B.length)),R,L,S,B++[b],sf++[0]):=by
 refine Ev1.step (fun k=>f_dD_Append k (some d) name b F R L S B sf) (Ev1.pos rfl (Ev1.neg h.stop (Ev1.bind (used_ev M hM ha (by omega)) (Ev1.pos rfl (Ev1.negD ?_ (Ev1.bind (works_ev h) (Ev1.pos rfl ?_)))))))
 ·show ¬ (R.getD d 0 < w64 ((sumL B M:Int)+(b.length:Int)))
  rw [h.room,w64_eq (by omega) (by omega)];omega
 ·simp only [Option.getD_some]
  rw [hM,hg]
  have h2:Ev2 (fun k m=>h_dD_Append k m (some d) b true B.length (F.set d (mapPut M name (some B.length))) R L S (B++[[]]) (sf++[0])) (none,F.set d (mapPut M name (some B.length)),R,L,S,B++[b],sf++[0]):=by
   refine Ev2.step (fun k m=>h_dD_Append_s k m (some d) b true B.length _ R L S (B++[[]]) _ _ rfl _ rfl) ?_
   rw [getD_snoc,List.set_append_right _ _ (Nat.le_refl _),Nat.sub_self]
   exact Ev2.posD (by simp;omega) (Ev2.pos (by simp) (Ev2.neg rfl (Ev2.now _)))
  exact Ev1.pos rfl (Ev1.pos rfl h2.diag)
end
theorem sync_ev (h:Dk F R L S d) {M:MF} (hM:F.getD d []=M) {name:Int} {g:Nat} (hg:mapGet none M name=some g) :
  Ev1 (fun k=>CF k g_dD_Sync n_dD_Sync [inj (.ref 29) (some d),inj (.int .i64) name,Ci F,Ck L,Cl S,Ct B,Cu sf]) (none,F,L,S,B,sf.set g ((B.getD g []).length:Int)):=by
 refine Ev1.step (fun k=>f_dD_Sync k (some d) name F L S B sf _ rfl) (Ev1.pos rfl (Ev1.pos rfl (Ev1.neg h.stop ?_)))
 simp only [Option.getD_some]
 rw [hM,hg]
 exact Ev1.neg rfl (Ev1.bind (works_ev h) (Ev1.neg rfl (Ev1.pos rfl (Ev1.pos rfl (Ev1.now _)))))
theorem remove_ev (h:Dk F R L S d) {M:MF} (hM:F.getD d []=M) {name:Int} {g:Nat} (hg:mapGet none M name=some g) :
  Ev1 (fun k=>CF k g_dD_Remove n_dD_Remove [inj (.ref 29) (some d),inj (.int .i64) name,Ci F,Ck L,Cl S]) (none,F.set d (mapDel M name),L,S):=by
 refine Ev1.step (fun k=>f_dD_Remove k (some d) name F L S) (Ev1.pos rfl (Ev1.neg h.stop (Ev1.pos rfl ?_)))
 simp only [Option.getD_some]
 rw [hM,hg]
 exact Ev1.neg rfl (Ev1.bind (works_ev h) (Ev1.neg rfl (Ev1.pos rfl (Ev1.now _))))
theorem rename_ev (h:Dk F R L S d) {M:MF} (hM:F.getD d []=M) {from_ to_:Int} {g:Nat} (hg:mapGet none M from_=some g) :
  Ev1 (fun k=>CF k g_dD_Rename n_dD_Rename [inj (.ref 29) (some d),inj (.int .i64) from_,inj (.int .i64) to_,Ci F,Ck L,Cl S]) (none,F.set d (mapPut (mapDel M from_) to_ (some g)),L,S):=by
 refine Ev1.step (fun k=>f_dD_Rename k (some d) from_ to_ F L S) (Ev1.pos rfl (Ev1.pos rfl (Ev1.neg h.stop ?_)))
 simp only [Option.getD_some]
 rw [hM,hg]
 refine Ev1.neg rfl (Ev1.bind (works_ev h) (Ev1.neg rfl (Ev1.pos rfl (Ev1.pos rfl ?_))))
 rw [getD_set_self _ _ _ _ h.hd,List.set_set]
 exact Ev1.now _
theorem read_none {M:MF} (hM:F.getD d []=M) {name:Int} (hg:mapGet none M name=none) :
  Ev1 (fun k=>CF k g_dD_Read n_dD_Read [inj (.ref 29) (some d),inj (.int .i64) name,Ci F,Ct B]) ([],false,F,B):=by
 refine Ev1.step (fun k=>f_dD_Read k (some d) name F B _ rfl) (Ev1.pos rfl ?_)
 simp only [Option.getD_some]
 subst hM
 simp only [hg]
 exact Ev1.pos rfl (Ev1.now _)
theorem read_some {M:MF} (hM:F.getD d []=M) {name:Int} {g:Nat} (hg:mapGet none M name=some g)(hl:(B.getD g []).length<=1000000) :
  Ev1 (fun k=>CF k g_dD_Read n_dD_Read [inj (.ref 29) (some d),inj (.int .i64) name,Ci F,Ct B]) (B.getD g [],true,F,B):=by
 refine Ev1.step (fun k=>f_dD_Read k (some d) name F B _ rfl) (Ev1.pos rfl ?_)
 simp only [Option.getD_some]
 subst hM
 simp only [hg]
 exact Ev1.neg rfl (Ev1.pos rfl (Ev1.posD (by simp only [Option.getD_some];omega) (Ev1.now _)))
theorem diskOf_ev (n:Int):Ev1 (fun k=>CF k g_disk_Of n_disk_Of [inj (.int .i64) n,Ci F,Cj R,Ck L,Cl S]) (some F.length,F++[[]],R++[maxI 0 (minI n 262144)],L++[-1],S++[false]):=Ev1.step (fun k=>f_disk_Of k n F R L S) (Ev1.now _)
end
end Go.Eng.Top
namespace Go.Eng.LCrc
open Go.Eng
theorem xor32 (a b:BitVec 32):wrapb .u32 .xor (a.toNat:Int) (b.toNat:Int)=((a ^^^ b).toNat:Int):=by
 have h1:BitVec.ofInt 32 (a.toNat:Int)=a:=by rw [BitVec.ofInt_natCast,BitVec.ofNat_toNat,BitVec.setWidth_eq]
 have h2:BitVec.ofInt 32 (b.toNat:Int)=b:=by rw [BitVec.ofInt_natCast,BitVec.ofNat_toNat,BitVec.setWidth_eq]
 show IntKind.u32.wrap ((BitVec.ofInt 32 (a.toNat:Int) ^^^ BitVec.ofInt 32 (b.toNat:Int)).toNat:Int)=_
 rw [h1,h2]
 have:=(a ^^^ b).isLt
 have hw:IntKind.u32.wrap ((a ^^^ b).toNat:Int)=((a ^^^ b).toNat:Int) % 4294967296:=by simp [IntKind.wrap,IntKind.bits,IntKind.signed]
 rw [hw];omega
theorem xor32i (a:BitVec 32)(c:Int):wrapb .u32 .xor (a.toNat:Int) (c % 4294967296)=((a ^^^ BitVec.ofInt 32 c).toNat:Int):=by
 rw [<- xor32]
 congr 1
 rw [BitVec.toNat_ofInt]
 omega
theorem and32_1 (a:BitVec 32):wrapb .u32 .and (a.toNat:Int) 1=(a.toNat:Int) % 2:=by
 have h1:BitVec.ofInt 32 (a.toNat:Int)=a:=by rw [BitVec.ofInt_natCast,BitVec.ofNat_toNat,BitVec.setWidth_eq]
 show IntKind.u32.wrap ((BitVec.ofInt 32 (a.toNat:Int) &&& BitVec.ofInt 32 1).toNat:Int)=_
 rw [h1]
 have h2:(a &&& BitVec.ofInt 32 1).toNat=a.toNat % 2:=by
  rw [BitVec.toNat_and,show (BitVec.ofInt 32 1).toNat=1 from rfl,Nat.and_one_is_mod]
 rw [h2]
 have hw:∀ x:Int,IntKind.u32.wrap x=x % 4294967296:=fun x=>by simp [IntKind.wrap,IntKind.bits,IntKind.signed]
 rw [hw];omega
def P:BitVec 32:=3988292384#32
def R (x:BitVec 32):BitVec 32:=(x >>> 1) ^^^ (if x.getLsbD 0=true then P else 0#32)
def Rn:Nat->BitVec 32->BitVec 32
 | 0,x=>x
 | n+1,x=>Rn n (R x)
def stp (r:BitVec 32)(c:Int):BitVec 32:=Rn 8 (r ^^^ BitVec.ofInt 32 c)
def fold (r:BitVec 32)(l:List Int):BitVec 32:=l.foldl stp r
def sumOf (l:List Int):Int:=((~~~ fold (BitVec.allOnes 32) l).toNat:Int)
theorem sumOf_lt (l:List Int):0<=sumOf l/\sumOf l < 4294967296:=by unfold sumOf;have:=(~~~ fold (BitVec.allOnes 32) l).isLt;omega
theorem half (x:BitVec 32):Int.ofNat x.toNat / (2:Int)=Int.ofNat (x >>> 1).toNat:=by
 rw [BitVec.toNat_ushiftRight,Nat.shiftRight_eq_div_pow];simp only [Int.ofNat_eq_natCast];omega
theorem lsb (x:BitVec 32):x.getLsbD 0=true ↔ (x.toNat:Int) % 2=1:=by
 rw [BitVec.getLsbD,Nat.testBit_zero];simp;omega
theorem R_odd {x:BitVec 32} (h:(x.toNat:Int) % 2=1):wrapb .u32 .xor ((x.toNat:Int) / 2) 3988292384=((R x).toNat:Int):=by
 have hh:(x.toNat:Int) / (2:Int)=((x >>> 1).toNat:Int):=half x
 rw [hh,show (3988292384:Int)=(P.toNat:Int) from rfl,xor32]
 unfold R;rw [if_pos ((lsb x).2 h)]
theorem R_even {x:BitVec 32} (h:¬ (x.toNat:Int) % 2=1):(x.toNat:Int) / 2=((R x).toNat:Int):=by
 have hh:(x.toNat:Int) / (2:Int)=((x >>> 1).toNat:Int):=half x
 rw [hh]
 unfold R;rw [if_neg (fun hh=>h ((lsb x).1 hh))];simp
theorem not32 (x:BitVec 32):wrapb .u32 .xor 4294967295 (x.toNat:Int)=((~~~ x).toNat:Int):=by
 rw [show (4294967295:Int)=((BitVec.allOnes 32).toNat:Int) from rfl,xor32,BitVec.allOnes_xor]
theorem drop_cons {l:List Int} {i:Nat} (h:i < l.length):l.drop i=l[i]::l.drop (i+1):=List.drop_eq_getElem_cons h
end Go.Eng.LCrc
namespace Go.Eng.Top
open Go.RowKit Go.Eng Go.Eng.LVar
abbrev sBy:Sig:=⟨[(true,.slice (.int .u8))],[]⟩
theorem vput_l0 (d:Nat):∀ (u:Nat)(x:List Int),u < d->u < 18446744073709551616->x.length+(enc u).length<=211106232532992->Ev2 (fun k m=>h_v_Put k m (u:Int) x) (x++enc u):=by
 induction d with
 | zero=>intro u x h;omega
 | succ d ih =>
  intro u x h hu hx
  refine Ev2.step (fun k m=>h_v_Put_s k m (u:Int) x _ rfl) ?_
  by_cases hb:128<=u
  ·rw [enc_big hb] at hx ⊢
   simp only [List.length_cons] at hx
   have hl:=List.length_pos_iff.2 (enc_ne (u / 128))
   refine Ev2.posD (by omega) (Ev2.posD (by simp only [List.length_cons,List.length_nil];omega) ?_)
   have e1:w8 (u:Int)=((u % 256:Nat):Int):=by rw [w8_mod];omega
   have e2:Int.fdiv (u:Int) 128=((u / 128:Nat):Int):=by rw [Int.fdiv_eq_ediv_of_nonneg _ (by omega)];omega
   rw [e1,e2,or8 _ (by omega)]
   have e3:u % 256 % 128=u % 128:=by omega
   rw [e3,show (x++((u % 128+128:Nat):Int)::enc (u / 128))=(x++[((u % 128+128:Nat):Int)])++enc (u / 128) by simp]
   exact ih (u / 128) _ (by omega) (by omega) (by simp;omega)
  ·rw [enc_small (by omega)] at hx ⊢
   simp only [List.length_singleton] at hx
   have h2:Ev2 (fun k m=>h_v_Put_1 k m (u:Int) x) (x++[(u:Int)]):=by
    refine Ev2.step (fun k m=>h_v_Put_1_s k m (u:Int) x) (Ev2.posD (by simp only [List.length_cons,List.length_nil];omega) (Ev2.const ?_))
    rw [show w8 (u:Int)=(u:Int) by rw [w8_mod];omega]
   exact Ev2.negD (by omega) (Ev1.drop h2.diag)
theorem vput_ev (x:List Int)(n:Int)(hn:-9223372036854775808<=n/\n<=9223372036854775807)(hx:x.length+20<=211106232532992):Ev1 (fun k=>CF k sBy n_v_Put [.val false [.mv (.int .u8) x],inj (.int .i64) n]) (x++enc (zig n)):=by
 have hz:=zig_lt hn
 have hl:=enc_len10 hz
 refine Ev1.step (fun k=>f_v_Put k x n _ rfl) ?_
 by_cases h:n < 0
 ·refine Ev1.posD h ?_
  have e:wu64 ((wu64 n) * 2)=((18446744073709551615 - zig n:Nat):Int):=by
   rw [wu64_mod,wu64_mod];unfold zig;rw [if_pos h];omega
  rw [e,not64 _ (by omega),show 18446744073709551615 - (18446744073709551615 - zig n)=zig n by omega]
  exact (vput_l0 (zig n+1) (zig n) x (by omega) hz (by omega)).diag
 ·refine Ev1.negD h ?_
  have e:wu64 ((wu64 n) * 2)=(zig n:Int):=by
   rw [wu64_mod,wu64_mod];unfold zig;rw [if_neg h];omega
  rw [e]
  exact (vput_l0 (zig n+1) (zig n) x (by omega) hz (by omega)).diag
theorem all_l0 (ns : List Int) (hn : I64 ns) (hl : 10 * ns.length + 30 ≤ 211106232532992) : ∀ (d i : Nat) (x : List Int), i + d = ns.length → x.length ≤ 10 * i → Ev2 (fun k m => h_v_All k m ns (ns.length : Int) (i : Int) x) (x ++ encs (ns.drop i))
  | 0, i, x, h, hx => by
    refine Ev2.step (fun k m => h_v_All_s k m ns (ns.length : Int) (i : Int) x) ?_
    refine Ev2.negD (by omega) (Ev2.const ?_)
    rw [List.drop_of_length_le (by omega)]; simp [encs]
  | d + 1, i, x, h, hx => by
    refine Ev2.step (fun k m => h_v_All_s k m ns (ns.length : Int) (i : Int) x) ?_
    refine Ev2.posD (by omega) (Ev2.pos (inb_true (by omega) (by omega)) ?_)
    rw [getD_nat ns i _ (by omega), wnat (by omega), List.drop_eq_getElem_cons (show i < ns.length by omega)]
    have hm := hn ns[i] (List.getElem_mem (by omega))
    have he := enc_len10 (zig_lt hm)
    refine Ev2.bind (vput_ev x _ hm (by omega)) ?_
    have := all_l0 ns hn hl d (i + 1) (x ++ enc (zig ns[i])) (by omega) (by simp; omega)
    simpa [encs] using this
theorem all_ev (ns : List Int) (hn : I64 ns) (hl : 10 * ns.length + 30 ≤ 211106232532992) : Ev1 (fun k => CF k sBy n_v_All [inj (.slice (.int .i64)) ns]) (encs ns) := by
  refine Ev1.step (fun k => f_v_All k ns) ?_
  have := (all_l0 ns hn hl ns.length 0 [] (by omega) (by simp)).diag
  rw [List.drop_zero, List.nil_append] at this
  exact this
end Go.Eng.Top
namespace Go.Eng.Top
open Go.RowKit Go.Eng Go.Eng.LCrc
abbrev sU:Sig:=⟨[(false,.int .u32)],[]⟩
theorem step_l0:∀ (d:Nat)(i:Int)(x:BitVec 32),0<=i->i+d=8->Ev2 (fun k m=>h_crc_step k m (x.toNat:Int) i) ((Rn d x).toNat:Int)
 | 0,i,x,h0,h=>Ev2.step (fun k m=>h_crc_step_s k m (x.toNat:Int) i _ rfl _ rfl) (Ev2.negD (by omega) (Ev2.now _))
 | d+1,i,x,h0,h=>by
  have hf:Int.fdiv (x.toNat:Int) 2=(x.toNat:Int) / 2:=Int.fdiv_eq_ediv_of_nonneg _ (by omega)
  refine Ev2.step (fun k m=>h_crc_step_s k m (x.toNat:Int) i _ (w64_id (by omega)).symm _ hf.symm) (Ev2.posD (by omega) ?_)
  rw [and32_1]
  by_cases hx:(x.toNat:Int) % 2=1
  ·refine Ev2.posD hx ?_
   rw [R_odd hx];exact step_l0 d (i+1) (R x) (by omega) (by omega)
  ·refine Ev2.negD hx ?_
   rw [R_even hx];exact step_l0 d (i+1) (R x) (by omega) (by omega)
theorem step_ev (r:BitVec 32)(c:Int):Ev1 (fun k=>CF k sU n_crc_step [inj (.int .u32) (r.toNat:Int),inj (.int .u8) c]) ((stp r c).toNat:Int):=by
 refine Ev1.step (fun k=>f_crc_step k (r.toNat:Int) c) ?_
 rw [w32_mod,xor32i]
 exact (step_l0 8 0 _ (by omega) (by omega)).diag
theorem sum_l0 (l : List Int) (hl : l.length ≤ 9223372036854775000) : ∀ (d i : Nat) (r : BitVec 32), i + d = l.length → Ev2 (fun k m => h_crc_Sum k m (r.toNat : Int) l (l.length : Int) (i : Int)) ((~~~ fold r (l.drop i)).toNat : Int)
  | 0, i, r, h => by
    refine Ev2.step (fun k m => h_crc_Sum_s k m (r.toNat : Int) l (l.length : Int) (i : Int)) (Ev2.negD (by omega) (Ev2.const ?_))
    rw [List.drop_of_length_le (by omega), not32]; rfl
  | d + 1, i, r, h => by
    refine Ev2.step (fun k m => h_crc_Sum_s k m (r.toNat : Int) l (l.length : Int) (i : Int)) (Ev2.posD (by omega) (Ev2.pos (inb_true (by omega) (by omega)) ?_))
    rw [getD_nat l i _ (by omega), wnat (by omega), drop_cons (show i < l.length by omega)]
    exact Ev2.bind (step_ev r _) (sum_l0 l hl d (i + 1) (stp r l[i]) (by omega))
theorem sum_ev (l : List Int) (hl : l.length ≤ 9223372036854775000) : Ev1 (fun k => CF k sU n_crc_Sum [inj (.slice (.int .u8)) l]) (sumOf l) := by
  refine Ev1.step (fun k => f_crc_Sum k l) ?_
  have := (sum_l0 l hl l.length 0 (BitVec.allOnes 32) (by omega)).diag
  rw [List.drop_zero] at this
  exact this
end Go.Eng.Top
namespace Go.Eng.LFrm
open Go.Eng Go.Eng.LCrc
def head (n s:Int):List Int:=[n / 256 % 256,n % 256,s / 16777216 % 256,s / 65536 % 256,s / 256 % 256,s % 256]
def fr (x:List Int):List Int:=head (x.length:Int) (sumOf x)++x
theorem fr_len (x:List Int):(fr x).length=6+x.length:=by simp [fr,head];omega
def lenOf (b:List Int):Int:=b.getD 0 0 * 256+b.getD 1 0
theorem byt_get {b:List Int} (h:Byt b)(i:Nat):0<=b.getD i 0/\b.getD i 0<=255:=by
 rw [List.getD_eq_getElem?_getD]
 cases hq:b[i]? with
 | none=>simp
 | some y=>exact h y (List.mem_of_getElem? hq)
end Go.Eng.LFrm
