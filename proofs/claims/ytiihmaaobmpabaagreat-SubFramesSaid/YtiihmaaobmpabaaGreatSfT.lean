/- What the kit's program says of the types that these functions use. -/
import Derived.Test.YtiihmaaobmpabaaGreatProg
import Derived.Test.YtiihmaaobmpabaaGreatJ3
namespace Go.Fo
abbrev J (x:Int):MV:=.int .i64 x
abbrev C (l:List MV):Option MObj:=some (.cells l)
abbrev M0 (x:List (Int)):MV:=.im (.slice (.int .i16)) x
abbrev W1 (x:List (Bool)):Option MObj:=some (.rows (.bool) x)
abbrev M2 (x:List (Int)):MV:=.im (.slice (.int .i64)) x
abbrev W3 (x:List (Int)):Option MObj:=some (.rows (.int .i16) x)
abbrev W4 (x:List (Int)):Option MObj:=some (.rows (.int .i64) x)
abbrev M5 (x:List (Int)):MV:=.im (.slice (.int .u8)) x
abbrev M6 (x:List (List (Int))):MV:=.im (.slice (.slice (.int .i64))) x
abbrev M7 (x:List (List (List (Int)))):MV:=.im (.slice (.slice (.slice (.int .i64)))) x
abbrev W8 (x:List (List (Int))):Option MObj:=some (.rows (.slice (.int .i64)) x)
abbrev W9 (x:List (List (List (Int)))):Option MObj:=some (.rows (.slice (.slice (.int .i64))) x)
abbrev W10 (x:List (Int)):Option MObj:=some (.rows (.int .u8) x)
abbrev M11 (x:List ((Int × Int))):MV:=.im (.slice (.pair (.int .i64) (.int .i64))) x
abbrev W12 (x:List ((Int × Int))):Option MObj:=some (.rows (.pair (.int .i64) (.int .i64)) x)
abbrev M13 (x:List (List (Int))):MV:=.im (.slice (.slice (.int .i16))) x
abbrev M14 (x:List (Int)):MV:=.im (.slice (.int .i32)) x
abbrev W15 (x:List (Int)):Option MObj:=some (.rows (.int .i32) x)
abbrev M16 (x:List (List (List (Int)))):MV:=.im (.slice (.slice (.slice (.int .i32)))) x
abbrev M17 (x:List (List (Int))):MV:=.im (.slice (.slice (.int .i32))) x
abbrev M18 (x:List (Bool)):MV:=.im (.slice (.bool)) x
abbrev W19 (x:List (List (Int))):Option MObj:=some (.rows (.slice (.int .i16)) x)
abbrev W20 (x:List (List (Int))):Option MObj:=some (.rows (.slice (.int .i32)) x)
abbrev W21 (x:List (List (List (Int)))):Option MObj:=some (.rows (.slice (.slice (.int .i32))) x)
open Go.Proofs
def ti2:TI:={ agg:=false,size:=1,bytes:=8,zero:=[.int .i64 0],ik:=some .i64 }
theorem H1:tokb Tryz.prog 2 ti2=true:=by kernel_rfl
def ti3:TI:={ agg:=false,size:=1,bytes:=8,zero:=[.int .i64 0],ik:=some .i64 }
theorem Hx:tokb Tryz.prog 3 ti3=true:=by kernel_rfl
def ti4:TI:={ agg:=false,size:=1,bytes:=1,zero:=[.bool false],tag:=1 }
theorem Mb:tokb Tryz.prog 4 ti4=true:=by kernel_rfl
def ti5:TI:={ agg:=false,size:=1,bytes:=1,zero:=[.int .u8 0],ik:=some .u8 }
theorem H5:tokb Tryz.prog 5 ti5=true:=by kernel_rfl
def ti9:TI:={ agg:=false,size:=1,bytes:=16,zero:=[.str ⟨#[]⟩],tag:=7 }
theorem Mc:tokb Tryz.prog 9 ti9=true:=by kernel_rfl
def gq:TI:={ agg:=false,size:=1,bytes:=4,zero:=[.int .i32 0],ik:=some .i32 }
theorem Ug:tokb Tryz.prog 21 gq=true:=by kernel_rfl
def Gt:TI:={ agg:=true,size:=10,bytes:=80,zero:=[.int .i64 0,.int .i64 0,.int .i64 0,.int .i64 0,.int .i64 0,.int .i64 0,.int .i64 0,.int .i64 0,.int .i64 0,.int .i64 0],fields:=[(0,1,false),(1,1,false),(2,1,false),(3,1,false),(4,1,false),(5,1,false),(6,1,false),(7,1,false),(8,1,false),(9,1,false)] }
theorem Uf:tokb Tryz.prog 23 Gt=true:=by kernel_rfl
def G6:TI:={ agg:=false,size:=1,bytes:=24,zero:=[.nils],elem:=107,esz:=1,slc:=true,ek:=some (.int .i16),eb:=2,tag:=3 }
theorem uO:tokb Tryz.prog 24 G6=true:=by kernel_rfl
def Gg:TI:={ agg:=false,size:=1,bytes:=8,zero:=[.nilp],tag:=2 }
theorem VQ:tokb Tryz.prog 26 Gg=true:=by kernel_rfl
def GJ:TI:={ agg:=false,size:=1,bytes:=8,zero:=[.nilp],tag:=2 }
theorem V3:tokb Tryz.prog 30 GJ=true:=by kernel_rfl
def MZ:TI:={ agg:=false,size:=1,bytes:=24,zero:=[.nils],elem:=24,esz:=1,slc:=true,ek:=some (.slice (.int .i16)),eb:=24,rr:=some (.int .i16),tag:=3 }
theorem Ms:tokb Tryz.prog 34 MZ=true:=by kernel_rfl
def u6:TI:={ agg:=false,size:=1,bytes:=24,zero:=[.nils],elem:=5,esz:=1,slc:=true,ek:=some (.int .u8),eb:=1,tag:=3 }
theorem VG:tokb Tryz.prog 35 u6=true:=by kernel_rfl
def Gq:TI:={ agg:=false,size:=1,bytes:=24,zero:=[.nils],elem:=3,esz:=1,slc:=true,ek:=some (.int .i64),eb:=8,tag:=3 }
theorem VT:tokb Tryz.prog 41 Gq=true:=by kernel_rfl
def MJ:TI:={ agg:=false,size:=1,bytes:=24,zero:=[.nils],elem:=41,esz:=1,slc:=true,ek:=some (.slice (.int .i64)),eb:=24,rr:=some (.int .i64),tag:=3 }
theorem MR:tokb Tryz.prog 42 MJ=true:=by kernel_rfl
def MP:TI:={ agg:=false,size:=1,bytes:=24,zero:=[.nils],elem:=42,esz:=1,slc:=true,ek:=some (.slice (.slice (.int .i64))),eb:=24,rr:=some (.slice (.int .i64)),tag:=3 }
theorem M8:tokb Tryz.prog 43 MP=true:=by kernel_rfl
def GE:TI:={ agg:=true,size:=3,bytes:=72,zero:=[.nils,.nils,.nils],fields:=[(0,1,false),(1,1,false),(2,1,false)] }
theorem U8:tokb Tryz.prog 45 GE=true:=by kernel_rfl
def gu:TI:={ agg:=false,size:=1,bytes:=24,zero:=[.nils],elem:=52,esz:=1,slc:=true,tag:=3 }
theorem UN:tokb Tryz.prog 49 gu=true:=by kernel_rfl
def Gm:TI:={ agg:=true,size:=11,bytes:=104,zero:=[.int .i64 0,.int .i64 0,.int .i64 0,.int .i64 0,.int .i64 0,.int .i64 0,.int .i64 0,.int .i64 0,.int .i64 0,.int .i64 0,.nils],fields:=[(0,10,true),(10,1,false)] }
theorem VE:tokb Tryz.prog 51 Gm=true:=by kernel_rfl
def GM:TI:={ agg:=false,size:=1,bytes:=8,zero:=[.nilp],tag:=2 }
theorem UW:tokb Tryz.prog 52 GM=true:=by kernel_rfl
def uP:TI:={ agg:=false,size:=1,bytes:=4,zero:=[.int .u32 0],ik:=some .u32 }
theorem Ur:tokb Tryz.prog 58 uP=true:=by kernel_rfl
def Gn:TI:={ agg:=true,size:=3,bytes:=12,zero:=[.int .u32 0,.int .i32 0,.int .u32 0],fields:=[(0,0,true),(0,1,true),(1,2,true)] }
theorem VV:tokb Tryz.prog 66 Gn=true:=by kernel_rfl
def G5:TI:={ agg:=true,size:=4,bytes:=40,zero:=[.int .u32 0,.int .i32 0,.int .u32 0,.nils],fields:=[(0,3,true),(3,1,false)] }
theorem U2:tokb Tryz.prog 68 G5=true:=by kernel_rfl
def GF:TI:={ agg:=true,size:=1028,bytes:=10280,zero:=tcs (List.replicate 257 none),elem:=68,esz:=4,alen:=257,eagg:=true,arr:=true }
theorem UJ:tokb Tryz.prog 69 GF=true:=by kernel_rfl
def GZ:TI:={ agg:=true,size:=8,bytes:=80,zero:=[.int .u32 0,.int .i32 0,.int .u32 0,.nils,.int .u32 0,.int .i32 0,.int .u32 0,.nils],elem:=68,esz:=4,alen:=2,eagg:=true,arr:=true }
theorem uM:tokb Tryz.prog 71 GZ=true:=by kernel_rfl
def gC:TI:={ agg:=true,size:=1554,bytes:=15536,zero:=pst (List.replicate 388 none) 0 0,fields:=[(0,1028,true),(1028,516,true),(1544,8,true),(1552,1,true),(1553,1,true)] }
theorem Uc:tokb Tryz.prog 76 gC=true:=by kernel_rfl
def MC:TI:={ agg:=false,size:=1,bytes:=24,zero:=[.nils],elem:=83,esz:=1,slc:=true,ek:=some (.slice (.slice (.int .i32))),eb:=24,rr:=some (.slice (.int .i32)),tag:=3 }
theorem MK:tokb Tryz.prog 79 MC=true:=by kernel_rfl
def uX:TI:={ agg:=false,size:=1,bytes:=24,zero:=[.nils],elem:=21,esz:=1,slc:=true,ek:=some (.int .i32),eb:=4,tag:=3 }
theorem UQ:tokb Tryz.prog 80 uX=true:=by kernel_rfl
def MY:TI:={ agg:=false,size:=1,bytes:=24,zero:=[.nils],elem:=80,esz:=1,slc:=true,ek:=some (.slice (.int .i32)),eb:=24,rr:=some (.int .i32),tag:=3 }
theorem ML:tokb Tryz.prog 83 MY=true:=by kernel_rfl
def Gk:TI:={ agg:=true,size:=3,bytes:=72,zero:=[.nils,.nils,.nils],fields:=[(0,1,false),(1,1,false),(2,1,false)] }
theorem UZ:tokb Tryz.prog 89 Gk=true:=by kernel_rfl
def gF:TI:={ agg:=false,size:=1,bytes:=8,zero:=[.nilp],tag:=2 }
theorem Ue:tokb Tryz.prog 91 gF=true:=by kernel_rfl
def YM:TI:={ agg:=true,size:=3,bytes:=56,zero:=[.int .i64 0,.nils,.nils],fields:=[(0,1,false),(1,1,false),(2,1,false)] }
theorem Xt:tokb Tryz.prog 101 YM=true:=by kernel_rfl
def Y2:TI:={ agg:=false,size:=1,bytes:=24,zero:=[.nils],elem:=2,esz:=1,slc:=true,ek:=some (.int .i64),eb:=8,tag:=3 }
theorem Xi:tokb Tryz.prog 104 Y2=true:=by kernel_rfl
def X6:TI:={ agg:=true,size:=4,bytes:=80,zero:=[.int .i64 0,.nils,.nils,.nils],fields:=[(0,3,true),(3,1,false)] }
theorem XA:tokb Tryz.prog 106 X6=true:=by kernel_rfl
def YR:TI:={ agg:=false,size:=1,bytes:=2,zero:=[.int .i16 0],ik:=some .i16 }
theorem XI:tokb Tryz.prog 107 YR=true:=by kernel_rfl
def Yz:TI:={ agg:=false,size:=1,bytes:=24,zero:=[.nils],elem:=4,esz:=1,slc:=true,ek:=some (.bool),eb:=1,tag:=3 }
theorem JY:tokb Tryz.prog 111 Yz=true:=by kernel_rfl
def Yn:TI:={ agg:=false,size:=1,bytes:=8,zero:=[.nilp],tag:=2 }
theorem XB:tokb Tryz.prog 122 Yn=true:=by kernel_rfl
def XT:TI:={ agg:=true,size:=2,bytes:=16,zero:=[.int .i64 0,.int .i64 0],elem:=3,esz:=1,alen:=2,eagg:=false,arr:=true }
theorem JJ:tokb Tryz.prog 126 XT=true:=by kernel_rfl
def YV:TI:={ agg:=false,size:=1,bytes:=24,zero:=[.nils],elem:=126,esz:=2,slc:=true,ek:=some (.pair (.int .i64) (.int .i64)),eb:=16,tag:=3 }
theorem Xk:tokb Tryz.prog 127 YV=true:=by kernel_rfl
def YO:TI:={ agg:=true,size:=2,bytes:=16,zero:=[.int .i64 0,.int .i64 0],fields:=[(0,1,false),(1,1,false)] }
theorem XG:tokb Tryz.prog 147 YO=true:=by kernel_rfl
def YN:TI:={ agg:=true,size:=3,bytes:=40,zero:=[.int .i64 0,.int .i64 0,.nils],fields:=[(0,2,true),(2,1,false)] }
theorem JK:tokb Tryz.prog 149 YN=true:=by kernel_rfl
def Y5:TI:={ agg:=false,size:=1,bytes:=8,zero:=[.int .u64 0],ik:=some .u64 }
theorem JN:tokb Tryz.prog 151 Y5=true:=by kernel_rfl
def Y7:TI:={ agg:=false,size:=1,bytes:=8,zero:=[.nilp],tag:=2 }
theorem JR:tokb Tryz.prog 155 Y7=true:=by kernel_rfl
def Yr:TI:={ agg:=true,size:=5,bytes:=72,zero:=[.int .i64 0,.int .i64 0,.int .i64 0,.nils,.nils],fields:=[(0,1,false),(1,1,false),(2,1,false),(3,1,false),(4,1,false)] }
theorem Xw:tokb Tryz.prog 157 Yr=true:=by kernel_rfl
def XX:TI:={ agg:=false,size:=1,bytes:=8,zero:=[.nilf],tag:=4 }
theorem XD:tokb Tryz.prog 168 XX=true:=by kernel_rfl
def XP:TI:={ agg:=false,size:=1,bytes:=8,zero:=[.nilf],tag:=4 }
theorem JP:tokb Tryz.prog 169 XP=true:=by kernel_rfl
def Ym:TI:={ agg:=true,size:=4,bytes:=96,zero:=[.nils,.nils,.nils,.nils],elem:=41,esz:=1,alen:=4,eagg:=false,arr:=true }
theorem XJ:tokb Tryz.prog 171 Ym=true:=by kernel_rfl
def YZ:TI:={ agg:=true,size:=4,bytes:=96,zero:=[.nils,.nils,.nils,.nils],elem:=83,esz:=1,alen:=4,eagg:=false,arr:=true }
theorem JZ:tokb Tryz.prog 172 YZ=true:=by kernel_rfl
def YQ:TI:={ agg:=false,size:=1,bytes:=8,zero:=[.nilf],tag:=4 }
theorem J1:tokb Tryz.prog 183 YQ=true:=by kernel_rfl
def Yu:TI:={ agg:=false,size:=1,bytes:=8,zero:=[.nilf],tag:=4 }
theorem J4:tokb Tryz.prog 186 Yu=true:=by kernel_rfl
def YX:TI:={ agg:=true,size:=3,bytes:=40,zero:=[.int .i64 0,.int .i64 0,.nils],fields:=[(0,2,true),(2,1,false)] }
theorem J9:tokb Tryz.prog 189 YX=true:=by kernel_rfl
def YB:TI:={ agg:=true,size:=3,bytes:=40,zero:=[.nils,.int .i64 0,.int .i64 0],fields:=[(0,1,false),(1,1,false),(2,1,false)] }
theorem JU:tokb Tryz.prog 199 YB=true:=by kernel_rfl
def XV:TI:={ agg:=false,size:=1,bytes:=8,zero:=[.nilp],tag:=2 }
theorem Xg:tokb Tryz.prog 214 XV=true:=by kernel_rfl
def XW:TI:={ agg:=false,size:=1,bytes:=8,zero:=[.nilf],tag:=4 }
theorem Xx:tokb Tryz.prog 215 XW=true:=by kernel_rfl
def YP:TI:={ agg:=true,size:=3,bytes:=16,zero:=[.int .i64 0,.int .u32 0,.int .u32 0],fields:=[(0,1,false),(1,1,false),(2,1,false)] }
theorem Xn:tokb Tryz.prog 226 YP=true:=by kernel_rfl
def X2:TI:={ agg:=true,size:=4,bytes:=32,zero:=[.int .i64 0,.int .i64 0,.int .i64 0,.int .i64 0],elem:=3,esz:=1,alen:=4,eagg:=false,arr:=true }
theorem JI:tokb Tryz.prog 233 X2=true:=by kernel_rfl
def YW:TI:={ agg:=true,size:=16,bytes:=128,zero:=[.int .i64 0,.int .i64 0,.int .i64 0,.int .i64 0,.int .i64 0,.int .i64 0,.int .i64 0,.int .i64 0,.int .i64 0,.int .i64 0,.int .i64 0,.int .i64 0,.int .i64 0,.int .i64 0,.int .i64 0,.int .i64 0],elem:=233,esz:=4,alen:=4,eagg:=true,arr:=true }
theorem J5:tokb Tryz.prog 245 YW=true:=by kernel_rfl
def XO:TI:={ agg:=true,size:=8,bytes:=64,zero:=[.int .i64 0,.int .i64 0,.int .i64 0,.int .i64 0,.int .i64 0,.int .i64 0,.int .i64 0,.int .i64 0],elem:=3,esz:=1,alen:=8,eagg:=false,arr:=true }
theorem Xz:tokb Tryz.prog 247 XO=true:=by kernel_rfl
def XM:TI:={ agg:=true,size:=32,bytes:=256,zero:=[.int .i64 0,.int .i64 0,.int .i64 0,.int .i64 0,.int .i64 0,.int .i64 0,.int .i64 0,.int .i64 0,.int .i64 0,.int .i64 0,.int .i64 0,.int .i64 0,.int .i64 0,.int .i64 0,.int .i64 0,.int .i64 0,.int .i64 0,.int .i64 0,.int .i64 0,.int .i64 0,.int .i64 0,.int .i64 0,.int .i64 0,.int .i64 0,.int .i64 0,.int .i64 0,.int .i64 0,.int .i64 0,.int .i64 0,.int .i64 0,.int .i64 0,.int .i64 0],elem:=247,esz:=8,alen:=4,eagg:=true,arr:=true }
theorem Xl:tokb Tryz.prog 248 XM=true:=by kernel_rfl
def YY:TI:={ agg:=false,size:=1,bytes:=8,zero:=[.int .u64 0],ik:=some .u64 }
theorem Xr:tokb Tryz.prog 255 YY=true:=by kernel_rfl
def Yg:TI:={ agg:=true,size:=4,bytes:=32,zero:=[.int .u64 0,.int .u64 0,.int .u64 0,.int .u64 0],elem:=255,esz:=1,alen:=4,eagg:=false,arr:=true }
theorem JT:tokb Tryz.prog 258 Yg=true:=by kernel_rfl
def tab:Nat->Option TI
  | 2=>some ti2
  | 3=>some ti3
  | 4=>some ti4
  | 5=>some ti5
  | 9=>some ti9
  | 21=>some gq
  | 23=>some Gt
  | 24=>some G6
  | 26=>some Gg
  | 30=>some GJ
  | 34=>some MZ
  | 35=>some u6
  | 41=>some Gq
  | 42=>some MJ
  | 43=>some MP
  | 45=>some GE
  | 49=>some gu
  | 51=>some Gm
  | 52=>some GM
  | 58=>some uP
  | 66=>some Gn
  | 68=>some G5
  | 69=>some GF
  | 71=>some GZ
  | 76=>some gC
  | 79=>some MC
  | 80=>some uX
  | 83=>some MY
  | 89=>some Gk
  | 91=>some gF
  | 101=>some YM
  | 104=>some Y2
  | 106=>some X6
  | 107=>some YR
  | 111=>some Yz
  | 122=>some Yn
  | 126=>some XT
  | 127=>some YV
  | 147=>some YO
  | 149=>some YN
  | 151=>some Y5
  | 155=>some Y7
  | 157=>some Yr
  | 168=>some XX
  | 169=>some XP
  | 171=>some Ym
  | 172=>some YZ
  | 183=>some YQ
  | 186=>some Yu
  | 189=>some YX
  | 199=>some YB
  | 214=>some XV
  | 215=>some XW
  | 226=>some YP
  | 233=>some X2
  | 245=>some YW
  | 247=>some XO
  | 248=>some XM
  | 255=>some YY
  | 258=>some Yg
  | _=>none
theorem H2 (t:Nat) (i:TI) (h:tab t=some i):TOK Tryz.prog t i:=by
 unfold tab at h
 split at h
 ·cases h; exact wi H1
 ·cases h; exact wi Hx
 ·cases h; exact wi Mb
 ·cases h; exact wi H5
 ·cases h; exact wi Mc
 ·cases h; exact wi Ug
 ·cases h; exact wi Uf
 ·cases h; exact wi uO
 ·cases h; exact wi VQ
 ·cases h; exact wi V3
 ·cases h; exact wi Ms
 ·cases h; exact wi VG
 ·cases h; exact wi VT
 ·cases h; exact wi MR
 ·cases h; exact wi M8
 ·cases h; exact wi U8
 ·cases h; exact wi UN
 ·cases h; exact wi VE
 ·cases h; exact wi UW
 ·cases h; exact wi Ur
 ·cases h; exact wi VV
 ·cases h; exact wi U2
 ·cases h; exact wi UJ
 ·cases h; exact wi uM
 ·cases h; exact wi Uc
 ·cases h; exact wi MK
 ·cases h; exact wi UQ
 ·cases h; exact wi ML
 ·cases h; exact wi UZ
 ·cases h; exact wi Ue
 ·cases h; exact wi Xt
 ·cases h; exact wi Xi
 ·cases h; exact wi XA
 ·cases h; exact wi XI
 ·cases h; exact wi JY
 ·cases h; exact wi XB
 ·cases h; exact wi JJ
 ·cases h; exact wi Xk
 ·cases h; exact wi XG
 ·cases h; exact wi JK
 ·cases h; exact wi JN
 ·cases h; exact wi JR
 ·cases h; exact wi Xw
 ·cases h; exact wi XD
 ·cases h; exact wi JP
 ·cases h; exact wi XJ
 ·cases h; exact wi JZ
 ·cases h; exact wi J1
 ·cases h; exact wi J4
 ·cases h; exact wi J9
 ·cases h; exact wi JU
 ·cases h; exact wi Xg
 ·cases h; exact wi Xx
 ·cases h; exact wi Xn
 ·cases h; exact wi JI
 ·cases h; exact wi J5
 ·cases h; exact wi Xz
 ·cases h; exact wi Xl
 ·cases h; exact wi Xr
 ·cases h; exact wi JT
 ·cases h
theorem H9 (t:Nat) (i:TI) (h:tab t=some i) (e:i.eqf=true):EqF Tryz.prog t i:=by
 unfold tab at h
 split at h
 ·cases h; cases e
 ·cases h; cases e
 ·cases h; cases e
 ·cases h; cases e
 ·cases h; cases e
 ·cases h; cases e
 ·cases h; cases e
 ·cases h; cases e
 ·cases h; cases e
 ·cases h; cases e
 ·cases h; cases e
 ·cases h; cases e
 ·cases h; cases e
 ·cases h; cases e
 ·cases h; cases e
 ·cases h; cases e
 ·cases h; cases e
 ·cases h; cases e
 ·cases h; cases e
 ·cases h; cases e
 ·cases h; cases e
 ·cases h; cases e
 ·cases h; cases e
 ·cases h; cases e
 ·cases h; cases e
 ·cases h; cases e
 ·cases h; cases e
 ·cases h; cases e
 ·cases h; cases e
 ·cases h; cases e
 ·cases h; cases e
 ·cases h; cases e
 ·cases h; cases e
 ·cases h; cases e
 ·cases h; cases e
 ·cases h; cases e
 ·cases h; cases e
 ·cases h; cases e
 ·cases h; cases e
 ·cases h; cases e
 ·cases h; cases e
 ·cases h; cases e
 ·cases h; cases e
 ·cases h; cases e
 ·cases h; cases e
 ·cases h; cases e
 ·cases h; cases e
 ·cases h; cases e
 ·cases h; cases e
 ·cases h; cases e
 ·cases h; cases e
 ·cases h; cases e
 ·cases h; cases e
 ·cases h; cases e
 ·cases h; cases e
 ·cases h; cases e
 ·cases h; cases e
 ·cases h; cases e
 ·cases h; cases e
 ·cases h; cases e
 ·cases h
def gK:TI:={ agg:=false,size:=1,bytes:=24,zero:=[.nils],elem:=24,esz:=1,slc:=true,tag:=3 }
theorem HR:tokb Tryz.prog 34 gK=true:=by kernel_rfl
def gM:TI:={ agg:=false,size:=1,bytes:=24,zero:=[.nils],elem:=41,esz:=1,slc:=true,tag:=3 }
theorem HH:tokb Tryz.prog 42 gM=true:=by kernel_rfl
def Hc:TI:={ agg:=false,size:=1,bytes:=24,zero:=[.nils],elem:=42,esz:=1,slc:=true,tag:=3 }
theorem HL:tokb Tryz.prog 43 Hc=true:=by kernel_rfl
def gQ:TI:={ agg:=false,size:=1,bytes:=24,zero:=[.nils],elem:=83,esz:=1,slc:=true,tag:=3 }
theorem HD:tokb Tryz.prog 79 gQ=true:=by kernel_rfl
def g9:TI:={ agg:=false,size:=1,bytes:=24,zero:=[.nils],elem:=80,esz:=1,slc:=true,tag:=3 }
theorem H4:tokb Tryz.prog 83 g9=true:=by kernel_rfl
def uy:Nat->Option TI
  | 2=>some ti2
  | 3=>some ti3
  | 4=>some ti4
  | 5=>some ti5
  | 9=>some ti9
  | 21=>some gq
  | 23=>some Gt
  | 24=>some G6
  | 26=>some Gg
  | 30=>some GJ
  | 34=>some gK
  | 35=>some u6
  | 41=>some Gq
  | 42=>some gM
  | 43=>some Hc
  | 45=>some GE
  | 49=>some gu
  | 51=>some Gm
  | 52=>some GM
  | 58=>some uP
  | 66=>some Gn
  | 68=>some G5
  | 69=>some GF
  | 71=>some GZ
  | 76=>some gC
  | 79=>some gQ
  | 80=>some uX
  | 83=>some g9
  | 89=>some Gk
  | 91=>some gF
  | 101=>some YM
  | 104=>some Y2
  | 106=>some X6
  | 107=>some YR
  | 111=>some Yz
  | 122=>some Yn
  | 126=>some XT
  | 127=>some YV
  | 147=>some YO
  | 149=>some YN
  | 151=>some Y5
  | 155=>some Y7
  | 157=>some Yr
  | 168=>some XX
  | 169=>some XP
  | 171=>some Ym
  | 172=>some YZ
  | 183=>some YQ
  | 186=>some Yu
  | 189=>some YX
  | 199=>some YB
  | 214=>some XV
  | 215=>some XW
  | 226=>some YP
  | 233=>some X2
  | 245=>some YW
  | 247=>some XO
  | 248=>some XM
  | 255=>some YY
  | 258=>some Yg
  | _=>none
theorem GW (t:Nat) (i:TI) (h:uy t=some i):TOK Tryz.prog t i:=by
 unfold uy at h
 split at h
 ·cases h; exact wi H1
 ·cases h; exact wi Hx
 ·cases h; exact wi Mb
 ·cases h; exact wi H5
 ·cases h; exact wi Mc
 ·cases h; exact wi Ug
 ·cases h; exact wi Uf
 ·cases h; exact wi uO
 ·cases h; exact wi VQ
 ·cases h; exact wi V3
 ·cases h; exact wi HR
 ·cases h; exact wi VG
 ·cases h; exact wi VT
 ·cases h; exact wi HH
 ·cases h; exact wi HL
 ·cases h; exact wi U8
 ·cases h; exact wi UN
 ·cases h; exact wi VE
 ·cases h; exact wi UW
 ·cases h; exact wi Ur
 ·cases h; exact wi VV
 ·cases h; exact wi U2
 ·cases h; exact wi UJ
 ·cases h; exact wi uM
 ·cases h; exact wi Uc
 ·cases h; exact wi HD
 ·cases h; exact wi UQ
 ·cases h; exact wi H4
 ·cases h; exact wi UZ
 ·cases h; exact wi Ue
 ·cases h; exact wi Xt
 ·cases h; exact wi Xi
 ·cases h; exact wi XA
 ·cases h; exact wi XI
 ·cases h; exact wi JY
 ·cases h; exact wi XB
 ·cases h; exact wi JJ
 ·cases h; exact wi Xk
 ·cases h; exact wi XG
 ·cases h; exact wi JK
 ·cases h; exact wi JN
 ·cases h; exact wi JR
 ·cases h; exact wi Xw
 ·cases h; exact wi XD
 ·cases h; exact wi JP
 ·cases h; exact wi XJ
 ·cases h; exact wi JZ
 ·cases h; exact wi J1
 ·cases h; exact wi J4
 ·cases h; exact wi J9
 ·cases h; exact wi JU
 ·cases h; exact wi Xg
 ·cases h; exact wi Xx
 ·cases h; exact wi Xn
 ·cases h; exact wi JI
 ·cases h; exact wi J5
 ·cases h; exact wi Xz
 ·cases h; exact wi Xl
 ·cases h; exact wi Xr
 ·cases h; exact wi JT
 ·cases h
theorem u5 (t:Nat) (i:TI) (h:uy t=some i) (e:i.eqf=true):EqF Tryz.prog t i:=by
 unfold uy at h
 split at h
 ·cases h; cases e
 ·cases h; cases e
 ·cases h; cases e
 ·cases h; cases e
 ·cases h; cases e
 ·cases h; cases e
 ·cases h; cases e
 ·cases h; cases e
 ·cases h; cases e
 ·cases h; cases e
 ·cases h; cases e
 ·cases h; cases e
 ·cases h; cases e
 ·cases h; cases e
 ·cases h; cases e
 ·cases h; cases e
 ·cases h; cases e
 ·cases h; cases e
 ·cases h; cases e
 ·cases h; cases e
 ·cases h; cases e
 ·cases h; cases e
 ·cases h; cases e
 ·cases h; cases e
 ·cases h; cases e
 ·cases h; cases e
 ·cases h; cases e
 ·cases h; cases e
 ·cases h; cases e
 ·cases h; cases e
 ·cases h; cases e
 ·cases h; cases e
 ·cases h; cases e
 ·cases h; cases e
 ·cases h; cases e
 ·cases h; cases e
 ·cases h; cases e
 ·cases h; cases e
 ·cases h; cases e
 ·cases h; cases e
 ·cases h; cases e
 ·cases h; cases e
 ·cases h; cases e
 ·cases h; cases e
 ·cases h; cases e
 ·cases h; cases e
 ·cases h; cases e
 ·cases h; cases e
 ·cases h; cases e
 ·cases h; cases e
 ·cases h; cases e
 ·cases h; cases e
 ·cases h; cases e
 ·cases h; cases e
 ·cases h; cases e
 ·cases h; cases e
 ·cases h; cases e
 ·cases h; cases e
 ·cases h; cases e
 ·cases h; cases e
 ·cases h
def My:Env Tryz.prog:=⟨uy,GW,u5⟩
def gY:TI:={ agg:=false,size:=1,bytes:=24,zero:=[.nils],elem:=24,esz:=1,slc:=true,ek:=some (.slice (.int .i16)),eb:=24,tag:=3 }
theorem Hv:tokb Tryz.prog 34 gY=true:=by kernel_rfl
def Hf:TI:={ agg:=false,size:=1,bytes:=24,zero:=[.nils],elem:=41,esz:=1,slc:=true,ek:=some (.slice (.int .i64)),eb:=24,tag:=3 }
theorem HF:tokb Tryz.prog 42 Hf=true:=by kernel_rfl
def gZ:TI:={ agg:=false,size:=1,bytes:=24,zero:=[.nils],elem:=42,esz:=1,slc:=true,ek:=some (.slice (.slice (.int .i64))),eb:=24,tag:=3 }
theorem Hu:tokb Tryz.prog 43 gZ=true:=by kernel_rfl
def gW:TI:={ agg:=false,size:=1,bytes:=24,zero:=[.nils],elem:=83,esz:=1,slc:=true,ek:=some (.slice (.slice (.int .i32))),eb:=24,tag:=3 }
theorem HS:tokb Tryz.prog 79 gW=true:=by kernel_rfl
def gH:TI:={ agg:=false,size:=1,bytes:=24,zero:=[.nils],elem:=80,esz:=1,slc:=true,ek:=some (.slice (.int .i32)),eb:=24,tag:=3 }
theorem Hy:tokb Tryz.prog 83 gH=true:=by kernel_rfl
def U1:Nat->Option TI
  | 2=>some ti2
  | 3=>some ti3
  | 4=>some ti4
  | 5=>some ti5
  | 9=>some ti9
  | 21=>some gq
  | 23=>some Gt
  | 24=>some G6
  | 26=>some Gg
  | 30=>some GJ
  | 34=>some gY
  | 35=>some u6
  | 41=>some Gq
  | 42=>some Hf
  | 43=>some gZ
  | 45=>some GE
  | 49=>some gu
  | 51=>some Gm
  | 52=>some GM
  | 58=>some uP
  | 66=>some Gn
  | 68=>some G5
  | 69=>some GF
  | 71=>some GZ
  | 76=>some gC
  | 79=>some gW
  | 80=>some uX
  | 83=>some gH
  | 89=>some Gk
  | 91=>some gF
  | 101=>some YM
  | 104=>some Y2
  | 106=>some X6
  | 107=>some YR
  | 111=>some Yz
  | 122=>some Yn
  | 126=>some XT
  | 127=>some YV
  | 147=>some YO
  | 149=>some YN
  | 151=>some Y5
  | 155=>some Y7
  | 157=>some Yr
  | 168=>some XX
  | 169=>some XP
  | 171=>some Ym
  | 172=>some YZ
  | 183=>some YQ
  | 186=>some Yu
  | 189=>some YX
  | 199=>some YB
  | 214=>some XV
  | 215=>some XW
  | 226=>some YP
  | 233=>some X2
  | 245=>some YW
  | 247=>some XO
  | 248=>some XM
  | 255=>some YY
  | 258=>some Yg
  | _=>none
theorem G2 (t:Nat) (i:TI) (h:U1 t=some i):TOK Tryz.prog t i:=by
 unfold U1 at h
 split at h
 ·cases h; exact wi H1
 ·cases h; exact wi Hx
 ·cases h; exact wi Mb
 ·cases h; exact wi H5
 ·cases h; exact wi Mc
 ·cases h; exact wi Ug
 ·cases h; exact wi Uf
 ·cases h; exact wi uO
 ·cases h; exact wi VQ
 ·cases h; exact wi V3
 ·cases h; exact wi Hv
 ·cases h; exact wi VG
 ·cases h; exact wi VT
 ·cases h; exact wi HF
 ·cases h; exact wi Hu
 ·cases h; exact wi U8
 ·cases h; exact wi UN
 ·cases h; exact wi VE
 ·cases h; exact wi UW
 ·cases h; exact wi Ur
 ·cases h; exact wi VV
 ·cases h; exact wi U2
 ·cases h; exact wi UJ
 ·cases h; exact wi uM
 ·cases h; exact wi Uc
 ·cases h; exact wi HS
 ·cases h; exact wi UQ
 ·cases h; exact wi Hy
 ·cases h; exact wi UZ
 ·cases h; exact wi Ue
 ·cases h; exact wi Xt
 ·cases h; exact wi Xi
 ·cases h; exact wi XA
 ·cases h; exact wi XI
 ·cases h; exact wi JY
 ·cases h; exact wi XB
 ·cases h; exact wi JJ
 ·cases h; exact wi Xk
 ·cases h; exact wi XG
 ·cases h; exact wi JK
 ·cases h; exact wi JN
 ·cases h; exact wi JR
 ·cases h; exact wi Xw
 ·cases h; exact wi XD
 ·cases h; exact wi JP
 ·cases h; exact wi XJ
 ·cases h; exact wi JZ
 ·cases h; exact wi J1
 ·cases h; exact wi J4
 ·cases h; exact wi J9
 ·cases h; exact wi JU
 ·cases h; exact wi Xg
 ·cases h; exact wi Xx
 ·cases h; exact wi Xn
 ·cases h; exact wi JI
 ·cases h; exact wi J5
 ·cases h; exact wi Xz
 ·cases h; exact wi Xl
 ·cases h; exact wi Xr
 ·cases h; exact wi JT
 ·cases h
theorem GI (t:Nat) (i:TI) (h:U1 t=some i) (e:i.eqf=true):EqF Tryz.prog t i:=by
 unfold U1 at h
 split at h
 ·cases h; cases e
 ·cases h; cases e
 ·cases h; cases e
 ·cases h; cases e
 ·cases h; cases e
 ·cases h; cases e
 ·cases h; cases e
 ·cases h; cases e
 ·cases h; cases e
 ·cases h; cases e
 ·cases h; cases e
 ·cases h; cases e
 ·cases h; cases e
 ·cases h; cases e
 ·cases h; cases e
 ·cases h; cases e
 ·cases h; cases e
 ·cases h; cases e
 ·cases h; cases e
 ·cases h; cases e
 ·cases h; cases e
 ·cases h; cases e
 ·cases h; cases e
 ·cases h; cases e
 ·cases h; cases e
 ·cases h; cases e
 ·cases h; cases e
 ·cases h; cases e
 ·cases h; cases e
 ·cases h; cases e
 ·cases h; cases e
 ·cases h; cases e
 ·cases h; cases e
 ·cases h; cases e
 ·cases h; cases e
 ·cases h; cases e
 ·cases h; cases e
 ·cases h; cases e
 ·cases h; cases e
 ·cases h; cases e
 ·cases h; cases e
 ·cases h; cases e
 ·cases h; cases e
 ·cases h; cases e
 ·cases h; cases e
 ·cases h; cases e
 ·cases h; cases e
 ·cases h; cases e
 ·cases h; cases e
 ·cases h; cases e
 ·cases h; cases e
 ·cases h; cases e
 ·cases h; cases e
 ·cases h; cases e
 ·cases h; cases e
 ·cases h; cases e
 ·cases h; cases e
 ·cases h; cases e
 ·cases h; cases e
 ·cases h; cases e
 ·cases h
def MD:Env Tryz.prog:=⟨U1,G2,GI⟩
theorem tv:True:=trivial
def env:Env Tryz.prog:=⟨tab,H2,H9⟩
section
variable {Γ:Gd} {N:Nat} {Q:Exit->Act->World->Prop} {A A':List (Nat × MV)} {L L':List (Nat × Option MObj)}
theorem zr {y:Code} {id:Nat} {l:List Oper} (h:TL Tryz.prog Γ N l.toArray (Exit.then (fun a w=>y.wp Tryz.prog Q a w) Q) l A L):TC Tryz.prog Γ N (.seq (.region id l.toArray false) y) Q A L:=wb (wK h)
theorem zg {Q':Exit->Act->World->Prop} {y:Code} {id:Nat} {l:List Oper} (h:TL Tryz.prog Γ N l.toArray (Exit.then (fun a w=>y.wp Tryz.prog Q a w) Q) l A L):TE Γ N (Exit.then (fun a w=>(Code.seq (.region id l.toArray false) y).wp Tryz.prog Q a w) Q' .normal) A L:=qb (zr h)
theorem ze {Q':Exit->Act->World->Prop} {ops:Array Oper} {c:Code} (h:TC Tryz.prog Γ N c Q A L):TL Tryz.prog Γ N ops (Exit.then (fun a w=>c.wp Tryz.prog Q a w) Q') [] A L:=wU (qb h)
theorem zn {Q':Exit->Act->World->Prop} {ops:Array Oper} {y:Code} {id:Nat} {l:List Oper} (h:TL Tryz.prog Γ N l.toArray (Exit.then (fun a w=>y.wp Tryz.prog Q a w) Q) l A L):TL Tryz.prog Γ N ops (Exit.then (fun a w=>(Code.seq (.region id l.toArray false) y).wp Tryz.prog Q a w) Q') [] A L:=wU (zg h)
theorem zm {f:Act->World->Prop} {ops:Array Oper} (h:TE Γ N f A L):TL Tryz.prog Γ N ops (Exit.then f Q) [] A L:=wU (tsn h)
theorem zt {Q':Exit->Act->World->Prop} {id:Nat} {l:List Oper} (h:TL Tryz.prog Γ N l.toArray Q l A L):TE Γ N (Exit.then (fun a w=>(Code.region id l.toArray false).wp Tryz.prog Q a w) Q' .normal) A L:=qb (wK h)
theorem zu {Q':Exit->Act->World->Prop} (h:TE Γ N (Q .ret) A L):TE Γ N (Exit.then (fun a w=>Code.ret.wp Tryz.prog Q a w) Q' .normal) A L:=qb (wh h)
theorem zk {Q':Exit->Act->World->Prop} {c:Code} (h:TC Tryz.prog Γ N c Q A L):TC Tryz.prog Γ N .skip (Exit.then (fun a w=>c.wp Tryz.prog Q a w) Q') A L:=wH (qb h)
end
def fl:List Nat:=[3,4,5,6,7,8,9,10,11,12,13,14,15,16,17,18,19,20,21,22,23,24,25,26,27,28,29,30,31,32,33,34,35,36,37,38,39,40,41,42,43,44,45,46,47,48,49,50,51,52,53,54,55,56,57,58,59,60,61,62,63,64,65,66,67,68,69,70,71,72,73,74,75,76,77,78,79,80,81,82,83,84,85,86,87,88,89,90,91,92,93,94,95,96,97,98,99,100,101,102,103,104,105,106,107,108,109,110,111,112,113,114,115,116,117,118,119,120,121,122,123,124,125,126,127,128,129,130,131,132,133,134,135,136,137,138,139,140,141,142,143,144,145,146,147,148,149,150,151,152,153,154,155,156,157,158,159,160,161,162,163,164,165,166,167,168,170]
theorem M1:fl.all (fun f=>fnb Tryz.prog f)=true:=by kernel_rfl
theorem fb {f:FuncId} (h:fl.contains f=true):fnb Tryz.prog f=true:=List.all_eq_true.1 M1 f (List.contains_iff_mem.1 h)
section
variable {Γ:Gd} {N:Nat} {Q:Exit->Act->World->Prop} {A A':List (Nat × MV)} {L L':List (Nat × Option MObj)} {γ:Type} {R:Act->World->Prop}
theorem cC {c:Operand} {x y:Code} {b:Bool} {u v:Option γ} {z:γ} (h:(bif b then u else v)=some z) (ht:u=some z->TC Tryz.prog Γ N x Q A L) (hf:v=some z->TC Tryz.prog Γ N y Q A L) (hc:opd A c=some (.bool b):=by exact rfl):TC Tryz.prog Γ N (.cond c x y) Q A L:=KH hc (fun e=>ht (Wh h e)) (fun e=>hf (Wi h e))
theorem cT {c:Operand} {x y:Code} (h:TC Tryz.prog Γ N x Q A L) (hc:opd A c=some (.bool true):=by exact rfl):TC Tryz.prog Γ N (.cond c x y) Q A L:=KH hc (fun _=>h) (fun e=>(tff e).elim)
theorem cF {c:Operand} {x y:Code} (h:TC Tryz.prog Γ N y Q A L) (hc:opd A c=some (.bool false):=by exact rfl):TC Tryz.prog Γ N (.cond c x y) Q A L:=KH hc (fun e=>(ftf e).elim) (fun _=>h)
theorem tce {c:Code} (h:TE Γ N (fun a w=>c.wp Tryz.prog Q a w) A L):TC Tryz.prog Γ N c Q A L:=h
theorem ect {c:Code} (h:TC Tryz.prog Γ N c Q A L):TE Γ N (fun a w=>c.wp Tryz.prog Q a w) A L:=h
theorem rE (A':List (Nat × MV)) (L':List (Nat × Option MObj)) (l:List (Nat × Nat)) (h:TE Γ N R A' L') (hA:jF (sg l) A' A:=by (repeat' (first | exact trivial | refine And.intro rfl ?_))) (hL:jE (sg l) L' L:=by (repeat' (first | exact trivial | refine And.intro rfl ?_))) (hb:sgB l (w7 L')=true:=by exact rfl):TE Γ N R A L:=Yp l hA hL hb h
theorem rC {c:Code} (A':List (Nat × MV)) (L':List (Nat × Option MObj)) (l:List (Nat × Nat)) (h:TC Tryz.prog Γ N c Q A' L') (hA:jF (sg l) A' A:=by (repeat' (first | exact trivial | refine And.intro rfl ?_))) (hL:jE (sg l) L' L:=by (repeat' (first | exact trivial | refine And.intro rfl ?_))) (hb:sgB l (w7 L')=true:=by exact rfl):TC Tryz.prog Γ N c Q A L:=gz l hA hL hb h
theorem zR {fn:Func} {res:MV} {Lc:List (Nat × Option MObj)} {C:Prop} (hr:UT env.tab A L fn.results.toList=some (res,C)) (hC:C:=by (repeat' (first | exact trivial | refine And.intro ?_ ?_ | decide | assumption | exact rfl))) (hL:vD Lc L:=by (repeat' (first | exact trivial | refine And.intro (.inr rfl) ?_ | refine And.intro (.inl rfl) ?_))):TE Γ N (bodyPost Tryz.prog fn (Zc Γ res Lc) .ret) A L:=JX env hr hC hL
theorem zN {fn:Func} {res:MV} {Lc:List (Nat × Option MObj)} {C:Prop} (hr:UT env.tab A L fn.results.toList=some (res,C)) (hC:C:=by (repeat' (first | exact trivial | refine And.intro ?_ ?_ | decide | assumption | exact rfl))) (hL:vD Lc L:=by (repeat' (first | exact trivial | refine And.intro (.inr rfl) ?_ | refine And.intro (.inl rfl) ?_))):TE Γ N (bodyPost Tryz.prog fn (Zc Γ res Lc) .normal) A L:=Hn env hr hC hL
theorem cB {ops:Array Oper} {o:Oper} {l:List Oper} {f:FuncId} {xs ys:List MV} {Lc Lc':List (Nat × Option MObj)} {res:MV} {C:Prop} (π:List (Nat × Nat)) (hF:Fn Tryz.prog f xs Lc res Lc') (h:xl A o.op=some (f,ys,C)) (hys:ys=MV.renL (sg π) xs) (k:TL Tryz.prog Γ N ops Q l (yZ o.dst (res.ren (sg π)) A) (ju (sg π) Lc'++L)) (hf:fl.contains f=true:=by exact rfl) (hC:C:=by (repeat' (first | exact trivial | refine And.intro ?_ ?_ | decide | assumption | exact rfl))) (hs:vD (ju (sg π) Lc) L:=by (repeat' (first | exact trivial | refine And.intro (.inr rfl) ?_ | refine And.intro (.inl rfl) ?_))) (hb:VM (sg π) N o.dst o.guard.isNone A L Lc Lc' res=true:=by exact rfl):TL Tryz.prog Γ N ops Q (o::l) A L:=UI π hF (fb hf) h hC hys hs hb k
end
section
variable {Γ:Gd} {N:Nat} {Q:Exit->Act->World->Prop} {A:List (Nat × MV)} {L:List (Nat × Option MObj)} {r:Rg} {G:Prop} {ex:Nat->List Nat} {l:List De} {n:Nat}
theorem jC {o:Oper} {f:FuncId} {xs ys:List MV} {Lc Lc':List (Nat × Option MObj)} {res:MV} {C:Prop} (n':Nat) (π:List (Nat × Nat)) (hF:Fn Tryz.prog f xs Lc res Lc') (ho:r.ops[n]? = some o) (h:xl (yU r (fnR n l) A n) o.op=some (f,ys,C)) (k:AJR Tryz.prog Γ N Q r ex A L G n' ((yZ o.dst (res.ren (sg π)) [],ju (sg π) Lc')::l)) (hys:ys=MV.renL (sg π) xs:=by exact rfl) (hf:fl.contains f=true:=by exact rfl) (hC:C:=by (repeat' (first | exact trivial | refine And.intro ?_ ?_ | decide | assumption | exact rfl))) (hsub:vD (ju (sg π) Lc) (yX r ex (fnR n l) L n):=by (repeat' (first | exact trivial | refine And.intro (.inr rfl) ?_ | refine And.intro (.inl rfl) ?_))) (hb:vQ (sg π) N o.dst o.guard.isNone (r.wk n) (r.nk n) Lc Lc' res=true:=by exact rfl) (hn':n'=n+1:=by exact rfl) (hn:Nat.ble (n+1) r.ops.size=true:=by exact rfl):AJR Tryz.prog Γ N Q r ex A L G n l:=UL n' hn' (Nat.le_of_ble_eq_true hn) π ho hF (fb hf) h hC hys hsub hb k
theorem zD {ops:Array Oper} (a:List Nat) (b c d:List (Nat × List Nat)) {id:Nat} (h:AJR Tryz.prog Γ N Q ⟨ops,fun i=>bts (a.getD i 0) i,fun i=>lkI i b,fun i=>lkI i c⟩ (fun i=>lkM i d) A L (TC Tryz.prog Γ N (.region id ops true) Q A L) 0 []) (hr:(⟨ops,fun i=>bts (a.getD i 0) i,fun i=>lkI i b,fun i=>lkI i c⟩:Rg).ok=true:=by kernel_rfl) (hx:exB ⟨ops,fun i=>bts (a.getD i 0) i,fun i=>lkI i b,fun i=>lkI i c⟩ (fun i=>lkM i d) A=true:=by kernel_rfl):TC Tryz.prog Γ N (.region id ops true) Q A L:=Ux _ _ hr hx h
theorem jN {ex:Nat->List Nat} {id n:Nat} {l:List De} (fin:TE Γ N (Q .normal) (JH n (fnR n l) A) (Jh n (fnR n l) L)) (hl:r.ops.size=n:=by exact rfl) (hf:frR r n l A L=true:=by exact rfl):AJR Tryz.prog Γ N Q r ex A L (TC Tryz.prog Γ N (.region id r.ops true) Q A L) n l:=gi rfl hl hf fin
end
theorem fO {f:FuncId} {fn:Func} {c:Code} {args:List MV} {Lc Lc':List (Nat × Option MObj)} {res:MV} (hf:Tryz.prog.funcs[f]? = some fn) (hb:fn.body=some c) (h:∀ Γ:Gd,TC Tryz.prog Γ fn.ntmps c (bodyPost Tryz.prog fn (Zc Γ res Lc')) (Qj 0 args) Lc) (hn:Nat.ble args.length fn.ntmps=true:=by exact rfl):Fn Tryz.prog f args Lc res Lc':=Qn hf hb (Nat.le_of_ble_eq_true hn) h

section
variable {Γ:Gd} {N:Nat} {Q:Exit->Act->World->Prop} {A A':List (Nat × MV)} {L L':List (Nat × Option MObj)} {γ:Type}
theorem zE {ops:Array Oper} (n:Nat) {l l':List Oper} {C:Prop} (h:j8 env.tab N ops n l A L=some (l',A',L',C)) (k:TL Tryz.prog Γ N ops Q l' A' L') (hC:C:=by (repeat' (first | exact trivial | refine And.intro ?_ ?_ | decide | assumption | exact rfl))):TL Tryz.prog Γ N ops Q l A L:=kP env n h hC k
theorem zG {ops:Array Oper} {G:Prop} {_:Decidable G} {X:Option γ} {z:γ} (h0:gd G X=some z) (n:Nat) {l l':List Oper} {C:Prop} (h:j8 env.tab N ops n l A L=some (l',A',L',C)) (k:X=some z->TL Tryz.prog Γ N ops Q l' A' L') (hC:G->C:=by intro g; (repeat' (first | exact trivial | refine And.intro ?_ ?_ | with_reducible (first | exact g | exact g.1 | exact g.2 | exact g.2.1 | exact g.2.2 | exact g.2.2.1 | exact g.2.2.2 | exact g.2.2.2.1 | exact g.2.2.2.2 | exact g.2.2.2.2.1 | exact g.2.2.2.2.2 | exact g.2.2.2.2.2.1 | exact g.2.2.2.2.2.2 | exact g.2.2.2.2.2.2.1 | exact g.2.2.2.2.2.2.2) | decide | exact rfl | exact g.2.2.2.2.2.2.2 | exact g.2.2.2.2.2.2.1 | exact g.2.2.2.2.2.2 | exact g.2.2.2.2.2.1 | exact g.2.2.2.2.2 | exact g.2.2.2.2.1 | exact g.2.2.2.2 | exact g.2.2.2.1 | exact g.2.2.2 | exact g.2.2.1 | exact g.2.2 | exact g.2.1 | exact g.2 | exact g.1 | exact g))):TL Tryz.prog Γ N ops Q l A L:=kP env n h (hC (jU h0).1) (k (jU h0).2)
end
section
variable {Γ:Gd} {N:Nat} {Q Q':Exit->Act->World->Prop} {A A':List (Nat × MV)} {L L':List (Nat × Option MObj)} {ops:Array Oper} {l l2:List Oper} {C:Prop} {y c:Code} {id id2:Nat} {f:Act->World->Prop}
theorem zx (n:Nat) (h:j8 env.tab N ops n l A L=some ([],A',L',C)) (k:TC Tryz.prog Γ N c Q A' L') (hC:C:=by (repeat' (first | exact trivial | refine And.intro ?_ ?_ | decide | assumption | exact rfl))):TL Tryz.prog Γ N ops (Exit.then (fun a w=>c.wp Tryz.prog Q a w) Q') l A L:=kP env n h hC (wU (qb k))
theorem zy (n:Nat) (h:j8 env.tab N ops n l A L=some ([],A',L',C)) (k:TL Tryz.prog Γ N l2.toArray (Exit.then (fun a w=>y.wp Tryz.prog Q a w) Q) l2 A' L') (hC:C:=by (repeat' (first | exact trivial | refine And.intro ?_ ?_ | decide | assumption | exact rfl))):TL Tryz.prog Γ N ops (Exit.then (fun a w=>(Code.seq (.region id2 l2.toArray false) y).wp Tryz.prog Q a w) Q') l A L:=zx n h (zr k) hC
theorem zz (n:Nat) (h:j8 env.tab N ops n l A L=some ([],A',L',C)) (k:TE Γ N f A' L') (hC:C:=by (repeat' (first | exact trivial | refine And.intro ?_ ?_ | decide | assumption | exact rfl))):TL Tryz.prog Γ N ops (Exit.then f Q) l A L:=kP env n h hC (wU (tsn k))
theorem zA (n:Nat) (h:j8 env.tab N l.toArray n l A L=some ([],A',L',C)) (k:TC Tryz.prog Γ N c Q A' L') (hC:C:=by (repeat' (first | exact trivial | refine And.intro ?_ ?_ | decide | assumption | exact rfl))):TC Tryz.prog Γ N (.seq (.region id l.toArray false) c) Q A L:=zr (zx n h k hC)
theorem zB (n:Nat) (h:j8 env.tab N l.toArray n l A L=some ([],A',L',C)) (k:TC Tryz.prog Γ N c Q A' L') (hC:C:=by (repeat' (first | exact trivial | refine And.intro ?_ ?_ | decide | assumption | exact rfl))):TE Γ N (Exit.then (fun a w=>(Code.seq (.region id l.toArray false) c).wp Tryz.prog Q a w) Q' .normal) A L:=zg (zx n h k hC)
theorem zC (n:Nat) (h:j8 env.tab N l.toArray n l A L=some ([],A',L',C)) (k:TL Tryz.prog Γ N l2.toArray (Exit.then (fun a w=>y.wp Tryz.prog Q a w) Q) l2 A' L') (hC:C:=by (repeat' (first | exact trivial | refine And.intro ?_ ?_ | decide | assumption | exact rfl))):TC Tryz.prog Γ N (.seq (.region id l.toArray false) (.seq (.region id2 l2.toArray false) y)) Q A L:=zr (zy n h k hC)
theorem zF (n:Nat) (h:j8 env.tab N l.toArray n l A L=some ([],A',L',C)) (k:TL Tryz.prog Γ N l2.toArray (Exit.then (fun a w=>y.wp Tryz.prog Q a w) Q) l2 A' L') (hC:C:=by (repeat' (first | exact trivial | refine And.intro ?_ ?_ | decide | assumption | exact rfl))):TE Γ N (Exit.then (fun a w=>(Code.seq (.region id l.toArray false) (.seq (.region id2 l2.toArray false) y)).wp Tryz.prog Q a w) Q' .normal) A L:=zg (zy n h k hC)
end
theorem zS {Γ:Gd} {N:Nat} {Q:Exit->Act->World->Prop} {A A':List (Nat × MV)} {L L':List (Nat × Option MObj)} {ops:Array Oper} (cs:List Nat) {l l':List Oper} {C:Prop} (h:Zx env.tab N ops (xpT cs) l A L=some (l',A',L',C)) (k:TL Tryz.prog Γ N ops Q l' A' L') (hC:C:=by (repeat' (first | exact trivial | refine And.intro ?_ ?_ | exact id | decide | assumption | exact rfl | intro _))):TL Tryz.prog Γ N ops Q l A L:=Wx env (xpT cs) h hC k
section
variable {Γ:Gd} {N:Nat} {Q:Exit->Act->World->Prop} {A:List (Nat × MV)} {L:List (Nat × Option MObj)} {r:Rg} {G:Prop} {ex:Nat->List Nat} {l:List De} {n:Nat} {γ:Type}
theorem jR {l':List De} {C:Prop} (n':Nat) (cs:List Nat) (h:JB env.tab N r ex A L (xpJ cs) n l=some (n',l',C)) (k:AJR Tryz.prog Γ N Q r ex A L G n' l') (hC:C:=by (repeat' (first | exact trivial | refine And.intro ?_ ?_ | exact id | decide | assumption | exact rfl | intro _))):AJR Tryz.prog Γ N Q r ex A L G n l:=WY env (xpJ cs) h hC k
theorem jP {l':List De} {C G':Prop} {_:Decidable G'} {X:Option γ} {z:γ} (h0:gd G' X=some z) (n':Nat) (cs:List Nat) (h:JB env.tab N r ex A L (xpJ cs) n l=some (n',l',C)) (k:X=some z->AJR Tryz.prog Γ N Q r ex A L G n' l') (hC:G'->C:=by intro g; (repeat' (first | exact trivial | refine And.intro ?_ ?_ | with_reducible (first | exact g | exact g.1 | exact g.2 | exact g.2.1 | exact g.2.2 | exact g.2.2.1 | exact g.2.2.2 | exact g.2.2.2.1 | exact g.2.2.2.2 | exact g.2.2.2.2.1 | exact g.2.2.2.2.2 | exact g.2.2.2.2.2.1 | exact g.2.2.2.2.2.2 | exact g.2.2.2.2.2.2.1 | exact g.2.2.2.2.2.2.2) | decide | exact rfl | exact g.2.2.2.2.2.2.2 | exact g.2.2.2.2.2.2.1 | exact g.2.2.2.2.2.2 | exact g.2.2.2.2.2.1 | exact g.2.2.2.2.2 | exact g.2.2.2.2.1 | exact g.2.2.2.2 | exact g.2.2.2.1 | exact g.2.2.2 | exact g.2.2.1 | exact g.2.2 | exact g.2.1 | exact g.2 | exact g.1 | exact g))):AJR Tryz.prog Γ N Q r ex A L G n l:=WY env (xpJ cs) h (hC (jU h0).1) (k (jU h0).2)
theorem jQ {l':List De} {C G':Prop} {_:Decidable G'} {X:Option γ} {z:γ} (h0:gd G' X=some z) (n':Nat) (cs:List Nat) (h:JB env.tab N r ex A L (xpJ cs) n l=some (n',l',C)) (k:X=some z->AJR Tryz.prog Γ N Q r ex A L G n' l') (hC:G'->C:=by intro g; (repeat' (first | exact trivial | refine And.intro ?_ ?_ | with_reducible (first | exact g | exact g.1 | exact g.2 | exact g.2.1 | exact g.2.2 | exact g.2.2.1 | exact g.2.2.2 | exact g.2.2.2.1 | exact g.2.2.2.2 | exact g.2.2.2.2.1 | exact g.2.2.2.2.2 | exact g.2.2.2.2.2.1 | exact g.2.2.2.2.2.2 | exact g.2.2.2.2.2.2.1 | exact g.2.2.2.2.2.2.2) | decide | assumption | exact rfl | exact g.2.2.2.2.2.2.2 | exact g.2.2.2.2.2.2.1 | exact g.2.2.2.2.2.2 | exact g.2.2.2.2.2.1 | exact g.2.2.2.2.2 | exact g.2.2.2.2.1 | exact g.2.2.2.2 | exact g.2.2.2.1 | exact g.2.2.2 | exact g.2.2.1 | exact g.2.2 | exact g.2.1 | exact g.2 | exact g.1 | exact g | exact id | intro _))):AJR Tryz.prog Γ N Q r ex A L G n l:=WY env (xpJ cs) h (hC (jU h0).1) (k (jU h0).2)
end

section
variable {Γ:Gd} {N:Nat} {Q:Exit->Act->World->Prop} {A A':List (Nat × MV)} {L L':List (Nat × Option MObj)} {γ:Type}
end

section
variable {Γ:Gd} {N:Nat} {Q:Exit->Act->World->Prop} {A:List (Nat × MV)} {L:List (Nat × Option MObj)} {r:Rg} {G:Prop} {ex:Nat->List Nat} {l:List De} {n:Nat} {γ:Type}
theorem jRH {l':List De} {C:Prop} (n':Nat) (cs:List Nat) (h:JB My.tab N r ex A L (xpJ cs) n l=some (n',l',C)) (k:AJR Tryz.prog Γ N Q r ex A L G n' l') (hC:C:=by (repeat' (first | exact trivial | refine And.intro ?_ ?_ | exact id | decide | assumption | exact rfl | intro _))):AJR Tryz.prog Γ N Q r ex A L G n l:=WY My (xpJ cs) h hC k
end

section
variable {Γ:Gd} {N:Nat} {Q:Exit->Act->World->Prop} {A A':List (Nat × MV)} {L L':List (Nat × Option MObj)} {γ:Type}
theorem zGD {ops:Array Oper} {G:Prop} {_:Decidable G} {X:Option γ} {z:γ} (h0:gd G X=some z) (n:Nat) {l l':List Oper} {C:Prop} (h:j8 MD.tab N ops n l A L=some (l',A',L',C)) (k:X=some z->TL Tryz.prog Γ N ops Q l' A' L') (hC:G->C:=by intro g; (repeat' (first | exact trivial | refine And.intro ?_ ?_ | with_reducible (first | exact g | exact g.1 | exact g.2 | exact g.2.1 | exact g.2.2 | exact g.2.2.1 | exact g.2.2.2 | exact g.2.2.2.1 | exact g.2.2.2.2 | exact g.2.2.2.2.1 | exact g.2.2.2.2.2 | exact g.2.2.2.2.2.1 | exact g.2.2.2.2.2.2 | exact g.2.2.2.2.2.2.1 | exact g.2.2.2.2.2.2.2) | decide | exact rfl | exact g.2.2.2.2.2.2.2 | exact g.2.2.2.2.2.2.1 | exact g.2.2.2.2.2.2 | exact g.2.2.2.2.2.1 | exact g.2.2.2.2.2 | exact g.2.2.2.2.1 | exact g.2.2.2.2 | exact g.2.2.2.1 | exact g.2.2.2 | exact g.2.2.1 | exact g.2.2 | exact g.2.1 | exact g.2 | exact g.1 | exact g))):TL Tryz.prog Γ N ops Q l A L:=kP MD n h (hC (jU h0).1) (k (jU h0).2)
end

section
variable {Γ:Gd} {N:Nat} {Q:Exit->Act->World->Prop} {A:List (Nat × MV)} {L:List (Nat × Option MObj)} {r:Rg} {G:Prop} {ex:Nat->List Nat} {l:List De} {n:Nat} {γ:Type}
end

section
variable {Γ:Gd} {N:Nat} {Q:Exit->Act->World->Prop} {A A':List (Nat × MV)} {L L':List (Nat × Option MObj)}
def SQ1 (Γ:Gd) (N:Nat) {α0:Type} (z:α0) (SA:α0->List (Nat × MV)) (SL:α0->List (Nat × Option MObj)):Act->World->Prop:=SP Γ N (fun s:α0=>z=s) (fun z=>SA z) (fun z=>SL z)

theorem SR1 {α0:Type} {x0:α0} {z:α0} {SA:α0->List (Nat × MV)} {SL:α0->List (Nat × Option MObj)} (h:some x0=some z) (l:List (Nat × Nat)) (hA:jF (sg l) (SA x0) A:=by (repeat' (first | exact trivial | refine And.intro rfl ?_))) (hL:jE (sg l) (SL x0) L:=by (repeat' (first | exact trivial | refine And.intro rfl ?_))) (hb:sgB l (w7 (SL x0))=true:=by exact rfl):TE Γ N (SQ1 Γ N z SA SL) A L:=qH l z rfl (by cases h; exact hA) (by cases h; exact hL) (by cases h; exact hb)

theorem CT1 {c:Code} {δ:Type} {α0:Type} {X:Option (α0)} {k:α0->Option δ} {r:δ} (h:X.bind k=some r) (SA:α0->List (Nat × MV)) (SL:α0->List (Nat × Option MObj)) (h1:∀ z,X=some z->TC Tryz.prog Γ N c (Exit.then (SQ1 Γ N z SA SL) Q) A L) (h2:∀ x0,k x0=some r->TE Γ N (Q .normal) (SA x0) (SL x0)):TC Tryz.prog Γ N c Q A L:=by
 obtain ⟨z,hx,hk⟩:=bnd h
 exact kT (fun s=>z=s) _ _ (h1 z hx) (fun s e=>by subst e; exact h2 _ hk)

def SQ2 (Γ:Gd) (N:Nat) {α0 α1:Type} (z:α0 × α1) (SA:α0->α1->List (Nat × MV)) (SL:α0->α1->List (Nat × Option MObj)):Act->World->Prop:=SP Γ N (fun s:α0 × α1=>z=s) (fun z=>SA z.1 z.2) (fun z=>SL z.1 z.2)

theorem SR2 {α0 α1:Type} {x0:α0} {x1:α1} {z:α0 × α1} {SA:α0->α1->List (Nat × MV)} {SL:α0->α1->List (Nat × Option MObj)} (h:some (x0,x1)=some z) (l:List (Nat × Nat)) (hA:jF (sg l) (SA x0 x1) A:=by (repeat' (first | exact trivial | refine And.intro rfl ?_))) (hL:jE (sg l) (SL x0 x1) L:=by (repeat' (first | exact trivial | refine And.intro rfl ?_))) (hb:sgB l (w7 (SL x0 x1))=true:=by exact rfl):TE Γ N (SQ2 Γ N z SA SL) A L:=qH l z rfl (by cases h; exact hA) (by cases h; exact hL) (by cases h; exact hb)

theorem CT2 {c:Code} {δ:Type} {α0 α1:Type} {X:Option (α0 × α1)} {k:(α0 × α1)->Option δ} {r:δ} (h:X.bind k=some r) (SA:α0->α1->List (Nat × MV)) (SL:α0->α1->List (Nat × Option MObj)) (h1:∀ z,X=some z->TC Tryz.prog Γ N c (Exit.then (SQ2 Γ N z SA SL) Q) A L) (h2:∀ x0 x1,k (x0,x1)=some r->TE Γ N (Q .normal) (SA x0 x1) (SL x0 x1)):TC Tryz.prog Γ N c Q A L:=by
 obtain ⟨z,hx,hk⟩:=bnd h
 exact kT (fun s=>z=s) _ _ (h1 z hx) (fun s e=>by subst e; exact h2 _ _ hk)

def SQ3 (Γ:Gd) (N:Nat) {α0 α1 α2:Type} (z:α0 × α1 × α2) (SA:α0->α1->α2->List (Nat × MV)) (SL:α0->α1->α2->List (Nat × Option MObj)):Act->World->Prop:=SP Γ N (fun s:α0 × α1 × α2=>z=s) (fun z=>SA z.1 z.2.1 z.2.2) (fun z=>SL z.1 z.2.1 z.2.2)

theorem SR3 {α0 α1 α2:Type} {x0:α0} {x1:α1} {x2:α2} {z:α0 × α1 × α2} {SA:α0->α1->α2->List (Nat × MV)} {SL:α0->α1->α2->List (Nat × Option MObj)} (h:some (x0,x1,x2)=some z) (l:List (Nat × Nat)) (hA:jF (sg l) (SA x0 x1 x2) A:=by (repeat' (first | exact trivial | refine And.intro rfl ?_))) (hL:jE (sg l) (SL x0 x1 x2) L:=by (repeat' (first | exact trivial | refine And.intro rfl ?_))) (hb:sgB l (w7 (SL x0 x1 x2))=true:=by exact rfl):TE Γ N (SQ3 Γ N z SA SL) A L:=qH l z rfl (by cases h; exact hA) (by cases h; exact hL) (by cases h; exact hb)

theorem CT3 {c:Code} {δ:Type} {α0 α1 α2:Type} {X:Option (α0 × α1 × α2)} {k:(α0 × α1 × α2)->Option δ} {r:δ} (h:X.bind k=some r) (SA:α0->α1->α2->List (Nat × MV)) (SL:α0->α1->α2->List (Nat × Option MObj)) (h1:∀ z,X=some z->TC Tryz.prog Γ N c (Exit.then (SQ3 Γ N z SA SL) Q) A L) (h2:∀ x0 x1 x2,k (x0,x1,x2)=some r->TE Γ N (Q .normal) (SA x0 x1 x2) (SL x0 x1 x2)):TC Tryz.prog Γ N c Q A L:=by
 obtain ⟨z,hx,hk⟩:=bnd h
 exact kT (fun s=>z=s) _ _ (h1 z hx) (fun s e=>by subst e; exact h2 _ _ _ hk)

def SQ4 (Γ:Gd) (N:Nat) {α0 α1 α2 α3:Type} (z:α0 × α1 × α2 × α3) (SA:α0->α1->α2->α3->List (Nat × MV)) (SL:α0->α1->α2->α3->List (Nat × Option MObj)):Act->World->Prop:=SP Γ N (fun s:α0 × α1 × α2 × α3=>z=s) (fun z=>SA z.1 z.2.1 z.2.2.1 z.2.2.2) (fun z=>SL z.1 z.2.1 z.2.2.1 z.2.2.2)

theorem SR4 {α0 α1 α2 α3:Type} {x0:α0} {x1:α1} {x2:α2} {x3:α3} {z:α0 × α1 × α2 × α3} {SA:α0->α1->α2->α3->List (Nat × MV)} {SL:α0->α1->α2->α3->List (Nat × Option MObj)} (h:some (x0,x1,x2,x3)=some z) (l:List (Nat × Nat)) (hA:jF (sg l) (SA x0 x1 x2 x3) A:=by (repeat' (first | exact trivial | refine And.intro rfl ?_))) (hL:jE (sg l) (SL x0 x1 x2 x3) L:=by (repeat' (first | exact trivial | refine And.intro rfl ?_))) (hb:sgB l (w7 (SL x0 x1 x2 x3))=true:=by exact rfl):TE Γ N (SQ4 Γ N z SA SL) A L:=qH l z rfl (by cases h; exact hA) (by cases h; exact hL) (by cases h; exact hb)

theorem CT4 {c:Code} {δ:Type} {α0 α1 α2 α3:Type} {X:Option (α0 × α1 × α2 × α3)} {k:(α0 × α1 × α2 × α3)->Option δ} {r:δ} (h:X.bind k=some r) (SA:α0->α1->α2->α3->List (Nat × MV)) (SL:α0->α1->α2->α3->List (Nat × Option MObj)) (h1:∀ z,X=some z->TC Tryz.prog Γ N c (Exit.then (SQ4 Γ N z SA SL) Q) A L) (h2:∀ x0 x1 x2 x3,k (x0,x1,x2,x3)=some r->TE Γ N (Q .normal) (SA x0 x1 x2 x3) (SL x0 x1 x2 x3)):TC Tryz.prog Γ N c Q A L:=by
 obtain ⟨z,hx,hk⟩:=bnd h
 exact kT (fun s=>z=s) _ _ (h1 z hx) (fun s e=>by subst e; exact h2 _ _ _ _ hk)

def LN0 (Γ:Gd) (N:Nat) {δ:Type} (g:Nat->Option δ) (r:δ) (n:Nat) (SA:List (Nat × MV)) (SL:List (Nat × Option MObj)):Act->World->Prop:=fun a w=>∃ n',n'<n/\SP Γ N (fun _:Unit=>g n'=some r) (fun _=>SA) (fun _=>SL) a w

theorem LP0 {c:Code} {δ:Type} {g:Nat->Option δ} {r:δ} {K:Nat} (h:g K=some r) (l:List (Nat × Nat)) (SA:List (Nat × MV)) (SL:List (Nat × Option MObj)) (b:∀ n,g (n+1)=some r->TC Tryz.prog Γ N c (Exit.then (LN0 Γ N g r (n+1) SA SL) Q) SA SL) (hA:jF (sg l) (SA) A:=by (repeat' (first | exact trivial | refine And.intro rfl ?_))) (hL:jE (sg l) (SL) L:=by (repeat' (first | exact trivial | refine And.intro rfl ?_))) (hb:sgB l (w7 (SL))=true:=by exact rfl) (h0:g 0=none:=by exact rfl):TC Tryz.prog Γ N (.loop c) Q A L:=Wd (α:=Unit) (fun n _=>g n=some r) (fun _=>SA) (fun _=>SL) K (qH l () h hA hL hb) (fun n z hz=>by
 rcases n with _ | n
 ·rw [h0] at hz; cases hz
 ·exact b n hz)

def LN1 (Γ:Gd) (N:Nat) {α0:Type} {δ:Type} (g:Nat->α0->Option δ) (r:δ) (n:Nat) (SA:α0->List (Nat × MV)) (SL:α0->List (Nat × Option MObj)):Act->World->Prop:=fun a w=>∃ n',n'<n/\SP Γ N (fun z:α0=>g n' z=some r) (fun z=>SA z) (fun z=>SL z) a w

theorem NX1 {α0:Type} {δ:Type} {g:Nat->α0->Option δ} {r:δ} {n:Nat} {x0:α0} {SA:α0->List (Nat × MV)} {SL:α0->List (Nat × Option MObj)} (h:g n x0=some r) (l:List (Nat × Nat)) (hA:jF (sg l) (SA x0) A:=by (repeat' (first | exact trivial | refine And.intro rfl ?_))) (hL:jE (sg l) (SL x0) L:=by (repeat' (first | exact trivial | refine And.intro rfl ?_))) (hb:sgB l (w7 (SL x0))=true:=by exact rfl):TE Γ N (LN1 Γ N g r (n+1) SA SL) A L:=vT (p:=fun n (z:α0)=>g n z=some r) (SA:=fun z=>SA z) (SL:=fun z=>SL z) l n (Nat.lt_succ_self n) x0 h hA hL hb

theorem LP1 {c:Code} {α0:Type} {δ:Type} {g:Nat->α0->Option δ} {r:δ} {K:Nat} {x0:α0} (h:g K x0=some r) (l:List (Nat × Nat)) (SA:α0->List (Nat × MV)) (SL:α0->List (Nat × Option MObj)) (b:∀ n x0,g (n+1) x0=some r->TC Tryz.prog Γ N c (Exit.then (LN1 Γ N g r (n+1) SA SL) Q) (SA x0) (SL x0)) (hA:jF (sg l) (SA x0) A:=by (repeat' (first | exact trivial | refine And.intro rfl ?_))) (hL:jE (sg l) (SL x0) L:=by (repeat' (first | exact trivial | refine And.intro rfl ?_))) (hb:sgB l (w7 (SL x0))=true:=by exact rfl) (h0:∀ x0,g 0 x0=none:=by intros; exact rfl):TC Tryz.prog Γ N (.loop c) Q A L:=Wd (α:=α0) (fun n z=>g n z=some r) (fun z=>SA z) (fun z=>SL z) K (qH l x0 h hA hL hb) (fun n z hz=>by
 rcases n with _ | n
 ·rw [h0] at hz; cases hz
 ·exact b n _ hz)

def LN2 (Γ:Gd) (N:Nat) {α0 α1:Type} {δ:Type} (g:Nat->α0->α1->Option δ) (r:δ) (n:Nat) (SA:α0->α1->List (Nat × MV)) (SL:α0->α1->List (Nat × Option MObj)):Act->World->Prop:=fun a w=>∃ n',n'<n/\SP Γ N (fun z:α0 × α1=>g n' z.1 z.2=some r) (fun z=>SA z.1 z.2) (fun z=>SL z.1 z.2) a w

theorem NX2 {α0 α1:Type} {δ:Type} {g:Nat->α0->α1->Option δ} {r:δ} {n:Nat} {x0:α0} {x1:α1} {SA:α0->α1->List (Nat × MV)} {SL:α0->α1->List (Nat × Option MObj)} (h:g n x0 x1=some r) (l:List (Nat × Nat)) (hA:jF (sg l) (SA x0 x1) A:=by (repeat' (first | exact trivial | refine And.intro rfl ?_))) (hL:jE (sg l) (SL x0 x1) L:=by (repeat' (first | exact trivial | refine And.intro rfl ?_))) (hb:sgB l (w7 (SL x0 x1))=true:=by exact rfl):TE Γ N (LN2 Γ N g r (n+1) SA SL) A L:=vT (p:=fun n (z:α0 × α1)=>g n z.1 z.2=some r) (SA:=fun z=>SA z.1 z.2) (SL:=fun z=>SL z.1 z.2) l n (Nat.lt_succ_self n) (x0,x1) h hA hL hb

theorem LP2 {c:Code} {α0 α1:Type} {δ:Type} {g:Nat->α0->α1->Option δ} {r:δ} {K:Nat} {x0:α0} {x1:α1} (h:g K x0 x1=some r) (l:List (Nat × Nat)) (SA:α0->α1->List (Nat × MV)) (SL:α0->α1->List (Nat × Option MObj)) (b:∀ n x0 x1,g (n+1) x0 x1=some r->TC Tryz.prog Γ N c (Exit.then (LN2 Γ N g r (n+1) SA SL) Q) (SA x0 x1) (SL x0 x1)) (hA:jF (sg l) (SA x0 x1) A:=by (repeat' (first | exact trivial | refine And.intro rfl ?_))) (hL:jE (sg l) (SL x0 x1) L:=by (repeat' (first | exact trivial | refine And.intro rfl ?_))) (hb:sgB l (w7 (SL x0 x1))=true:=by exact rfl) (h0:∀ x0 x1,g 0 x0 x1=none:=by intros; exact rfl):TC Tryz.prog Γ N (.loop c) Q A L:=Wd (α:=α0 × α1) (fun n z=>g n z.1 z.2=some r) (fun z=>SA z.1 z.2) (fun z=>SL z.1 z.2) K (qH l (x0,x1) h hA hL hb) (fun n z hz=>by
 rcases n with _ | n
 ·rw [h0] at hz; cases hz
 ·exact b n _ _ hz)

def LN3 (Γ:Gd) (N:Nat) {α0 α1 α2:Type} {δ:Type} (g:Nat->α0->α1->α2->Option δ) (r:δ) (n:Nat) (SA:α0->α1->α2->List (Nat × MV)) (SL:α0->α1->α2->List (Nat × Option MObj)):Act->World->Prop:=fun a w=>∃ n',n'<n/\SP Γ N (fun z:α0 × α1 × α2=>g n' z.1 z.2.1 z.2.2=some r) (fun z=>SA z.1 z.2.1 z.2.2) (fun z=>SL z.1 z.2.1 z.2.2) a w

theorem NX3 {α0 α1 α2:Type} {δ:Type} {g:Nat->α0->α1->α2->Option δ} {r:δ} {n:Nat} {x0:α0} {x1:α1} {x2:α2} {SA:α0->α1->α2->List (Nat × MV)} {SL:α0->α1->α2->List (Nat × Option MObj)} (h:g n x0 x1 x2=some r) (l:List (Nat × Nat)) (hA:jF (sg l) (SA x0 x1 x2) A:=by (repeat' (first | exact trivial | refine And.intro rfl ?_))) (hL:jE (sg l) (SL x0 x1 x2) L:=by (repeat' (first | exact trivial | refine And.intro rfl ?_))) (hb:sgB l (w7 (SL x0 x1 x2))=true:=by exact rfl):TE Γ N (LN3 Γ N g r (n+1) SA SL) A L:=vT (p:=fun n (z:α0 × α1 × α2)=>g n z.1 z.2.1 z.2.2=some r) (SA:=fun z=>SA z.1 z.2.1 z.2.2) (SL:=fun z=>SL z.1 z.2.1 z.2.2) l n (Nat.lt_succ_self n) (x0,x1,x2) h hA hL hb

theorem LP3 {c:Code} {α0 α1 α2:Type} {δ:Type} {g:Nat->α0->α1->α2->Option δ} {r:δ} {K:Nat} {x0:α0} {x1:α1} {x2:α2} (h:g K x0 x1 x2=some r) (l:List (Nat × Nat)) (SA:α0->α1->α2->List (Nat × MV)) (SL:α0->α1->α2->List (Nat × Option MObj)) (b:∀ n x0 x1 x2,g (n+1) x0 x1 x2=some r->TC Tryz.prog Γ N c (Exit.then (LN3 Γ N g r (n+1) SA SL) Q) (SA x0 x1 x2) (SL x0 x1 x2)) (hA:jF (sg l) (SA x0 x1 x2) A:=by (repeat' (first | exact trivial | refine And.intro rfl ?_))) (hL:jE (sg l) (SL x0 x1 x2) L:=by (repeat' (first | exact trivial | refine And.intro rfl ?_))) (hb:sgB l (w7 (SL x0 x1 x2))=true:=by exact rfl) (h0:∀ x0 x1 x2,g 0 x0 x1 x2=none:=by intros; exact rfl):TC Tryz.prog Γ N (.loop c) Q A L:=Wd (α:=α0 × α1 × α2) (fun n z=>g n z.1 z.2.1 z.2.2=some r) (fun z=>SA z.1 z.2.1 z.2.2) (fun z=>SL z.1 z.2.1 z.2.2) K (qH l (x0,x1,x2) h hA hL hb) (fun n z hz=>by
 rcases n with _ | n
 ·rw [h0] at hz; cases hz
 ·exact b n _ _ _ hz)

def LN4 (Γ:Gd) (N:Nat) {α0 α1 α2 α3:Type} {δ:Type} (g:Nat->α0->α1->α2->α3->Option δ) (r:δ) (n:Nat) (SA:α0->α1->α2->α3->List (Nat × MV)) (SL:α0->α1->α2->α3->List (Nat × Option MObj)):Act->World->Prop:=fun a w=>∃ n',n'<n/\SP Γ N (fun z:α0 × α1 × α2 × α3=>g n' z.1 z.2.1 z.2.2.1 z.2.2.2=some r) (fun z=>SA z.1 z.2.1 z.2.2.1 z.2.2.2) (fun z=>SL z.1 z.2.1 z.2.2.1 z.2.2.2) a w

theorem NX4 {α0 α1 α2 α3:Type} {δ:Type} {g:Nat->α0->α1->α2->α3->Option δ} {r:δ} {n:Nat} {x0:α0} {x1:α1} {x2:α2} {x3:α3} {SA:α0->α1->α2->α3->List (Nat × MV)} {SL:α0->α1->α2->α3->List (Nat × Option MObj)} (h:g n x0 x1 x2 x3=some r) (l:List (Nat × Nat)) (hA:jF (sg l) (SA x0 x1 x2 x3) A:=by (repeat' (first | exact trivial | refine And.intro rfl ?_))) (hL:jE (sg l) (SL x0 x1 x2 x3) L:=by (repeat' (first | exact trivial | refine And.intro rfl ?_))) (hb:sgB l (w7 (SL x0 x1 x2 x3))=true:=by exact rfl):TE Γ N (LN4 Γ N g r (n+1) SA SL) A L:=vT (p:=fun n (z:α0 × α1 × α2 × α3)=>g n z.1 z.2.1 z.2.2.1 z.2.2.2=some r) (SA:=fun z=>SA z.1 z.2.1 z.2.2.1 z.2.2.2) (SL:=fun z=>SL z.1 z.2.1 z.2.2.1 z.2.2.2) l n (Nat.lt_succ_self n) (x0,x1,x2,x3) h hA hL hb

theorem LP4 {c:Code} {α0 α1 α2 α3:Type} {δ:Type} {g:Nat->α0->α1->α2->α3->Option δ} {r:δ} {K:Nat} {x0:α0} {x1:α1} {x2:α2} {x3:α3} (h:g K x0 x1 x2 x3=some r) (l:List (Nat × Nat)) (SA:α0->α1->α2->α3->List (Nat × MV)) (SL:α0->α1->α2->α3->List (Nat × Option MObj)) (b:∀ n x0 x1 x2 x3,g (n+1) x0 x1 x2 x3=some r->TC Tryz.prog Γ N c (Exit.then (LN4 Γ N g r (n+1) SA SL) Q) (SA x0 x1 x2 x3) (SL x0 x1 x2 x3)) (hA:jF (sg l) (SA x0 x1 x2 x3) A:=by (repeat' (first | exact trivial | refine And.intro rfl ?_))) (hL:jE (sg l) (SL x0 x1 x2 x3) L:=by (repeat' (first | exact trivial | refine And.intro rfl ?_))) (hb:sgB l (w7 (SL x0 x1 x2 x3))=true:=by exact rfl) (h0:∀ x0 x1 x2 x3,g 0 x0 x1 x2 x3=none:=by intros; exact rfl):TC Tryz.prog Γ N (.loop c) Q A L:=Wd (α:=α0 × α1 × α2 × α3) (fun n z=>g n z.1 z.2.1 z.2.2.1 z.2.2.2=some r) (fun z=>SA z.1 z.2.1 z.2.2.1 z.2.2.2) (fun z=>SL z.1 z.2.1 z.2.2.1 z.2.2.2) K (qH l (x0,x1,x2,x3) h hA hL hb) (fun n z hz=>by
 rcases n with _ | n
 ·rw [h0] at hz; cases hz
 ·exact b n _ _ _ _ hz)

def LN5 (Γ:Gd) (N:Nat) {α0 α1 α2 α3 α4:Type} {δ:Type} (g:Nat->α0->α1->α2->α3->α4->Option δ) (r:δ) (n:Nat) (SA:α0->α1->α2->α3->α4->List (Nat × MV)) (SL:α0->α1->α2->α3->α4->List (Nat × Option MObj)):Act->World->Prop:=fun a w=>∃ n',n'<n/\SP Γ N (fun z:α0 × α1 × α2 × α3 × α4=>g n' z.1 z.2.1 z.2.2.1 z.2.2.2.1 z.2.2.2.2=some r) (fun z=>SA z.1 z.2.1 z.2.2.1 z.2.2.2.1 z.2.2.2.2) (fun z=>SL z.1 z.2.1 z.2.2.1 z.2.2.2.1 z.2.2.2.2) a w

theorem NX5 {α0 α1 α2 α3 α4:Type} {δ:Type} {g:Nat->α0->α1->α2->α3->α4->Option δ} {r:δ} {n:Nat} {x0:α0} {x1:α1} {x2:α2} {x3:α3} {x4:α4} {SA:α0->α1->α2->α3->α4->List (Nat × MV)} {SL:α0->α1->α2->α3->α4->List (Nat × Option MObj)} (h:g n x0 x1 x2 x3 x4=some r) (l:List (Nat × Nat)) (hA:jF (sg l) (SA x0 x1 x2 x3 x4) A:=by (repeat' (first | exact trivial | refine And.intro rfl ?_))) (hL:jE (sg l) (SL x0 x1 x2 x3 x4) L:=by (repeat' (first | exact trivial | refine And.intro rfl ?_))) (hb:sgB l (w7 (SL x0 x1 x2 x3 x4))=true:=by exact rfl):TE Γ N (LN5 Γ N g r (n+1) SA SL) A L:=vT (p:=fun n (z:α0 × α1 × α2 × α3 × α4)=>g n z.1 z.2.1 z.2.2.1 z.2.2.2.1 z.2.2.2.2=some r) (SA:=fun z=>SA z.1 z.2.1 z.2.2.1 z.2.2.2.1 z.2.2.2.2) (SL:=fun z=>SL z.1 z.2.1 z.2.2.1 z.2.2.2.1 z.2.2.2.2) l n (Nat.lt_succ_self n) (x0,x1,x2,x3,x4) h hA hL hb

theorem LP5 {c:Code} {α0 α1 α2 α3 α4:Type} {δ:Type} {g:Nat->α0->α1->α2->α3->α4->Option δ} {r:δ} {K:Nat} {x0:α0} {x1:α1} {x2:α2} {x3:α3} {x4:α4} (h:g K x0 x1 x2 x3 x4=some r) (l:List (Nat × Nat)) (SA:α0->α1->α2->α3->α4->List (Nat × MV)) (SL:α0->α1->α2->α3->α4->List (Nat × Option MObj)) (b:∀ n x0 x1 x2 x3 x4,g (n+1) x0 x1 x2 x3 x4=some r->TC Tryz.prog Γ N c (Exit.then (LN5 Γ N g r (n+1) SA SL) Q) (SA x0 x1 x2 x3 x4) (SL x0 x1 x2 x3 x4)) (hA:jF (sg l) (SA x0 x1 x2 x3 x4) A:=by (repeat' (first | exact trivial | refine And.intro rfl ?_))) (hL:jE (sg l) (SL x0 x1 x2 x3 x4) L:=by (repeat' (first | exact trivial | refine And.intro rfl ?_))) (hb:sgB l (w7 (SL x0 x1 x2 x3 x4))=true:=by exact rfl) (h0:∀ x0 x1 x2 x3 x4,g 0 x0 x1 x2 x3 x4=none:=by intros; exact rfl):TC Tryz.prog Γ N (.loop c) Q A L:=Wd (α:=α0 × α1 × α2 × α3 × α4) (fun n z=>g n z.1 z.2.1 z.2.2.1 z.2.2.2.1 z.2.2.2.2=some r) (fun z=>SA z.1 z.2.1 z.2.2.1 z.2.2.2.1 z.2.2.2.2) (fun z=>SL z.1 z.2.1 z.2.2.1 z.2.2.2.1 z.2.2.2.2) K (qH l (x0,x1,x2,x3,x4) h hA hL hb) (fun n z hz=>by
 rcases n with _ | n
 ·rw [h0] at hz; cases hz
 ·exact b n _ _ _ _ _ hz)

end
theorem pj1 {α:Type} {a c:α} (h:some a=some c):c=a:=sinj h

theorem pj2 {α0 α1:Type} {a0 c0:α0} {a1 c1:α1} (h:some (a0,a1)=some (c0,c1)):c0=a0/\c1=a1:=by cases h; exact ⟨rfl,rfl⟩

theorem pj3 {α0 α1 α2:Type} {a0 c0:α0} {a1 c1:α1} {a2 c2:α2} (h:some (a0,a1,a2)=some (c0,c1,c2)):c0=a0/\c1=a1/\c2=a2:=by cases h; exact ⟨rfl,rfl,rfl⟩

theorem pj4 {α0 α1 α2 α3:Type} {a0 c0:α0} {a1 c1:α1} {a2 c2:α2} {a3 c3:α3} (h:some (a0,a1,a2,a3)=some (c0,c1,c2,c3)):c0=a0/\c1=a1/\c2=a2/\c3=a3:=by cases h; exact ⟨rfl,rfl,rfl,rfl⟩

theorem pj5 {α0 α1 α2 α3 α4:Type} {a0 c0:α0} {a1 c1:α1} {a2 c2:α2} {a3 c3:α3} {a4 c4:α4} (h:some (a0,a1,a2,a3,a4)=some (c0,c1,c2,c3,c4)):c0=a0/\c1=a1/\c2=a2/\c3=a3/\c4=a4:=by cases h; exact ⟨rfl,rfl,rfl,rfl,rfl⟩

theorem pj7 {α0 α1 α2 α3 α4 α5 α6:Type} {a0 c0:α0} {a1 c1:α1} {a2 c2:α2} {a3 c3:α3} {a4 c4:α4} {a5 c5:α5} {a6 c6:α6} (h:some (a0,a1,a2,a3,a4,a5,a6)=some (c0,c1,c2,c3,c4,c5,c6)):c0=a0/\c1=a1/\c2=a2/\c3=a3/\c4=a4/\c5=a5/\c6=a6:=by cases h; exact ⟨rfl,rfl,rfl,rfl,rfl,rfl,rfl⟩

end Go.Fo
