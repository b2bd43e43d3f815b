/- What the kit's program says of the types that these functions use. -/
import Derived.Test.YtiihmaaobmpababGreatProg
import Derived.Test.YtiihmaaobmpababGreatJ3
namespace Go.Fo
abbrev J (x:Int):MV:=.int .i64 x
abbrev C (l:List MV):Option MObj:=some (.cells l)
abbrev M0 (x:List (List (List (Int)))):MV:=.im (.slice (.slice (.slice (.int .i32)))) x
abbrev M1 (x:List (Int)):MV:=.im (.slice (.int .i64)) x
abbrev M2 (x:List (List (Int))):MV:=.im (.slice (.slice (.int .i64))) x
abbrev M3 (x:List (List (List (Int)))):MV:=.im (.slice (.slice (.slice (.int .i64)))) x
abbrev W4 (x:List (Bool)):Option MObj:=some (.rows (.bool) x)
abbrev M5 (x:List (Int)):MV:=.im (.slice (.int .i16)) x
abbrev W6 (x:List (Int)):Option MObj:=some (.rows (.int .i16) x)
abbrev W7 (x:List (Int)):Option MObj:=some (.rows (.int .i64) x)
abbrev M8 (x:List (Int)):MV:=.im (.slice (.int .u8)) x
abbrev W9 (x:List (List (Int))):Option MObj:=some (.rows (.slice (.int .i64)) x)
abbrev W10 (x:List (List (List (Int)))):Option MObj:=some (.rows (.slice (.slice (.int .i64))) x)
abbrev W11 (x:List (Int)):Option MObj:=some (.rows (.int .u8) x)
abbrev M12 (x:List ((Int × Int))):MV:=.im (.slice (.pair (.int .i64) (.int .i64))) x
abbrev W13 (x:List ((Int × Int))):Option MObj:=some (.rows (.pair (.int .i64) (.int .i64)) x)
abbrev M14 (x:List (List (Int))):MV:=.im (.slice (.slice (.int .i16))) x
abbrev M15 (x:List (Int)):MV:=.im (.slice (.int .i32)) x
abbrev W16 (x:List (Int)):Option MObj:=some (.rows (.int .i32) x)
abbrev M17 (x:List (List (Int))):MV:=.im (.slice (.slice (.int .i32))) x
abbrev M18 (x:List (Bool)):MV:=.im (.slice (.bool)) x
abbrev W19 (x:List (List (Int))):Option MObj:=some (.rows (.slice (.int .i32)) x)
abbrev W20 (x:List (List (List (Int)))):Option MObj:=some (.rows (.slice (.slice (.int .i32))) x)
open Go.Proofs
def ti2:TI:={ agg:=false,size:=1,bytes:=8,zero:=[.int .i64 0],ik:=some .i64 }
theorem Gk:tokb Tryz.prog 2 ti2=true:=by kernel_rfl
def ti3:TI:={ agg:=false,size:=1,bytes:=8,zero:=[.int .i64 0],ik:=some .i64 }
theorem Ga:tokb Tryz.prog 3 ti3=true:=by kernel_rfl
def ti4:TI:={ agg:=false,size:=1,bytes:=1,zero:=[.bool false],tag:=1 }
theorem GP:tokb Tryz.prog 4 ti4=true:=by kernel_rfl
def ti5:TI:={ agg:=false,size:=1,bytes:=1,zero:=[.int .u8 0],ik:=some .u8 }
theorem Gz:tokb Tryz.prog 5 ti5=true:=by kernel_rfl
def UN:TI:={ agg:=false,size:=1,bytes:=4,zero:=[.int .i32 0],ik:=some .i32 }
theorem Vf:tokb Tryz.prog 21 UN=true:=by kernel_rfl
def Uy:TI:={ agg:=true,size:=10,bytes:=80,zero:=[.int .i64 0,.int .i64 0,.int .i64 0,.int .i64 0,.int .i64 0,.int .i64 0,.int .i64 0,.int .i64 0,.int .i64 0,.int .i64 0],fields:=[(0,1,false),(1,1,false),(2,1,false),(3,1,false),(4,1,false),(5,1,false),(6,1,false),(7,1,false),(8,1,false),(9,1,false)] }
theorem YO:tokb Tryz.prog 23 Uy=true:=by kernel_rfl
def gm:TI:={ agg:=false,size:=1,bytes:=24,zero:=[.nils],elem:=59,esz:=1,slc:=true,ek:=some (.slice (.slice (.int .i32))),eb:=24,rr:=some (.slice (.int .i32)),tag:=3 }
theorem G3:tokb Tryz.prog 24 gm=true:=by kernel_rfl
def uD:TI:={ agg:=false,size:=1,bytes:=24,zero:=[.nils],elem:=3,esz:=1,slc:=true,ek:=some (.int .i64),eb:=8,tag:=3 }
theorem Vr:tokb Tryz.prog 25 uD=true:=by kernel_rfl
def GW:TI:={ agg:=false,size:=1,bytes:=24,zero:=[.nils],elem:=25,esz:=1,slc:=true,ek:=some (.slice (.int .i64)),eb:=24,rr:=some (.int .i64),tag:=3 }
theorem gv:tokb Tryz.prog 26 GW=true:=by kernel_rfl
def G7:TI:={ agg:=false,size:=1,bytes:=24,zero:=[.nils],elem:=26,esz:=1,slc:=true,ek:=some (.slice (.slice (.int .i64))),eb:=24,rr:=some (.slice (.int .i64)),tag:=3 }
theorem GX:tokb Tryz.prog 27 G7=true:=by kernel_rfl
def up:TI:={ agg:=true,size:=3,bytes:=72,zero:=[.nils,.nils,.nils],fields:=[(0,1,false),(1,1,false),(2,1,false)] }
theorem VV:tokb Tryz.prog 29 up=true:=by kernel_rfl
def Us:TI:={ agg:=true,size:=3,bytes:=72,zero:=[.nils,.nils,.nils],fields:=[(0,1,false),(1,1,false),(2,1,false)] }
theorem Ve:tokb Tryz.prog 33 Us=true:=by kernel_rfl
def Uz:TI:={ agg:=false,size:=1,bytes:=8,zero:=[.nilp],tag:=2 }
theorem Vy:tokb Tryz.prog 47 Uz=true:=by kernel_rfl
def U8:TI:={ agg:=false,size:=1,bytes:=8,zero:=[.nilp],tag:=2 }
theorem YV:tokb Tryz.prog 50 U8=true:=by kernel_rfl
def uu:TI:={ agg:=false,size:=1,bytes:=24,zero:=[.nils],elem:=5,esz:=1,slc:=true,ek:=some (.int .u8),eb:=1,tag:=3 }
theorem Vc:tokb Tryz.prog 53 uu=true:=by kernel_rfl
def UV:TI:={ agg:=false,size:=1,bytes:=24,zero:=[.nils],elem:=173,esz:=1,slc:=true,ek:=some (.int .i16),eb:=2,tag:=3 }
theorem Vl:tokb Tryz.prog 56 UV=true:=by kernel_rfl
def Ux:TI:={ agg:=false,size:=1,bytes:=8,zero:=[.nilf],tag:=4 }
theorem Vt:tokb Tryz.prog 58 Ux=true:=by kernel_rfl
def gr:TI:={ agg:=false,size:=1,bytes:=24,zero:=[.nils],elem:=70,esz:=1,slc:=true,ek:=some (.slice (.int .i32)),eb:=24,rr:=some (.int .i32),tag:=3 }
theorem G5:tokb Tryz.prog 59 gr=true:=by kernel_rfl
def UK:TI:={ agg:=false,size:=1,bytes:=24,zero:=[.nils],elem:=4,esz:=1,slc:=true,ek:=some (.bool),eb:=1,tag:=3 }
theorem VJ:tokb Tryz.prog 61 UK=true:=by kernel_rfl
def Uv:TI:={ agg:=false,size:=1,bytes:=24,zero:=[.nils],elem:=21,esz:=1,slc:=true,ek:=some (.int .i32),eb:=4,tag:=3 }
theorem V6:tokb Tryz.prog 70 Uv=true:=by kernel_rfl
def Uh:TI:={ agg:=false,size:=1,bytes:=24,zero:=[.nils],elem:=94,esz:=1,slc:=true,tag:=3 }
theorem Yw:tokb Tryz.prog 91 Uh=true:=by kernel_rfl
def Uq:TI:={ agg:=true,size:=11,bytes:=104,zero:=[.int .i64 0,.int .i64 0,.int .i64 0,.int .i64 0,.int .i64 0,.int .i64 0,.int .i64 0,.int .i64 0,.int .i64 0,.int .i64 0,.nils],fields:=[(0,10,true),(10,1,false)] }
theorem VY:tokb Tryz.prog 93 Uq=true:=by kernel_rfl
def ua:TI:={ agg:=false,size:=1,bytes:=8,zero:=[.nilp],tag:=2 }
theorem Y6:tokb Tryz.prog 94 ua=true:=by kernel_rfl
def XQ:TI:={ agg:=false,size:=1,bytes:=4,zero:=[.int .u32 0],ik:=some .u32 }
theorem Jl:tokb Tryz.prog 100 XQ=true:=by kernel_rfl
def J8:TI:={ agg:=true,size:=3,bytes:=12,zero:=[.int .u32 0,.int .i32 0,.int .u32 0],fields:=[(0,0,true),(0,1,true),(1,2,true)] }
theorem K1:tokb Tryz.prog 108 J8=true:=by kernel_rfl
def Xm:TI:={ agg:=true,size:=4,bytes:=40,zero:=[.int .u32 0,.int .i32 0,.int .u32 0,.nils],fields:=[(0,3,true),(3,1,false)] }
theorem Js:tokb Tryz.prog 110 Xm=true:=by kernel_rfl
def JW:TI:={ agg:=true,size:=1028,bytes:=10280,zero:=tcs (List.replicate 257 none),elem:=110,esz:=4,alen:=257,eagg:=true,arr:=true }
theorem Jj:tokb Tryz.prog 111 JW=true:=by kernel_rfl
def Xx:TI:={ agg:=true,size:=8,bytes:=80,zero:=[.int .u32 0,.int .i32 0,.int .u32 0,.nils,.int .u32 0,.int .i32 0,.int .u32 0,.nils],elem:=110,esz:=4,alen:=2,eagg:=true,arr:=true }
theorem K7:tokb Tryz.prog 113 Xx=true:=by kernel_rfl
def J9:TI:={ agg:=true,size:=1554,bytes:=15536,zero:=pst (List.replicate 388 none) 0 0,fields:=[(0,1028,true),(1028,516,true),(1544,8,true),(1552,1,true),(1553,1,true)] }
theorem K5:tokb Tryz.prog 118 J9=true:=by kernel_rfl
def u7:TI:={ agg:=false,size:=1,bytes:=24,zero:=[.nils],elem:=56,esz:=1,slc:=true,ek:=some (.slice (.int .i16)),eb:=24,rr:=some (.int .i16),tag:=3 }
theorem Gx:tokb Tryz.prog 119 u7=true:=by kernel_rfl
def Xj:TI:={ agg:=false,size:=1,bytes:=8,zero:=[.nilp],tag:=2 }
theorem Jt:tokb Tryz.prog 125 Xj=true:=by kernel_rfl
def Xd:TI:={ agg:=false,size:=1,bytes:=8,zero:=[.nilf],tag:=4 }
theorem JF:tokb Tryz.prog 134 Xd=true:=by kernel_rfl
def JN:TI:={ agg:=true,size:=4,bytes:=96,zero:=[.nils,.nils,.nils,.nils],elem:=25,esz:=1,alen:=4,eagg:=false,arr:=true }
theorem KV:tokb Tryz.prog 136 JN=true:=by kernel_rfl
def Xy:TI:={ agg:=true,size:=4,bytes:=96,zero:=[.nils,.nils,.nils,.nils],elem:=59,esz:=1,alen:=4,eagg:=false,arr:=true }
theorem Jz:tokb Tryz.prog 137 Xy=true:=by kernel_rfl
def XP:TI:={ agg:=false,size:=1,bytes:=8,zero:=[.int .u64 0],ik:=some .u64 }
theorem Jk:tokb Tryz.prog 144 XP=true:=by kernel_rfl
def Xt:TI:={ agg:=false,size:=1,bytes:=24,zero:=[.nils],elem:=2,esz:=1,slc:=true,ek:=some (.int .i64),eb:=8,tag:=3 }
theorem KQ:tokb Tryz.prog 147 Xt=true:=by kernel_rfl
def JS:TI:={ agg:=false,size:=1,bytes:=8,zero:=[.nilp],tag:=2 }
theorem KL:tokb Tryz.prog 148 JS=true:=by kernel_rfl
def JL:TI:={ agg:=true,size:=5,bytes:=72,zero:=[.int .i64 0,.int .i64 0,.int .i64 0,.nils,.nils],fields:=[(0,1,false),(1,1,false),(2,1,false),(3,1,false),(4,1,false)] }
theorem KO:tokb Tryz.prog 150 JL=true:=by kernel_rfl
def Xz:TI:={ agg:=false,size:=1,bytes:=8,zero:=[.nilf],tag:=4 }
theorem JD:tokb Tryz.prog 157 Xz=true:=by kernel_rfl
def Xl:TI:={ agg:=false,size:=1,bytes:=8,zero:=[.nilf],tag:=4 }
theorem Jq:tokb Tryz.prog 160 Xl=true:=by kernel_rfl
def JZ:TI:={ agg:=true,size:=3,bytes:=56,zero:=[.int .i64 0,.nils,.nils],fields:=[(0,1,false),(1,1,false),(2,1,false)] }
theorem Jy:tokb Tryz.prog 168 JZ=true:=by kernel_rfl
def Xn:TI:={ agg:=true,size:=4,bytes:=80,zero:=[.int .i64 0,.nils,.nils,.nils],fields:=[(0,3,true),(3,1,false)] }
theorem KH:tokb Tryz.prog 172 Xn=true:=by kernel_rfl
def JV:TI:={ agg:=false,size:=1,bytes:=2,zero:=[.int .i16 0],ik:=some .i16 }
theorem Jh:tokb Tryz.prog 173 JV=true:=by kernel_rfl
def JY:TI:={ agg:=false,size:=1,bytes:=8,zero:=[.nilp],tag:=2 }
theorem K4:tokb Tryz.prog 175 JY=true:=by kernel_rfl
def Xk:TI:={ agg:=true,size:=2,bytes:=16,zero:=[.int .i64 0,.int .i64 0],elem:=3,esz:=1,alen:=2,eagg:=false,arr:=true }
theorem KS:tokb Tryz.prog 179 Xk=true:=by kernel_rfl
def XY:TI:={ agg:=false,size:=1,bytes:=24,zero:=[.nils],elem:=179,esz:=2,slc:=true,ek:=some (.pair (.int .i64) (.int .i64)),eb:=16,tag:=3 }
theorem K0:tokb Tryz.prog 180 XY=true:=by kernel_rfl
def Xi:TI:={ agg:=true,size:=2,bytes:=16,zero:=[.int .i64 0,.int .i64 0],fields:=[(0,1,false),(1,1,false)] }
theorem Jm:tokb Tryz.prog 187 Xi=true:=by kernel_rfl
def J4:TI:={ agg:=true,size:=3,bytes:=40,zero:=[.int .i64 0,.int .i64 0,.nils],fields:=[(0,2,true),(2,1,false)] }
theorem Jo:tokb Tryz.prog 189 J4=true:=by kernel_rfl
def XI:TI:={ agg:=true,size:=3,bytes:=40,zero:=[.int .i64 0,.int .i64 0,.nils],fields:=[(0,2,true),(2,1,false)] }
theorem JB:tokb Tryz.prog 208 XI=true:=by kernel_rfl
def Xh:TI:={ agg:=false,size:=1,bytes:=8,zero:=[.nilp],tag:=2 }
theorem Ji:tokb Tryz.prog 222 Xh=true:=by kernel_rfl
def Xw:TI:={ agg:=false,size:=1,bytes:=8,zero:=[.nilf],tag:=4 }
theorem KZ:tokb Tryz.prog 224 Xw=true:=by kernel_rfl
def X1:TI:={ agg:=true,size:=3,bytes:=16,zero:=[.int .i64 0,.int .u32 0,.int .u32 0],fields:=[(0,1,false),(1,1,false),(2,1,false)] }
theorem K9:tokb Tryz.prog 229 X1=true:=by kernel_rfl
def XO:TI:={ agg:=true,size:=4,bytes:=32,zero:=[.int .i64 0,.int .i64 0,.int .i64 0,.int .i64 0],elem:=3,esz:=1,alen:=4,eagg:=false,arr:=true }
theorem KU:tokb Tryz.prog 234 XO=true:=by kernel_rfl
def JU:TI:={ agg:=true,size:=16,bytes:=128,zero:=[.int .i64 0,.int .i64 0,.int .i64 0,.int .i64 0,.int .i64 0,.int .i64 0,.int .i64 0,.int .i64 0,.int .i64 0,.int .i64 0,.int .i64 0,.int .i64 0,.int .i64 0,.int .i64 0,.int .i64 0,.int .i64 0],elem:=234,esz:=4,alen:=4,eagg:=true,arr:=true }
theorem KY:tokb Tryz.prog 236 JU=true:=by kernel_rfl
def Xs:TI:={ agg:=true,size:=8,bytes:=64,zero:=[.int .i64 0,.int .i64 0,.int .i64 0,.int .i64 0,.int .i64 0,.int .i64 0,.int .i64 0,.int .i64 0],elem:=3,esz:=1,alen:=8,eagg:=false,arr:=true }
theorem K6:tokb Tryz.prog 238 Xs=true:=by kernel_rfl
def JX:TI:={ agg:=true,size:=32,bytes:=256,zero:=[.int .i64 0,.int .i64 0,.int .i64 0,.int .i64 0,.int .i64 0,.int .i64 0,.int .i64 0,.int .i64 0,.int .i64 0,.int .i64 0,.int .i64 0,.int .i64 0,.int .i64 0,.int .i64 0,.int .i64 0,.int .i64 0,.int .i64 0,.int .i64 0,.int .i64 0,.int .i64 0,.int .i64 0,.int .i64 0,.int .i64 0,.int .i64 0,.int .i64 0,.int .i64 0,.int .i64 0,.int .i64 0,.int .i64 0,.int .i64 0,.int .i64 0,.int .i64 0],elem:=238,esz:=8,alen:=4,eagg:=true,arr:=true }
theorem KK:tokb Tryz.prog 239 JX=true:=by kernel_rfl
def XL:TI:={ agg:=false,size:=1,bytes:=8,zero:=[.int .u64 0],ik:=some .u64 }
theorem Je:tokb Tryz.prog 252 XL=true:=by kernel_rfl
def XA:TI:={ agg:=true,size:=4,bytes:=32,zero:=[.int .u64 0,.int .u64 0,.int .u64 0,.int .u64 0],elem:=252,esz:=1,alen:=4,eagg:=false,arr:=true }
theorem KJ:tokb Tryz.prog 255 XA=true:=by kernel_rfl
def tab:Nat->Option TI
  | 2=>some ti2
  | 3=>some ti3
  | 4=>some ti4
  | 5=>some ti5
  | 21=>some UN
  | 23=>some Uy
  | 24=>some gm
  | 25=>some uD
  | 26=>some GW
  | 27=>some G7
  | 29=>some up
  | 33=>some Us
  | 47=>some Uz
  | 50=>some U8
  | 53=>some uu
  | 56=>some UV
  | 58=>some Ux
  | 59=>some gr
  | 61=>some UK
  | 70=>some Uv
  | 91=>some Uh
  | 93=>some Uq
  | 94=>some ua
  | 100=>some XQ
  | 108=>some J8
  | 110=>some Xm
  | 111=>some JW
  | 113=>some Xx
  | 118=>some J9
  | 119=>some u7
  | 125=>some Xj
  | 134=>some Xd
  | 136=>some JN
  | 137=>some Xy
  | 144=>some XP
  | 147=>some Xt
  | 148=>some JS
  | 150=>some JL
  | 157=>some Xz
  | 160=>some Xl
  | 168=>some JZ
  | 172=>some Xn
  | 173=>some JV
  | 175=>some JY
  | 179=>some Xk
  | 180=>some XY
  | 187=>some Xi
  | 189=>some J4
  | 208=>some XI
  | 222=>some Xh
  | 224=>some Xw
  | 229=>some X1
  | 234=>some XO
  | 236=>some JU
  | 238=>some Xs
  | 239=>some JX
  | 252=>some XL
  | 255=>some XA
  | _=>none
theorem Gs (t:Nat) (i:TI) (h:tab t=some i):TOK Tryz.prog t i:=by
 unfold tab at h
 split at h
 ·cases h; exact wi Gk
 ·cases h; exact wi Ga
 ·cases h; exact wi GP
 ·cases h; exact wi Gz
 ·cases h; exact wi Vf
 ·cases h; exact wi YO
 ·cases h; exact wi G3
 ·cases h; exact wi Vr
 ·cases h; exact wi gv
 ·cases h; exact wi GX
 ·cases h; exact wi VV
 ·cases h; exact wi Ve
 ·cases h; exact wi Vy
 ·cases h; exact wi YV
 ·cases h; exact wi Vc
 ·cases h; exact wi Vl
 ·cases h; exact wi Vt
 ·cases h; exact wi G5
 ·cases h; exact wi VJ
 ·cases h; exact wi V6
 ·cases h; exact wi Yw
 ·cases h; exact wi VY
 ·cases h; exact wi Y6
 ·cases h; exact wi Jl
 ·cases h; exact wi K1
 ·cases h; exact wi Js
 ·cases h; exact wi Jj
 ·cases h; exact wi K7
 ·cases h; exact wi K5
 ·cases h; exact wi Gx
 ·cases h; exact wi Jt
 ·cases h; exact wi JF
 ·cases h; exact wi KV
 ·cases h; exact wi Jz
 ·cases h; exact wi Jk
 ·cases h; exact wi KQ
 ·cases h; exact wi KL
 ·cases h; exact wi KO
 ·cases h; exact wi JD
 ·cases h; exact wi Jq
 ·cases h; exact wi Jy
 ·cases h; exact wi KH
 ·cases h; exact wi Jh
 ·cases h; exact wi K4
 ·cases h; exact wi KS
 ·cases h; exact wi K0
 ·cases h; exact wi Jm
 ·cases h; exact wi Jo
 ·cases h; exact wi JB
 ·cases h; exact wi Ji
 ·cases h; exact wi KZ
 ·cases h; exact wi K9
 ·cases h; exact wi KU
 ·cases h; exact wi KY
 ·cases h; exact wi K6
 ·cases h; exact wi KK
 ·cases h; exact wi Je
 ·cases h; exact wi KJ
 ·cases h
theorem GS (t:Nat) (i:TI) (h:tab t=some i) (e:i.eqf=true):EqF Tryz.prog t i:=by
 unfold tab at h
 split at h
 ·cases h; cases e
 ·cases h; cases e
 ·cases h; cases e
 ·cases h; cases e
 ·cases h; cases e
 ·cases h; cases e
 ·cases h; cases e
 ·cases h; cases e
 ·cases h; cases e
 ·cases h; cases e
 ·cases h; cases e
 ·cases h; cases e
 ·cases h; cases e
 ·cases h; cases e
 ·cases h; cases e
 ·cases h; cases e
 ·cases h; cases e
 ·cases h; cases e
 ·cases h; cases e
 ·cases h; cases e
 ·cases h; cases e
 ·cases h; cases e
 ·cases h; cases e
 ·cases h; cases e
 ·cases h; cases e
 ·cases h; cases e
 ·cases h; cases e
 ·cases h; cases e
 ·cases h; cases e
 ·cases h; cases e
 ·cases h; cases e
 ·cases h; cases e
 ·cases h; cases e
 ·cases h; cases e
 ·cases h; cases e
 ·cases h; cases e
 ·cases h; cases e
 ·cases h; cases e
 ·cases h; cases e
 ·cases h; cases e
 ·cases h; cases e
 ·cases h; cases e
 ·cases h; cases e
 ·cases h; cases e
 ·cases h; cases e
 ·cases h; cases e
 ·cases h; cases e
 ·cases h; cases e
 ·cases h; cases e
 ·cases h; cases e
 ·cases h; cases e
 ·cases h; cases e
 ·cases h; cases e
 ·cases h; cases e
 ·cases h; cases e
 ·cases h; cases e
 ·cases h; cases e
 ·cases h; cases e
 ·cases h
def uQ:TI:={ agg:=false,size:=1,bytes:=24,zero:=[.nils],elem:=59,esz:=1,slc:=true,tag:=3 }
theorem Gp:tokb Tryz.prog 24 uQ=true:=by kernel_rfl
def u9:TI:={ agg:=false,size:=1,bytes:=24,zero:=[.nils],elem:=25,esz:=1,slc:=true,tag:=3 }
theorem GD:tokb Tryz.prog 26 u9=true:=by kernel_rfl
def uU:TI:={ agg:=false,size:=1,bytes:=24,zero:=[.nils],elem:=26,esz:=1,slc:=true,tag:=3 }
theorem Gh:tokb Tryz.prog 27 uU=true:=by kernel_rfl
def u4:TI:={ agg:=false,size:=1,bytes:=24,zero:=[.nils],elem:=70,esz:=1,slc:=true,tag:=3 }
theorem GN:tokb Tryz.prog 59 u4=true:=by kernel_rfl
def Vx:TI:={ agg:=false,size:=1,bytes:=24,zero:=[.nils],elem:=56,esz:=1,slc:=true,tag:=3 }
theorem uv:tokb Tryz.prog 119 Vx=true:=by kernel_rfl
def VL:Nat->Option TI
  | 2=>some ti2
  | 3=>some ti3
  | 4=>some ti4
  | 5=>some ti5
  | 21=>some UN
  | 23=>some Uy
  | 24=>some uQ
  | 25=>some uD
  | 26=>some u9
  | 27=>some uU
  | 29=>some up
  | 33=>some Us
  | 47=>some Uz
  | 50=>some U8
  | 53=>some uu
  | 56=>some UV
  | 58=>some Ux
  | 59=>some u4
  | 61=>some UK
  | 70=>some Uv
  | 91=>some Uh
  | 93=>some Uq
  | 94=>some ua
  | 100=>some XQ
  | 108=>some J8
  | 110=>some Xm
  | 111=>some JW
  | 113=>some Xx
  | 118=>some J9
  | 119=>some Vx
  | 125=>some Xj
  | 134=>some Xd
  | 136=>some JN
  | 137=>some Xy
  | 144=>some XP
  | 147=>some Xt
  | 148=>some JS
  | 150=>some JL
  | 157=>some Xz
  | 160=>some Xl
  | 168=>some JZ
  | 172=>some Xn
  | 173=>some JV
  | 175=>some JY
  | 179=>some Xk
  | 180=>some XY
  | 187=>some Xi
  | 189=>some J4
  | 208=>some XI
  | 222=>some Xh
  | 224=>some Xw
  | 229=>some X1
  | 234=>some XO
  | 236=>some JU
  | 238=>some Xs
  | 239=>some JX
  | 252=>some XL
  | 255=>some XA
  | _=>none
theorem Ul (t:Nat) (i:TI) (h:VL t=some i):TOK Tryz.prog t i:=by
 unfold VL at h
 split at h
 ·cases h; exact wi Gk
 ·cases h; exact wi Ga
 ·cases h; exact wi GP
 ·cases h; exact wi Gz
 ·cases h; exact wi Vf
 ·cases h; exact wi YO
 ·cases h; exact wi Gp
 ·cases h; exact wi Vr
 ·cases h; exact wi GD
 ·cases h; exact wi Gh
 ·cases h; exact wi VV
 ·cases h; exact wi Ve
 ·cases h; exact wi Vy
 ·cases h; exact wi YV
 ·cases h; exact wi Vc
 ·cases h; exact wi Vl
 ·cases h; exact wi Vt
 ·cases h; exact wi GN
 ·cases h; exact wi VJ
 ·cases h; exact wi V6
 ·cases h; exact wi Yw
 ·cases h; exact wi VY
 ·cases h; exact wi Y6
 ·cases h; exact wi Jl
 ·cases h; exact wi K1
 ·cases h; exact wi Js
 ·cases h; exact wi Jj
 ·cases h; exact wi K7
 ·cases h; exact wi K5
 ·cases h; exact wi uv
 ·cases h; exact wi Jt
 ·cases h; exact wi JF
 ·cases h; exact wi KV
 ·cases h; exact wi Jz
 ·cases h; exact wi Jk
 ·cases h; exact wi KQ
 ·cases h; exact wi KL
 ·cases h; exact wi KO
 ·cases h; exact wi JD
 ·cases h; exact wi Jq
 ·cases h; exact wi Jy
 ·cases h; exact wi KH
 ·cases h; exact wi Jh
 ·cases h; exact wi K4
 ·cases h; exact wi KS
 ·cases h; exact wi K0
 ·cases h; exact wi Jm
 ·cases h; exact wi Jo
 ·cases h; exact wi JB
 ·cases h; exact wi Ji
 ·cases h; exact wi KZ
 ·cases h; exact wi K9
 ·cases h; exact wi KU
 ·cases h; exact wi KY
 ·cases h; exact wi K6
 ·cases h; exact wi KK
 ·cases h; exact wi Je
 ·cases h; exact wi KJ
 ·cases h
theorem Ui (t:Nat) (i:TI) (h:VL t=some i) (e:i.eqf=true):EqF Tryz.prog t i:=by
 unfold VL at h
 split at h
 ·cases h; cases e
 ·cases h; cases e
 ·cases h; cases e
 ·cases h; cases e
 ·cases h; cases e
 ·cases h; cases e
 ·cases h; cases e
 ·cases h; cases e
 ·cases h; cases e
 ·cases h; cases e
 ·cases h; cases e
 ·cases h; cases e
 ·cases h; cases e
 ·cases h; cases e
 ·cases h; cases e
 ·cases h; cases e
 ·cases h; cases e
 ·cases h; cases e
 ·cases h; cases e
 ·cases h; cases e
 ·cases h; cases e
 ·cases h; cases e
 ·cases h; cases e
 ·cases h; cases e
 ·cases h; cases e
 ·cases h; cases e
 ·cases h; cases e
 ·cases h; cases e
 ·cases h; cases e
 ·cases h; cases e
 ·cases h; cases e
 ·cases h; cases e
 ·cases h; cases e
 ·cases h; cases e
 ·cases h; cases e
 ·cases h; cases e
 ·cases h; cases e
 ·cases h; cases e
 ·cases h; cases e
 ·cases h; cases e
 ·cases h; cases e
 ·cases h; cases e
 ·cases h; cases e
 ·cases h; cases e
 ·cases h; cases e
 ·cases h; cases e
 ·cases h; cases e
 ·cases h; cases e
 ·cases h; cases e
 ·cases h; cases e
 ·cases h; cases e
 ·cases h; cases e
 ·cases h; cases e
 ·cases h; cases e
 ·cases h; cases e
 ·cases h; cases e
 ·cases h; cases e
 ·cases h; cases e
 ·cases h
def uK:Env Tryz.prog:=⟨VL,Ul,Ui⟩
def uY:TI:={ agg:=false,size:=1,bytes:=24,zero:=[.nils],elem:=59,esz:=1,slc:=true,ek:=some (.slice (.slice (.int .i32))),eb:=24,tag:=3 }
theorem Gj:tokb Tryz.prog 24 uY=true:=by kernel_rfl
def uN:TI:={ agg:=false,size:=1,bytes:=24,zero:=[.nils],elem:=25,esz:=1,slc:=true,ek:=some (.slice (.int .i64)),eb:=24,tag:=3 }
theorem Gn:tokb Tryz.prog 26 uN=true:=by kernel_rfl
def uS:TI:={ agg:=false,size:=1,bytes:=24,zero:=[.nils],elem:=26,esz:=1,slc:=true,ek:=some (.slice (.slice (.int .i64))),eb:=24,tag:=3 }
theorem Gu:tokb Tryz.prog 27 uS=true:=by kernel_rfl
def u5:TI:={ agg:=false,size:=1,bytes:=24,zero:=[.nils],elem:=70,esz:=1,slc:=true,ek:=some (.slice (.int .i32)),eb:=24,tag:=3 }
theorem GE:tokb Tryz.prog 59 u5=true:=by kernel_rfl
def V8:TI:={ agg:=false,size:=1,bytes:=24,zero:=[.nils],elem:=56,esz:=1,slc:=true,ek:=some (.slice (.int .i16)),eb:=24,tag:=3 }
theorem UI:tokb Tryz.prog 119 V8=true:=by kernel_rfl
def Y1:Nat->Option TI
  | 2=>some ti2
  | 3=>some ti3
  | 4=>some ti4
  | 5=>some ti5
  | 21=>some UN
  | 23=>some Uy
  | 24=>some uY
  | 25=>some uD
  | 26=>some uN
  | 27=>some uS
  | 29=>some up
  | 33=>some Us
  | 47=>some Uz
  | 50=>some U8
  | 53=>some uu
  | 56=>some UV
  | 58=>some Ux
  | 59=>some u5
  | 61=>some UK
  | 70=>some Uv
  | 91=>some Uh
  | 93=>some Uq
  | 94=>some ua
  | 100=>some XQ
  | 108=>some J8
  | 110=>some Xm
  | 111=>some JW
  | 113=>some Xx
  | 118=>some J9
  | 119=>some V8
  | 125=>some Xj
  | 134=>some Xd
  | 136=>some JN
  | 137=>some Xy
  | 144=>some XP
  | 147=>some Xt
  | 148=>some JS
  | 150=>some JL
  | 157=>some Xz
  | 160=>some Xl
  | 168=>some JZ
  | 172=>some Xn
  | 173=>some JV
  | 175=>some JY
  | 179=>some Xk
  | 180=>some XY
  | 187=>some Xi
  | 189=>some J4
  | 208=>some XI
  | 222=>some Xh
  | 224=>some Xw
  | 229=>some X1
  | 234=>some XO
  | 236=>some JU
  | 238=>some Xs
  | 239=>some JX
  | 252=>some XL
  | 255=>some XA
  | _=>none
theorem uy (t:Nat) (i:TI) (h:Y1 t=some i):TOK Tryz.prog t i:=by
 unfold Y1 at h
 split at h
 ·cases h; exact wi Gk
 ·cases h; exact wi Ga
 ·cases h; exact wi GP
 ·cases h; exact wi Gz
 ·cases h; exact wi Vf
 ·cases h; exact wi YO
 ·cases h; exact wi Gj
 ·cases h; exact wi Vr
 ·cases h; exact wi Gn
 ·cases h; exact wi Gu
 ·cases h; exact wi VV
 ·cases h; exact wi Ve
 ·cases h; exact wi Vy
 ·cases h; exact wi YV
 ·cases h; exact wi Vc
 ·cases h; exact wi Vl
 ·cases h; exact wi Vt
 ·cases h; exact wi GE
 ·cases h; exact wi VJ
 ·cases h; exact wi V6
 ·cases h; exact wi Yw
 ·cases h; exact wi VY
 ·cases h; exact wi Y6
 ·cases h; exact wi Jl
 ·cases h; exact wi K1
 ·cases h; exact wi Js
 ·cases h; exact wi Jj
 ·cases h; exact wi K7
 ·cases h; exact wi K5
 ·cases h; exact wi UI
 ·cases h; exact wi Jt
 ·cases h; exact wi JF
 ·cases h; exact wi KV
 ·cases h; exact wi Jz
 ·cases h; exact wi Jk
 ·cases h; exact wi KQ
 ·cases h; exact wi KL
 ·cases h; exact wi KO
 ·cases h; exact wi JD
 ·cases h; exact wi Jq
 ·cases h; exact wi Jy
 ·cases h; exact wi KH
 ·cases h; exact wi Jh
 ·cases h; exact wi K4
 ·cases h; exact wi KS
 ·cases h; exact wi K0
 ·cases h; exact wi Jm
 ·cases h; exact wi Jo
 ·cases h; exact wi JB
 ·cases h; exact wi Ji
 ·cases h; exact wi KZ
 ·cases h; exact wi K9
 ·cases h; exact wi KU
 ·cases h; exact wi KY
 ·cases h; exact wi K6
 ·cases h; exact wi KK
 ·cases h; exact wi Je
 ·cases h; exact wi KJ
 ·cases h
theorem UF (t:Nat) (i:TI) (h:Y1 t=some i) (e:i.eqf=true):EqF Tryz.prog t i:=by
 unfold Y1 at h
 split at h
 ·cases h; cases e
 ·cases h; cases e
 ·cases h; cases e
 ·cases h; cases e
 ·cases h; cases e
 ·cases h; cases e
 ·cases h; cases e
 ·cases h; cases e
 ·cases h; cases e
 ·cases h; cases e
 ·cases h; cases e
 ·cases h; cases e
 ·cases h; cases e
 ·cases h; cases e
 ·cases h; cases e
 ·cases h; cases e
 ·cases h; cases e
 ·cases h; cases e
 ·cases h; cases e
 ·cases h; cases e
 ·cases h; cases e
 ·cases h; cases e
 ·cases h; cases e
 ·cases h; cases e
 ·cases h; cases e
 ·cases h; cases e
 ·cases h; cases e
 ·cases h; cases e
 ·cases h; cases e
 ·cases h; cases e
 ·cases h; cases e
 ·cases h; cases e
 ·cases h; cases e
 ·cases h; cases e
 ·cases h; cases e
 ·cases h; cases e
 ·cases h; cases e
 ·cases h; cases e
 ·cases h; cases e
 ·cases h; cases e
 ·cases h; cases e
 ·cases h; cases e
 ·cases h; cases e
 ·cases h; cases e
 ·cases h; cases e
 ·cases h; cases e
 ·cases h; cases e
 ·cases h; cases e
 ·cases h; cases e
 ·cases h; cases e
 ·cases h; cases e
 ·cases h; cases e
 ·cases h; cases e
 ·cases h; cases e
 ·cases h; cases e
 ·cases h; cases e
 ·cases h; cases e
 ·cases h; cases e
 ·cases h
def gh:Env Tryz.prog:=⟨Y1,uy,UF⟩
theorem tv:True:=trivial
def env:Env Tryz.prog:=⟨tab,Gs,GS⟩
section
variable {Γ:Gd} {N:Nat} {Q:Exit->Act->World->Prop} {A A':List (Nat × MV)} {L L':List (Nat × Option MObj)}
theorem zr {y:Code} {id:Nat} {l:List Oper} (h:TL Tryz.prog Γ N l.toArray (Exit.then (fun a w=>y.wp Tryz.prog Q a w) Q) l A L):TC Tryz.prog Γ N (.seq (.region id l.toArray false) y) Q A L:=wa (wL h)
theorem zg {Q':Exit->Act->World->Prop} {y:Code} {id:Nat} {l:List Oper} (h:TL Tryz.prog Γ N l.toArray (Exit.then (fun a w=>y.wp Tryz.prog Q a w) Q) l A L):TE Γ N (Exit.then (fun a w=>(Code.seq (.region id l.toArray false) y).wp Tryz.prog Q a w) Q' .normal) A L:=zL (zr h)
theorem ze {Q':Exit->Act->World->Prop} {ops:Array Oper} {c:Code} (h:TC Tryz.prog Γ N c Q A L):TL Tryz.prog Γ N ops (Exit.then (fun a w=>c.wp Tryz.prog Q a w) Q') [] A L:=wU (zL h)
theorem zn {Q':Exit->Act->World->Prop} {ops:Array Oper} {y:Code} {id:Nat} {l:List Oper} (h:TL Tryz.prog Γ N l.toArray (Exit.then (fun a w=>y.wp Tryz.prog Q a w) Q) l A L):TL Tryz.prog Γ N ops (Exit.then (fun a w=>(Code.seq (.region id l.toArray false) y).wp Tryz.prog Q a w) Q') [] A L:=wU (zg h)
theorem zm {f:Act->World->Prop} {ops:Array Oper} (h:TE Γ N f A L):TL Tryz.prog Γ N ops (Exit.then f Q) [] A L:=wU (tsn h)
theorem zt {Q':Exit->Act->World->Prop} {id:Nat} {l:List Oper} (h:TL Tryz.prog Γ N l.toArray Q l A L):TE Γ N (Exit.then (fun a w=>(Code.region id l.toArray false).wp Tryz.prog Q a w) Q' .normal) A L:=zL (wL h)
theorem zu {Q':Exit->Act->World->Prop} (h:TE Γ N (Q .ret) A L):TE Γ N (Exit.then (fun a w=>Code.ret.wp Tryz.prog Q a w) Q' .normal) A L:=zL (wd h)
theorem zk {Q':Exit->Act->World->Prop} {c:Code} (h:TC Tryz.prog Γ N c Q A L):TC Tryz.prog Γ N .skip (Exit.then (fun a w=>c.wp Tryz.prog Q a w) Q') A L:=wv (zL h)
end
def fl:List Nat:=[3,4,5,6,7,8,9,10,11,12,13,14,15,16,17,18,19,20,21,22,23,24,25,26,27,28,29,30,31,32,33,34,35,36,37,38,39,40,41,42,43,44,45,46,47,48,49,50,51,52,53,54,55,56,57,58,59,60,61,62,63,64,65,66,67,68,69,70,71,72,73,74,75,76,77,78,79,80,81,82,83,84,85,86,87,88,89,90,91,92,93,94,95,96,97,98,99,100,101,102,103,104,105,106,107,108,109,110,111,112,113,114,115,116,117,118,119,120,121,122,123,124,125,126,127,128,129,130,131,132,133,134,135,136,137,138,139,140,141,142,143,144,145,146,147,148,149,150,151,152,153,154,155,156,157,158,159,160,161,162,163,164,165,167]
theorem GU:fl.all (fun f=>fnb Tryz.prog f)=true:=by kernel_rfl
theorem fb {f:FuncId} (h:fl.contains f=true):fnb Tryz.prog f=true:=List.all_eq_true.1 GU f (List.contains_iff_mem.1 h)
section
variable {Γ:Gd} {N:Nat} {Q:Exit->Act->World->Prop} {A A':List (Nat × MV)} {L L':List (Nat × Option MObj)} {γ:Type} {R:Act->World->Prop}
theorem cC {c:Operand} {x y:Code} {b:Bool} {u v:Option γ} {z:γ} (h:(bif b then u else v)=some z) (ht:u=some z->TC Tryz.prog Γ N x Q A L) (hf:v=some z->TC Tryz.prog Γ N y Q A L) (hc:opd A c=some (.bool b):=by exact rfl):TC Tryz.prog Γ N (.cond c x y) Q A L:=QP hc (fun e=>ht (xZ h e)) (fun e=>hf (xX h e))
theorem cT {c:Operand} {x y:Code} (h:TC Tryz.prog Γ N x Q A L) (hc:opd A c=some (.bool true):=by exact rfl):TC Tryz.prog Γ N (.cond c x y) Q A L:=QP hc (fun _=>h) (fun e=>(tff e).elim)
theorem cF {c:Operand} {x y:Code} (h:TC Tryz.prog Γ N y Q A L) (hc:opd A c=some (.bool false):=by exact rfl):TC Tryz.prog Γ N (.cond c x y) Q A L:=QP hc (fun e=>(ftf e).elim) (fun _=>h)
theorem tce {c:Code} (h:TE Γ N (fun a w=>c.wp Tryz.prog Q a w) A L):TC Tryz.prog Γ N c Q A L:=h
theorem ect {c:Code} (h:TC Tryz.prog Γ N c Q A L):TE Γ N (fun a w=>c.wp Tryz.prog Q a w) A L:=h
theorem rE (A':List (Nat × MV)) (L':List (Nat × Option MObj)) (l:List (Nat × Nat)) (h:TE Γ N R A' L') (hA:js (sg l) A' A:=by (repeat' (first | exact trivial | refine And.intro rfl ?_))) (hL:jr (sg l) L' L:=by (repeat' (first | exact trivial | refine And.intro rfl ?_))) (hb:sgB l (wW L')=true:=by exact rfl):TE Γ N R A L:=JM l hA hL hb h
theorem rC {c:Code} (A':List (Nat × MV)) (L':List (Nat × Option MObj)) (l:List (Nat × Nat)) (h:TC Tryz.prog Γ N c Q A' L') (hA:js (sg l) A' A:=by (repeat' (first | exact trivial | refine And.intro rfl ?_))) (hL:jr (sg l) L' L:=by (repeat' (first | exact trivial | refine And.intro rfl ?_))) (hb:sgB l (wW L')=true:=by exact rfl):TC Tryz.prog Γ N c Q A L:=Up l hA hL hb h
theorem zR {fn:Func} {res:MV} {Lc:List (Nat × Option MObj)} {C:Prop} (hr:Y3 env.tab A L fn.results.toList=some (res,C)) (hC:C:=by (repeat' (first | exact trivial | refine And.intro ?_ ?_ | decide | assumption | exact rfl))) (hL:yW Lc L:=by (repeat' (first | exact trivial | refine And.intro (.inr rfl) ?_ | refine And.intro (.inl rfl) ?_))):TE Γ N (bodyPost Tryz.prog fn (WD Γ res Lc) .ret) A L:=Jw env hr hC hL
theorem zN {fn:Func} {res:MV} {Lc:List (Nat × Option MObj)} {C:Prop} (hr:Y3 env.tab A L fn.results.toList=some (res,C)) (hC:C:=by (repeat' (first | exact trivial | refine And.intro ?_ ?_ | decide | assumption | exact rfl))) (hL:yW Lc L:=by (repeat' (first | exact trivial | refine And.intro (.inr rfl) ?_ | refine And.intro (.inl rfl) ?_))):TE Γ N (bodyPost Tryz.prog fn (WD Γ res Lc) .normal) A L:=Gw env hr hC hL
theorem cB {ops:Array Oper} {o:Oper} {l:List Oper} {f:FuncId} {xs ys:List MV} {Lc Lc':List (Nat × Option MObj)} {res:MV} {C:Prop} (π:List (Nat × Nat)) (hF:Fn Tryz.prog f xs Lc res Lc') (h:jV A o.op=some (f,ys,C)) (hys:ys=MV.renL (sg π) xs) (k:TL Tryz.prog Γ N ops Q l (yq o.dst (res.ren (sg π)) A) (kV (sg π) Lc'++L)) (hf:fl.contains f=true:=by exact rfl) (hC:C:=by (repeat' (first | exact trivial | refine And.intro ?_ ?_ | decide | assumption | exact rfl))) (hs:yW (kV (sg π) Lc) L:=by (repeat' (first | exact trivial | refine And.intro (.inr rfl) ?_ | refine And.intro (.inl rfl) ?_))) (hb:Vh (sg π) N o.dst o.guard.isNone A L Lc Lc' res=true:=by exact rfl):TL Tryz.prog Γ N ops Q (o::l) A L:=VR π hF (fb hf) h hC hys hs hb k
end
section
variable {Γ:Gd} {N:Nat} {Q:Exit->Act->World->Prop} {A:List (Nat × MV)} {L:List (Nat × Option MObj)} {r:Rg} {G:Prop} {ex:Nat->List Nat} {l:List De} {n:Nat}
theorem jC {o:Oper} {f:FuncId} {xs ys:List MV} {Lc Lc':List (Nat × Option MObj)} {res:MV} {C:Prop} (n':Nat) (π:List (Nat × Nat)) (hF:Fn Tryz.prog f xs Lc res Lc') (ho:r.ops[n]? = some o) (h:jV (yu r (fnR n l) A n) o.op=some (f,ys,C)) (k:AJR Tryz.prog Γ N Q r ex A L G n' ((yq o.dst (res.ren (sg π)) [],kV (sg π) Lc')::l)) (hys:ys=MV.renL (sg π) xs:=by exact rfl) (hf:fl.contains f=true:=by exact rfl) (hC:C:=by (repeat' (first | exact trivial | refine And.intro ?_ ?_ | decide | assumption | exact rfl))) (hsub:yW (kV (sg π) Lc) (yv r ex (fnR n l) L n):=by (repeat' (first | exact trivial | refine And.intro (.inr rfl) ?_ | refine And.intro (.inl rfl) ?_))) (hb:vb (sg π) N o.dst o.guard.isNone (r.wk n) (r.nk n) Lc Lc' res=true:=by exact rfl) (hn':n'=n+1:=by exact rfl) (hn:Nat.ble (n+1) r.ops.size=true:=by exact rfl):AJR Tryz.prog Γ N Q r ex A L G n l:=Yz n' hn' (Nat.le_of_ble_eq_true hn) π ho hF (fb hf) h hC hys hsub hb k
theorem zD {ops:Array Oper} (a:List Nat) (b c d:List (Nat × List Nat)) {id:Nat} (h:AJR Tryz.prog Γ N Q ⟨ops,fun i=>bts (a.getD i 0) i,fun i=>lkI i b,fun i=>lkI i c⟩ (fun i=>lkM i d) A L (TC Tryz.prog Γ N (.region id ops true) Q A L) 0 []) (hr:(⟨ops,fun i=>bts (a.getD i 0) i,fun i=>lkI i b,fun i=>lkI i c⟩:Rg).ok=true:=by kernel_rfl) (hx:exB ⟨ops,fun i=>bts (a.getD i 0) i,fun i=>lkI i b,fun i=>lkI i c⟩ (fun i=>lkM i d) A=true:=by kernel_rfl):TC Tryz.prog Γ N (.region id ops true) Q A L:=Va _ _ hr hx h
theorem jN {ex:Nat->List Nat} {id n:Nat} {l:List De} (fin:TE Γ N (Q .normal) (KD n (fnR n l) A) (Kr n (fnR n l) L)) (hl:r.ops.size=n:=by exact rfl) (hf:frR r n l A L=true:=by exact rfl):AJR Tryz.prog Γ N Q r ex A L (TC Tryz.prog Γ N (.region id r.ops true) Q A L) n l:=uJ rfl hl hf fin
end
theorem fO {f:FuncId} {fn:Func} {c:Code} {args:List MV} {Lc Lc':List (Nat × Option MObj)} {res:MV} (hf:Tryz.prog.funcs[f]? = some fn) (hb:fn.body=some c) (h:∀ Γ:Gd,TC Tryz.prog Γ fn.ntmps c (bodyPost Tryz.prog fn (WD Γ res Lc')) (Zr 0 args) Lc) (hn:Nat.ble args.length fn.ntmps=true:=by exact rfl):Fn Tryz.prog f args Lc res Lc':=W5 hf hb (Nat.le_of_ble_eq_true hn) h

section
variable {Γ:Gd} {N:Nat} {Q:Exit->Act->World->Prop} {A A':List (Nat × MV)} {L L':List (Nat × Option MObj)} {γ:Type}
theorem zE {ops:Array Oper} (n:Nat) {l l':List Oper} {C:Prop} (h:jy env.tab N ops n l A L=some (l',A',L',C)) (k:TL Tryz.prog Γ N ops Q l' A' L') (hC:C:=by (repeat' (first | exact trivial | refine And.intro ?_ ?_ | decide | assumption | exact rfl))):TL Tryz.prog Γ N ops Q l A L:=kD env n h hC k
theorem zG {ops:Array Oper} {G:Prop} {_:Decidable G} {X:Option γ} {z:γ} (h0:gd G X=some z) (n:Nat) {l l':List Oper} {C:Prop} (h:jy env.tab N ops n l A L=some (l',A',L',C)) (k:X=some z->TL Tryz.prog Γ N ops Q l' A' L') (hC:G->C:=by intro g; (repeat' (first | exact trivial | refine And.intro ?_ ?_ | with_reducible (first | exact g | exact g.1 | exact g.2 | exact g.2.1 | exact g.2.2 | exact g.2.2.1 | exact g.2.2.2 | exact g.2.2.2.1 | exact g.2.2.2.2 | exact g.2.2.2.2.1 | exact g.2.2.2.2.2 | exact g.2.2.2.2.2.1 | exact g.2.2.2.2.2.2 | exact g.2.2.2.2.2.2.1 | exact g.2.2.2.2.2.2.2) | decide | exact rfl | exact g.2.2.2.2.2.2.2 | exact g.2.2.2.2.2.2.1 | exact g.2.2.2.2.2.2 | exact g.2.2.2.2.2.1 | exact g.2.2.2.2.2 | exact g.2.2.2.2.1 | exact g.2.2.2.2 | exact g.2.2.2.1 | exact g.2.2.2 | exact g.2.2.1 | exact g.2.2 | exact g.2.1 | exact g.2 | exact g.1 | exact g))):TL Tryz.prog Γ N ops Q l A L:=kD env n h (hC (jx h0).1) (k (jx h0).2)
end
section
variable {Γ:Gd} {N:Nat} {Q Q':Exit->Act->World->Prop} {A A':List (Nat × MV)} {L L':List (Nat × Option MObj)} {ops:Array Oper} {l l2:List Oper} {C:Prop} {y c:Code} {id id2:Nat} {f:Act->World->Prop}
theorem zx (n:Nat) (h:jy env.tab N ops n l A L=some ([],A',L',C)) (k:TC Tryz.prog Γ N c Q A' L') (hC:C:=by (repeat' (first | exact trivial | refine And.intro ?_ ?_ | decide | assumption | exact rfl))):TL Tryz.prog Γ N ops (Exit.then (fun a w=>c.wp Tryz.prog Q a w) Q') l A L:=kD env n h hC (wU (zL k))
theorem zy (n:Nat) (h:jy env.tab N ops n l A L=some ([],A',L',C)) (k:TL Tryz.prog Γ N l2.toArray (Exit.then (fun a w=>y.wp Tryz.prog Q a w) Q) l2 A' L') (hC:C:=by (repeat' (first | exact trivial | refine And.intro ?_ ?_ | decide | assumption | exact rfl))):TL Tryz.prog Γ N ops (Exit.then (fun a w=>(Code.seq (.region id2 l2.toArray false) y).wp Tryz.prog Q a w) Q') l A L:=zx n h (zr k) hC
theorem zz (n:Nat) (h:jy env.tab N ops n l A L=some ([],A',L',C)) (k:TE Γ N f A' L') (hC:C:=by (repeat' (first | exact trivial | refine And.intro ?_ ?_ | decide | assumption | exact rfl))):TL Tryz.prog Γ N ops (Exit.then f Q) l A L:=kD env n h hC (wU (tsn k))
theorem zA (n:Nat) (h:jy env.tab N l.toArray n l A L=some ([],A',L',C)) (k:TC Tryz.prog Γ N c Q A' L') (hC:C:=by (repeat' (first | exact trivial | refine And.intro ?_ ?_ | decide | assumption | exact rfl))):TC Tryz.prog Γ N (.seq (.region id l.toArray false) c) Q A L:=zr (zx n h k hC)
theorem zB (n:Nat) (h:jy env.tab N l.toArray n l A L=some ([],A',L',C)) (k:TC Tryz.prog Γ N c Q A' L') (hC:C:=by (repeat' (first | exact trivial | refine And.intro ?_ ?_ | decide | assumption | exact rfl))):TE Γ N (Exit.then (fun a w=>(Code.seq (.region id l.toArray false) c).wp Tryz.prog Q a w) Q' .normal) A L:=zg (zx n h k hC)
theorem zC (n:Nat) (h:jy env.tab N l.toArray n l A L=some ([],A',L',C)) (k:TL Tryz.prog Γ N l2.toArray (Exit.then (fun a w=>y.wp Tryz.prog Q a w) Q) l2 A' L') (hC:C:=by (repeat' (first | exact trivial | refine And.intro ?_ ?_ | decide | assumption | exact rfl))):TC Tryz.prog Γ N (.seq (.region id l.toArray false) (.seq (.region id2 l2.toArray false) y)) Q A L:=zr (zy n h k hC)
theorem zF (n:Nat) (h:jy env.tab N l.toArray n l A L=some ([],A',L',C)) (k:TL Tryz.prog Γ N l2.toArray (Exit.then (fun a w=>y.wp Tryz.prog Q a w) Q) l2 A' L') (hC:C:=by (repeat' (first | exact trivial | refine And.intro ?_ ?_ | decide | assumption | exact rfl))):TE Γ N (Exit.then (fun a w=>(Code.seq (.region id l.toArray false) (.seq (.region id2 l2.toArray false) y)).wp Tryz.prog Q a w) Q' .normal) A L:=zg (zy n h k hC)
end
theorem zS {Γ:Gd} {N:Nat} {Q:Exit->Act->World->Prop} {A A':List (Nat × MV)} {L L':List (Nat × Option MObj)} {ops:Array Oper} (cs:List Nat) {l l':List Oper} {C:Prop} (h:WN env.tab N ops (xpT cs) l A L=some (l',A',L',C)) (k:TL Tryz.prog Γ N ops Q l' A' L') (hC:C:=by (repeat' (first | exact trivial | refine And.intro ?_ ?_ | exact id | decide | assumption | exact rfl | intro _))):TL Tryz.prog Γ N ops Q l A L:=vY env (xpT cs) h hC k
section
variable {Γ:Gd} {N:Nat} {Q:Exit->Act->World->Prop} {A:List (Nat × MV)} {L:List (Nat × Option MObj)} {r:Rg} {G:Prop} {ex:Nat->List Nat} {l:List De} {n:Nat} {γ:Type}
theorem jR {l':List De} {C:Prop} (n':Nat) (cs:List Nat) (h:Kh env.tab N r ex A L (xpJ cs) n l=some (n',l',C)) (k:AJR Tryz.prog Γ N Q r ex A L G n' l') (hC:C:=by (repeat' (first | exact trivial | refine And.intro ?_ ?_ | exact id | decide | assumption | exact rfl | intro _))):AJR Tryz.prog Γ N Q r ex A L G n l:=vS env (xpJ cs) h hC k
theorem jP {l':List De} {C G':Prop} {_:Decidable G'} {X:Option γ} {z:γ} (h0:gd G' X=some z) (n':Nat) (cs:List Nat) (h:Kh env.tab N r ex A L (xpJ cs) n l=some (n',l',C)) (k:X=some z->AJR Tryz.prog Γ N Q r ex A L G n' l') (hC:G'->C:=by intro g; (repeat' (first | exact trivial | refine And.intro ?_ ?_ | with_reducible (first | exact g | exact g.1 | exact g.2 | exact g.2.1 | exact g.2.2 | exact g.2.2.1 | exact g.2.2.2 | exact g.2.2.2.1 | exact g.2.2.2.2 | exact g.2.2.2.2.1 | exact g.2.2.2.2.2 | exact g.2.2.2.2.2.1 | exact g.2.2.2.2.2.2 | exact g.2.2.2.2.2.2.1 | exact g.2.2.2.2.2.2.2) | decide | exact rfl | exact g.2.2.2.2.2.2.2 | exact g.2.2.2.2.2.2.1 | exact g.2.2.2.2.2.2 | exact g.2.2.2.2.2.1 | exact g.2.2.2.2.2 | exact g.2.2.2.2.1 | exact g.2.2.2.2 | exact g.2.2.2.1 | exact g.2.2.2 | exact g.2.2.1 | exact g.2.2 | exact g.2.1 | exact g.2 | exact g.1 | exact g))):AJR Tryz.prog Γ N Q r ex A L G n l:=vS env (xpJ cs) h (hC (jx h0).1) (k (jx h0).2)
theorem jQ {l':List De} {C G':Prop} {_:Decidable G'} {X:Option γ} {z:γ} (h0:gd G' X=some z) (n':Nat) (cs:List Nat) (h:Kh env.tab N r ex A L (xpJ cs) n l=some (n',l',C)) (k:X=some z->AJR Tryz.prog Γ N Q r ex A L G n' l') (hC:G'->C:=by intro g; (repeat' (first | exact trivial | refine And.intro ?_ ?_ | with_reducible (first | exact g | exact g.1 | exact g.2 | exact g.2.1 | exact g.2.2 | exact g.2.2.1 | exact g.2.2.2 | exact g.2.2.2.1 | exact g.2.2.2.2 | exact g.2.2.2.2.1 | exact g.2.2.2.2.2 | exact g.2.2.2.2.2.1 | exact g.2.2.2.2.2.2 | exact g.2.2.2.2.2.2.1 | exact g.2.2.2.2.2.2.2) | decide | assumption | exact rfl | exact g.2.2.2.2.2.2.2 | exact g.2.2.2.2.2.2.1 | exact g.2.2.2.2.2.2 | exact g.2.2.2.2.2.1 | exact g.2.2.2.2.2 | exact g.2.2.2.2.1 | exact g.2.2.2.2 | exact g.2.2.2.1 | exact g.2.2.2 | exact g.2.2.1 | exact g.2.2 | exact g.2.1 | exact g.2 | exact g.1 | exact g | exact id | intro _))):AJR Tryz.prog Γ N Q r ex A L G n l:=vS env (xpJ cs) h (hC (jx h0).1) (k (jx h0).2)
end

section
variable {Γ:Gd} {N:Nat} {Q:Exit->Act->World->Prop} {A A':List (Nat × MV)} {L L':List (Nat × Option MObj)} {γ:Type}
theorem zEH {ops:Array Oper} (n:Nat) {l l':List Oper} {C:Prop} (h:jy uK.tab N ops n l A L=some (l',A',L',C)) (k:TL Tryz.prog Γ N ops Q l' A' L') (hC:C:=by (repeat' (first | exact trivial | refine And.intro ?_ ?_ | decide | assumption | exact rfl))):TL Tryz.prog Γ N ops Q l A L:=kD uK n h hC k
end

section
variable {Γ:Gd} {N:Nat} {Q:Exit->Act->World->Prop} {A:List (Nat × MV)} {L:List (Nat × Option MObj)} {r:Rg} {G:Prop} {ex:Nat->List Nat} {l:List De} {n:Nat} {γ:Type}
theorem jRH {l':List De} {C:Prop} (n':Nat) (cs:List Nat) (h:Kh uK.tab N r ex A L (xpJ cs) n l=some (n',l',C)) (k:AJR Tryz.prog Γ N Q r ex A L G n' l') (hC:C:=by (repeat' (first | exact trivial | refine And.intro ?_ ?_ | exact id | decide | assumption | exact rfl | intro _))):AJR Tryz.prog Γ N Q r ex A L G n l:=vS uK (xpJ cs) h hC k
end

section
variable {Γ:Gd} {N:Nat} {Q:Exit->Act->World->Prop} {A A':List (Nat × MV)} {L L':List (Nat × Option MObj)} {γ:Type}
theorem zGD {ops:Array Oper} {G:Prop} {_:Decidable G} {X:Option γ} {z:γ} (h0:gd G X=some z) (n:Nat) {l l':List Oper} {C:Prop} (h:jy gh.tab N ops n l A L=some (l',A',L',C)) (k:X=some z->TL Tryz.prog Γ N ops Q l' A' L') (hC:G->C:=by intro g; (repeat' (first | exact trivial | refine And.intro ?_ ?_ | with_reducible (first | exact g | exact g.1 | exact g.2 | exact g.2.1 | exact g.2.2 | exact g.2.2.1 | exact g.2.2.2 | exact g.2.2.2.1 | exact g.2.2.2.2 | exact g.2.2.2.2.1 | exact g.2.2.2.2.2 | exact g.2.2.2.2.2.1 | exact g.2.2.2.2.2.2 | exact g.2.2.2.2.2.2.1 | exact g.2.2.2.2.2.2.2) | decide | exact rfl | exact g.2.2.2.2.2.2.2 | exact g.2.2.2.2.2.2.1 | exact g.2.2.2.2.2.2 | exact g.2.2.2.2.2.1 | exact g.2.2.2.2.2 | exact g.2.2.2.2.1 | exact g.2.2.2.2 | exact g.2.2.2.1 | exact g.2.2.2 | exact g.2.2.1 | exact g.2.2 | exact g.2.1 | exact g.2 | exact g.1 | exact g))):TL Tryz.prog Γ N ops Q l A L:=kD gh n h (hC (jx h0).1) (k (jx h0).2)
end

section
variable {Γ:Gd} {N:Nat} {Q:Exit->Act->World->Prop} {A:List (Nat × MV)} {L:List (Nat × Option MObj)} {r:Rg} {G:Prop} {ex:Nat->List Nat} {l:List De} {n:Nat} {γ:Type}
end

section
variable {Γ:Gd} {N:Nat} {Q:Exit->Act->World->Prop} {A A':List (Nat × MV)} {L L':List (Nat × Option MObj)}
def SQ1 (Γ:Gd) (N:Nat) {α0:Type} (z:α0) (SA:α0->List (Nat × MV)) (SL:α0->List (Nat × Option MObj)):Act->World->Prop:=SP Γ N (fun s:α0=>z=s) (fun z=>SA z) (fun z=>SL z)

theorem SR1 {α0:Type} {x0:α0} {z:α0} {SA:α0->List (Nat × MV)} {SL:α0->List (Nat × Option MObj)} (h:some x0=some z) (l:List (Nat × Nat)) (hA:js (sg l) (SA x0) A:=by (repeat' (first | exact trivial | refine And.intro rfl ?_))) (hL:jr (sg l) (SL x0) L:=by (repeat' (first | exact trivial | refine And.intro rfl ?_))) (hb:sgB l (wW (SL x0))=true:=by exact rfl):TE Γ N (SQ1 Γ N z SA SL) A L:=zV l z rfl (by cases h; exact hA) (by cases h; exact hL) (by cases h; exact hb)

theorem CT1 {c:Code} {δ:Type} {α0:Type} {X:Option (α0)} {k:α0->Option δ} {r:δ} (h:X.bind k=some r) (SA:α0->List (Nat × MV)) (SL:α0->List (Nat × Option MObj)) (h1:∀ z,X=some z->TC Tryz.prog Γ N c (Exit.then (SQ1 Γ N z SA SL) Q) A L) (h2:∀ x0,k x0=some r->TE Γ N (Q .normal) (SA x0) (SL x0)):TC Tryz.prog Γ N c Q A L:=by
 obtain ⟨z,hx,hk⟩:=bnd h
 exact qh (fun s=>z=s) _ _ (h1 z hx) (fun s e=>by subst e; exact h2 _ hk)

def SQ2 (Γ:Gd) (N:Nat) {α0 α1:Type} (z:α0 × α1) (SA:α0->α1->List (Nat × MV)) (SL:α0->α1->List (Nat × Option MObj)):Act->World->Prop:=SP Γ N (fun s:α0 × α1=>z=s) (fun z=>SA z.1 z.2) (fun z=>SL z.1 z.2)

theorem SR2 {α0 α1:Type} {x0:α0} {x1:α1} {z:α0 × α1} {SA:α0->α1->List (Nat × MV)} {SL:α0->α1->List (Nat × Option MObj)} (h:some (x0,x1)=some z) (l:List (Nat × Nat)) (hA:js (sg l) (SA x0 x1) A:=by (repeat' (first | exact trivial | refine And.intro rfl ?_))) (hL:jr (sg l) (SL x0 x1) L:=by (repeat' (first | exact trivial | refine And.intro rfl ?_))) (hb:sgB l (wW (SL x0 x1))=true:=by exact rfl):TE Γ N (SQ2 Γ N z SA SL) A L:=zV l z rfl (by cases h; exact hA) (by cases h; exact hL) (by cases h; exact hb)

theorem CT2 {c:Code} {δ:Type} {α0 α1:Type} {X:Option (α0 × α1)} {k:(α0 × α1)->Option δ} {r:δ} (h:X.bind k=some r) (SA:α0->α1->List (Nat × MV)) (SL:α0->α1->List (Nat × Option MObj)) (h1:∀ z,X=some z->TC Tryz.prog Γ N c (Exit.then (SQ2 Γ N z SA SL) Q) A L) (h2:∀ x0 x1,k (x0,x1)=some r->TE Γ N (Q .normal) (SA x0 x1) (SL x0 x1)):TC Tryz.prog Γ N c Q A L:=by
 obtain ⟨z,hx,hk⟩:=bnd h
 exact qh (fun s=>z=s) _ _ (h1 z hx) (fun s e=>by subst e; exact h2 _ _ hk)

def SQ3 (Γ:Gd) (N:Nat) {α0 α1 α2:Type} (z:α0 × α1 × α2) (SA:α0->α1->α2->List (Nat × MV)) (SL:α0->α1->α2->List (Nat × Option MObj)):Act->World->Prop:=SP Γ N (fun s:α0 × α1 × α2=>z=s) (fun z=>SA z.1 z.2.1 z.2.2) (fun z=>SL z.1 z.2.1 z.2.2)

theorem SR3 {α0 α1 α2:Type} {x0:α0} {x1:α1} {x2:α2} {z:α0 × α1 × α2} {SA:α0->α1->α2->List (Nat × MV)} {SL:α0->α1->α2->List (Nat × Option MObj)} (h:some (x0,x1,x2)=some z) (l:List (Nat × Nat)) (hA:js (sg l) (SA x0 x1 x2) A:=by (repeat' (first | exact trivial | refine And.intro rfl ?_))) (hL:jr (sg l) (SL x0 x1 x2) L:=by (repeat' (first | exact trivial | refine And.intro rfl ?_))) (hb:sgB l (wW (SL x0 x1 x2))=true:=by exact rfl):TE Γ N (SQ3 Γ N z SA SL) A L:=zV l z rfl (by cases h; exact hA) (by cases h; exact hL) (by cases h; exact hb)

theorem CT3 {c:Code} {δ:Type} {α0 α1 α2:Type} {X:Option (α0 × α1 × α2)} {k:(α0 × α1 × α2)->Option δ} {r:δ} (h:X.bind k=some r) (SA:α0->α1->α2->List (Nat × MV)) (SL:α0->α1->α2->List (Nat × Option MObj)) (h1:∀ z,X=some z->TC Tryz.prog Γ N c (Exit.then (SQ3 Γ N z SA SL) Q) A L) (h2:∀ x0 x1 x2,k (x0,x1,x2)=some r->TE Γ N (Q .normal) (SA x0 x1 x2) (SL x0 x1 x2)):TC Tryz.prog Γ N c Q A L:=by
 obtain ⟨z,hx,hk⟩:=bnd h
 exact qh (fun s=>z=s) _ _ (h1 z hx) (fun s e=>by subst e; exact h2 _ _ _ hk)

def SQ4 (Γ:Gd) (N:Nat) {α0 α1 α2 α3:Type} (z:α0 × α1 × α2 × α3) (SA:α0->α1->α2->α3->List (Nat × MV)) (SL:α0->α1->α2->α3->List (Nat × Option MObj)):Act->World->Prop:=SP Γ N (fun s:α0 × α1 × α2 × α3=>z=s) (fun z=>SA z.1 z.2.1 z.2.2.1 z.2.2.2) (fun z=>SL z.1 z.2.1 z.2.2.1 z.2.2.2)

theorem SR4 {α0 α1 α2 α3:Type} {x0:α0} {x1:α1} {x2:α2} {x3:α3} {z:α0 × α1 × α2 × α3} {SA:α0->α1->α2->α3->List (Nat × MV)} {SL:α0->α1->α2->α3->List (Nat × Option MObj)} (h:some (x0,x1,x2,x3)=some z) (l:List (Nat × Nat)) (hA:js (sg l) (SA x0 x1 x2 x3) A:=by (repeat' (first | exact trivial | refine And.intro rfl ?_))) (hL:jr (sg l) (SL x0 x1 x2 x3) L:=by (repeat' (first | exact trivial | refine And.intro rfl ?_))) (hb:sgB l (wW (SL x0 x1 x2 x3))=true:=by exact rfl):TE Γ N (SQ4 Γ N z SA SL) A L:=zV l z rfl (by cases h; exact hA) (by cases h; exact hL) (by cases h; exact hb)

theorem CT4 {c:Code} {δ:Type} {α0 α1 α2 α3:Type} {X:Option (α0 × α1 × α2 × α3)} {k:(α0 × α1 × α2 × α3)->Option δ} {r:δ} (h:X.bind k=some r) (SA:α0->α1->α2->α3->List (Nat × MV)) (SL:α0->α1->α2->α3->List (Nat × Option MObj)) (h1:∀ z,X=some z->TC Tryz.prog Γ N c (Exit.then (SQ4 Γ N z SA SL) Q) A L) (h2:∀ x0 x1 x2 x3,k (x0,x1,x2,x3)=some r->TE Γ N (Q .normal) (SA x0 x1 x2 x3) (SL x0 x1 x2 x3)):TC Tryz.prog Γ N c Q A L:=by
 obtain ⟨z,hx,hk⟩:=bnd h
 exact qh (fun s=>z=s) _ _ (h1 z hx) (fun s e=>by subst e; exact h2 _ _ _ _ hk)

def LN1 (Γ:Gd) (N:Nat) {α0:Type} {δ:Type} (g:Nat->α0->Option δ) (r:δ) (n:Nat) (SA:α0->List (Nat × MV)) (SL:α0->List (Nat × Option MObj)):Act->World->Prop:=fun a w=>∃ n',n'<n/\SP Γ N (fun z:α0=>g n' z=some r) (fun z=>SA z) (fun z=>SL z) a w

theorem NX1 {α0:Type} {δ:Type} {g:Nat->α0->Option δ} {r:δ} {n:Nat} {x0:α0} {SA:α0->List (Nat × MV)} {SL:α0->List (Nat × Option MObj)} (h:g n x0=some r) (l:List (Nat × Nat)) (hA:js (sg l) (SA x0) A:=by (repeat' (first | exact trivial | refine And.intro rfl ?_))) (hL:jr (sg l) (SL x0) L:=by (repeat' (first | exact trivial | refine And.intro rfl ?_))) (hb:sgB l (wW (SL x0))=true:=by exact rfl):TE Γ N (LN1 Γ N g r (n+1) SA SL) A L:=yZ (p:=fun n (z:α0)=>g n z=some r) (SA:=fun z=>SA z) (SL:=fun z=>SL z) l n (Nat.lt_succ_self n) x0 h hA hL hb

theorem LP1 {c:Code} {α0:Type} {δ:Type} {g:Nat->α0->Option δ} {r:δ} {K:Nat} {x0:α0} (h:g K x0=some r) (l:List (Nat × Nat)) (SA:α0->List (Nat × MV)) (SL:α0->List (Nat × Option MObj)) (b:∀ n x0,g (n+1) x0=some r->TC Tryz.prog Γ N c (Exit.then (LN1 Γ N g r (n+1) SA SL) Q) (SA x0) (SL x0)) (hA:js (sg l) (SA x0) A:=by (repeat' (first | exact trivial | refine And.intro rfl ?_))) (hL:jr (sg l) (SL x0) L:=by (repeat' (first | exact trivial | refine And.intro rfl ?_))) (hb:sgB l (wW (SL x0))=true:=by exact rfl) (h0:∀ x0,g 0 x0=none:=by intros; exact rfl):TC Tryz.prog Γ N (.loop c) Q A L:=vR (α:=α0) (fun n z=>g n z=some r) (fun z=>SA z) (fun z=>SL z) K (zV l x0 h hA hL hb) (fun n z hz=>by
 rcases n with _ | n
 ·rw [h0] at hz; cases hz
 ·exact b n _ hz)

def LN2 (Γ:Gd) (N:Nat) {α0 α1:Type} {δ:Type} (g:Nat->α0->α1->Option δ) (r:δ) (n:Nat) (SA:α0->α1->List (Nat × MV)) (SL:α0->α1->List (Nat × Option MObj)):Act->World->Prop:=fun a w=>∃ n',n'<n/\SP Γ N (fun z:α0 × α1=>g n' z.1 z.2=some r) (fun z=>SA z.1 z.2) (fun z=>SL z.1 z.2) a w

theorem NX2 {α0 α1:Type} {δ:Type} {g:Nat->α0->α1->Option δ} {r:δ} {n:Nat} {x0:α0} {x1:α1} {SA:α0->α1->List (Nat × MV)} {SL:α0->α1->List (Nat × Option MObj)} (h:g n x0 x1=some r) (l:List (Nat × Nat)) (hA:js (sg l) (SA x0 x1) A:=by (repeat' (first | exact trivial | refine And.intro rfl ?_))) (hL:jr (sg l) (SL x0 x1) L:=by (repeat' (first | exact trivial | refine And.intro rfl ?_))) (hb:sgB l (wW (SL x0 x1))=true:=by exact rfl):TE Γ N (LN2 Γ N g r (n+1) SA SL) A L:=yZ (p:=fun n (z:α0 × α1)=>g n z.1 z.2=some r) (SA:=fun z=>SA z.1 z.2) (SL:=fun z=>SL z.1 z.2) l n (Nat.lt_succ_self n) (x0,x1) h hA hL hb

theorem LP2 {c:Code} {α0 α1:Type} {δ:Type} {g:Nat->α0->α1->Option δ} {r:δ} {K:Nat} {x0:α0} {x1:α1} (h:g K x0 x1=some r) (l:List (Nat × Nat)) (SA:α0->α1->List (Nat × MV)) (SL:α0->α1->List (Nat × Option MObj)) (b:∀ n x0 x1,g (n+1) x0 x1=some r->TC Tryz.prog Γ N c (Exit.then (LN2 Γ N g r (n+1) SA SL) Q) (SA x0 x1) (SL x0 x1)) (hA:js (sg l) (SA x0 x1) A:=by (repeat' (first | exact trivial | refine And.intro rfl ?_))) (hL:jr (sg l) (SL x0 x1) L:=by (repeat' (first | exact trivial | refine And.intro rfl ?_))) (hb:sgB l (wW (SL x0 x1))=true:=by exact rfl) (h0:∀ x0 x1,g 0 x0 x1=none:=by intros; exact rfl):TC Tryz.prog Γ N (.loop c) Q A L:=vR (α:=α0 × α1) (fun n z=>g n z.1 z.2=some r) (fun z=>SA z.1 z.2) (fun z=>SL z.1 z.2) K (zV l (x0,x1) h hA hL hb) (fun n z hz=>by
 rcases n with _ | n
 ·rw [h0] at hz; cases hz
 ·exact b n _ _ hz)

def LN3 (Γ:Gd) (N:Nat) {α0 α1 α2:Type} {δ:Type} (g:Nat->α0->α1->α2->Option δ) (r:δ) (n:Nat) (SA:α0->α1->α2->List (Nat × MV)) (SL:α0->α1->α2->List (Nat × Option MObj)):Act->World->Prop:=fun a w=>∃ n',n'<n/\SP Γ N (fun z:α0 × α1 × α2=>g n' z.1 z.2.1 z.2.2=some r) (fun z=>SA z.1 z.2.1 z.2.2) (fun z=>SL z.1 z.2.1 z.2.2) a w

theorem NX3 {α0 α1 α2:Type} {δ:Type} {g:Nat->α0->α1->α2->Option δ} {r:δ} {n:Nat} {x0:α0} {x1:α1} {x2:α2} {SA:α0->α1->α2->List (Nat × MV)} {SL:α0->α1->α2->List (Nat × Option MObj)} (h:g n x0 x1 x2=some r) (l:List (Nat × Nat)) (hA:js (sg l) (SA x0 x1 x2) A:=by (repeat' (first | exact trivial | refine And.intro rfl ?_))) (hL:jr (sg l) (SL x0 x1 x2) L:=by (repeat' (first | exact trivial | refine And.intro rfl ?_))) (hb:sgB l (wW (SL x0 x1 x2))=true:=by exact rfl):TE Γ N (LN3 Γ N g r (n+1) SA SL) A L:=yZ (p:=fun n (z:α0 × α1 × α2)=>g n z.1 z.2.1 z.2.2=some r) (SA:=fun z=>SA z.1 z.2.1 z.2.2) (SL:=fun z=>SL z.1 z.2.1 z.2.2) l n (Nat.lt_succ_self n) (x0,x1,x2) h hA hL hb

theorem LP3 {c:Code} {α0 α1 α2:Type} {δ:Type} {g:Nat->α0->α1->α2->Option δ} {r:δ} {K:Nat} {x0:α0} {x1:α1} {x2:α2} (h:g K x0 x1 x2=some r) (l:List (Nat × Nat)) (SA:α0->α1->α2->List (Nat × MV)) (SL:α0->α1->α2->List (Nat × Option MObj)) (b:∀ n x0 x1 x2,g (n+1) x0 x1 x2=some r->TC Tryz.prog Γ N c (Exit.then (LN3 Γ N g r (n+1) SA SL) Q) (SA x0 x1 x2) (SL x0 x1 x2)) (hA:js (sg l) (SA x0 x1 x2) A:=by (repeat' (first | exact trivial | refine And.intro rfl ?_))) (hL:jr (sg l) (SL x0 x1 x2) L:=by (repeat' (first | exact trivial | refine And.intro rfl ?_))) (hb:sgB l (wW (SL x0 x1 x2))=true:=by exact rfl) (h0:∀ x0 x1 x2,g 0 x0 x1 x2=none:=by intros; exact rfl):TC Tryz.prog Γ N (.loop c) Q A L:=vR (α:=α0 × α1 × α2) (fun n z=>g n z.1 z.2.1 z.2.2=some r) (fun z=>SA z.1 z.2.1 z.2.2) (fun z=>SL z.1 z.2.1 z.2.2) K (zV l (x0,x1,x2) h hA hL hb) (fun n z hz=>by
 rcases n with _ | n
 ·rw [h0] at hz; cases hz
 ·exact b n _ _ _ hz)

def LN4 (Γ:Gd) (N:Nat) {α0 α1 α2 α3:Type} {δ:Type} (g:Nat->α0->α1->α2->α3->Option δ) (r:δ) (n:Nat) (SA:α0->α1->α2->α3->List (Nat × MV)) (SL:α0->α1->α2->α3->List (Nat × Option MObj)):Act->World->Prop:=fun a w=>∃ n',n'<n/\SP Γ N (fun z:α0 × α1 × α2 × α3=>g n' z.1 z.2.1 z.2.2.1 z.2.2.2=some r) (fun z=>SA z.1 z.2.1 z.2.2.1 z.2.2.2) (fun z=>SL z.1 z.2.1 z.2.2.1 z.2.2.2) a w

theorem NX4 {α0 α1 α2 α3:Type} {δ:Type} {g:Nat->α0->α1->α2->α3->Option δ} {r:δ} {n:Nat} {x0:α0} {x1:α1} {x2:α2} {x3:α3} {SA:α0->α1->α2->α3->List (Nat × MV)} {SL:α0->α1->α2->α3->List (Nat × Option MObj)} (h:g n x0 x1 x2 x3=some r) (l:List (Nat × Nat)) (hA:js (sg l) (SA x0 x1 x2 x3) A:=by (repeat' (first | exact trivial | refine And.intro rfl ?_))) (hL:jr (sg l) (SL x0 x1 x2 x3) L:=by (repeat' (first | exact trivial | refine And.intro rfl ?_))) (hb:sgB l (wW (SL x0 x1 x2 x3))=true:=by exact rfl):TE Γ N (LN4 Γ N g r (n+1) SA SL) A L:=yZ (p:=fun n (z:α0 × α1 × α2 × α3)=>g n z.1 z.2.1 z.2.2.1 z.2.2.2=some r) (SA:=fun z=>SA z.1 z.2.1 z.2.2.1 z.2.2.2) (SL:=fun z=>SL z.1 z.2.1 z.2.2.1 z.2.2.2) l n (Nat.lt_succ_self n) (x0,x1,x2,x3) h hA hL hb

theorem LP4 {c:Code} {α0 α1 α2 α3:Type} {δ:Type} {g:Nat->α0->α1->α2->α3->Option δ} {r:δ} {K:Nat} {x0:α0} {x1:α1} {x2:α2} {x3:α3} (h:g K x0 x1 x2 x3=some r) (l:List (Nat × Nat)) (SA:α0->α1->α2->α3->List (Nat × MV)) (SL:α0->α1->α2->α3->List (Nat × Option MObj)) (b:∀ n x0 x1 x2 x3,g (n+1) x0 x1 x2 x3=some r->TC Tryz.prog Γ N c (Exit.then (LN4 Γ N g r (n+1) SA SL) Q) (SA x0 x1 x2 x3) (SL x0 x1 x2 x3)) (hA:js (sg l) (SA x0 x1 x2 x3) A:=by (repeat' (first | exact trivial | refine And.intro rfl ?_))) (hL:jr (sg l) (SL x0 x1 x2 x3) L:=by (repeat' (first | exact trivial | refine And.intro rfl ?_))) (hb:sgB l (wW (SL x0 x1 x2 x3))=true:=by exact rfl) (h0:∀ x0 x1 x2 x3,g 0 x0 x1 x2 x3=none:=by intros; exact rfl):TC Tryz.prog Γ N (.loop c) Q A L:=vR (α:=α0 × α1 × α2 × α3) (fun n z=>g n z.1 z.2.1 z.2.2.1 z.2.2.2=some r) (fun z=>SA z.1 z.2.1 z.2.2.1 z.2.2.2) (fun z=>SL z.1 z.2.1 z.2.2.1 z.2.2.2) K (zV l (x0,x1,x2,x3) h hA hL hb) (fun n z hz=>by
 rcases n with _ | n
 ·rw [h0] at hz; cases hz
 ·exact b n _ _ _ _ hz)

def LN5 (Γ:Gd) (N:Nat) {α0 α1 α2 α3 α4:Type} {δ:Type} (g:Nat->α0->α1->α2->α3->α4->Option δ) (r:δ) (n:Nat) (SA:α0->α1->α2->α3->α4->List (Nat × MV)) (SL:α0->α1->α2->α3->α4->List (Nat × Option MObj)):Act->World->Prop:=fun a w=>∃ n',n'<n/\SP Γ N (fun z:α0 × α1 × α2 × α3 × α4=>g n' z.1 z.2.1 z.2.2.1 z.2.2.2.1 z.2.2.2.2=some r) (fun z=>SA z.1 z.2.1 z.2.2.1 z.2.2.2.1 z.2.2.2.2) (fun z=>SL z.1 z.2.1 z.2.2.1 z.2.2.2.1 z.2.2.2.2) a w

theorem NX5 {α0 α1 α2 α3 α4:Type} {δ:Type} {g:Nat->α0->α1->α2->α3->α4->Option δ} {r:δ} {n:Nat} {x0:α0} {x1:α1} {x2:α2} {x3:α3} {x4:α4} {SA:α0->α1->α2->α3->α4->List (Nat × MV)} {SL:α0->α1->α2->α3->α4->List (Nat × Option MObj)} (h:g n x0 x1 x2 x3 x4=some r) (l:List (Nat × Nat)) (hA:js (sg l) (SA x0 x1 x2 x3 x4) A:=by (repeat' (first | exact trivial | refine And.intro rfl ?_))) (hL:jr (sg l) (SL x0 x1 x2 x3 x4) L:=by (repeat' (first | exact trivial | refine And.intro rfl ?_))) (hb:sgB l (wW (SL x0 x1 x2 x3 x4))=true:=by exact rfl):TE Γ N (LN5 Γ N g r (n+1) SA SL) A L:=yZ (p:=fun n (z:α0 × α1 × α2 × α3 × α4)=>g n z.1 z.2.1 z.2.2.1 z.2.2.2.1 z.2.2.2.2=some r) (SA:=fun z=>SA z.1 z.2.1 z.2.2.1 z.2.2.2.1 z.2.2.2.2) (SL:=fun z=>SL z.1 z.2.1 z.2.2.1 z.2.2.2.1 z.2.2.2.2) l n (Nat.lt_succ_self n) (x0,x1,x2,x3,x4) h hA hL hb

theorem LP5 {c:Code} {α0 α1 α2 α3 α4:Type} {δ:Type} {g:Nat->α0->α1->α2->α3->α4->Option δ} {r:δ} {K:Nat} {x0:α0} {x1:α1} {x2:α2} {x3:α3} {x4:α4} (h:g K x0 x1 x2 x3 x4=some r) (l:List (Nat × Nat)) (SA:α0->α1->α2->α3->α4->List (Nat × MV)) (SL:α0->α1->α2->α3->α4->List (Nat × Option MObj)) (b:∀ n x0 x1 x2 x3 x4,g (n+1) x0 x1 x2 x3 x4=some r->TC Tryz.prog Γ N c (Exit.then (LN5 Γ N g r (n+1) SA SL) Q) (SA x0 x1 x2 x3 x4) (SL x0 x1 x2 x3 x4)) (hA:js (sg l) (SA x0 x1 x2 x3 x4) A:=by (repeat' (first | exact trivial | refine And.intro rfl ?_))) (hL:jr (sg l) (SL x0 x1 x2 x3 x4) L:=by (repeat' (first | exact trivial | refine And.intro rfl ?_))) (hb:sgB l (wW (SL x0 x1 x2 x3 x4))=true:=by exact rfl) (h0:∀ x0 x1 x2 x3 x4,g 0 x0 x1 x2 x3 x4=none:=by intros; exact rfl):TC Tryz.prog Γ N (.loop c) Q A L:=vR (α:=α0 × α1 × α2 × α3 × α4) (fun n z=>g n z.1 z.2.1 z.2.2.1 z.2.2.2.1 z.2.2.2.2=some r) (fun z=>SA z.1 z.2.1 z.2.2.1 z.2.2.2.1 z.2.2.2.2) (fun z=>SL z.1 z.2.1 z.2.2.1 z.2.2.2.1 z.2.2.2.2) K (zV l (x0,x1,x2,x3,x4) h hA hL hb) (fun n z hz=>by
 rcases n with _ | n
 ·rw [h0] at hz; cases hz
 ·exact b n _ _ _ _ _ hz)

end
theorem pj1 {α:Type} {a c:α} (h:some a=some c):c=a:=sinj h

theorem pj2 {α0 α1:Type} {a0 c0:α0} {a1 c1:α1} (h:some (a0,a1)=some (c0,c1)):c0=a0/\c1=a1:=by cases h; exact ⟨rfl,rfl⟩

theorem pj3 {α0 α1 α2:Type} {a0 c0:α0} {a1 c1:α1} {a2 c2:α2} (h:some (a0,a1,a2)=some (c0,c1,c2)):c0=a0/\c1=a1/\c2=a2:=by cases h; exact ⟨rfl,rfl,rfl⟩

theorem pj4 {α0 α1 α2 α3:Type} {a0 c0:α0} {a1 c1:α1} {a2 c2:α2} {a3 c3:α3} (h:some (a0,a1,a2,a3)=some (c0,c1,c2,c3)):c0=a0/\c1=a1/\c2=a2/\c3=a3:=by cases h; exact ⟨rfl,rfl,rfl,rfl⟩

theorem pj5 {α0 α1 α2 α3 α4:Type} {a0 c0:α0} {a1 c1:α1} {a2 c2:α2} {a3 c3:α3} {a4 c4:α4} (h:some (a0,a1,a2,a3,a4)=some (c0,c1,c2,c3,c4)):c0=a0/\c1=a1/\c2=a2/\c3=a3/\c4=a4:=by cases h; exact ⟨rfl,rfl,rfl,rfl,rfl⟩

theorem pj7 {α0 α1 α2 α3 α4 α5 α6:Type} {a0 c0:α0} {a1 c1:α1} {a2 c2:α2} {a3 c3:α3} {a4 c4:α4} {a5 c5:α5} {a6 c6:α6} (h:some (a0,a1,a2,a3,a4,a5,a6)=some (c0,c1,c2,c3,c4,c5,c6)):c0=a0/\c1=a1/\c2=a2/\c3=a3/\c4=a4/\c5=a5/\c6=a6:=by cases h; exact ⟨rfl,rfl,rfl,rfl,rfl,rfl,rfl⟩

end Go.Fo
