/- What the kit's program says of the types that these functions use. -/
import Derived.Test.YtllmmohdmmneoaaGreatProg
import Derived.Test.YtllmmohdmmneoaaGreatJ4
namespace Go.Fo
abbrev J (x:Int):MV:=.int .i64 x
abbrev C (l:List MV):Option MObj:=some (.cells l)
abbrev W0 (x:List Bool):Option MObj:=some (.rows (.bool) x)
abbrev M1 (x:Li):MV:=.im (.slice (.int .i64)) x
abbrev M2 (x:Li):MV:=.im (.slice (.int .i16)) x
abbrev W3 (x:Li):Option MObj:=some (.rows (.int .i16) x)
abbrev M4 (x:Li):MV:=.im (.slice (.int .u8)) x
abbrev W5 (x:Li):Option MObj:=some (.rows (.int .i64) x)
abbrev W6 (x:List (Int×Int)):Option MObj:=some (.rows (.pair (.int .i64) (.int .i64)) x)
abbrev M7 (x:List (Int×Int)):MV:=.im (.slice (.pair (.int .i64) (.int .i64))) x
abbrev W8 (x:Li):Option MObj:=some (.rows (.int .u8) x)
abbrev W9 (x:Li):Option MObj:=some (.rows (.int .i32) x)
abbrev M10 (x:List Li):MV:=.im (.slice (.slice (.int .i16))) x
abbrev M11 (x:Li):MV:=.im (.slice (.int .i32)) x
abbrev M12 (x:Li):MV:=.im (.slice (.int .u64)) x
abbrev W13 (x:Li):Option MObj:=some (.rows (.int .u64) x)
abbrev P14 (x:(Int×(Int×(Int×(Int×Int))))):MV:=.pim (.pair (.int .i64) (.pair (.int .i64) (.pair (.int .i64) (.pair (.int .i64) (.int .i64))))) x
abbrev W15 (x:List Li):Option MObj:=some (.rows (.slice (.int .i32)) x)
abbrev M16 (x:List Li):MV:=.im (.slice (.slice (.int .i32))) x
abbrev W17 (x:List Li):Option MObj:=some (.rows (.slice (.int .i16)) x)
open Go.Proofs
def ti2:TI:={ agg:=false,size:=1,bytes:=8,zero:=[.int .i64 0],ik:=some .i64 }
theorem g8:tokb Tryz.prog 2 ti2=true:=by kernel_rfl
def ti3:TI:={ agg:=false,size:=1,bytes:=8,zero:=[.int .i64 0],ik:=some .i64 }
theorem Hk:tokb Tryz.prog 3 ti3=true:=by kernel_rfl
def ti4:TI:={ agg:=false,size:=1,bytes:=1,zero:=[.bool false],tag:=1 }
theorem gz:tokb Tryz.prog 4 ti4=true:=by kernel_rfl
def ti5:TI:={ agg:=false,size:=1,bytes:=1,zero:=[.int .u8 0],ik:=some .u8 }
theorem Hn:tokb Tryz.prog 5 ti5=true:=by kernel_rfl
def ti9:TI:={ agg:=false,size:=1,bytes:=16,zero:=[.str ⟨#[]⟩],tag:=7 }
theorem gQ:tokb Tryz.prog 9 ti9=true:=by kernel_rfl
def uG:TI:={ agg:=false,size:=1,bytes:=4,zero:=[.int .i32 0],ik:=some .i32 }
theorem U5:tokb Tryz.prog 21 uG=true:=by kernel_rfl
def ut:TI:={ agg:=true,size:=10,bytes:=80,zero:=[.int .i64 0,.int .i64 0,.int .i64 0,.int .i64 0,.int .i64 0,.int .i64 0,.int .i64 0,.int .i64 0,.int .i64 0,.int .i64 0],fields:=[(0,1,false),(1,1,false),(2,1,false),(3,1,false),(4,1,false),(5,1,false),(6,1,false),(7,1,false),(8,1,false),(9,1,false)] }
theorem UH:tokb Tryz.prog 23 ut=true:=by kernel_rfl
def G2:TI:={ agg:=false,size:=1,bytes:=8,zero:=[.nilp],tag:=2 }
theorem V6:tokb Tryz.prog 25 G2=true:=by kernel_rfl
def ga:TI:={ agg:=false,size:=1,bytes:=8,zero:=[.nilp],tag:=2 }
theorem Vk:tokb Tryz.prog 29 ga=true:=by kernel_rfl
def Gi:TI:={ agg:=true,size:=8,bytes:=64,zero:=[.int .i64 0,.int .i64 0,.int .i64 0,.int .i64 0,.int .i64 0,.int .i64 0,.int .i64 0,.int .i64 0],elem:=3,esz:=1,alen:=8,eagg:=false,arr:=true }
theorem UJ:tokb Tryz.prog 31 Gi=true:=by kernel_rfl
def Gr:TI:={ agg:=true,size:=9,bytes:=72,zero:=[.int .i64 0,.int .i64 0,.int .i64 0,.int .i64 0,.int .i64 0,.int .i64 0,.int .i64 0,.int .i64 0,.int .i64 0],fields:=[(0,1,false),(1,8,true)] }
theorem ub:tokb Tryz.prog 33 Gr=true:=by kernel_rfl
def Up:TI:={ agg:=true,size:=4,bytes:=32,zero:=[.int .i64 0,.int .i64 0,.int .i64 0,.int .i64 0],elem:=3,esz:=1,alen:=4,eagg:=false,arr:=true,eqf:=true }
theorem Y6:tokb Tryz.prog 34 Up=true:=by kernel_rfl
def up:TI:={ agg:=true,size:=5,bytes:=40,zero:=[.int .i64 0,.int .i64 0,.int .i64 0,.int .i64 0,.int .i64 0],fields:=[(0,1,false),(1,4,true)] }
theorem V7:tokb Tryz.prog 36 up=true:=by kernel_rfl
def ud:TI:={ agg:=true,size:=2,bytes:=16,zero:=[.int .i64 0,.int .i64 0],fields:=[(0,1,false),(1,1,false)],eqf:=true }
theorem UP:tokb Tryz.prog 38 ud=true:=by kernel_rfl
def Gq:TI:={ agg:=false,size:=1,bytes:=24,zero:=[.nils],elem:=3,esz:=1,slc:=true,ek:=some (.int .i64),eb:=8,tag:=3 }
theorem UE:tokb Tryz.prog 39 Gq=true:=by kernel_rfl
def uT:TI:={ agg:=true,size:=21,bytes:=200,zero:=[.int .i64 0,.int .i64 0,.int .i64 0,.int .i64 0,.int .i64 0,.int .i64 0,.int .i64 0,.int .i64 0,.int .i64 0,.int .i64 0,.int .i64 0,.int .i64 0,.int .i64 0,.int .i64 0,.int .i64 0,.int .i64 0,.int .i64 0,.int .i64 0,.int .i64 0,.nils,.nils],fields:=[(0,1,false),(1,9,true),(10,5,true),(15,2,true),(17,1,false),(18,1,false),(19,1,false),(20,1,false)] }
theorem V4:tokb Tryz.prog 41 uT=true:=by kernel_rfl
def GL:TI:={ agg:=false,size:=1,bytes:=24,zero:=[.nils],elem:=5,esz:=1,slc:=true,ek:=some (.int .u8),eb:=1,tag:=3 }
theorem UD:tokb Tryz.prog 44 GL=true:=by kernel_rfl
def GX:TI:={ agg:=false,size:=1,bytes:=24,zero:=[.nils],elem:=21,esz:=1,slc:=true,ek:=some (.int .i32),eb:=4,tag:=3 }
theorem Vy:tokb Tryz.prog 45 GX=true:=by kernel_rfl
def HV:TI:={ agg:=false,size:=1,bytes:=24,zero:=[.nils],elem:=45,esz:=1,slc:=true,ek:=some (.slice (.int .i32)),eb:=24,rr:=some (.int .i32),tag:=3 }
theorem Ma:tokb Tryz.prog 48 HV=true:=by kernel_rfl
def Gh:TI:={ agg:=false,size:=1,bytes:=24,zero:=[.nils],elem:=38,esz:=2,slc:=true,ek:=some (.pair (.int .i64) (.int .i64)),eb:=16,tag:=3 }
theorem Vr:tokb Tryz.prog 49 Gh=true:=by kernel_rfl
def G8:TI:={ agg:=false,size:=1,bytes:=24,zero:=[.nils],elem:=214,esz:=1,slc:=true,ek:=some (.int .i16),eb:=2,tag:=3 }
theorem XF:tokb Tryz.prog 50 G8=true:=by kernel_rfl
def GB:TI:={ agg:=false,size:=1,bytes:=8,zero:=[.nilp],tag:=2 }
theorem UK:tokb Tryz.prog 60 GB=true:=by kernel_rfl
def GD:TI:={ agg:=false,size:=1,bytes:=24,zero:=[.nils],elem:=76,esz:=2,slc:=true,tag:=3 }
theorem Vm:tokb Tryz.prog 67 GD=true:=by kernel_rfl
def uC:TI:={ agg:=true,size:=11,bytes:=104,zero:=[.int .i64 0,.int .i64 0,.int .i64 0,.int .i64 0,.int .i64 0,.int .i64 0,.int .i64 0,.int .i64 0,.int .i64 0,.int .i64 0,.nils],fields:=[(0,10,true),(10,1,false)] }
theorem VX:tokb Tryz.prog 69 uC=true:=by kernel_rfl
def GA:TI:={ agg:=false,size:=1,bytes:=8,zero:=[.nilp],tag:=2 }
theorem Ut:tokb Tryz.prog 70 GA=true:=by kernel_rfl
def uz:TI:={ agg:=false,size:=1,bytes:=8,zero:=[.nilp],tag:=2 }
theorem Vo:tokb Tryz.prog 73 uz=true:=by kernel_rfl
def uq:TI:={ agg:=true,size:=2,bytes:=16,zero:=[.nilp,.nilp],fields:=[(0,1,false),(1,1,false)] }
theorem V5:tokb Tryz.prog 76 uq=true:=by kernel_rfl
def uJ:TI:={ agg:=false,size:=1,bytes:=4,zero:=[.int .u32 0],ik:=some .u32 }
theorem VO:tokb Tryz.prog 80 uJ=true:=by kernel_rfl
def GQ:TI:={ agg:=true,size:=3,bytes:=12,zero:=[.int .u32 0,.int .i32 0,.int .u32 0],fields:=[(0,0,true),(0,1,true),(1,2,true)] }
theorem Uw:tokb Tryz.prog 88 GQ=true:=by kernel_rfl
def ul:TI:={ agg:=true,size:=4,bytes:=40,zero:=[.int .u32 0,.int .i32 0,.int .u32 0,.nils],fields:=[(0,3,true),(3,1,false)] }
theorem V3:tokb Tryz.prog 90 ul=true:=by kernel_rfl
def GG:TI:={ agg:=true,size:=1028,bytes:=10280,zero:=tcs (List.replicate 257 none),elem:=90,esz:=4,alen:=257,eagg:=true,arr:=true }
theorem Y9:tokb Tryz.prog 91 GG=true:=by kernel_rfl
def uH:TI:={ agg:=true,size:=516,bytes:=5160,zero:=tcs (List.replicate 129 none),elem:=90,esz:=4,alen:=129,eagg:=true,arr:=true }
theorem UO:tokb Tryz.prog 92 uH=true:=by kernel_rfl
def uS:TI:={ agg:=true,size:=1554,bytes:=15536,zero:=pst (List.replicate 388 none) 0 0,fields:=[(0,1028,true),(1028,516,true),(1544,8,true),(1552,1,true),(1553,1,true)] }
theorem Uo:tokb Tryz.prog 98 uS=true:=by kernel_rfl
def u5:TI:={ agg:=false,size:=1,bytes:=8,zero:=[.nilp],tag:=2 }
theorem Y7:tokb Tryz.prog 99 u5=true:=by kernel_rfl
def Yf:TI:={ agg:=true,size:=1,bytes:=8,zero:=[.nilp],fields:=[(0,1,false)] }
theorem J5:tokb Tryz.prog 103 Yf=true:=by kernel_rfl
def Xs:TI:={ agg:=false,size:=1,bytes:=8,zero:=[.nilp],tag:=2 }
theorem JA:tokb Tryz.prog 107 Xs=true:=by kernel_rfl
def gf:TI:={ agg:=false,size:=1,bytes:=24,zero:=[.nils],elem:=50,esz:=1,slc:=true,ek:=some (.slice (.int .i16)),eb:=24,rr:=some (.int .i16),tag:=3 }
theorem gE:tokb Tryz.prog 119 gf=true:=by kernel_rfl
def Yd:TI:={ agg:=false,size:=1,bytes:=8,zero:=[.nilp],tag:=2 }
theorem J9:tokb Tryz.prog 134 Yd=true:=by kernel_rfl
def XP:TI:={ agg:=false,size:=1,bytes:=24,zero:=[.nils],elem:=140,esz:=2,slc:=true,ek:=some (.pair (.int .i64) (.int .i64)),eb:=16,tag:=3 }
theorem J3:tokb Tryz.prog 137 XP=true:=by kernel_rfl
def XM:TI:={ agg:=true,size:=2,bytes:=16,zero:=[.int .i64 0,.int .i64 0],fields:=[(0,1,false),(1,1,false)] }
theorem JD:tokb Tryz.prog 140 XM=true:=by kernel_rfl
def Yq:TI:={ agg:=false,size:=1,bytes:=8,zero:=[.nilp],tag:=2 }
theorem Jz:tokb Tryz.prog 142 Yq=true:=by kernel_rfl
def Yh:TI:={ agg:=false,size:=1,bytes:=24,zero:=[.nils],elem:=158,esz:=2,slc:=true,tag:=3 }
theorem J2:tokb Tryz.prog 149 Yh=true:=by kernel_rfl
def X5:TI:={ agg:=true,size:=11,bytes:=104,zero:=[.int .i64 0,.int .i64 0,.int .i64 0,.int .i64 0,.int .i64 0,.int .i64 0,.int .i64 0,.int .i64 0,.int .i64 0,.int .i64 0,.nils],fields:=[(0,10,true),(10,1,false)] }
theorem Xf:tokb Tryz.prog 151 X5=true:=by kernel_rfl
def Xm:TI:={ agg:=false,size:=1,bytes:=8,zero:=[.nilp],tag:=2 }
theorem Xe:tokb Tryz.prog 152 Xm=true:=by kernel_rfl
def XD:TI:={ agg:=false,size:=1,bytes:=8,zero:=[.nilp],tag:=2 }
theorem Jd:tokb Tryz.prog 155 XD=true:=by kernel_rfl
def Yg:TI:={ agg:=true,size:=2,bytes:=16,zero:=[.nilp,.nilp],fields:=[(0,1,false),(1,1,false)] }
theorem JM:tokb Tryz.prog 158 Yg=true:=by kernel_rfl
def Xx:TI:={ agg:=true,size:=3,bytes:=56,zero:=[.int .i64 0,.nils,.nils],fields:=[(0,1,false),(1,1,false),(2,1,false)] }
theorem Xh:tokb Tryz.prog 165 Xx=true:=by kernel_rfl
def YA:TI:={ agg:=true,size:=4,bytes:=80,zero:=[.int .i64 0,.nils,.nils,.nils],fields:=[(0,3,true),(3,1,false)] }
theorem Jj:tokb Tryz.prog 169 YA=true:=by kernel_rfl
def XH:TI:={ agg:=true,size:=79,bytes:=632,zero:=[.int .i64 0,.int .i64 0,.int .i64 0,.int .i64 0,.int .i64 0,.int .i64 0,.int .i64 0,.int .i64 0,.int .i64 0,.int .i64 0,.int .i64 0,.int .i64 0,.int .i64 0,.int .i64 0,.int .i64 0,.int .i64 0,.int .i64 0,.int .i64 0,.int .i64 0,.int .i64 0,.int .i64 0,.int .i64 0,.int .i64 0,.int .i64 0,.int .i64 0,.int .i64 0,.int .i64 0,.int .i64 0,.int .i64 0,.int .i64 0,.int .i64 0,.int .i64 0,.int .i64 0,.int .i64 0,.int .i64 0,.int .i64 0,.int .i64 0,.int .i64 0,.int .i64 0,.int .i64 0,.int .i64 0,.int .i64 0,.int .i64 0,.int .i64 0,.int .i64 0,.int .i64 0,.int .i64 0,.int .i64 0,.int .i64 0,.int .i64 0,.int .i64 0,.int .i64 0,.int .i64 0,.int .i64 0,.int .i64 0,.int .i64 0,.int .i64 0,.int .i64 0,.int .i64 0,.int .i64 0,.int .i64 0,.int .i64 0,.int .i64 0,.int .i64 0,.int .i64 0,.int .i64 0,.int .i64 0,.int .i64 0,.int .i64 0,.int .i64 0,.int .i64 0,.int .i64 0,.int .i64 0,.int .i64 0,.int .i64 0,.int .i64 0,.int .i64 0,.int .i64 0,.int .i64 0],elem:=2,esz:=1,alen:=79,eagg:=false,arr:=true }
theorem JX:tokb Tryz.prog 170 XH=true:=by kernel_rfl
def X7:TI:={ agg:=true,size:=79,bytes:=632,zero:=[.int .i64 0,.int .i64 0,.int .i64 0,.int .i64 0,.int .i64 0,.int .i64 0,.int .i64 0,.int .i64 0,.int .i64 0,.int .i64 0,.int .i64 0,.int .i64 0,.int .i64 0,.int .i64 0,.int .i64 0,.int .i64 0,.int .i64 0,.int .i64 0,.int .i64 0,.int .i64 0,.int .i64 0,.int .i64 0,.int .i64 0,.int .i64 0,.int .i64 0,.int .i64 0,.int .i64 0,.int .i64 0,.int .i64 0,.int .i64 0,.int .i64 0,.int .i64 0,.int .i64 0,.int .i64 0,.int .i64 0,.int .i64 0,.int .i64 0,.int .i64 0,.int .i64 0,.int .i64 0,.int .i64 0,.int .i64 0,.int .i64 0,.int .i64 0,.int .i64 0,.int .i64 0,.int .i64 0,.int .i64 0,.int .i64 0,.int .i64 0,.int .i64 0,.int .i64 0,.int .i64 0,.int .i64 0,.int .i64 0,.int .i64 0,.int .i64 0,.int .i64 0,.int .i64 0,.int .i64 0,.int .i64 0,.int .i64 0,.int .i64 0,.int .i64 0,.int .i64 0,.int .i64 0,.int .i64 0,.int .i64 0,.int .i64 0,.int .i64 0,.int .i64 0,.int .i64 0,.int .i64 0,.int .i64 0,.int .i64 0,.int .i64 0,.int .i64 0,.int .i64 0,.int .i64 0],fields:=[(0,79,true)] }
theorem JL:tokb Tryz.prog 172 X7=true:=by kernel_rfl
def YD:TI:={ agg:=true,size:=79,bytes:=632,zero:=[.int .i64 0,.int .i64 0,.int .i64 0,.int .i64 0,.int .i64 0,.int .i64 0,.int .i64 0,.int .i64 0,.int .i64 0,.int .i64 0,.int .i64 0,.int .i64 0,.int .i64 0,.int .i64 0,.int .i64 0,.int .i64 0,.int .i64 0,.int .i64 0,.int .i64 0,.int .i64 0,.int .i64 0,.int .i64 0,.int .i64 0,.int .i64 0,.int .i64 0,.int .i64 0,.int .i64 0,.int .i64 0,.int .i64 0,.int .i64 0,.int .i64 0,.int .i64 0,.int .i64 0,.int .i64 0,.int .i64 0,.int .i64 0,.int .i64 0,.int .i64 0,.int .i64 0,.int .i64 0,.int .i64 0,.int .i64 0,.int .i64 0,.int .i64 0,.int .i64 0,.int .i64 0,.int .i64 0,.int .i64 0,.int .i64 0,.int .i64 0,.int .i64 0,.int .i64 0,.int .i64 0,.int .i64 0,.int .i64 0,.int .i64 0,.int .i64 0,.int .i64 0,.int .i64 0,.int .i64 0,.int .i64 0,.int .i64 0,.int .i64 0,.int .i64 0,.int .i64 0,.int .i64 0,.int .i64 0,.int .i64 0,.int .i64 0,.int .i64 0,.int .i64 0,.int .i64 0,.int .i64 0,.int .i64 0,.int .i64 0,.int .i64 0,.int .i64 0,.int .i64 0,.int .i64 0],fields:=[(0,79,true)] }
theorem Ja:tokb Tryz.prog 174 YD=true:=by kernel_rfl
def Yi:TI:={ agg:=true,size:=2,bytes:=16,zero:=[.int .i64 0,.int .i64 0],fields:=[(0,1,false),(1,1,false)] }
theorem JR:tokb Tryz.prog 177 Yi=true:=by kernel_rfl
def XS:TI:={ agg:=true,size:=3,bytes:=40,zero:=[.int .i64 0,.int .i64 0,.nils],fields:=[(0,2,true),(2,1,false)] }
theorem Xg:tokb Tryz.prog 179 XS=true:=by kernel_rfl
def X3:TI:={ agg:=true,size:=2,bytes:=16,zero:=[.int .i64 0,.int .i64 0],fields:=[(0,1,false),(1,1,false)] }
theorem Jy:tokb Tryz.prog 186 X3=true:=by kernel_rfl
def Xv:TI:={ agg:=true,size:=6,bytes:=48,zero:=[.int .i64 0,.int .i64 0,.nilp,.int .i64 0,.int .i64 0,.int .i64 0],fields:=[(0,2,true),(2,1,false),(3,1,false),(4,1,false),(5,1,false)] }
theorem Jh:tokb Tryz.prog 188 Xv=true:=by kernel_rfl
def YB:TI:={ agg:=true,size:=9,bytes:=72,zero:=[.int .i64 0,.int .i64 0,.int .i64 0,.int .i64 0,.int .i64 0,.int .i64 0,.int .i64 0,.int .i64 0,.int .i64 0],elem:=3,esz:=1,alen:=9,eagg:=false,arr:=true }
theorem JE:tokb Tryz.prog 193 YB=true:=by kernel_rfl
def XK:TI:={ agg:=false,size:=1,bytes:=2,zero:=[.int .u16 0],ik:=some .u16 }
theorem Jv:tokb Tryz.prog 199 XK=true:=by kernel_rfl
def Ye:TI:={ agg:=true,size:=1,bytes:=2,zero:=[.int .u16 0],fields:=[(0,1,false)] }
theorem JF:tokb Tryz.prog 201 Ye=true:=by kernel_rfl
def Yk:TI:={ agg:=false,size:=1,bytes:=24,zero:=[.nils],elem:=2,esz:=1,slc:=true,ek:=some (.int .i64),eb:=8,tag:=3 }
theorem QM:tokb Tryz.prog 212 Yk=true:=by kernel_rfl
def Xy:TI:={ agg:=false,size:=1,bytes:=2,zero:=[.int .i16 0],ik:=some .i16 }
theorem JN:tokb Tryz.prog 214 Xy=true:=by kernel_rfl
def Yl:TI:={ agg:=false,size:=1,bytes:=24,zero:=[.nils],elem:=220,esz:=1,slc:=true,ek:=some (.int .u64),eb:=8,tag:=3 }
theorem Jr:tokb Tryz.prog 217 Yl=true:=by kernel_rfl
def Ya:TI:={ agg:=false,size:=1,bytes:=8,zero:=[.int .u64 0],ik:=some .u64 }
theorem Xb:tokb Tryz.prog 220 Ya=true:=by kernel_rfl
def Xo:TI:={ agg:=true,size:=128,bytes:=1024,zero:=[.int .i64 0,.int .i64 0,.int .i64 0,.int .i64 0,.int .i64 0,.int .i64 0,.int .i64 0,.int .i64 0,.int .i64 0,.int .i64 0,.int .i64 0,.int .i64 0,.int .i64 0,.int .i64 0,.int .i64 0,.int .i64 0,.int .i64 0,.int .i64 0,.int .i64 0,.int .i64 0,.int .i64 0,.int .i64 0,.int .i64 0,.int .i64 0,.int .i64 0,.int .i64 0,.int .i64 0,.int .i64 0,.int .i64 0,.int .i64 0,.int .i64 0,.int .i64 0,.int .i64 0,.int .i64 0,.int .i64 0,.int .i64 0,.int .i64 0,.int .i64 0,.int .i64 0,.int .i64 0,.int .i64 0,.int .i64 0,.int .i64 0,.int .i64 0,.int .i64 0,.int .i64 0,.int .i64 0,.int .i64 0,.int .i64 0,.int .i64 0,.int .i64 0,.int .i64 0,.int .i64 0,.int .i64 0,.int .i64 0,.int .i64 0,.int .i64 0,.int .i64 0,.int .i64 0,.int .i64 0,.int .i64 0,.int .i64 0,.int .i64 0,.int .i64 0,.int .i64 0,.int .i64 0,.int .i64 0,.int .i64 0,.int .i64 0,.int .i64 0,.int .i64 0,.int .i64 0,.int .i64 0,.int .i64 0,.int .i64 0,.int .i64 0,.int .i64 0,.int .i64 0,.int .i64 0,.int .i64 0,.int .i64 0,.int .i64 0,.int .i64 0,.int .i64 0,.int .i64 0,.int .i64 0,.int .i64 0,.int .i64 0,.int .i64 0,.int .i64 0,.int .i64 0,.int .i64 0,.int .i64 0,.int .i64 0,.int .i64 0,.int .i64 0,.int .i64 0,.int .i64 0,.int .i64 0,.int .i64 0,.int .i64 0,.int .i64 0,.int .i64 0,.int .i64 0,.int .i64 0,.int .i64 0,.int .i64 0,.int .i64 0,.int .i64 0,.int .i64 0,.int .i64 0,.int .i64 0,.int .i64 0,.int .i64 0,.int .i64 0,.int .i64 0,.int .i64 0,.int .i64 0,.int .i64 0,.int .i64 0,.int .i64 0,.int .i64 0,.int .i64 0,.int .i64 0,.int .i64 0,.int .i64 0,.int .i64 0,.int .i64 0],elem:=31,esz:=8,alen:=16,eagg:=true,arr:=true }
theorem JT:tokb Tryz.prog 225 Xo=true:=by kernel_rfl
def Yj:TI:={ agg:=false,size:=1,bytes:=8,zero:=[.int .u64 0],ik:=some .u64 }
theorem J4:tokb Tryz.prog 229 Yj=true:=by kernel_rfl
def Yo:TI:={ agg:=true,size:=5,bytes:=40,zero:=[.int .i64 0,.int .i64 0,.int .i64 0,.int .i64 0,.int .i64 0],elem:=2,esz:=1,alen:=5,eagg:=false,arr:=true }
theorem Jb:tokb Tryz.prog 230 Yo=true:=by kernel_rfl
def XI:TI:={ agg:=true,size:=3,bytes:=40,zero:=[.int .i64 0,.int .i64 0,.nils],fields:=[(0,2,true),(2,1,false)] }
theorem Jp:tokb Tryz.prog 237 XI=true:=by kernel_rfl
def XC:TI:={ agg:=true,size:=6,bytes:=64,zero:=[.int .i64 0,.int .i64 0,.int .i64 0,.bool false,.int .i64 0,.nils],fields:=[(0,2,true),(2,1,false),(3,1,false),(4,1,false),(5,1,false)] }
theorem JB:tokb Tryz.prog 241 XC=true:=by kernel_rfl
def Yu:TI:={ agg:=true,size:=4,bytes:=80,zero:=[.int .i64 0,.nils,.nils,.nils],fields:=[(0,3,true),(3,1,false)] }
theorem Xd:tokb Tryz.prog 248 Yu=true:=by kernel_rfl
def YC:TI:={ agg:=true,size:=79,bytes:=632,zero:=[.int .i64 0,.int .i64 0,.int .i64 0,.int .i64 0,.int .i64 0,.int .i64 0,.int .i64 0,.int .i64 0,.int .i64 0,.int .i64 0,.int .i64 0,.int .i64 0,.int .i64 0,.int .i64 0,.int .i64 0,.int .i64 0,.int .i64 0,.int .i64 0,.int .i64 0,.int .i64 0,.int .i64 0,.int .i64 0,.int .i64 0,.int .i64 0,.int .i64 0,.int .i64 0,.int .i64 0,.int .i64 0,.int .i64 0,.int .i64 0,.int .i64 0,.int .i64 0,.int .i64 0,.int .i64 0,.int .i64 0,.int .i64 0,.int .i64 0,.int .i64 0,.int .i64 0,.int .i64 0,.int .i64 0,.int .i64 0,.int .i64 0,.int .i64 0,.int .i64 0,.int .i64 0,.int .i64 0,.int .i64 0,.int .i64 0,.int .i64 0,.int .i64 0,.int .i64 0,.int .i64 0,.int .i64 0,.int .i64 0,.int .i64 0,.int .i64 0,.int .i64 0,.int .i64 0,.int .i64 0,.int .i64 0,.int .i64 0,.int .i64 0,.int .i64 0,.int .i64 0,.int .i64 0,.int .i64 0,.int .i64 0,.int .i64 0,.int .i64 0,.int .i64 0,.int .i64 0,.int .i64 0,.int .i64 0,.int .i64 0,.int .i64 0,.int .i64 0,.int .i64 0,.int .i64 0],fields:=[(0,79,true)] }
theorem JC:tokb Tryz.prog 249 YC=true:=by kernel_rfl
def Yv:TI:={ agg:=true,size:=5,bytes:=20,zero:=[.int .i32 0,.int .i32 0,.int .i32 0,.int .i32 0,.int .i32 0],elem:=21,esz:=1,alen:=5,eagg:=false,arr:=true }
theorem J7:tokb Tryz.prog 263 Yv=true:=by kernel_rfl
def Ys:TI:={ agg:=true,size:=4,bytes:=8,zero:=[.int .i16 0,.int .i16 0,.int .i16 0,.int .i16 0],elem:=214,esz:=1,alen:=4,eagg:=false,arr:=true }
theorem Jk:tokb Tryz.prog 265 Ys=true:=by kernel_rfl
def XT:TI:={ agg:=true,size:=4,bytes:=16,zero:=[.int .i32 0,.int .i32 0,.int .i32 0,.int .i32 0],elem:=21,esz:=1,alen:=4,eagg:=false,arr:=true }
theorem J8:tokb Tryz.prog 266 XT=true:=by kernel_rfl
def XE:TI:={ agg:=true,size:=8,bytes:=24,zero:=[.int .i16 0,.int .i16 0,.int .i16 0,.int .i16 0,.int .i32 0,.int .i32 0,.int .i32 0,.int .i32 0],fields:=[(0,4,true),(4,4,true)] }
theorem JI:tokb Tryz.prog 268 XE=true:=by kernel_rfl
def XL:TI:={ agg:=false,size:=1,bytes:=8,zero:=[.nilf],tag:=4 }
theorem Xc:tokb Tryz.prog 279 XL=true:=by kernel_rfl
def X2:TI:={ agg:=true,size:=3,bytes:=24,zero:=[.int .i64 0,.int .i64 0,.int .i64 0],elem:=2,esz:=1,alen:=3,eagg:=false,arr:=true }
theorem Jo:tokb Tryz.prog 282 X2=true:=by kernel_rfl
def XY:TI:={ agg:=false,size:=1,bytes:=8,zero:=[.nilp],tag:=2 }
theorem Jc:tokb Tryz.prog 293 XY=true:=by kernel_rfl
def Yx:TI:={ agg:=true,size:=8,bytes:=64,zero:=[.int .u64 0,.int .u64 0,.int .u64 0,.int .u64 0,.int .u64 0,.int .u64 0,.int .u64 0,.int .u64 0],elem:=220,esz:=1,alen:=8,eagg:=false,arr:=true }
theorem Jw:tokb Tryz.prog 297 Yx=true:=by kernel_rfl
def gm:TI:={ agg:=false,size:=1,bytes:=24,zero:=[.nils],elem:=212,esz:=1,slc:=true,ek:=some (.slice (.int .i64)),eb:=24,rr:=some (.int .i64),tag:=3 }
theorem Hc:tokb Tryz.prog 298 gm=true:=by kernel_rfl
def XZ:TI:={ agg:=false,size:=1,bytes:=24,zero:=[.nils],elem:=4,esz:=1,slc:=true,ek:=some (.bool),eb:=1,tag:=3 }
theorem Js:tokb Tryz.prog 300 XZ=true:=by kernel_rfl
def Yb:TI:={ agg:=true,size:=4,bytes:=32,zero:=[.int .u64 0,.int .u64 0,.int .u64 0,.int .u64 0],elem:=220,esz:=1,alen:=4,eagg:=false,arr:=true }
theorem JW:tokb Tryz.prog 320 Yb=true:=by kernel_rfl
def tab:Nat->Option TI
  | 2=>some ti2
  | 3=>some ti3
  | 4=>some ti4
  | 5=>some ti5
  | 9=>some ti9
  | 21=>some uG
  | 23=>some ut
  | 25=>some G2
  | 29=>some ga
  | 31=>some Gi
  | 33=>some Gr
  | 34=>some Up
  | 36=>some up
  | 38=>some ud
  | 39=>some Gq
  | 41=>some uT
  | 44=>some GL
  | 45=>some GX
  | 48=>some HV
  | 49=>some Gh
  | 50=>some G8
  | 60=>some GB
  | 67=>some GD
  | 69=>some uC
  | 70=>some GA
  | 73=>some uz
  | 76=>some uq
  | 80=>some uJ
  | 88=>some GQ
  | 90=>some ul
  | 91=>some GG
  | 92=>some uH
  | 98=>some uS
  | 99=>some u5
  | 103=>some Yf
  | 107=>some Xs
  | 119=>some gf
  | 134=>some Yd
  | 137=>some XP
  | 140=>some XM
  | 142=>some Yq
  | 149=>some Yh
  | 151=>some X5
  | 152=>some Xm
  | 155=>some XD
  | 158=>some Yg
  | 165=>some Xx
  | 169=>some YA
  | 170=>some XH
  | 172=>some X7
  | 174=>some YD
  | 177=>some Yi
  | 179=>some XS
  | 186=>some X3
  | 188=>some Xv
  | 193=>some YB
  | 199=>some XK
  | 201=>some Ye
  | 212=>some Yk
  | 214=>some Xy
  | 217=>some Yl
  | 220=>some Ya
  | 225=>some Xo
  | 229=>some Yj
  | 230=>some Yo
  | 237=>some XI
  | 241=>some XC
  | 248=>some Yu
  | 249=>some YC
  | 263=>some Yv
  | 265=>some Ys
  | 266=>some XT
  | 268=>some XE
  | 279=>some XL
  | 282=>some X2
  | 293=>some XY
  | 297=>some Yx
  | 298=>some gm
  | 300=>some XZ
  | 320=>some Yb
  | _=>none
theorem gU (t:Nat) (i:TI) (h:tab t=some i):TOK Tryz.prog t i:=by
 unfold tab at h
 split at h
 ·cases h;exact wh g8
 ·cases h;exact wh Hk
 ·cases h;exact wh gz
 ·cases h;exact wh Hn
 ·cases h;exact wh gQ
 ·cases h;exact wh U5
 ·cases h;exact wh UH
 ·cases h;exact wh V6
 ·cases h;exact wh Vk
 ·cases h;exact wh UJ
 ·cases h;exact wh ub
 ·cases h;exact wh Y6
 ·cases h;exact wh V7
 ·cases h;exact wh UP
 ·cases h;exact wh UE
 ·cases h;exact wh V4
 ·cases h;exact wh UD
 ·cases h;exact wh Vy
 ·cases h;exact wh Ma
 ·cases h;exact wh Vr
 ·cases h;exact wh XF
 ·cases h;exact wh UK
 ·cases h;exact wh Vm
 ·cases h;exact wh VX
 ·cases h;exact wh Ut
 ·cases h;exact wh Vo
 ·cases h;exact wh V5
 ·cases h;exact wh VO
 ·cases h;exact wh Uw
 ·cases h;exact wh V3
 ·cases h;exact wh Y9
 ·cases h;exact wh UO
 ·cases h;exact wh Uo
 ·cases h;exact wh Y7
 ·cases h;exact wh J5
 ·cases h;exact wh JA
 ·cases h;exact wh gE
 ·cases h;exact wh J9
 ·cases h;exact wh J3
 ·cases h;exact wh JD
 ·cases h;exact wh Jz
 ·cases h;exact wh J2
 ·cases h;exact wh Xf
 ·cases h;exact wh Xe
 ·cases h;exact wh Jd
 ·cases h;exact wh JM
 ·cases h;exact wh Xh
 ·cases h;exact wh Jj
 ·cases h;exact wh JX
 ·cases h;exact wh JL
 ·cases h;exact wh Ja
 ·cases h;exact wh JR
 ·cases h;exact wh Xg
 ·cases h;exact wh Jy
 ·cases h;exact wh Jh
 ·cases h;exact wh JE
 ·cases h;exact wh Jv
 ·cases h;exact wh JF
 ·cases h;exact wh QM
 ·cases h;exact wh JN
 ·cases h;exact wh Jr
 ·cases h;exact wh Xb
 ·cases h;exact wh JT
 ·cases h;exact wh J4
 ·cases h;exact wh Jb
 ·cases h;exact wh Jp
 ·cases h;exact wh JB
 ·cases h;exact wh Xd
 ·cases h;exact wh JC
 ·cases h;exact wh J7
 ·cases h;exact wh Jk
 ·cases h;exact wh J8
 ·cases h;exact wh JI
 ·cases h;exact wh Xc
 ·cases h;exact wh Jo
 ·cases h;exact wh Jc
 ·cases h;exact wh Jw
 ·cases h;exact wh Hc
 ·cases h;exact wh Js
 ·cases h;exact wh JW
 ·cases h
theorem VM:EqF Tryz.prog 34 Up:=Ui (by kernel_rfl)
theorem Ve:EqF Tryz.prog 38 ud:=Ui (by kernel_rfl)
theorem Hj (t:Nat) (i:TI) (h:tab t=some i) (e:i.eqf=true):EqF Tryz.prog t i:=by
 unfold tab at h
 split at h
 ·cases h;cases e
 ·cases h;cases e
 ·cases h;cases e
 ·cases h;cases e
 ·cases h;cases e
 ·cases h;cases e
 ·cases h;cases e
 ·cases h;cases e
 ·cases h;cases e
 ·cases h;cases e
 ·cases h;cases e
 ·cases h;exact VM
 ·cases h;cases e
 ·cases h;exact Ve
 ·cases h;cases e
 ·cases h;cases e
 ·cases h;cases e
 ·cases h;cases e
 ·cases h;cases e
 ·cases h;cases e
 ·cases h;cases e
 ·cases h;cases e
 ·cases h;cases e
 ·cases h;cases e
 ·cases h;cases e
 ·cases h;cases e
 ·cases h;cases e
 ·cases h;cases e
 ·cases h;cases e
 ·cases h;cases e
 ·cases h;cases e
 ·cases h;cases e
 ·cases h;cases e
 ·cases h;cases e
 ·cases h;cases e
 ·cases h;cases e
 ·cases h;cases e
 ·cases h;cases e
 ·cases h;cases e
 ·cases h;cases e
 ·cases h;cases e
 ·cases h;cases e
 ·cases h;cases e
 ·cases h;cases e
 ·cases h;cases e
 ·cases h;cases e
 ·cases h;cases e
 ·cases h;cases e
 ·cases h;cases e
 ·cases h;cases e
 ·cases h;cases e
 ·cases h;cases e
 ·cases h;cases e
 ·cases h;cases e
 ·cases h;cases e
 ·cases h;cases e
 ·cases h;cases e
 ·cases h;cases e
 ·cases h;cases e
 ·cases h;cases e
 ·cases h;cases e
 ·cases h;cases e
 ·cases h;cases e
 ·cases h;cases e
 ·cases h;cases e
 ·cases h;cases e
 ·cases h;cases e
 ·cases h;cases e
 ·cases h;cases e
 ·cases h;cases e
 ·cases h;cases e
 ·cases h;cases e
 ·cases h;cases e
 ·cases h;cases e
 ·cases h;cases e
 ·cases h;cases e
 ·cases h;cases e
 ·cases h;cases e
 ·cases h;cases e
 ·cases h;cases e
 ·cases h
def gp:TI:={ agg:=false,size:=1,bytes:=24,zero:=[.nils],elem:=45,esz:=1,slc:=true,tag:=3 }
theorem gC:tokb Tryz.prog 48 gp=true:=by kernel_rfl
def UG:TI:={ agg:=false,size:=1,bytes:=24,zero:=[.nils],elem:=50,esz:=1,slc:=true,tag:=3 }
theorem GS:tokb Tryz.prog 119 UG=true:=by kernel_rfl
def VC:TI:={ agg:=false,size:=1,bytes:=24,zero:=[.nils],elem:=212,esz:=1,slc:=true,tag:=3 }
theorem GT:tokb Tryz.prog 298 VC=true:=by kernel_rfl
def VY:Nat->Option TI
  | 2=>some ti2
  | 3=>some ti3
  | 4=>some ti4
  | 5=>some ti5
  | 9=>some ti9
  | 21=>some uG
  | 23=>some ut
  | 25=>some G2
  | 29=>some ga
  | 31=>some Gi
  | 33=>some Gr
  | 34=>some Up
  | 36=>some up
  | 38=>some ud
  | 39=>some Gq
  | 41=>some uT
  | 44=>some GL
  | 45=>some GX
  | 48=>some gp
  | 49=>some Gh
  | 50=>some G8
  | 60=>some GB
  | 67=>some GD
  | 69=>some uC
  | 70=>some GA
  | 73=>some uz
  | 76=>some uq
  | 80=>some uJ
  | 88=>some GQ
  | 90=>some ul
  | 91=>some GG
  | 92=>some uH
  | 98=>some uS
  | 99=>some u5
  | 103=>some Yf
  | 107=>some Xs
  | 119=>some UG
  | 134=>some Yd
  | 137=>some XP
  | 140=>some XM
  | 142=>some Yq
  | 149=>some Yh
  | 151=>some X5
  | 152=>some Xm
  | 155=>some XD
  | 158=>some Yg
  | 165=>some Xx
  | 169=>some YA
  | 170=>some XH
  | 172=>some X7
  | 174=>some YD
  | 177=>some Yi
  | 179=>some XS
  | 186=>some X3
  | 188=>some Xv
  | 193=>some YB
  | 199=>some XK
  | 201=>some Ye
  | 212=>some Yk
  | 214=>some Xy
  | 217=>some Yl
  | 220=>some Ya
  | 225=>some Xo
  | 229=>some Yj
  | 230=>some Yo
  | 237=>some XI
  | 241=>some XC
  | 248=>some Yu
  | 249=>some YC
  | 263=>some Yv
  | 265=>some Ys
  | 266=>some XT
  | 268=>some XE
  | 279=>some XL
  | 282=>some X2
  | 293=>some XY
  | 297=>some Yx
  | 298=>some VC
  | 300=>some XZ
  | 320=>some Yb
  | _=>none
theorem uv (t:Nat) (i:TI) (h:VY t=some i):TOK Tryz.prog t i:=by
 unfold VY at h
 split at h
 ·cases h;exact wh g8
 ·cases h;exact wh Hk
 ·cases h;exact wh gz
 ·cases h;exact wh Hn
 ·cases h;exact wh gQ
 ·cases h;exact wh U5
 ·cases h;exact wh UH
 ·cases h;exact wh V6
 ·cases h;exact wh Vk
 ·cases h;exact wh UJ
 ·cases h;exact wh ub
 ·cases h;exact wh Y6
 ·cases h;exact wh V7
 ·cases h;exact wh UP
 ·cases h;exact wh UE
 ·cases h;exact wh V4
 ·cases h;exact wh UD
 ·cases h;exact wh Vy
 ·cases h;exact wh gC
 ·cases h;exact wh Vr
 ·cases h;exact wh XF
 ·cases h;exact wh UK
 ·cases h;exact wh Vm
 ·cases h;exact wh VX
 ·cases h;exact wh Ut
 ·cases h;exact wh Vo
 ·cases h;exact wh V5
 ·cases h;exact wh VO
 ·cases h;exact wh Uw
 ·cases h;exact wh V3
 ·cases h;exact wh Y9
 ·cases h;exact wh UO
 ·cases h;exact wh Uo
 ·cases h;exact wh Y7
 ·cases h;exact wh J5
 ·cases h;exact wh JA
 ·cases h;exact wh GS
 ·cases h;exact wh J9
 ·cases h;exact wh J3
 ·cases h;exact wh JD
 ·cases h;exact wh Jz
 ·cases h;exact wh J2
 ·cases h;exact wh Xf
 ·cases h;exact wh Xe
 ·cases h;exact wh Jd
 ·cases h;exact wh JM
 ·cases h;exact wh Xh
 ·cases h;exact wh Jj
 ·cases h;exact wh JX
 ·cases h;exact wh JL
 ·cases h;exact wh Ja
 ·cases h;exact wh JR
 ·cases h;exact wh Xg
 ·cases h;exact wh Jy
 ·cases h;exact wh Jh
 ·cases h;exact wh JE
 ·cases h;exact wh Jv
 ·cases h;exact wh JF
 ·cases h;exact wh QM
 ·cases h;exact wh JN
 ·cases h;exact wh Jr
 ·cases h;exact wh Xb
 ·cases h;exact wh JT
 ·cases h;exact wh J4
 ·cases h;exact wh Jb
 ·cases h;exact wh Jp
 ·cases h;exact wh JB
 ·cases h;exact wh Xd
 ·cases h;exact wh JC
 ·cases h;exact wh J7
 ·cases h;exact wh Jk
 ·cases h;exact wh J8
 ·cases h;exact wh JI
 ·cases h;exact wh Xc
 ·cases h;exact wh Jo
 ·cases h;exact wh Jc
 ·cases h;exact wh Jw
 ·cases h;exact wh GT
 ·cases h;exact wh Js
 ·cases h;exact wh JW
 ·cases h
theorem ui (t:Nat) (i:TI) (h:VY t=some i) (e:i.eqf=true):EqF Tryz.prog t i:=by
 unfold VY at h
 split at h
 ·cases h;cases e
 ·cases h;cases e
 ·cases h;cases e
 ·cases h;cases e
 ·cases h;cases e
 ·cases h;cases e
 ·cases h;cases e
 ·cases h;cases e
 ·cases h;cases e
 ·cases h;cases e
 ·cases h;cases e
 ·cases h;exact VM
 ·cases h;cases e
 ·cases h;exact Ve
 ·cases h;cases e
 ·cases h;cases e
 ·cases h;cases e
 ·cases h;cases e
 ·cases h;cases e
 ·cases h;cases e
 ·cases h;cases e
 ·cases h;cases e
 ·cases h;cases e
 ·cases h;cases e
 ·cases h;cases e
 ·cases h;cases e
 ·cases h;cases e
 ·cases h;cases e
 ·cases h;cases e
 ·cases h;cases e
 ·cases h;cases e
 ·cases h;cases e
 ·cases h;cases e
 ·cases h;cases e
 ·cases h;cases e
 ·cases h;cases e
 ·cases h;cases e
 ·cases h;cases e
 ·cases h;cases e
 ·cases h;cases e
 ·cases h;cases e
 ·cases h;cases e
 ·cases h;cases e
 ·cases h;cases e
 ·cases h;cases e
 ·cases h;cases e
 ·cases h;cases e
 ·cases h;cases e
 ·cases h;cases e
 ·cases h;cases e
 ·cases h;cases e
 ·cases h;cases e
 ·cases h;cases e
 ·cases h;cases e
 ·cases h;cases e
 ·cases h;cases e
 ·cases h;cases e
 ·cases h;cases e
 ·cases h;cases e
 ·cases h;cases e
 ·cases h;cases e
 ·cases h;cases e
 ·cases h;cases e
 ·cases h;cases e
 ·cases h;cases e
 ·cases h;cases e
 ·cases h;cases e
 ·cases h;cases e
 ·cases h;cases e
 ·cases h;cases e
 ·cases h;cases e
 ·cases h;cases e
 ·cases h;cases e
 ·cases h;cases e
 ·cases h;cases e
 ·cases h;cases e
 ·cases h;cases e
 ·cases h;cases e
 ·cases h;cases e
 ·cases h;cases e
 ·cases h
def hQ:Env Tryz.prog:=⟨VY,uv,ui⟩
def gq:TI:={ agg:=false,size:=1,bytes:=24,zero:=[.nils],elem:=45,esz:=1,slc:=true,ek:=some (.slice (.int .i32)),eb:=24,tag:=3 }
theorem gB:tokb Tryz.prog 48 gq=true:=by kernel_rfl
def VF:TI:={ agg:=false,size:=1,bytes:=24,zero:=[.nils],elem:=50,esz:=1,slc:=true,ek:=some (.slice (.int .i16)),eb:=24,tag:=3 }
theorem uK:tokb Tryz.prog 119 VF=true:=by kernel_rfl
def Vj:TI:={ agg:=false,size:=1,bytes:=24,zero:=[.nils],elem:=212,esz:=1,slc:=true,ek:=some (.slice (.int .i64)),eb:=24,tag:=3 }
theorem Gw:tokb Tryz.prog 298 Vj=true:=by kernel_rfl
def Ux:Nat->Option TI
  | 2=>some ti2
  | 3=>some ti3
  | 4=>some ti4
  | 5=>some ti5
  | 9=>some ti9
  | 21=>some uG
  | 23=>some ut
  | 25=>some G2
  | 29=>some ga
  | 31=>some Gi
  | 33=>some Gr
  | 34=>some Up
  | 36=>some up
  | 38=>some ud
  | 39=>some Gq
  | 41=>some uT
  | 44=>some GL
  | 45=>some GX
  | 48=>some gq
  | 49=>some Gh
  | 50=>some G8
  | 60=>some GB
  | 67=>some GD
  | 69=>some uC
  | 70=>some GA
  | 73=>some uz
  | 76=>some uq
  | 80=>some uJ
  | 88=>some GQ
  | 90=>some ul
  | 91=>some GG
  | 92=>some uH
  | 98=>some uS
  | 99=>some u5
  | 103=>some Yf
  | 107=>some Xs
  | 119=>some VF
  | 134=>some Yd
  | 137=>some XP
  | 140=>some XM
  | 142=>some Yq
  | 149=>some Yh
  | 151=>some X5
  | 152=>some Xm
  | 155=>some XD
  | 158=>some Yg
  | 165=>some Xx
  | 169=>some YA
  | 170=>some XH
  | 172=>some X7
  | 174=>some YD
  | 177=>some Yi
  | 179=>some XS
  | 186=>some X3
  | 188=>some Xv
  | 193=>some YB
  | 199=>some XK
  | 201=>some Ye
  | 212=>some Yk
  | 214=>some Xy
  | 217=>some Yl
  | 220=>some Ya
  | 225=>some Xo
  | 229=>some Yj
  | 230=>some Yo
  | 237=>some XI
  | 241=>some XC
  | 248=>some Yu
  | 249=>some YC
  | 263=>some Yv
  | 265=>some Ys
  | 266=>some XT
  | 268=>some XE
  | 279=>some XL
  | 282=>some X2
  | 293=>some XY
  | 297=>some Yx
  | 298=>some Vj
  | 300=>some XZ
  | 320=>some Yb
  | _=>none
theorem uP (t:Nat) (i:TI) (h:Ux t=some i):TOK Tryz.prog t i:=by
 unfold Ux at h
 split at h
 ·cases h;exact wh g8
 ·cases h;exact wh Hk
 ·cases h;exact wh gz
 ·cases h;exact wh Hn
 ·cases h;exact wh gQ
 ·cases h;exact wh U5
 ·cases h;exact wh UH
 ·cases h;exact wh V6
 ·cases h;exact wh Vk
 ·cases h;exact wh UJ
 ·cases h;exact wh ub
 ·cases h;exact wh Y6
 ·cases h;exact wh V7
 ·cases h;exact wh UP
 ·cases h;exact wh UE
 ·cases h;exact wh V4
 ·cases h;exact wh UD
 ·cases h;exact wh Vy
 ·cases h;exact wh gB
 ·cases h;exact wh Vr
 ·cases h;exact wh XF
 ·cases h;exact wh UK
 ·cases h;exact wh Vm
 ·cases h;exact wh VX
 ·cases h;exact wh Ut
 ·cases h;exact wh Vo
 ·cases h;exact wh V5
 ·cases h;exact wh VO
 ·cases h;exact wh Uw
 ·cases h;exact wh V3
 ·cases h;exact wh Y9
 ·cases h;exact wh UO
 ·cases h;exact wh Uo
 ·cases h;exact wh Y7
 ·cases h;exact wh J5
 ·cases h;exact wh JA
 ·cases h;exact wh uK
 ·cases h;exact wh J9
 ·cases h;exact wh J3
 ·cases h;exact wh JD
 ·cases h;exact wh Jz
 ·cases h;exact wh J2
 ·cases h;exact wh Xf
 ·cases h;exact wh Xe
 ·cases h;exact wh Jd
 ·cases h;exact wh JM
 ·cases h;exact wh Xh
 ·cases h;exact wh Jj
 ·cases h;exact wh JX
 ·cases h;exact wh JL
 ·cases h;exact wh Ja
 ·cases h;exact wh JR
 ·cases h;exact wh Xg
 ·cases h;exact wh Jy
 ·cases h;exact wh Jh
 ·cases h;exact wh JE
 ·cases h;exact wh Jv
 ·cases h;exact wh JF
 ·cases h;exact wh QM
 ·cases h;exact wh JN
 ·cases h;exact wh Jr
 ·cases h;exact wh Xb
 ·cases h;exact wh JT
 ·cases h;exact wh J4
 ·cases h;exact wh Jb
 ·cases h;exact wh Jp
 ·cases h;exact wh JB
 ·cases h;exact wh Xd
 ·cases h;exact wh JC
 ·cases h;exact wh J7
 ·cases h;exact wh Jk
 ·cases h;exact wh J8
 ·cases h;exact wh JI
 ·cases h;exact wh Xc
 ·cases h;exact wh Jo
 ·cases h;exact wh Jc
 ·cases h;exact wh Jw
 ·cases h;exact wh Gw
 ·cases h;exact wh Js
 ·cases h;exact wh JW
 ·cases h
theorem uL (t:Nat) (i:TI) (h:Ux t=some i) (e:i.eqf=true):EqF Tryz.prog t i:=by
 unfold Ux at h
 split at h
 ·cases h;cases e
 ·cases h;cases e
 ·cases h;cases e
 ·cases h;cases e
 ·cases h;cases e
 ·cases h;cases e
 ·cases h;cases e
 ·cases h;cases e
 ·cases h;cases e
 ·cases h;cases e
 ·cases h;cases e
 ·cases h;exact VM
 ·cases h;cases e
 ·cases h;exact Ve
 ·cases h;cases e
 ·cases h;cases e
 ·cases h;cases e
 ·cases h;cases e
 ·cases h;cases e
 ·cases h;cases e
 ·cases h;cases e
 ·cases h;cases e
 ·cases h;cases e
 ·cases h;cases e
 ·cases h;cases e
 ·cases h;cases e
 ·cases h;cases e
 ·cases h;cases e
 ·cases h;cases e
 ·cases h;cases e
 ·cases h;cases e
 ·cases h;cases e
 ·cases h;cases e
 ·cases h;cases e
 ·cases h;cases e
 ·cases h;cases e
 ·cases h;cases e
 ·cases h;cases e
 ·cases h;cases e
 ·cases h;cases e
 ·cases h;cases e
 ·cases h;cases e
 ·cases h;cases e
 ·cases h;cases e
 ·cases h;cases e
 ·cases h;cases e
 ·cases h;cases e
 ·cases h;cases e
 ·cases h;cases e
 ·cases h;cases e
 ·cases h;cases e
 ·cases h;cases e
 ·cases h;cases e
 ·cases h;cases e
 ·cases h;cases e
 ·cases h;cases e
 ·cases h;cases e
 ·cases h;cases e
 ·cases h;cases e
 ·cases h;cases e
 ·cases h;cases e
 ·cases h;cases e
 ·cases h;cases e
 ·cases h;cases e
 ·cases h;cases e
 ·cases h;cases e
 ·cases h;cases e
 ·cases h;cases e
 ·cases h;cases e
 ·cases h;cases e
 ·cases h;cases e
 ·cases h;cases e
 ·cases h;cases e
 ·cases h;cases e
 ·cases h;cases e
 ·cases h;cases e
 ·cases h;cases e
 ·cases h;cases e
 ·cases h;cases e
 ·cases h;cases e
 ·cases h
def HY:Env Tryz.prog:=⟨Ux,uP,uL⟩
theorem tv:True:=trivial
def env:Env Tryz.prog:=⟨tab,gU,Hj⟩
section
variable {Γ:Gd} {N:Nat} {Q:Exit->Act->World->Prop} {A A':List (Nat×MV)} {L L':List (Nat×Option MObj)}
theorem zr {y:Code} {id:Nat} {l:List Oper} (h:TL Tryz.prog Γ N l.toArray (Exit.then (fun a w=>y.wp Tryz.prog Q a w) Q) l A L):TC Tryz.prog Γ N (.seq (.region id l.toArray false) y) Q A L:=wa (wo h)
theorem zg {Q':Exit->Act->World->Prop} {y:Code} {id:Nat} {l:List Oper} (h:TL Tryz.prog Γ N l.toArray (Exit.then (fun a w=>y.wp Tryz.prog Q a w) Q) l A L):TE Γ N (Exit.then (fun a w=>(Code.seq (.region id l.toArray false) y).wp Tryz.prog Q a w) Q' .normal) A L:=w9 (zr h)
theorem ze {Q':Exit->Act->World->Prop} {ops:Array Oper} {c:Code} (h:TC Tryz.prog Γ N c Q A L):TL Tryz.prog Γ N ops (Exit.then (fun a w=>c.wp Tryz.prog Q a w) Q') [] A L:=wu (w9 h)
theorem zn {Q':Exit->Act->World->Prop} {ops:Array Oper} {y:Code} {id:Nat} {l:List Oper} (h:TL Tryz.prog Γ N l.toArray (Exit.then (fun a w=>y.wp Tryz.prog Q a w) Q) l A L):TL Tryz.prog Γ N ops (Exit.then (fun a w=>(Code.seq (.region id l.toArray false) y).wp Tryz.prog Q a w) Q') [] A L:=wu (zg h)
theorem zm {f:Act->World->Prop} {ops:Array Oper} (h:TE Γ N f A L):TL Tryz.prog Γ N ops (Exit.then f Q) [] A L:=wu (tsn h)
theorem zt {Q':Exit->Act->World->Prop} {id:Nat} {l:List Oper} (h:TL Tryz.prog Γ N l.toArray Q l A L):TE Γ N (Exit.then (fun a w=>(Code.region id l.toArray false).wp Tryz.prog Q a w) Q' .normal) A L:=w9 (wo h)
theorem zu {Q':Exit->Act->World->Prop} (h:TE Γ N (Q .ret) A L):TE Γ N (Exit.then (fun a w=>Code.ret.wp Tryz.prog Q a w) Q' .normal) A L:=w9 (we h)
theorem zk {Q':Exit->Act->World->Prop} {c:Code} (h:TC Tryz.prog Γ N c Q A L):TC Tryz.prog Γ N .skip (Exit.then (fun a w=>c.wp Tryz.prog Q a w) Q') A L:=wx (w9 h)
end
def fl:List Nat:=[3,6,7,8,9,10,11,12,13,15,16,18,19,20,21,22,23,24,25,26,27,28,29,30,31,32,33,34,35,36,37,38,39,40,41,42,43,44,45,46,47,48,49,50,51,52,53,54,55,56,57,58,59,60,62,63,64,65,66,69,70,71,72,73,74,75,76,77,78,79,80,81,82,83,84,85,86,87,88,89,90,91,92,93,94,95,96,97,98,99,100,101,102,103,104,105,106,107,108,109,110,111,112,113,114,115,116,117,118,119,120,121,122,123,124,125,126,127,128,129,130,131,132,133,134,135,136,137,138,139,140,141,142,143,144,145,146,147,148,149,150,151,152,153,154,155,156,157,158,159,160,161,162,163,164,165,166,167,168,169,170,171,172,173,174,175,176,177,178,179,180,181,182,183,184,185,187,188,189,191]
theorem H3:fl.all (fun f=>fnb Tryz.prog f)=true:=by kernel_rfl
theorem fb {f:FuncId} (h:fl.contains f=true):fnb Tryz.prog f=true:=List.all_eq_true.1 H3 f (List.contains_iff_mem.1 h)
section
variable {Γ:Gd} {N:Nat} {Q:Exit->Act->World->Prop} {A A':List (Nat×MV)} {L L':List (Nat×Option MObj)} {γ:Type} {R:Act->World->Prop}
theorem cC {c:Operand} {x y:Code} {b:Bool} {u v:Option γ} {z:γ} (h:(bif b then u else v)=some z) (ht:u=some z->TC Tryz.prog Γ N x Q A L) (hf:v=some z->TC Tryz.prog Γ N y Q A L) (hc:opd A c=some (.bool b):=by exact rfl):TC Tryz.prog Γ N (.cond c x y) Q A L:=Q1 hc (fun e=>ht (WR h e)) (fun e=>hf (WO h e))
theorem cT {c:Operand} {x y:Code} (h:TC Tryz.prog Γ N x Q A L) (hc:opd A c=some (.bool true):=by exact rfl):TC Tryz.prog Γ N (.cond c x y) Q A L:=Q1 hc (fun _=>h) (fun e=>(tff e).elim)
theorem cF {c:Operand} {x y:Code} (h:TC Tryz.prog Γ N y Q A L) (hc:opd A c=some (.bool false):=by exact rfl):TC Tryz.prog Γ N (.cond c x y) Q A L:=Q1 hc (fun e=>(ftf e).elim) (fun _=>h)
theorem tce {c:Code} (h:TE Γ N (fun a w=>c.wp Tryz.prog Q a w) A L):TC Tryz.prog Γ N c Q A L:=h
theorem ect {c:Code} (h:TC Tryz.prog Γ N c Q A L):TE Γ N (fun a w=>c.wp Tryz.prog Q a w) A L:=h
theorem rE (A':List (Nat×MV)) (L':List (Nat×Option MObj)) (l:List (Nat×Nat)) (h:TE Γ N R A' L') (hA:kB (sg l) A' A:=by (repeat' (first|exact trivial|refine And.intro rfl ?_))) (hL:kD (sg l) L' L:=by (repeat' (first|exact trivial|refine And.intro rfl ?_))) (hb:sgB l (wF L')=true:=by exact rfl):TE Γ N R A L:=Ym l hA hL hb h
theorem rC {c:Code} (A':List (Nat×MV)) (L':List (Nat×Option MObj)) (l:List (Nat×Nat)) (h:TC Tryz.prog Γ N c Q A' L') (hA:kB (sg l) A' A:=by (repeat' (first|exact trivial|refine And.intro rfl ?_))) (hL:kD (sg l) L' L:=by (repeat' (first|exact trivial|refine And.intro rfl ?_))) (hb:sgB l (wF L')=true:=by exact rfl):TC Tryz.prog Γ N c Q A L:=GW l hA hL hb h
theorem zR {fn:Func} {res:MV} {Lc:List (Nat×Option MObj)} {C:Prop} (hr:U9 env.tab A L fn.results.toList=some (res,C)) (hC:C:=by (repeat' (first|exact trivial|refine And.intro ?_ ?_|decide|assumption|exact rfl|exact of_decide_eq_true rfl))) (hL:vc Lc L:=by (repeat' (first|exact trivial|refine And.intro (.inr rfl) ?_|refine And.intro (.inl rfl) ?_))):TE Γ N (bodyPost Tryz.prog fn (WM Γ res Lc) .ret) A L:=JG env hr hC hL
theorem zN {fn:Func} {res:MV} {Lc:List (Nat×Option MObj)} {C:Prop} (hr:U9 env.tab A L fn.results.toList=some (res,C)) (hC:C:=by (repeat' (first|exact trivial|refine And.intro ?_ ?_|decide|assumption|exact rfl|exact of_decide_eq_true rfl))) (hL:vc Lc L:=by (repeat' (first|exact trivial|refine And.intro (.inr rfl) ?_|refine And.intro (.inl rfl) ?_))):TE Γ N (bodyPost Tryz.prog fn (WM Γ res Lc) .normal) A L:=gy env hr hC hL
theorem cB {ops:Array Oper} {o:Oper} {l:List Oper} {f:FuncId} {xs ys:List MV} {Lc Lc':List (Nat×Option MObj)} {res:MV} {C:Prop} (π:List (Nat×Nat)) (hF:Fn Tryz.prog f xs Lc res Lc') (h:j1 A o.op=some (f,ys,C)) (hys:ys=MV.renL (sg π) xs) (k:TL Tryz.prog Γ N ops Q l (yF o.dst (res.ren (sg π)) A) (jf (sg π) Lc'++L)) (hf:fl.contains f=true:=by exact rfl) (hC:C:=by (repeat' (first|exact trivial|refine And.intro ?_ ?_|decide|assumption|exact rfl|exact of_decide_eq_true rfl))) (hs:vc (jf (sg π) Lc) L:=by (repeat' (first|exact trivial|refine And.intro (.inr rfl) ?_|refine And.intro (.inl rfl) ?_))) (hb:Vz (sg π) N o.dst o.guard.isNone A L Lc Lc' res=true:=by exact rfl):TL Tryz.prog Γ N ops Q (o::l) A L:=V0 π hF (fb hf) h hC hys hs hb k
end
section
variable {Γ:Gd} {N:Nat} {Q:Exit->Act->World->Prop} {A:List (Nat×MV)} {L:List (Nat×Option MObj)} {r:Rg} {G:Prop} {ex:Nat->List Nat} {l:List De} {n:Nat}
theorem jC {o:Oper} {f:FuncId} {xs ys:List MV} {Lc Lc':List (Nat×Option MObj)} {res:MV} {C:Prop} (n':Nat) (π:List (Nat×Nat)) (hF:Fn Tryz.prog f xs Lc res Lc') (ho:r.ops[n]? = some o) (h:j1 (jB r (fnR n l) A n) o.op=some (f,ys,C)) (k:AJR Tryz.prog Γ N Q r ex A L G n' ((yF o.dst (res.ren (sg π)) [],jf (sg π) Lc')::l)) (hys:ys=MV.renL (sg π) xs:=by exact rfl) (hf:fl.contains f=true:=by exact rfl) (hC:C:=by (repeat' (first|exact trivial|refine And.intro ?_ ?_|decide|assumption|exact rfl|exact of_decide_eq_true rfl))) (hsub:vc (jf (sg π) Lc) (yn r ex (fnR n l) L n):=by (repeat' (first|exact trivial|refine And.intro (.inr rfl) ?_|refine And.intro (.inl rfl) ?_))) (hb:vd (sg π) N o.dst o.guard.isNone (r.wk n) (r.nk n) Lc Lc' res=true:=by exact rfl) (hn':n'=n+1:=by exact rfl) (hn:Nat.ble (n+1) r.ops.size=true:=by exact rfl):AJR Tryz.prog Γ N Q r ex A L G n l:=UN n' hn' (Nat.le_of_ble_eq_true hn) π ho hF (fb hf) h hC hys hsub hb k
theorem jK {T:TypeId} {x:Operand} {i:TI} {d key off:Nat} {cs0:List MV} {y:MV} {C:Prop} {o:Oper} (n':Nat) (ho:r.ops[n]? = some o) (hop:o.op=.load T x) (hd:o.dst=some d) (ht:env.tab T=some i) (hx:opg (jB r (fnR n l) A n) none x=some (.p key off,C)) (hL0:ww L key=some (.cells cs0)) (hy:cs0[off]? = some y) (k:AJR Tryz.prog Γ N Q r ex A L G n' (([(d,y)],[])::l)) (hg:o.guard=none:=by exact rfl) (hdN:d<N:=by decide) (hs:i.size=1:=by exact rfl) (ha:i.agg=false:=by exact rfl) (hC:C:=by (repeat' (first|exact trivial|refine And.intro ?_ ?_|decide|assumption|exact rfl|exact of_decide_eq_true rfl))) (hkp:r.kp.contains (n,key,off)=true:=by exact rfl) (hn':n'=n+1:=by exact rfl) (hn:Nat.ble (n+1) r.ops.size=true:=by exact rfl):AJR Tryz.prog Γ N Q r ex A L G n l:=uV env n' hn' (Nat.le_of_ble_eq_true hn) ho hop hg hd hdN ht hs ha hx hC hL0 hy hkp k
theorem zD {ops:Array Oper} (a:List Nat) (b c d:List (Nat×List Nat)) {id:Nat} (h:AJR Tryz.prog Γ N Q ⟨ops,fun i=>bts (a.getD i 0) i,fun i=>lkI i b,fun i=>lkI i c,fun _=>[],[]⟩ (fun i=>lkM i d) A L (TC Tryz.prog Γ N (.region id ops true) Q A L) 0 []) (hr:(⟨ops,fun i=>bts (a.getD i 0) i,fun i=>lkI i b,fun i=>lkI i c,fun _=>[],[]⟩:Rg).ok=true:=by kernel_rfl) (hx:exB ⟨ops,fun i=>bts (a.getD i 0) i,fun i=>lkI i b,fun i=>lkI i c,fun _=>[],[]⟩ (fun i=>lkM i d) A=true:=by kernel_rfl):TC Tryz.prog Γ N (.region id ops true) Q A L:=KP _ _ hr hx h
theorem zDa {ops:Array Oper} (a:List Nat) (b c d e:List (Nat×List Nat)) (kp:List (Nat×Nat×Nat)) {id:Nat} (h:AJR Tryz.prog Γ N Q ⟨ops,fun i=>bts (a.getD i 0) i,fun i=>lkI i b,fun i=>lkI i c,fun i=>lkI i e,kp⟩ (fun i=>lkM i d) A L (TC Tryz.prog Γ N (.region id ops true) Q A L) 0 []) (hr:(⟨ops,fun i=>bts (a.getD i 0) i,fun i=>lkI i b,fun i=>lkI i c,fun i=>lkI i e,kp⟩:Rg).ok=true:=by kernel_rfl) (hx:exB ⟨ops,fun i=>bts (a.getD i 0) i,fun i=>lkI i b,fun i=>lkI i c,fun i=>lkI i e,kp⟩ (fun i=>lkM i d) A=true:=by kernel_rfl):TC Tryz.prog Γ N (.region id ops true) Q A L:=KP _ _ hr hx h
theorem jN {ex:Nat->List Nat} {id n:Nat} {l:List De} (fin:TE Γ N (Q .normal) (Kq n (fnR n l) A) (KW n (fnR n l) L)) (hl:r.ops.size=n:=by exact rfl) (hf:frR r n l A L=true:=by exact rfl) (hk:kp1 (fnR n l) L (kpL r n (fnR n l)):=by repeat' (first|exact trivial|refine And.intro ?_ ?_|exact rfl)):AJR Tryz.prog Γ N Q r ex A L (TC Tryz.prog Γ N (.region id r.ops true) Q A L) n l:=uN rfl hl hf hk fin
end
theorem fO {f:FuncId} {fn:Func} {c:Code} {args:List MV} {Lc Lc':List (Nat×Option MObj)} {res:MV} (hf:Tryz.prog.funcs[f]? = some fn) (hb:fn.body=some c) (h:∀Γ:Gd,TC Tryz.prog Γ fn.ntmps c (bodyPost Tryz.prog fn (WM Γ res Lc')) (ZO 0 args) Lc) (hn:Nat.ble args.length fn.ntmps=true:=by exact rfl):Fn Tryz.prog f args Lc res Lc':=WS hf hb (Nat.le_of_ble_eq_true hn) h

section
variable {Γ:Gd} {N:Nat} {Q:Exit->Act->World->Prop} {A A':List (Nat×MV)} {L L':List (Nat×Option MObj)} {γ:Type}
theorem zE {ops:Array Oper} (n:Nat) {l l':List Oper} {C:Prop} (h:jZ env.tab N ops n l A L=some (l',A',L',C)) (k:TL Tryz.prog Γ N ops Q l' A' L') (hC:C:=by (repeat' (first|exact trivial|refine And.intro ?_ ?_|decide|assumption|exact rfl|exact of_decide_eq_true rfl))):TL Tryz.prog Γ N ops Q l A L:=yd env n h hC k
theorem zG {ops:Array Oper} {G:Prop} {_:Decidable G} {X:Option γ} {z:γ} (h0:gd G X=some z) (n:Nat) {l l':List Oper} {C:Prop} (h:jZ env.tab N ops n l A L=some (l',A',L',C)) (k:X=some z->TL Tryz.prog Γ N ops Q l' A' L') (hC:G->C:=by intro g;(repeat' (first|exact trivial|refine And.intro ?_ ?_|with_reducible (first|exact g|exact g.1|exact g.2|exact g.2.1|exact g.2.2|exact g.2.2.1|exact g.2.2.2|exact g.2.2.2.1|exact g.2.2.2.2|exact g.2.2.2.2.1|exact g.2.2.2.2.2|exact g.2.2.2.2.2.1|exact g.2.2.2.2.2.2|exact g.2.2.2.2.2.2.1|exact g.2.2.2.2.2.2.2)|decide|exact rfl|exact g.2.2.2.2.2.2.2|exact g.2.2.2.2.2.2.1|exact g.2.2.2.2.2.2|exact g.2.2.2.2.2.1|exact g.2.2.2.2.2|exact g.2.2.2.2.1|exact g.2.2.2.2|exact g.2.2.2.1|exact g.2.2.2|exact g.2.2.1|exact g.2.2|exact g.2.1|exact g.2|exact g.1|exact g|exact of_decide_eq_true rfl))):TL Tryz.prog Γ N ops Q l A L:=yd env n h (hC (yG h0).1) (k (yG h0).2)
end
section
variable {Γ:Gd} {N:Nat} {Q Q':Exit->Act->World->Prop} {A A':List (Nat×MV)} {L L':List (Nat×Option MObj)} {ops:Array Oper} {l l2:List Oper} {C:Prop} {y c:Code} {id id2:Nat} {f:Act->World->Prop}
theorem zx (n:Nat) (h:jZ env.tab N ops n l A L=some ([],A',L',C)) (k:TC Tryz.prog Γ N c Q A' L') (hC:C:=by (repeat' (first|exact trivial|refine And.intro ?_ ?_|decide|assumption|exact rfl|exact of_decide_eq_true rfl))):TL Tryz.prog Γ N ops (Exit.then (fun a w=>c.wp Tryz.prog Q a w) Q') l A L:=yd env n h hC (wu (w9 k))
theorem zy (n:Nat) (h:jZ env.tab N ops n l A L=some ([],A',L',C)) (k:TL Tryz.prog Γ N l2.toArray (Exit.then (fun a w=>y.wp Tryz.prog Q a w) Q) l2 A' L') (hC:C:=by (repeat' (first|exact trivial|refine And.intro ?_ ?_|decide|assumption|exact rfl|exact of_decide_eq_true rfl))):TL Tryz.prog Γ N ops (Exit.then (fun a w=>(Code.seq (.region id2 l2.toArray false) y).wp Tryz.prog Q a w) Q') l A L:=zx n h (zr k) hC
theorem zz (n:Nat) (h:jZ env.tab N ops n l A L=some ([],A',L',C)) (k:TE Γ N f A' L') (hC:C:=by (repeat' (first|exact trivial|refine And.intro ?_ ?_|decide|assumption|exact rfl|exact of_decide_eq_true rfl))):TL Tryz.prog Γ N ops (Exit.then f Q) l A L:=yd env n h hC (wu (tsn k))
theorem zA (n:Nat) (h:jZ env.tab N l.toArray n l A L=some ([],A',L',C)) (k:TC Tryz.prog Γ N c Q A' L') (hC:C:=by (repeat' (first|exact trivial|refine And.intro ?_ ?_|decide|assumption|exact rfl|exact of_decide_eq_true rfl))):TC Tryz.prog Γ N (.seq (.region id l.toArray false) c) Q A L:=zr (zx n h k hC)
theorem zB (n:Nat) (h:jZ env.tab N l.toArray n l A L=some ([],A',L',C)) (k:TC Tryz.prog Γ N c Q A' L') (hC:C:=by (repeat' (first|exact trivial|refine And.intro ?_ ?_|decide|assumption|exact rfl|exact of_decide_eq_true rfl))):TE Γ N (Exit.then (fun a w=>(Code.seq (.region id l.toArray false) c).wp Tryz.prog Q a w) Q' .normal) A L:=zg (zx n h k hC)
theorem zC (n:Nat) (h:jZ env.tab N l.toArray n l A L=some ([],A',L',C)) (k:TL Tryz.prog Γ N l2.toArray (Exit.then (fun a w=>y.wp Tryz.prog Q a w) Q) l2 A' L') (hC:C:=by (repeat' (first|exact trivial|refine And.intro ?_ ?_|decide|assumption|exact rfl|exact of_decide_eq_true rfl))):TC Tryz.prog Γ N (.seq (.region id l.toArray false) (.seq (.region id2 l2.toArray false) y)) Q A L:=zr (zy n h k hC)
theorem zF (n:Nat) (h:jZ env.tab N l.toArray n l A L=some ([],A',L',C)) (k:TL Tryz.prog Γ N l2.toArray (Exit.then (fun a w=>y.wp Tryz.prog Q a w) Q) l2 A' L') (hC:C:=by (repeat' (first|exact trivial|refine And.intro ?_ ?_|decide|assumption|exact rfl|exact of_decide_eq_true rfl))):TE Γ N (Exit.then (fun a w=>(Code.seq (.region id l.toArray false) (.seq (.region id2 l2.toArray false) y)).wp Tryz.prog Q a w) Q' .normal) A L:=zg (zy n h k hC)
end
theorem zS {Γ:Gd} {N:Nat} {Q:Exit->Act->World->Prop} {A A':List (Nat×MV)} {L L':List (Nat×Option MObj)} {ops:Array Oper} (cs:List Nat) {l l':List Oper} {C:Prop} (h:WW env.tab N ops (xpT cs) l A L=some (l',A',L',C)) (k:TL Tryz.prog Γ N ops Q l' A' L') (hC:C:=by (repeat' (first|exact trivial|refine And.intro ?_ ?_|exact id|decide|assumption|exact rfl|exact of_decide_eq_true rfl|intro _))):TL Tryz.prog Γ N ops Q l A L:=Wz env (xpT cs) h hC k
section
variable {Γ:Gd} {N:Nat} {Q:Exit->Act->World->Prop} {A:List (Nat×MV)} {L:List (Nat×Option MObj)} {r:Rg} {G:Prop} {ex:Nat->List Nat} {l:List De} {n:Nat} {γ:Type}
theorem jR {l':List De} {C:Prop} (n':Nat) (cs:List Nat) (h:YT env.tab N r ex A L (xpJ cs) n l=some (n',l',C)) (k:AJR Tryz.prog Γ N Q r ex A L G n' l') (hC:C:=by (repeat' (first|exact trivial|refine And.intro ?_ ?_|exact id|decide|assumption|exact rfl|exact of_decide_eq_true rfl|intro _))):AJR Tryz.prog Γ N Q r ex A L G n l:=QA env (xpJ cs) h hC k
theorem jP {l':List De} {C G':Prop} {_:Decidable G'} {X:Option γ} {z:γ} (h0:gd G' X=some z) (n':Nat) (cs:List Nat) (h:YT env.tab N r ex A L (xpJ cs) n l=some (n',l',C)) (k:X=some z->AJR Tryz.prog Γ N Q r ex A L G n' l') (hC:G'->C:=by intro g;(repeat' (first|exact trivial|refine And.intro ?_ ?_|with_reducible (first|exact g|exact g.1|exact g.2|exact g.2.1|exact g.2.2|exact g.2.2.1|exact g.2.2.2|exact g.2.2.2.1|exact g.2.2.2.2|exact g.2.2.2.2.1|exact g.2.2.2.2.2|exact g.2.2.2.2.2.1|exact g.2.2.2.2.2.2|exact g.2.2.2.2.2.2.1|exact g.2.2.2.2.2.2.2)|decide|exact rfl|exact g.2.2.2.2.2.2.2|exact g.2.2.2.2.2.2.1|exact g.2.2.2.2.2.2|exact g.2.2.2.2.2.1|exact g.2.2.2.2.2|exact g.2.2.2.2.1|exact g.2.2.2.2|exact g.2.2.2.1|exact g.2.2.2|exact g.2.2.1|exact g.2.2|exact g.2.1|exact g.2|exact g.1|exact g|exact of_decide_eq_true rfl))):AJR Tryz.prog Γ N Q r ex A L G n l:=QA env (xpJ cs) h (hC (yG h0).1) (k (yG h0).2)
end

section
variable {Γ:Gd} {N:Nat} {Q:Exit->Act->World->Prop} {A A':List (Nat×MV)} {L L':List (Nat×Option MObj)} {γ:Type}
theorem zEH {ops:Array Oper} (n:Nat) {l l':List Oper} {C:Prop} (h:jZ hQ.tab N ops n l A L=some (l',A',L',C)) (k:TL Tryz.prog Γ N ops Q l' A' L') (hC:C:=by (repeat' (first|exact trivial|refine And.intro ?_ ?_|decide|assumption|exact rfl|exact of_decide_eq_true rfl))):TL Tryz.prog Γ N ops Q l A L:=yd hQ n h hC k
end

section
variable {Γ:Gd} {N:Nat} {Q:Exit->Act->World->Prop} {A:List (Nat×MV)} {L:List (Nat×Option MObj)} {r:Rg} {G:Prop} {ex:Nat->List Nat} {l:List De} {n:Nat} {γ:Type}
end

section
variable {Γ:Gd} {N:Nat} {Q:Exit->Act->World->Prop} {A A':List (Nat×MV)} {L L':List (Nat×Option MObj)} {γ:Type}
theorem zGD {ops:Array Oper} {G:Prop} {_:Decidable G} {X:Option γ} {z:γ} (h0:gd G X=some z) (n:Nat) {l l':List Oper} {C:Prop} (h:jZ HY.tab N ops n l A L=some (l',A',L',C)) (k:X=some z->TL Tryz.prog Γ N ops Q l' A' L') (hC:G->C:=by intro g;(repeat' (first|exact trivial|refine And.intro ?_ ?_|with_reducible (first|exact g|exact g.1|exact g.2|exact g.2.1|exact g.2.2|exact g.2.2.1|exact g.2.2.2|exact g.2.2.2.1|exact g.2.2.2.2|exact g.2.2.2.2.1|exact g.2.2.2.2.2|exact g.2.2.2.2.2.1|exact g.2.2.2.2.2.2|exact g.2.2.2.2.2.2.1|exact g.2.2.2.2.2.2.2)|decide|exact rfl|exact g.2.2.2.2.2.2.2|exact g.2.2.2.2.2.2.1|exact g.2.2.2.2.2.2|exact g.2.2.2.2.2.1|exact g.2.2.2.2.2|exact g.2.2.2.2.1|exact g.2.2.2.2|exact g.2.2.2.1|exact g.2.2.2|exact g.2.2.1|exact g.2.2|exact g.2.1|exact g.2|exact g.1|exact g|exact of_decide_eq_true rfl))):TL Tryz.prog Γ N ops Q l A L:=yd HY n h (hC (yG h0).1) (k (yG h0).2)
end

section
variable {Γ:Gd} {N:Nat} {Q:Exit->Act->World->Prop} {A:List (Nat×MV)} {L:List (Nat×Option MObj)} {r:Rg} {G:Prop} {ex:Nat->List Nat} {l:List De} {n:Nat} {γ:Type}
end

section
variable {Γ:Gd} {N:Nat} {Q:Exit->Act->World->Prop} {A A':List (Nat×MV)} {L L':List (Nat×Option MObj)}
def SQ1 (Γ:Gd) (N:Nat) {α0:Type} (z:α0) (SA:α0->List (Nat×MV)) (SL:α0->List (Nat×Option MObj)):Act->World->Prop:=SP Γ N (fun s:α0=>z=s) (fun z=>SA z) (fun z=>SL z)

theorem SR1 {α0:Type} {x0:α0} {z:α0} {SA:α0->List (Nat×MV)} {SL:α0->List (Nat×Option MObj)} (h:some x0=some z) (l:List (Nat×Nat)) (hA:kB (sg l) (SA x0) A:=by (repeat' (first|exact trivial|refine And.intro rfl ?_))) (hL:kD (sg l) (SL x0) L:=by (repeat' (first|exact trivial|refine And.intro rfl ?_))) (hb:sgB l (wF (SL x0))=true:=by exact rfl):TE Γ N (SQ1 Γ N z SA SL) A L:=z0 l z rfl (by cases h;exact hA) (by cases h;exact hL) (by cases h;exact hb)

theorem CT1 {c:Code} {δ:Type} {α0:Type} {X:Option (α0)} {k:α0->Option δ} {r:δ} (h:X.bind k=some r) (SA:α0->List (Nat×MV)) (SL:α0->List (Nat×Option MObj)) (h1:∀z,X=some z->TC Tryz.prog Γ N c (Exit.then (SQ1 Γ N z SA SL) Q) A L) (h2:∀x0,k x0=some r->TE Γ N (Q .normal) (SA x0) (SL x0)):TC Tryz.prog Γ N c Q A L:=by
 obtain ⟨z,hx,hk⟩:=bnd h
 exact qr (fun s=>z=s) _ _ (h1 z hx) (fun s e=>by subst e;exact h2 _ hk)

def SQ2 (Γ:Gd) (N:Nat) {α0 α1:Type} (z:α0×α1) (SA:α0->α1->List (Nat×MV)) (SL:α0->α1->List (Nat×Option MObj)):Act->World->Prop:=SP Γ N (fun s:α0×α1=>z=s) (fun z=>SA z.1 z.2) (fun z=>SL z.1 z.2)

theorem SR2 {α0 α1:Type} {x0:α0} {x1:α1} {z:α0×α1} {SA:α0->α1->List (Nat×MV)} {SL:α0->α1->List (Nat×Option MObj)} (h:some (x0,x1)=some z) (l:List (Nat×Nat)) (hA:kB (sg l) (SA x0 x1) A:=by (repeat' (first|exact trivial|refine And.intro rfl ?_))) (hL:kD (sg l) (SL x0 x1) L:=by (repeat' (first|exact trivial|refine And.intro rfl ?_))) (hb:sgB l (wF (SL x0 x1))=true:=by exact rfl):TE Γ N (SQ2 Γ N z SA SL) A L:=z0 l z rfl (by cases h;exact hA) (by cases h;exact hL) (by cases h;exact hb)

theorem CT2 {c:Code} {δ:Type} {α0 α1:Type} {X:Option (α0×α1)} {k:(α0×α1)->Option δ} {r:δ} (h:X.bind k=some r) (SA:α0->α1->List (Nat×MV)) (SL:α0->α1->List (Nat×Option MObj)) (h1:∀z,X=some z->TC Tryz.prog Γ N c (Exit.then (SQ2 Γ N z SA SL) Q) A L) (h2:∀x0 x1,k (x0,x1)=some r->TE Γ N (Q .normal) (SA x0 x1) (SL x0 x1)):TC Tryz.prog Γ N c Q A L:=by
 obtain ⟨z,hx,hk⟩:=bnd h
 exact qr (fun s=>z=s) _ _ (h1 z hx) (fun s e=>by subst e;exact h2 _ _ hk)

def SQ3 (Γ:Gd) (N:Nat) {α0 α1 α2:Type} (z:α0×α1×α2) (SA:α0->α1->α2->List (Nat×MV)) (SL:α0->α1->α2->List (Nat×Option MObj)):Act->World->Prop:=SP Γ N (fun s:α0×α1×α2=>z=s) (fun z=>SA z.1 z.2.1 z.2.2) (fun z=>SL z.1 z.2.1 z.2.2)

theorem SR3 {α0 α1 α2:Type} {x0:α0} {x1:α1} {x2:α2} {z:α0×α1×α2} {SA:α0->α1->α2->List (Nat×MV)} {SL:α0->α1->α2->List (Nat×Option MObj)} (h:some (x0,x1,x2)=some z) (l:List (Nat×Nat)) (hA:kB (sg l) (SA x0 x1 x2) A:=by (repeat' (first|exact trivial|refine And.intro rfl ?_))) (hL:kD (sg l) (SL x0 x1 x2) L:=by (repeat' (first|exact trivial|refine And.intro rfl ?_))) (hb:sgB l (wF (SL x0 x1 x2))=true:=by exact rfl):TE Γ N (SQ3 Γ N z SA SL) A L:=z0 l z rfl (by cases h;exact hA) (by cases h;exact hL) (by cases h;exact hb)

theorem CT3 {c:Code} {δ:Type} {α0 α1 α2:Type} {X:Option (α0×α1×α2)} {k:(α0×α1×α2)->Option δ} {r:δ} (h:X.bind k=some r) (SA:α0->α1->α2->List (Nat×MV)) (SL:α0->α1->α2->List (Nat×Option MObj)) (h1:∀z,X=some z->TC Tryz.prog Γ N c (Exit.then (SQ3 Γ N z SA SL) Q) A L) (h2:∀x0 x1 x2,k (x0,x1,x2)=some r->TE Γ N (Q .normal) (SA x0 x1 x2) (SL x0 x1 x2)):TC Tryz.prog Γ N c Q A L:=by
 obtain ⟨z,hx,hk⟩:=bnd h
 exact qr (fun s=>z=s) _ _ (h1 z hx) (fun s e=>by subst e;exact h2 _ _ _ hk)

def SQ4 (Γ:Gd) (N:Nat) {α0 α1 α2 α3:Type} (z:α0×α1×α2×α3) (SA:α0->α1->α2->α3->List (Nat×MV)) (SL:α0->α1->α2->α3->List (Nat×Option MObj)):Act->World->Prop:=SP Γ N (fun s:α0×α1×α2×α3=>z=s) (fun z=>SA z.1 z.2.1 z.2.2.1 z.2.2.2) (fun z=>SL z.1 z.2.1 z.2.2.1 z.2.2.2)

theorem SR4 {α0 α1 α2 α3:Type} {x0:α0} {x1:α1} {x2:α2} {x3:α3} {z:α0×α1×α2×α3} {SA:α0->α1->α2->α3->List (Nat×MV)} {SL:α0->α1->α2->α3->List (Nat×Option MObj)} (h:some (x0,x1,x2,x3)=some z) (l:List (Nat×Nat)) (hA:kB (sg l) (SA x0 x1 x2 x3) A:=by (repeat' (first|exact trivial|refine And.intro rfl ?_))) (hL:kD (sg l) (SL x0 x1 x2 x3) L:=by (repeat' (first|exact trivial|refine And.intro rfl ?_))) (hb:sgB l (wF (SL x0 x1 x2 x3))=true:=by exact rfl):TE Γ N (SQ4 Γ N z SA SL) A L:=z0 l z rfl (by cases h;exact hA) (by cases h;exact hL) (by cases h;exact hb)

theorem CT4 {c:Code} {δ:Type} {α0 α1 α2 α3:Type} {X:Option (α0×α1×α2×α3)} {k:(α0×α1×α2×α3)->Option δ} {r:δ} (h:X.bind k=some r) (SA:α0->α1->α2->α3->List (Nat×MV)) (SL:α0->α1->α2->α3->List (Nat×Option MObj)) (h1:∀z,X=some z->TC Tryz.prog Γ N c (Exit.then (SQ4 Γ N z SA SL) Q) A L) (h2:∀x0 x1 x2 x3,k (x0,x1,x2,x3)=some r->TE Γ N (Q .normal) (SA x0 x1 x2 x3) (SL x0 x1 x2 x3)):TC Tryz.prog Γ N c Q A L:=by
 obtain ⟨z,hx,hk⟩:=bnd h
 exact qr (fun s=>z=s) _ _ (h1 z hx) (fun s e=>by subst e;exact h2 _ _ _ _ hk)

def SQ5 (Γ:Gd) (N:Nat) {α0 α1 α2 α3 α4:Type} (z:α0×α1×α2×α3×α4) (SA:α0->α1->α2->α3->α4->List (Nat×MV)) (SL:α0->α1->α2->α3->α4->List (Nat×Option MObj)):Act->World->Prop:=SP Γ N (fun s:α0×α1×α2×α3×α4=>z=s) (fun z=>SA z.1 z.2.1 z.2.2.1 z.2.2.2.1 z.2.2.2.2) (fun z=>SL z.1 z.2.1 z.2.2.1 z.2.2.2.1 z.2.2.2.2)

theorem SR5 {α0 α1 α2 α3 α4:Type} {x0:α0} {x1:α1} {x2:α2} {x3:α3} {x4:α4} {z:α0×α1×α2×α3×α4} {SA:α0->α1->α2->α3->α4->List (Nat×MV)} {SL:α0->α1->α2->α3->α4->List (Nat×Option MObj)} (h:some (x0,x1,x2,x3,x4)=some z) (l:List (Nat×Nat)) (hA:kB (sg l) (SA x0 x1 x2 x3 x4) A:=by (repeat' (first|exact trivial|refine And.intro rfl ?_))) (hL:kD (sg l) (SL x0 x1 x2 x3 x4) L:=by (repeat' (first|exact trivial|refine And.intro rfl ?_))) (hb:sgB l (wF (SL x0 x1 x2 x3 x4))=true:=by exact rfl):TE Γ N (SQ5 Γ N z SA SL) A L:=z0 l z rfl (by cases h;exact hA) (by cases h;exact hL) (by cases h;exact hb)

theorem CT5 {c:Code} {δ:Type} {α0 α1 α2 α3 α4:Type} {X:Option (α0×α1×α2×α3×α4)} {k:(α0×α1×α2×α3×α4)->Option δ} {r:δ} (h:X.bind k=some r) (SA:α0->α1->α2->α3->α4->List (Nat×MV)) (SL:α0->α1->α2->α3->α4->List (Nat×Option MObj)) (h1:∀z,X=some z->TC Tryz.prog Γ N c (Exit.then (SQ5 Γ N z SA SL) Q) A L) (h2:∀x0 x1 x2 x3 x4,k (x0,x1,x2,x3,x4)=some r->TE Γ N (Q .normal) (SA x0 x1 x2 x3 x4) (SL x0 x1 x2 x3 x4)):TC Tryz.prog Γ N c Q A L:=by
 obtain ⟨z,hx,hk⟩:=bnd h
 exact qr (fun s=>z=s) _ _ (h1 z hx) (fun s e=>by subst e;exact h2 _ _ _ _ _ hk)

def SQ6 (Γ:Gd) (N:Nat) {α0 α1 α2 α3 α4 α5:Type} (z:α0×α1×α2×α3×α4×α5) (SA:α0->α1->α2->α3->α4->α5->List (Nat×MV)) (SL:α0->α1->α2->α3->α4->α5->List (Nat×Option MObj)):Act->World->Prop:=SP Γ N (fun s:α0×α1×α2×α3×α4×α5=>z=s) (fun z=>SA z.1 z.2.1 z.2.2.1 z.2.2.2.1 z.2.2.2.2.1 z.2.2.2.2.2) (fun z=>SL z.1 z.2.1 z.2.2.1 z.2.2.2.1 z.2.2.2.2.1 z.2.2.2.2.2)

theorem SR6 {α0 α1 α2 α3 α4 α5:Type} {x0:α0} {x1:α1} {x2:α2} {x3:α3} {x4:α4} {x5:α5} {z:α0×α1×α2×α3×α4×α5} {SA:α0->α1->α2->α3->α4->α5->List (Nat×MV)} {SL:α0->α1->α2->α3->α4->α5->List (Nat×Option MObj)} (h:some (x0,x1,x2,x3,x4,x5)=some z) (l:List (Nat×Nat)) (hA:kB (sg l) (SA x0 x1 x2 x3 x4 x5) A:=by (repeat' (first|exact trivial|refine And.intro rfl ?_))) (hL:kD (sg l) (SL x0 x1 x2 x3 x4 x5) L:=by (repeat' (first|exact trivial|refine And.intro rfl ?_))) (hb:sgB l (wF (SL x0 x1 x2 x3 x4 x5))=true:=by exact rfl):TE Γ N (SQ6 Γ N z SA SL) A L:=z0 l z rfl (by cases h;exact hA) (by cases h;exact hL) (by cases h;exact hb)

theorem CT6 {c:Code} {δ:Type} {α0 α1 α2 α3 α4 α5:Type} {X:Option (α0×α1×α2×α3×α4×α5)} {k:(α0×α1×α2×α3×α4×α5)->Option δ} {r:δ} (h:X.bind k=some r) (SA:α0->α1->α2->α3->α4->α5->List (Nat×MV)) (SL:α0->α1->α2->α3->α4->α5->List (Nat×Option MObj)) (h1:∀z,X=some z->TC Tryz.prog Γ N c (Exit.then (SQ6 Γ N z SA SL) Q) A L) (h2:∀x0 x1 x2 x3 x4 x5,k (x0,x1,x2,x3,x4,x5)=some r->TE Γ N (Q .normal) (SA x0 x1 x2 x3 x4 x5) (SL x0 x1 x2 x3 x4 x5)):TC Tryz.prog Γ N c Q A L:=by
 obtain ⟨z,hx,hk⟩:=bnd h
 exact qr (fun s=>z=s) _ _ (h1 z hx) (fun s e=>by subst e;exact h2 _ _ _ _ _ _ hk)

def SQ8 (Γ:Gd) (N:Nat) {α0 α1 α2 α3 α4 α5 α6 α7:Type} (z:α0×α1×α2×α3×α4×α5×α6×α7) (SA:α0->α1->α2->α3->α4->α5->α6->α7->List (Nat×MV)) (SL:α0->α1->α2->α3->α4->α5->α6->α7->List (Nat×Option MObj)):Act->World->Prop:=SP Γ N (fun s:α0×α1×α2×α3×α4×α5×α6×α7=>z=s) (fun z=>SA z.1 z.2.1 z.2.2.1 z.2.2.2.1 z.2.2.2.2.1 z.2.2.2.2.2.1 z.2.2.2.2.2.2.1 z.2.2.2.2.2.2.2) (fun z=>SL z.1 z.2.1 z.2.2.1 z.2.2.2.1 z.2.2.2.2.1 z.2.2.2.2.2.1 z.2.2.2.2.2.2.1 z.2.2.2.2.2.2.2)

theorem SR8 {α0 α1 α2 α3 α4 α5 α6 α7:Type} {x0:α0} {x1:α1} {x2:α2} {x3:α3} {x4:α4} {x5:α5} {x6:α6} {x7:α7} {z:α0×α1×α2×α3×α4×α5×α6×α7} {SA:α0->α1->α2->α3->α4->α5->α6->α7->List (Nat×MV)} {SL:α0->α1->α2->α3->α4->α5->α6->α7->List (Nat×Option MObj)} (h:some (x0,x1,x2,x3,x4,x5,x6,x7)=some z) (l:List (Nat×Nat)) (hA:kB (sg l) (SA x0 x1 x2 x3 x4 x5 x6 x7) A:=by (repeat' (first|exact trivial|refine And.intro rfl ?_))) (hL:kD (sg l) (SL x0 x1 x2 x3 x4 x5 x6 x7) L:=by (repeat' (first|exact trivial|refine And.intro rfl ?_))) (hb:sgB l (wF (SL x0 x1 x2 x3 x4 x5 x6 x7))=true:=by exact rfl):TE Γ N (SQ8 Γ N z SA SL) A L:=z0 l z rfl (by cases h;exact hA) (by cases h;exact hL) (by cases h;exact hb)

theorem CT8 {c:Code} {δ:Type} {α0 α1 α2 α3 α4 α5 α6 α7:Type} {X:Option (α0×α1×α2×α3×α4×α5×α6×α7)} {k:(α0×α1×α2×α3×α4×α5×α6×α7)->Option δ} {r:δ} (h:X.bind k=some r) (SA:α0->α1->α2->α3->α4->α5->α6->α7->List (Nat×MV)) (SL:α0->α1->α2->α3->α4->α5->α6->α7->List (Nat×Option MObj)) (h1:∀z,X=some z->TC Tryz.prog Γ N c (Exit.then (SQ8 Γ N z SA SL) Q) A L) (h2:∀x0 x1 x2 x3 x4 x5 x6 x7,k (x0,x1,x2,x3,x4,x5,x6,x7)=some r->TE Γ N (Q .normal) (SA x0 x1 x2 x3 x4 x5 x6 x7) (SL x0 x1 x2 x3 x4 x5 x6 x7)):TC Tryz.prog Γ N c Q A L:=by
 obtain ⟨z,hx,hk⟩:=bnd h
 exact qr (fun s=>z=s) _ _ (h1 z hx) (fun s e=>by subst e;exact h2 _ _ _ _ _ _ _ _ hk)

def SQ9 (Γ:Gd) (N:Nat) {α0 α1 α2 α3 α4 α5 α6 α7 α8:Type} (z:α0×α1×α2×α3×α4×α5×α6×α7×α8) (SA:α0->α1->α2->α3->α4->α5->α6->α7->α8->List (Nat×MV)) (SL:α0->α1->α2->α3->α4->α5->α6->α7->α8->List (Nat×Option MObj)):Act->World->Prop:=SP Γ N (fun s:α0×α1×α2×α3×α4×α5×α6×α7×α8=>z=s) (fun z=>SA z.1 z.2.1 z.2.2.1 z.2.2.2.1 z.2.2.2.2.1 z.2.2.2.2.2.1 z.2.2.2.2.2.2.1 z.2.2.2.2.2.2.2.1 z.2.2.2.2.2.2.2.2) (fun z=>SL z.1 z.2.1 z.2.2.1 z.2.2.2.1 z.2.2.2.2.1 z.2.2.2.2.2.1 z.2.2.2.2.2.2.1 z.2.2.2.2.2.2.2.1 z.2.2.2.2.2.2.2.2)

theorem SR9 {α0 α1 α2 α3 α4 α5 α6 α7 α8:Type} {x0:α0} {x1:α1} {x2:α2} {x3:α3} {x4:α4} {x5:α5} {x6:α6} {x7:α7} {x8:α8} {z:α0×α1×α2×α3×α4×α5×α6×α7×α8} {SA:α0->α1->α2->α3->α4->α5->α6->α7->α8->List (Nat×MV)} {SL:α0->α1->α2->α3->α4->α5->α6->α7->α8->List (Nat×Option MObj)} (h:some (x0,x1,x2,x3,x4,x5,x6,x7,x8)=some z) (l:List (Nat×Nat)) (hA:kB (sg l) (SA x0 x1 x2 x3 x4 x5 x6 x7 x8) A:=by (repeat' (first|exact trivial|refine And.intro rfl ?_))) (hL:kD (sg l) (SL x0 x1 x2 x3 x4 x5 x6 x7 x8) L:=by (repeat' (first|exact trivial|refine And.intro rfl ?_))) (hb:sgB l (wF (SL x0 x1 x2 x3 x4 x5 x6 x7 x8))=true:=by exact rfl):TE Γ N (SQ9 Γ N z SA SL) A L:=z0 l z rfl (by cases h;exact hA) (by cases h;exact hL) (by cases h;exact hb)

theorem CT9 {c:Code} {δ:Type} {α0 α1 α2 α3 α4 α5 α6 α7 α8:Type} {X:Option (α0×α1×α2×α3×α4×α5×α6×α7×α8)} {k:(α0×α1×α2×α3×α4×α5×α6×α7×α8)->Option δ} {r:δ} (h:X.bind k=some r) (SA:α0->α1->α2->α3->α4->α5->α6->α7->α8->List (Nat×MV)) (SL:α0->α1->α2->α3->α4->α5->α6->α7->α8->List (Nat×Option MObj)) (h1:∀z,X=some z->TC Tryz.prog Γ N c (Exit.then (SQ9 Γ N z SA SL) Q) A L) (h2:∀x0 x1 x2 x3 x4 x5 x6 x7 x8,k (x0,x1,x2,x3,x4,x5,x6,x7,x8)=some r->TE Γ N (Q .normal) (SA x0 x1 x2 x3 x4 x5 x6 x7 x8) (SL x0 x1 x2 x3 x4 x5 x6 x7 x8)):TC Tryz.prog Γ N c Q A L:=by
 obtain ⟨z,hx,hk⟩:=bnd h
 exact qr (fun s=>z=s) _ _ (h1 z hx) (fun s e=>by subst e;exact h2 _ _ _ _ _ _ _ _ _ hk)

def LN1 (Γ:Gd) (N:Nat) {α0:Type} {δ:Type} (g:Nat->α0->Option δ) (r:δ) (n:Nat) (SA:α0->List (Nat×MV)) (SL:α0->List (Nat×Option MObj)):Act->World->Prop:=fun a w=>∃n',n'<n/\SP Γ N (fun z:α0=>g n' z=some r) (fun z=>SA z) (fun z=>SL z) a w

theorem NX1 {α0:Type} {δ:Type} {g:Nat->α0->Option δ} {r:δ} {n:Nat} {x0:α0} {SA:α0->List (Nat×MV)} {SL:α0->List (Nat×Option MObj)} (h:g n x0=some r) (l:List (Nat×Nat)) (hA:kB (sg l) (SA x0) A:=by (repeat' (first|exact trivial|refine And.intro rfl ?_))) (hL:kD (sg l) (SL x0) L:=by (repeat' (first|exact trivial|refine And.intro rfl ?_))) (hb:sgB l (wF (SL x0))=true:=by exact rfl):TE Γ N (LN1 Γ N g r (n+1) SA SL) A L:=yw (p:=fun n (z:α0)=>g n z=some r) (SA:=fun z=>SA z) (SL:=fun z=>SL z) l n (Nat.lt_succ_self n) x0 h hA hL hb

theorem LP1 {c:Code} {α0:Type} {δ:Type} {g:Nat->α0->Option δ} {r:δ} {K:Nat} {x0:α0} (h:g K x0=some r) (l:List (Nat×Nat)) (SA:α0->List (Nat×MV)) (SL:α0->List (Nat×Option MObj)) (b:∀n x0,g (n+1) x0=some r->TC Tryz.prog Γ N c (Exit.then (LN1 Γ N g r (n+1) SA SL) Q) (SA x0) (SL x0)) (hA:kB (sg l) (SA x0) A:=by (repeat' (first|exact trivial|refine And.intro rfl ?_))) (hL:kD (sg l) (SL x0) L:=by (repeat' (first|exact trivial|refine And.intro rfl ?_))) (hb:sgB l (wF (SL x0))=true:=by exact rfl) (h0:∀x0,g 0 x0=none:=by intros;exact rfl):TC Tryz.prog Γ N (.loop c) Q A L:=y6 (α:=α0) (fun n z=>g n z=some r) (fun z=>SA z) (fun z=>SL z) K (z0 l x0 h hA hL hb) (fun n z hz=>by
 rcases n with _|n
 ·rw[h0] at hz;cases hz
 ·exact b n _ hz)

def LN2 (Γ:Gd) (N:Nat) {α0 α1:Type} {δ:Type} (g:Nat->α0->α1->Option δ) (r:δ) (n:Nat) (SA:α0->α1->List (Nat×MV)) (SL:α0->α1->List (Nat×Option MObj)):Act->World->Prop:=fun a w=>∃n',n'<n/\SP Γ N (fun z:α0×α1=>g n' z.1 z.2=some r) (fun z=>SA z.1 z.2) (fun z=>SL z.1 z.2) a w

theorem NX2 {α0 α1:Type} {δ:Type} {g:Nat->α0->α1->Option δ} {r:δ} {n:Nat} {x0:α0} {x1:α1} {SA:α0->α1->List (Nat×MV)} {SL:α0->α1->List (Nat×Option MObj)} (h:g n x0 x1=some r) (l:List (Nat×Nat)) (hA:kB (sg l) (SA x0 x1) A:=by (repeat' (first|exact trivial|refine And.intro rfl ?_))) (hL:kD (sg l) (SL x0 x1) L:=by (repeat' (first|exact trivial|refine And.intro rfl ?_))) (hb:sgB l (wF (SL x0 x1))=true:=by exact rfl):TE Γ N (LN2 Γ N g r (n+1) SA SL) A L:=yw (p:=fun n (z:α0×α1)=>g n z.1 z.2=some r) (SA:=fun z=>SA z.1 z.2) (SL:=fun z=>SL z.1 z.2) l n (Nat.lt_succ_self n) (x0,x1) h hA hL hb

theorem LP2 {c:Code} {α0 α1:Type} {δ:Type} {g:Nat->α0->α1->Option δ} {r:δ} {K:Nat} {x0:α0} {x1:α1} (h:g K x0 x1=some r) (l:List (Nat×Nat)) (SA:α0->α1->List (Nat×MV)) (SL:α0->α1->List (Nat×Option MObj)) (b:∀n x0 x1,g (n+1) x0 x1=some r->TC Tryz.prog Γ N c (Exit.then (LN2 Γ N g r (n+1) SA SL) Q) (SA x0 x1) (SL x0 x1)) (hA:kB (sg l) (SA x0 x1) A:=by (repeat' (first|exact trivial|refine And.intro rfl ?_))) (hL:kD (sg l) (SL x0 x1) L:=by (repeat' (first|exact trivial|refine And.intro rfl ?_))) (hb:sgB l (wF (SL x0 x1))=true:=by exact rfl) (h0:∀x0 x1,g 0 x0 x1=none:=by intros;exact rfl):TC Tryz.prog Γ N (.loop c) Q A L:=y6 (α:=α0×α1) (fun n z=>g n z.1 z.2=some r) (fun z=>SA z.1 z.2) (fun z=>SL z.1 z.2) K (z0 l (x0,x1) h hA hL hb) (fun n z hz=>by
 rcases n with _|n
 ·rw[h0] at hz;cases hz
 ·exact b n _ _ hz)

def LN3 (Γ:Gd) (N:Nat) {α0 α1 α2:Type} {δ:Type} (g:Nat->α0->α1->α2->Option δ) (r:δ) (n:Nat) (SA:α0->α1->α2->List (Nat×MV)) (SL:α0->α1->α2->List (Nat×Option MObj)):Act->World->Prop:=fun a w=>∃n',n'<n/\SP Γ N (fun z:α0×α1×α2=>g n' z.1 z.2.1 z.2.2=some r) (fun z=>SA z.1 z.2.1 z.2.2) (fun z=>SL z.1 z.2.1 z.2.2) a w

theorem NX3 {α0 α1 α2:Type} {δ:Type} {g:Nat->α0->α1->α2->Option δ} {r:δ} {n:Nat} {x0:α0} {x1:α1} {x2:α2} {SA:α0->α1->α2->List (Nat×MV)} {SL:α0->α1->α2->List (Nat×Option MObj)} (h:g n x0 x1 x2=some r) (l:List (Nat×Nat)) (hA:kB (sg l) (SA x0 x1 x2) A:=by (repeat' (first|exact trivial|refine And.intro rfl ?_))) (hL:kD (sg l) (SL x0 x1 x2) L:=by (repeat' (first|exact trivial|refine And.intro rfl ?_))) (hb:sgB l (wF (SL x0 x1 x2))=true:=by exact rfl):TE Γ N (LN3 Γ N g r (n+1) SA SL) A L:=yw (p:=fun n (z:α0×α1×α2)=>g n z.1 z.2.1 z.2.2=some r) (SA:=fun z=>SA z.1 z.2.1 z.2.2) (SL:=fun z=>SL z.1 z.2.1 z.2.2) l n (Nat.lt_succ_self n) (x0,x1,x2) h hA hL hb

theorem LP3 {c:Code} {α0 α1 α2:Type} {δ:Type} {g:Nat->α0->α1->α2->Option δ} {r:δ} {K:Nat} {x0:α0} {x1:α1} {x2:α2} (h:g K x0 x1 x2=some r) (l:List (Nat×Nat)) (SA:α0->α1->α2->List (Nat×MV)) (SL:α0->α1->α2->List (Nat×Option MObj)) (b:∀n x0 x1 x2,g (n+1) x0 x1 x2=some r->TC Tryz.prog Γ N c (Exit.then (LN3 Γ N g r (n+1) SA SL) Q) (SA x0 x1 x2) (SL x0 x1 x2)) (hA:kB (sg l) (SA x0 x1 x2) A:=by (repeat' (first|exact trivial|refine And.intro rfl ?_))) (hL:kD (sg l) (SL x0 x1 x2) L:=by (repeat' (first|exact trivial|refine And.intro rfl ?_))) (hb:sgB l (wF (SL x0 x1 x2))=true:=by exact rfl) (h0:∀x0 x1 x2,g 0 x0 x1 x2=none:=by intros;exact rfl):TC Tryz.prog Γ N (.loop c) Q A L:=y6 (α:=α0×α1×α2) (fun n z=>g n z.1 z.2.1 z.2.2=some r) (fun z=>SA z.1 z.2.1 z.2.2) (fun z=>SL z.1 z.2.1 z.2.2) K (z0 l (x0,x1,x2) h hA hL hb) (fun n z hz=>by
 rcases n with _|n
 ·rw[h0] at hz;cases hz
 ·exact b n _ _ _ hz)

def LN4 (Γ:Gd) (N:Nat) {α0 α1 α2 α3:Type} {δ:Type} (g:Nat->α0->α1->α2->α3->Option δ) (r:δ) (n:Nat) (SA:α0->α1->α2->α3->List (Nat×MV)) (SL:α0->α1->α2->α3->List (Nat×Option MObj)):Act->World->Prop:=fun a w=>∃n',n'<n/\SP Γ N (fun z:α0×α1×α2×α3=>g n' z.1 z.2.1 z.2.2.1 z.2.2.2=some r) (fun z=>SA z.1 z.2.1 z.2.2.1 z.2.2.2) (fun z=>SL z.1 z.2.1 z.2.2.1 z.2.2.2) a w

theorem NX4 {α0 α1 α2 α3:Type} {δ:Type} {g:Nat->α0->α1->α2->α3->Option δ} {r:δ} {n:Nat} {x0:α0} {x1:α1} {x2:α2} {x3:α3} {SA:α0->α1->α2->α3->List (Nat×MV)} {SL:α0->α1->α2->α3->List (Nat×Option MObj)} (h:g n x0 x1 x2 x3=some r) (l:List (Nat×Nat)) (hA:kB (sg l) (SA x0 x1 x2 x3) A:=by (repeat' (first|exact trivial|refine And.intro rfl ?_))) (hL:kD (sg l) (SL x0 x1 x2 x3) L:=by (repeat' (first|exact trivial|refine And.intro rfl ?_))) (hb:sgB l (wF (SL x0 x1 x2 x3))=true:=by exact rfl):TE Γ N (LN4 Γ N g r (n+1) SA SL) A L:=yw (p:=fun n (z:α0×α1×α2×α3)=>g n z.1 z.2.1 z.2.2.1 z.2.2.2=some r) (SA:=fun z=>SA z.1 z.2.1 z.2.2.1 z.2.2.2) (SL:=fun z=>SL z.1 z.2.1 z.2.2.1 z.2.2.2) l n (Nat.lt_succ_self n) (x0,x1,x2,x3) h hA hL hb

theorem LP4 {c:Code} {α0 α1 α2 α3:Type} {δ:Type} {g:Nat->α0->α1->α2->α3->Option δ} {r:δ} {K:Nat} {x0:α0} {x1:α1} {x2:α2} {x3:α3} (h:g K x0 x1 x2 x3=some r) (l:List (Nat×Nat)) (SA:α0->α1->α2->α3->List (Nat×MV)) (SL:α0->α1->α2->α3->List (Nat×Option MObj)) (b:∀n x0 x1 x2 x3,g (n+1) x0 x1 x2 x3=some r->TC Tryz.prog Γ N c (Exit.then (LN4 Γ N g r (n+1) SA SL) Q) (SA x0 x1 x2 x3) (SL x0 x1 x2 x3)) (hA:kB (sg l) (SA x0 x1 x2 x3) A:=by (repeat' (first|exact trivial|refine And.intro rfl ?_))) (hL:kD (sg l) (SL x0 x1 x2 x3) L:=by (repeat' (first|exact trivial|refine And.intro rfl ?_))) (hb:sgB l (wF (SL x0 x1 x2 x3))=true:=by exact rfl) (h0:∀x0 x1 x2 x3,g 0 x0 x1 x2 x3=none:=by intros;exact rfl):TC Tryz.prog Γ N (.loop c) Q A L:=y6 (α:=α0×α1×α2×α3) (fun n z=>g n z.1 z.2.1 z.2.2.1 z.2.2.2=some r) (fun z=>SA z.1 z.2.1 z.2.2.1 z.2.2.2) (fun z=>SL z.1 z.2.1 z.2.2.1 z.2.2.2) K (z0 l (x0,x1,x2,x3) h hA hL hb) (fun n z hz=>by
 rcases n with _|n
 ·rw[h0] at hz;cases hz
 ·exact b n _ _ _ _ hz)

def LN5 (Γ:Gd) (N:Nat) {α0 α1 α2 α3 α4:Type} {δ:Type} (g:Nat->α0->α1->α2->α3->α4->Option δ) (r:δ) (n:Nat) (SA:α0->α1->α2->α3->α4->List (Nat×MV)) (SL:α0->α1->α2->α3->α4->List (Nat×Option MObj)):Act->World->Prop:=fun a w=>∃n',n'<n/\SP Γ N (fun z:α0×α1×α2×α3×α4=>g n' z.1 z.2.1 z.2.2.1 z.2.2.2.1 z.2.2.2.2=some r) (fun z=>SA z.1 z.2.1 z.2.2.1 z.2.2.2.1 z.2.2.2.2) (fun z=>SL z.1 z.2.1 z.2.2.1 z.2.2.2.1 z.2.2.2.2) a w

theorem NX5 {α0 α1 α2 α3 α4:Type} {δ:Type} {g:Nat->α0->α1->α2->α3->α4->Option δ} {r:δ} {n:Nat} {x0:α0} {x1:α1} {x2:α2} {x3:α3} {x4:α4} {SA:α0->α1->α2->α3->α4->List (Nat×MV)} {SL:α0->α1->α2->α3->α4->List (Nat×Option MObj)} (h:g n x0 x1 x2 x3 x4=some r) (l:List (Nat×Nat)) (hA:kB (sg l) (SA x0 x1 x2 x3 x4) A:=by (repeat' (first|exact trivial|refine And.intro rfl ?_))) (hL:kD (sg l) (SL x0 x1 x2 x3 x4) L:=by (repeat' (first|exact trivial|refine And.intro rfl ?_))) (hb:sgB l (wF (SL x0 x1 x2 x3 x4))=true:=by exact rfl):TE Γ N (LN5 Γ N g r (n+1) SA SL) A L:=yw (p:=fun n (z:α0×α1×α2×α3×α4)=>g n z.1 z.2.1 z.2.2.1 z.2.2.2.1 z.2.2.2.2=some r) (SA:=fun z=>SA z.1 z.2.1 z.2.2.1 z.2.2.2.1 z.2.2.2.2) (SL:=fun z=>SL z.1 z.2.1 z.2.2.1 z.2.2.2.1 z.2.2.2.2) l n (Nat.lt_succ_self n) (x0,x1,x2,x3,x4) h hA hL hb

theorem LP5 {c:Code} {α0 α1 α2 α3 α4:Type} {δ:Type} {g:Nat->α0->α1->α2->α3->α4->Option δ} {r:δ} {K:Nat} {x0:α0} {x1:α1} {x2:α2} {x3:α3} {x4:α4} (h:g K x0 x1 x2 x3 x4=some r) (l:List (Nat×Nat)) (SA:α0->α1->α2->α3->α4->List (Nat×MV)) (SL:α0->α1->α2->α3->α4->List (Nat×Option MObj)) (b:∀n x0 x1 x2 x3 x4,g (n+1) x0 x1 x2 x3 x4=some r->TC Tryz.prog Γ N c (Exit.then (LN5 Γ N g r (n+1) SA SL) Q) (SA x0 x1 x2 x3 x4) (SL x0 x1 x2 x3 x4)) (hA:kB (sg l) (SA x0 x1 x2 x3 x4) A:=by (repeat' (first|exact trivial|refine And.intro rfl ?_))) (hL:kD (sg l) (SL x0 x1 x2 x3 x4) L:=by (repeat' (first|exact trivial|refine And.intro rfl ?_))) (hb:sgB l (wF (SL x0 x1 x2 x3 x4))=true:=by exact rfl) (h0:∀x0 x1 x2 x3 x4,g 0 x0 x1 x2 x3 x4=none:=by intros;exact rfl):TC Tryz.prog Γ N (.loop c) Q A L:=y6 (α:=α0×α1×α2×α3×α4) (fun n z=>g n z.1 z.2.1 z.2.2.1 z.2.2.2.1 z.2.2.2.2=some r) (fun z=>SA z.1 z.2.1 z.2.2.1 z.2.2.2.1 z.2.2.2.2) (fun z=>SL z.1 z.2.1 z.2.2.1 z.2.2.2.1 z.2.2.2.2) K (z0 l (x0,x1,x2,x3,x4) h hA hL hb) (fun n z hz=>by
 rcases n with _|n
 ·rw[h0] at hz;cases hz
 ·exact b n _ _ _ _ _ hz)

def LN6 (Γ:Gd) (N:Nat) {α0 α1 α2 α3 α4 α5:Type} {δ:Type} (g:Nat->α0->α1->α2->α3->α4->α5->Option δ) (r:δ) (n:Nat) (SA:α0->α1->α2->α3->α4->α5->List (Nat×MV)) (SL:α0->α1->α2->α3->α4->α5->List (Nat×Option MObj)):Act->World->Prop:=fun a w=>∃n',n'<n/\SP Γ N (fun z:α0×α1×α2×α3×α4×α5=>g n' z.1 z.2.1 z.2.2.1 z.2.2.2.1 z.2.2.2.2.1 z.2.2.2.2.2=some r) (fun z=>SA z.1 z.2.1 z.2.2.1 z.2.2.2.1 z.2.2.2.2.1 z.2.2.2.2.2) (fun z=>SL z.1 z.2.1 z.2.2.1 z.2.2.2.1 z.2.2.2.2.1 z.2.2.2.2.2) a w

theorem NX6 {α0 α1 α2 α3 α4 α5:Type} {δ:Type} {g:Nat->α0->α1->α2->α3->α4->α5->Option δ} {r:δ} {n:Nat} {x0:α0} {x1:α1} {x2:α2} {x3:α3} {x4:α4} {x5:α5} {SA:α0->α1->α2->α3->α4->α5->List (Nat×MV)} {SL:α0->α1->α2->α3->α4->α5->List (Nat×Option MObj)} (h:g n x0 x1 x2 x3 x4 x5=some r) (l:List (Nat×Nat)) (hA:kB (sg l) (SA x0 x1 x2 x3 x4 x5) A:=by (repeat' (first|exact trivial|refine And.intro rfl ?_))) (hL:kD (sg l) (SL x0 x1 x2 x3 x4 x5) L:=by (repeat' (first|exact trivial|refine And.intro rfl ?_))) (hb:sgB l (wF (SL x0 x1 x2 x3 x4 x5))=true:=by exact rfl):TE Γ N (LN6 Γ N g r (n+1) SA SL) A L:=yw (p:=fun n (z:α0×α1×α2×α3×α4×α5)=>g n z.1 z.2.1 z.2.2.1 z.2.2.2.1 z.2.2.2.2.1 z.2.2.2.2.2=some r) (SA:=fun z=>SA z.1 z.2.1 z.2.2.1 z.2.2.2.1 z.2.2.2.2.1 z.2.2.2.2.2) (SL:=fun z=>SL z.1 z.2.1 z.2.2.1 z.2.2.2.1 z.2.2.2.2.1 z.2.2.2.2.2) l n (Nat.lt_succ_self n) (x0,x1,x2,x3,x4,x5) h hA hL hb

theorem LP6 {c:Code} {α0 α1 α2 α3 α4 α5:Type} {δ:Type} {g:Nat->α0->α1->α2->α3->α4->α5->Option δ} {r:δ} {K:Nat} {x0:α0} {x1:α1} {x2:α2} {x3:α3} {x4:α4} {x5:α5} (h:g K x0 x1 x2 x3 x4 x5=some r) (l:List (Nat×Nat)) (SA:α0->α1->α2->α3->α4->α5->List (Nat×MV)) (SL:α0->α1->α2->α3->α4->α5->List (Nat×Option MObj)) (b:∀n x0 x1 x2 x3 x4 x5,g (n+1) x0 x1 x2 x3 x4 x5=some r->TC Tryz.prog Γ N c (Exit.then (LN6 Γ N g r (n+1) SA SL) Q) (SA x0 x1 x2 x3 x4 x5) (SL x0 x1 x2 x3 x4 x5)) (hA:kB (sg l) (SA x0 x1 x2 x3 x4 x5) A:=by (repeat' (first|exact trivial|refine And.intro rfl ?_))) (hL:kD (sg l) (SL x0 x1 x2 x3 x4 x5) L:=by (repeat' (first|exact trivial|refine And.intro rfl ?_))) (hb:sgB l (wF (SL x0 x1 x2 x3 x4 x5))=true:=by exact rfl) (h0:∀x0 x1 x2 x3 x4 x5,g 0 x0 x1 x2 x3 x4 x5=none:=by intros;exact rfl):TC Tryz.prog Γ N (.loop c) Q A L:=y6 (α:=α0×α1×α2×α3×α4×α5) (fun n z=>g n z.1 z.2.1 z.2.2.1 z.2.2.2.1 z.2.2.2.2.1 z.2.2.2.2.2=some r) (fun z=>SA z.1 z.2.1 z.2.2.1 z.2.2.2.1 z.2.2.2.2.1 z.2.2.2.2.2) (fun z=>SL z.1 z.2.1 z.2.2.1 z.2.2.2.1 z.2.2.2.2.1 z.2.2.2.2.2) K (z0 l (x0,x1,x2,x3,x4,x5) h hA hL hb) (fun n z hz=>by
 rcases n with _|n
 ·rw[h0] at hz;cases hz
 ·exact b n _ _ _ _ _ _ hz)

def LN7 (Γ:Gd) (N:Nat) {α0 α1 α2 α3 α4 α5 α6:Type} {δ:Type} (g:Nat->α0->α1->α2->α3->α4->α5->α6->Option δ) (r:δ) (n:Nat) (SA:α0->α1->α2->α3->α4->α5->α6->List (Nat×MV)) (SL:α0->α1->α2->α3->α4->α5->α6->List (Nat×Option MObj)):Act->World->Prop:=fun a w=>∃n',n'<n/\SP Γ N (fun z:α0×α1×α2×α3×α4×α5×α6=>g n' z.1 z.2.1 z.2.2.1 z.2.2.2.1 z.2.2.2.2.1 z.2.2.2.2.2.1 z.2.2.2.2.2.2=some r) (fun z=>SA z.1 z.2.1 z.2.2.1 z.2.2.2.1 z.2.2.2.2.1 z.2.2.2.2.2.1 z.2.2.2.2.2.2) (fun z=>SL z.1 z.2.1 z.2.2.1 z.2.2.2.1 z.2.2.2.2.1 z.2.2.2.2.2.1 z.2.2.2.2.2.2) a w

theorem NX7 {α0 α1 α2 α3 α4 α5 α6:Type} {δ:Type} {g:Nat->α0->α1->α2->α3->α4->α5->α6->Option δ} {r:δ} {n:Nat} {x0:α0} {x1:α1} {x2:α2} {x3:α3} {x4:α4} {x5:α5} {x6:α6} {SA:α0->α1->α2->α3->α4->α5->α6->List (Nat×MV)} {SL:α0->α1->α2->α3->α4->α5->α6->List (Nat×Option MObj)} (h:g n x0 x1 x2 x3 x4 x5 x6=some r) (l:List (Nat×Nat)) (hA:kB (sg l) (SA x0 x1 x2 x3 x4 x5 x6) A:=by (repeat' (first|exact trivial|refine And.intro rfl ?_))) (hL:kD (sg l) (SL x0 x1 x2 x3 x4 x5 x6) L:=by (repeat' (first|exact trivial|refine And.intro rfl ?_))) (hb:sgB l (wF (SL x0 x1 x2 x3 x4 x5 x6))=true:=by exact rfl):TE Γ N (LN7 Γ N g r (n+1) SA SL) A L:=yw (p:=fun n (z:α0×α1×α2×α3×α4×α5×α6)=>g n z.1 z.2.1 z.2.2.1 z.2.2.2.1 z.2.2.2.2.1 z.2.2.2.2.2.1 z.2.2.2.2.2.2=some r) (SA:=fun z=>SA z.1 z.2.1 z.2.2.1 z.2.2.2.1 z.2.2.2.2.1 z.2.2.2.2.2.1 z.2.2.2.2.2.2) (SL:=fun z=>SL z.1 z.2.1 z.2.2.1 z.2.2.2.1 z.2.2.2.2.1 z.2.2.2.2.2.1 z.2.2.2.2.2.2) l n (Nat.lt_succ_self n) (x0,x1,x2,x3,x4,x5,x6) h hA hL hb

theorem LP7 {c:Code} {α0 α1 α2 α3 α4 α5 α6:Type} {δ:Type} {g:Nat->α0->α1->α2->α3->α4->α5->α6->Option δ} {r:δ} {K:Nat} {x0:α0} {x1:α1} {x2:α2} {x3:α3} {x4:α4} {x5:α5} {x6:α6} (h:g K x0 x1 x2 x3 x4 x5 x6=some r) (l:List (Nat×Nat)) (SA:α0->α1->α2->α3->α4->α5->α6->List (Nat×MV)) (SL:α0->α1->α2->α3->α4->α5->α6->List (Nat×Option MObj)) (b:∀n x0 x1 x2 x3 x4 x5 x6,g (n+1) x0 x1 x2 x3 x4 x5 x6=some r->TC Tryz.prog Γ N c (Exit.then (LN7 Γ N g r (n+1) SA SL) Q) (SA x0 x1 x2 x3 x4 x5 x6) (SL x0 x1 x2 x3 x4 x5 x6)) (hA:kB (sg l) (SA x0 x1 x2 x3 x4 x5 x6) A:=by (repeat' (first|exact trivial|refine And.intro rfl ?_))) (hL:kD (sg l) (SL x0 x1 x2 x3 x4 x5 x6) L:=by (repeat' (first|exact trivial|refine And.intro rfl ?_))) (hb:sgB l (wF (SL x0 x1 x2 x3 x4 x5 x6))=true:=by exact rfl) (h0:∀x0 x1 x2 x3 x4 x5 x6,g 0 x0 x1 x2 x3 x4 x5 x6=none:=by intros;exact rfl):TC Tryz.prog Γ N (.loop c) Q A L:=y6 (α:=α0×α1×α2×α3×α4×α5×α6) (fun n z=>g n z.1 z.2.1 z.2.2.1 z.2.2.2.1 z.2.2.2.2.1 z.2.2.2.2.2.1 z.2.2.2.2.2.2=some r) (fun z=>SA z.1 z.2.1 z.2.2.1 z.2.2.2.1 z.2.2.2.2.1 z.2.2.2.2.2.1 z.2.2.2.2.2.2) (fun z=>SL z.1 z.2.1 z.2.2.1 z.2.2.2.1 z.2.2.2.2.1 z.2.2.2.2.2.1 z.2.2.2.2.2.2) K (z0 l (x0,x1,x2,x3,x4,x5,x6) h hA hL hb) (fun n z hz=>by
 rcases n with _|n
 ·rw[h0] at hz;cases hz
 ·exact b n _ _ _ _ _ _ _ hz)

end
theorem pj1 {α:Type} {a c:α} (h:some a=some c):c=a:=sinj h

theorem pj2 {α0 α1:Type} {a0 c0:α0} {a1 c1:α1} (h:some (a0,a1)=some (c0,c1)):c0=a0/\c1=a1:=by cases h;exact ⟨rfl,rfl⟩

theorem pj3 {α0 α1 α2:Type} {a0 c0:α0} {a1 c1:α1} {a2 c2:α2} (h:some (a0,a1,a2)=some (c0,c1,c2)):c0=a0/\c1=a1/\c2=a2:=by cases h;exact ⟨rfl,rfl,rfl⟩

theorem pj4 {α0 α1 α2 α3:Type} {a0 c0:α0} {a1 c1:α1} {a2 c2:α2} {a3 c3:α3} (h:some (a0,a1,a2,a3)=some (c0,c1,c2,c3)):c0=a0/\c1=a1/\c2=a2/\c3=a3:=by cases h;exact ⟨rfl,rfl,rfl,rfl⟩

theorem pj5 {α0 α1 α2 α3 α4:Type} {a0 c0:α0} {a1 c1:α1} {a2 c2:α2} {a3 c3:α3} {a4 c4:α4} (h:some (a0,a1,a2,a3,a4)=some (c0,c1,c2,c3,c4)):c0=a0/\c1=a1/\c2=a2/\c3=a3/\c4=a4:=by cases h;exact ⟨rfl,rfl,rfl,rfl,rfl⟩

theorem pj6 {α0 α1 α2 α3 α4 α5:Type} {a0 c0:α0} {a1 c1:α1} {a2 c2:α2} {a3 c3:α3} {a4 c4:α4} {a5 c5:α5} (h:some (a0,a1,a2,a3,a4,a5)=some (c0,c1,c2,c3,c4,c5)):c0=a0/\c1=a1/\c2=a2/\c3=a3/\c4=a4/\c5=a5:=by cases h;exact ⟨rfl,rfl,rfl,rfl,rfl,rfl⟩

theorem pj7 {α0 α1 α2 α3 α4 α5 α6:Type} {a0 c0:α0} {a1 c1:α1} {a2 c2:α2} {a3 c3:α3} {a4 c4:α4} {a5 c5:α5} {a6 c6:α6} (h:some (a0,a1,a2,a3,a4,a5,a6)=some (c0,c1,c2,c3,c4,c5,c6)):c0=a0/\c1=a1/\c2=a2/\c3=a3/\c4=a4/\c5=a5/\c6=a6:=by cases h;exact ⟨rfl,rfl,rfl,rfl,rfl,rfl,rfl⟩

theorem pj9 {α0 α1 α2 α3 α4 α5 α6 α7 α8:Type} {a0 c0:α0} {a1 c1:α1} {a2 c2:α2} {a3 c3:α3} {a4 c4:α4} {a5 c5:α5} {a6 c6:α6} {a7 c7:α7} {a8 c8:α8} (h:some (a0,a1,a2,a3,a4,a5,a6,a7,a8)=some (c0,c1,c2,c3,c4,c5,c6,c7,c8)):c0=a0/\c1=a1/\c2=a2/\c3=a3/\c4=a4/\c5=a5/\c6=a6/\c7=a7/\c8=a8:=by cases h;exact ⟨rfl,rfl,rfl,rfl,rfl,rfl,rfl,rfl,rfl⟩

theorem HX {α0 α1 α2 α3 α4 α5 α6 α7 α8 α9:Type} {a0 c0:α0} {a1 c1:α1} {a2 c2:α2} {a3 c3:α3} {a4 c4:α4} {a5 c5:α5} {a6 c6:α6} {a7 c7:α7} {a8 c8:α8} {a9 c9:α9} (h:some (a0,a1,a2,a3,a4,a5,a6,a7,a8,a9)=some (c0,c1,c2,c3,c4,c5,c6,c7,c8,c9)):c0=a0/\c1=a1/\c2=a2/\c3=a3/\c4=a4/\c5=a5/\c6=a6/\c7=a7/\c8=a8/\c9=a9:=by cases h;exact ⟨rfl,rfl,rfl,rfl,rfl,rfl,rfl,rfl,rfl,rfl⟩

theorem KN {α0 α1 α2 α3 α4 α5 α6 α7 α8 α9 α10 α11 α12 α13 α14 α15 α16 α17 α18 α19 α20 α21:Type} {a0 c0:α0} {a1 c1:α1} {a2 c2:α2} {a3 c3:α3} {a4 c4:α4} {a5 c5:α5} {a6 c6:α6} {a7 c7:α7} {a8 c8:α8} {a9 c9:α9} {a10 c10:α10} {a11 c11:α11} {a12 c12:α12} {a13 c13:α13} {a14 c14:α14} {a15 c15:α15} {a16 c16:α16} {a17 c17:α17} {a18 c18:α18} {a19 c19:α19} {a20 c20:α20} {a21 c21:α21} (h:some (a0,a1,a2,a3,a4,a5,a6,a7,a8,a9,a10,a11,a12,a13,a14,a15,a16,a17,a18,a19,a20,a21)=some (c0,c1,c2,c3,c4,c5,c6,c7,c8,c9,c10,c11,c12,c13,c14,c15,c16,c17,c18,c19,c20,c21)):c0=a0/\c1=a1/\c2=a2/\c3=a3/\c4=a4/\c5=a5/\c6=a6/\c7=a7/\c8=a8/\c9=a9/\c10=a10/\c11=a11/\c12=a12/\c13=a13/\c14=a14/\c15=a15/\c16=a16/\c17=a17/\c18=a18/\c19=a19/\c20=a20/\c21=a21:=by cases h;exact ⟨rfl,rfl,rfl,rfl,rfl,rfl,rfl,rfl,rfl,rfl,rfl,rfl,rfl,rfl,rfl,rfl,rfl,rfl,rfl,rfl,rfl,rfl⟩

end Go.Fo
