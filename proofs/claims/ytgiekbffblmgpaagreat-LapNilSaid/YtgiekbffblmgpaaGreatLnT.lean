/- What the kit's program says of the types that these functions use. -/
import Derived.Test.YtgiekbffblmgpaaGreatProg
import Derived.Test.YtgiekbffblmgpaaGreatJ4
namespace Go.Fo
abbrev J (x:Int):MV:=.int .i64 x
abbrev C (l:List MV):Option MObj:=some (.cells l)
abbrev M0 (x:List (Int)):MV:=.im (.slice (.int .i16)) x
abbrev W1 (x:List (Bool)):Option MObj:=some (.rows (.bool) x)
abbrev M2 (x:List (Int)):MV:=.im (.slice (.int .i64)) x
abbrev W3 (x:List (Int)):Option MObj:=some (.rows (.int .i16) x)
abbrev M4 (x:List (Int)):MV:=.im (.slice (.int .u8)) x
abbrev W5 (x:List (Int)):Option MObj:=some (.rows (.int .i64) x)
abbrev W6 (x:List ((Int × Int))):Option MObj:=some (.rows (.pair (.int .i64) (.int .i64)) x)
abbrev M7 (x:List ((Int × Int))):MV:=.im (.slice (.pair (.int .i64) (.int .i64))) x
abbrev W8 (x:List (Int)):Option MObj:=some (.rows (.int .u8) x)
abbrev M9 (x:List (Int)):MV:=.im (.slice (.int .i32)) x
abbrev W10 (x:List (Int)):Option MObj:=some (.rows (.int .i32) x)
abbrev M11 (x:List (List (Int))):MV:=.im (.slice (.slice (.int .i16))) x
abbrev M12 (x:List (Int)):MV:=.im (.slice (.int .u64)) x
abbrev W13 (x:List (Int)):Option MObj:=some (.rows (.int .u64) x)
abbrev P14 (x:(Int × (Int × (Int × (Int × Int))))):MV:=.pim (.pair (.int .i64) (.pair (.int .i64) (.pair (.int .i64) (.pair (.int .i64) (.int .i64))))) x
open Go.Proofs
def ti2:TI:={ agg:=false,size:=1,bytes:=8,zero:=[.int .i64 0],ik:=some .i64 }
theorem Ub:tokb Tryz.prog 2 ti2=true:=by kernel_rfl
def ti3:TI:={ agg:=false,size:=1,bytes:=8,zero:=[.int .i64 0],ik:=some .i64 }
theorem V5:tokb Tryz.prog 3 ti3=true:=by kernel_rfl
def ti4:TI:={ agg:=false,size:=1,bytes:=1,zero:=[.bool false],tag:=1 }
theorem VZ:tokb Tryz.prog 4 ti4=true:=by kernel_rfl
def ti5:TI:={ agg:=false,size:=1,bytes:=1,zero:=[.int .u8 0],ik:=some .u8 }
theorem V3:tokb Tryz.prog 5 ti5=true:=by kernel_rfl
def ti9:TI:={ agg:=false,size:=1,bytes:=16,zero:=[.str ⟨#[]⟩],tag:=7 }
theorem V0:tokb Tryz.prog 9 ti9=true:=by kernel_rfl
def VE:TI:={ agg:=false,size:=1,bytes:=4,zero:=[.int .i32 0],ik:=some .i32 }
theorem Y5:tokb Tryz.prog 21 VE=true:=by kernel_rfl
def Vv:TI:={ agg:=false,size:=1,bytes:=24,zero:=[.nils],elem:=139,esz:=1,slc:=true,ek:=some (.int .i16),eb:=2,tag:=3 }
theorem JG:tokb Tryz.prog 22 Vv=true:=by kernel_rfl
def Vh:TI:={ agg:=false,size:=1,bytes:=8,zero:=[.nilp],tag:=2 }
theorem YU:tokb Tryz.prog 24 Vh=true:=by kernel_rfl
def Vp:TI:={ agg:=false,size:=1,bytes:=8,zero:=[.nilp],tag:=2 }
theorem Y6:tokb Tryz.prog 25 Vp=true:=by kernel_rfl
def Vs:TI:={ agg:=false,size:=1,bytes:=24,zero:=[.nils],elem:=5,esz:=1,slc:=true,ek:=some (.int .u8),eb:=1,tag:=3 }
theorem YF:tokb Tryz.prog 26 Vs=true:=by kernel_rfl
def VF:TI:={ agg:=true,size:=10,bytes:=80,zero:=[.int .i64 0,.int .i64 0,.int .i64 0,.int .i64 0,.int .i64 0,.int .i64 0,.int .i64 0,.int .i64 0,.int .i64 0,.int .i64 0],fields:=[(0,1,false),(1,1,false),(2,1,false),(3,1,false),(4,1,false),(5,1,false),(6,1,false),(7,1,false),(8,1,false),(9,1,false)] }
theorem Y0:tokb Tryz.prog 35 VF=true:=by kernel_rfl
def VM:TI:={ agg:=false,size:=1,bytes:=8,zero:=[.nilp],tag:=2 }
theorem YM:tokb Tryz.prog 40 VM=true:=by kernel_rfl
def VP:TI:={ agg:=true,size:=8,bytes:=64,zero:=[.int .i64 0,.int .i64 0,.int .i64 0,.int .i64 0,.int .i64 0,.int .i64 0,.int .i64 0,.int .i64 0],elem:=3,esz:=1,alen:=8,eagg:=false,arr:=true }
theorem Y1:tokb Tryz.prog 42 VP=true:=by kernel_rfl
def Vi:TI:={ agg:=true,size:=9,bytes:=72,zero:=[.int .i64 0,.int .i64 0,.int .i64 0,.int .i64 0,.int .i64 0,.int .i64 0,.int .i64 0,.int .i64 0,.int .i64 0],fields:=[(0,1,false),(1,8,true)] }
theorem YN:tokb Tryz.prog 44 Vi=true:=by kernel_rfl
def X7:TI:={ agg:=true,size:=4,bytes:=32,zero:=[.int .i64 0,.int .i64 0,.int .i64 0,.int .i64 0],elem:=3,esz:=1,alen:=4,eagg:=false,arr:=true,eqf:=true }
theorem YV:tokb Tryz.prog 45 X7=true:=by kernel_rfl
def VK:TI:={ agg:=true,size:=5,bytes:=40,zero:=[.int .i64 0,.int .i64 0,.int .i64 0,.int .i64 0,.int .i64 0],fields:=[(0,1,false),(1,4,true)] }
theorem YR:tokb Tryz.prog 47 VK=true:=by kernel_rfl
def X0:TI:={ agg:=true,size:=2,bytes:=16,zero:=[.int .i64 0,.int .i64 0],fields:=[(0,1,false),(1,1,false)],eqf:=true }
theorem YH:tokb Tryz.prog 49 X0=true:=by kernel_rfl
def VQ:TI:={ agg:=false,size:=1,bytes:=24,zero:=[.nils],elem:=3,esz:=1,slc:=true,ek:=some (.int .i64),eb:=8,tag:=3 }
theorem Y4:tokb Tryz.prog 50 VQ=true:=by kernel_rfl
def Vt:TI:={ agg:=true,size:=21,bytes:=200,zero:=[.int .i64 0,.int .i64 0,.int .i64 0,.int .i64 0,.int .i64 0,.int .i64 0,.int .i64 0,.int .i64 0,.int .i64 0,.int .i64 0,.int .i64 0,.int .i64 0,.int .i64 0,.int .i64 0,.int .i64 0,.int .i64 0,.int .i64 0,.int .i64 0,.int .i64 0,.nils,.nils],fields:=[(0,1,false),(1,9,true),(10,5,true),(15,2,true),(17,1,false),(18,1,false),(19,1,false),(20,1,false)] }
theorem YE:tokb Tryz.prog 52 Vt=true:=by kernel_rfl
def Vx:TI:={ agg:=false,size:=1,bytes:=24,zero:=[.nils],elem:=61,esz:=2,slc:=true,tag:=3 }
theorem YJ:tokb Tryz.prog 55 Vx=true:=by kernel_rfl
def VR:TI:={ agg:=true,size:=11,bytes:=104,zero:=[.int .i64 0,.int .i64 0,.int .i64 0,.int .i64 0,.int .i64 0,.int .i64 0,.int .i64 0,.int .i64 0,.int .i64 0,.int .i64 0,.nils],fields:=[(0,10,true),(10,1,false)] }
theorem YG:tokb Tryz.prog 57 VR=true:=by kernel_rfl
def Vq:TI:={ agg:=false,size:=1,bytes:=8,zero:=[.nilp],tag:=2 }
theorem YC:tokb Tryz.prog 58 Vq=true:=by kernel_rfl
def Vc:TI:={ agg:=false,size:=1,bytes:=8,zero:=[.nilp],tag:=2 }
theorem YW:tokb Tryz.prog 59 Vc=true:=by kernel_rfl
def VA:TI:={ agg:=true,size:=2,bytes:=16,zero:=[.nilp,.nilp],fields:=[(0,1,false),(1,1,false)] }
theorem YS:tokb Tryz.prog 61 VA=true:=by kernel_rfl
def Vb:TI:={ agg:=false,size:=1,bytes:=24,zero:=[.nils],elem:=68,esz:=2,slc:=true,tag:=3 }
theorem Y2:tokb Tryz.prog 62 Vb=true:=by kernel_rfl
def Vf:TI:={ agg:=true,size:=11,bytes:=104,zero:=[.int .i64 0,.int .i64 0,.int .i64 0,.int .i64 0,.int .i64 0,.int .i64 0,.int .i64 0,.int .i64 0,.int .i64 0,.int .i64 0,.nils],fields:=[(0,10,true),(10,1,false)] }
theorem YZ:tokb Tryz.prog 64 Vf=true:=by kernel_rfl
def Y8:TI:={ agg:=true,size:=2,bytes:=16,zero:=[.nilp,.nilp],fields:=[(0,1,false),(1,1,false)] }
theorem YQ:tokb Tryz.prog 68 Y8=true:=by kernel_rfl
def V4:TI:={ agg:=false,size:=1,bytes:=24,zero:=[.nils],elem:=22,esz:=1,slc:=true,ek:=some (.slice (.int .i16)),eb:=24,rr:=some (.int .i16),tag:=3 }
theorem V6:tokb Tryz.prog 69 V4=true:=by kernel_rfl
def Vy:TI:={ agg:=false,size:=1,bytes:=24,zero:=[.nils],elem:=21,esz:=1,slc:=true,ek:=some (.int .i32),eb:=4,tag:=3 }
theorem YO:tokb Tryz.prog 74 Vy=true:=by kernel_rfl
def Va:TI:={ agg:=false,size:=1,bytes:=4,zero:=[.int .u32 0],ik:=some .u32 }
theorem YD:tokb Tryz.prog 95 Va=true:=by kernel_rfl
def KM:TI:={ agg:=true,size:=3,bytes:=12,zero:=[.int .u32 0,.int .i32 0,.int .u32 0],fields:=[(0,0,true),(0,1,true),(1,2,true)] }
theorem Jp:tokb Tryz.prog 103 KM=true:=by kernel_rfl
def KG:TI:={ agg:=true,size:=4,bytes:=40,zero:=[.int .u32 0,.int .i32 0,.int .u32 0,.nils],fields:=[(0,3,true),(3,1,false)] }
theorem KR:tokb Tryz.prog 105 KG=true:=by kernel_rfl
def KV:TI:={ agg:=true,size:=1028,bytes:=10280,zero:=tcs (List.replicate 257 none),elem:=105,esz:=4,alen:=257,eagg:=true,arr:=true }
theorem XP:tokb Tryz.prog 106 KV=true:=by kernel_rfl
def KZ:TI:={ agg:=true,size:=516,bytes:=5160,zero:=tcs (List.replicate 129 none),elem:=105,esz:=4,alen:=129,eagg:=true,arr:=true }
theorem KT:tokb Tryz.prog 107 KZ=true:=by kernel_rfl
def Xl:TI:={ agg:=true,size:=1554,bytes:=15536,zero:=pst (List.replicate 388 none) 0 0,fields:=[(0,1028,true),(1028,516,true),(1544,8,true),(1552,1,true),(1553,1,true)] }
theorem JB:tokb Tryz.prog 113 Xl=true:=by kernel_rfl
def Je:TI:={ agg:=false,size:=1,bytes:=8,zero:=[.nilp],tag:=2 }
theorem Xo:tokb Tryz.prog 114 Je=true:=by kernel_rfl
def J6:TI:={ agg:=true,size:=1,bytes:=8,zero:=[.nilp],fields:=[(0,1,false)] }
theorem Jc:tokb Tryz.prog 118 J6=true:=by kernel_rfl
def XB:TI:={ agg:=false,size:=1,bytes:=8,zero:=[.nilp],tag:=2 }
theorem J7:tokb Tryz.prog 122 XB=true:=by kernel_rfl
def Xj:TI:={ agg:=true,size:=79,bytes:=632,zero:=[.int .i64 0,.int .i64 0,.int .i64 0,.int .i64 0,.int .i64 0,.int .i64 0,.int .i64 0,.int .i64 0,.int .i64 0,.int .i64 0,.int .i64 0,.int .i64 0,.int .i64 0,.int .i64 0,.int .i64 0,.int .i64 0,.int .i64 0,.int .i64 0,.int .i64 0,.int .i64 0,.int .i64 0,.int .i64 0,.int .i64 0,.int .i64 0,.int .i64 0,.int .i64 0,.int .i64 0,.int .i64 0,.int .i64 0,.int .i64 0,.int .i64 0,.int .i64 0,.int .i64 0,.int .i64 0,.int .i64 0,.int .i64 0,.int .i64 0,.int .i64 0,.int .i64 0,.int .i64 0,.int .i64 0,.int .i64 0,.int .i64 0,.int .i64 0,.int .i64 0,.int .i64 0,.int .i64 0,.int .i64 0,.int .i64 0,.int .i64 0,.int .i64 0,.int .i64 0,.int .i64 0,.int .i64 0,.int .i64 0,.int .i64 0,.int .i64 0,.int .i64 0,.int .i64 0,.int .i64 0,.int .i64 0,.int .i64 0,.int .i64 0,.int .i64 0,.int .i64 0,.int .i64 0,.int .i64 0,.int .i64 0,.int .i64 0,.int .i64 0,.int .i64 0,.int .i64 0,.int .i64 0,.int .i64 0,.int .i64 0,.int .i64 0,.int .i64 0,.int .i64 0,.int .i64 0],elem:=2,esz:=1,alen:=79,eagg:=false,arr:=true }
theorem KF:tokb Tryz.prog 127 Xj=true:=by kernel_rfl
def KS:TI:={ agg:=true,size:=79,bytes:=632,zero:=[.int .i64 0,.int .i64 0,.int .i64 0,.int .i64 0,.int .i64 0,.int .i64 0,.int .i64 0,.int .i64 0,.int .i64 0,.int .i64 0,.int .i64 0,.int .i64 0,.int .i64 0,.int .i64 0,.int .i64 0,.int .i64 0,.int .i64 0,.int .i64 0,.int .i64 0,.int .i64 0,.int .i64 0,.int .i64 0,.int .i64 0,.int .i64 0,.int .i64 0,.int .i64 0,.int .i64 0,.int .i64 0,.int .i64 0,.int .i64 0,.int .i64 0,.int .i64 0,.int .i64 0,.int .i64 0,.int .i64 0,.int .i64 0,.int .i64 0,.int .i64 0,.int .i64 0,.int .i64 0,.int .i64 0,.int .i64 0,.int .i64 0,.int .i64 0,.int .i64 0,.int .i64 0,.int .i64 0,.int .i64 0,.int .i64 0,.int .i64 0,.int .i64 0,.int .i64 0,.int .i64 0,.int .i64 0,.int .i64 0,.int .i64 0,.int .i64 0,.int .i64 0,.int .i64 0,.int .i64 0,.int .i64 0,.int .i64 0,.int .i64 0,.int .i64 0,.int .i64 0,.int .i64 0,.int .i64 0,.int .i64 0,.int .i64 0,.int .i64 0,.int .i64 0,.int .i64 0,.int .i64 0,.int .i64 0,.int .i64 0,.int .i64 0,.int .i64 0,.int .i64 0,.int .i64 0],fields:=[(0,79,true)] }
theorem Ji:tokb Tryz.prog 129 KS=true:=by kernel_rfl
def Jq:TI:={ agg:=true,size:=79,bytes:=632,zero:=[.int .i64 0,.int .i64 0,.int .i64 0,.int .i64 0,.int .i64 0,.int .i64 0,.int .i64 0,.int .i64 0,.int .i64 0,.int .i64 0,.int .i64 0,.int .i64 0,.int .i64 0,.int .i64 0,.int .i64 0,.int .i64 0,.int .i64 0,.int .i64 0,.int .i64 0,.int .i64 0,.int .i64 0,.int .i64 0,.int .i64 0,.int .i64 0,.int .i64 0,.int .i64 0,.int .i64 0,.int .i64 0,.int .i64 0,.int .i64 0,.int .i64 0,.int .i64 0,.int .i64 0,.int .i64 0,.int .i64 0,.int .i64 0,.int .i64 0,.int .i64 0,.int .i64 0,.int .i64 0,.int .i64 0,.int .i64 0,.int .i64 0,.int .i64 0,.int .i64 0,.int .i64 0,.int .i64 0,.int .i64 0,.int .i64 0,.int .i64 0,.int .i64 0,.int .i64 0,.int .i64 0,.int .i64 0,.int .i64 0,.int .i64 0,.int .i64 0,.int .i64 0,.int .i64 0,.int .i64 0,.int .i64 0,.int .i64 0,.int .i64 0,.int .i64 0,.int .i64 0,.int .i64 0,.int .i64 0,.int .i64 0,.int .i64 0,.int .i64 0,.int .i64 0,.int .i64 0,.int .i64 0,.int .i64 0,.int .i64 0,.int .i64 0,.int .i64 0,.int .i64 0,.int .i64 0],fields:=[(0,79,true)] }
theorem XO:tokb Tryz.prog 131 Jq=true:=by kernel_rfl
def XL:TI:={ agg:=true,size:=3,bytes:=56,zero:=[.int .i64 0,.nils,.nils],fields:=[(0,1,false),(1,1,false),(2,1,false)] }
theorem J9:tokb Tryz.prog 133 XL=true:=by kernel_rfl
def Jx:TI:={ agg:=true,size:=4,bytes:=80,zero:=[.int .i64 0,.nils,.nils,.nils],fields:=[(0,3,true),(3,1,false)] }
theorem JM:tokb Tryz.prog 135 Jx=true:=by kernel_rfl
def Xg:TI:={ agg:=true,size:=4,bytes:=80,zero:=[.int .i64 0,.nils,.nils,.nils],fields:=[(0,3,true),(3,1,false)] }
theorem Jf:tokb Tryz.prog 137 Xg=true:=by kernel_rfl
def Xa:TI:={ agg:=true,size:=79,bytes:=632,zero:=[.int .i64 0,.int .i64 0,.int .i64 0,.int .i64 0,.int .i64 0,.int .i64 0,.int .i64 0,.int .i64 0,.int .i64 0,.int .i64 0,.int .i64 0,.int .i64 0,.int .i64 0,.int .i64 0,.int .i64 0,.int .i64 0,.int .i64 0,.int .i64 0,.int .i64 0,.int .i64 0,.int .i64 0,.int .i64 0,.int .i64 0,.int .i64 0,.int .i64 0,.int .i64 0,.int .i64 0,.int .i64 0,.int .i64 0,.int .i64 0,.int .i64 0,.int .i64 0,.int .i64 0,.int .i64 0,.int .i64 0,.int .i64 0,.int .i64 0,.int .i64 0,.int .i64 0,.int .i64 0,.int .i64 0,.int .i64 0,.int .i64 0,.int .i64 0,.int .i64 0,.int .i64 0,.int .i64 0,.int .i64 0,.int .i64 0,.int .i64 0,.int .i64 0,.int .i64 0,.int .i64 0,.int .i64 0,.int .i64 0,.int .i64 0,.int .i64 0,.int .i64 0,.int .i64 0,.int .i64 0,.int .i64 0,.int .i64 0,.int .i64 0,.int .i64 0,.int .i64 0,.int .i64 0,.int .i64 0,.int .i64 0,.int .i64 0,.int .i64 0,.int .i64 0,.int .i64 0,.int .i64 0,.int .i64 0,.int .i64 0,.int .i64 0,.int .i64 0,.int .i64 0,.int .i64 0],fields:=[(0,79,true)] }
theorem JD:tokb Tryz.prog 138 Xa=true:=by kernel_rfl
def Xb:TI:={ agg:=false,size:=1,bytes:=2,zero:=[.int .i16 0],ik:=some .i16 }
theorem J3:tokb Tryz.prog 139 Xb=true:=by kernel_rfl
def K9:TI:={ agg:=false,size:=1,bytes:=24,zero:=[.nils],elem:=2,esz:=1,slc:=true,ek:=some (.int .i64),eb:=8,tag:=3 }
theorem QI:tokb Tryz.prog 140 K9=true:=by kernel_rfl
def Jr:TI:={ agg:=false,size:=1,bytes:=8,zero:=[.int .u64 0],ik:=some .u64 }
theorem Xu:tokb Tryz.prog 144 Jr=true:=by kernel_rfl
def Jl:TI:={ agg:=false,size:=1,bytes:=8,zero:=[.nilp],tag:=2 }
theorem XD:tokb Tryz.prog 165 Jl=true:=by kernel_rfl
def Xh:TI:={ agg:=false,size:=1,bytes:=24,zero:=[.nils],elem:=171,esz:=2,slc:=true,ek:=some (.pair (.int .i64) (.int .i64)),eb:=16,tag:=3 }
theorem XE:tokb Tryz.prog 168 Xh=true:=by kernel_rfl
def KK:TI:={ agg:=true,size:=2,bytes:=16,zero:=[.int .i64 0,.int .i64 0],fields:=[(0,1,false),(1,1,false)] }
theorem XJ:tokb Tryz.prog 171 KK=true:=by kernel_rfl
def Xd:TI:={ agg:=false,size:=1,bytes:=8,zero:=[.nilp],tag:=2 }
theorem KL:tokb Tryz.prog 173 Xd=true:=by kernel_rfl
def Jz:TI:={ agg:=true,size:=2,bytes:=16,zero:=[.int .i64 0,.int .i64 0],fields:=[(0,1,false),(1,1,false)] }
theorem XN:tokb Tryz.prog 186 Jz=true:=by kernel_rfl
def Xk:TI:={ agg:=true,size:=3,bytes:=40,zero:=[.int .i64 0,.int .i64 0,.nils],fields:=[(0,2,true),(2,1,false)] }
theorem JF:tokb Tryz.prog 188 Xk=true:=by kernel_rfl
def Xv:TI:={ agg:=true,size:=2,bytes:=16,zero:=[.int .i64 0,.int .i64 0],fields:=[(0,1,false),(1,1,false)] }
theorem JY:tokb Tryz.prog 195 Xv=true:=by kernel_rfl
def Xy:TI:={ agg:=true,size:=6,bytes:=48,zero:=[.int .i64 0,.int .i64 0,.nilp,.int .i64 0,.int .i64 0,.int .i64 0],fields:=[(0,2,true),(2,1,false),(3,1,false),(4,1,false),(5,1,false)] }
theorem Jv:tokb Tryz.prog 197 Xy=true:=by kernel_rfl
def KP:TI:={ agg:=true,size:=3,bytes:=24,zero:=[.int .i64 0,.int .i64 0,.int .i64 0],elem:=2,esz:=1,alen:=3,eagg:=false,arr:=true }
theorem K1:tokb Tryz.prog 202 KP=true:=by kernel_rfl
def Xe:TI:={ agg:=false,size:=1,bytes:=24,zero:=[.nils],elem:=144,esz:=1,slc:=true,ek:=some (.int .u64),eb:=8,tag:=3 }
theorem Jb:tokb Tryz.prog 207 Xe=true:=by kernel_rfl
def XK:TI:={ agg:=true,size:=9,bytes:=72,zero:=[.int .i64 0,.int .i64 0,.int .i64 0,.int .i64 0,.int .i64 0,.int .i64 0,.int .i64 0,.int .i64 0,.int .i64 0],elem:=3,esz:=1,alen:=9,eagg:=false,arr:=true }
theorem Xc:tokb Tryz.prog 211 XK=true:=by kernel_rfl
def JO:TI:={ agg:=true,size:=128,bytes:=1024,zero:=[.int .i64 0,.int .i64 0,.int .i64 0,.int .i64 0,.int .i64 0,.int .i64 0,.int .i64 0,.int .i64 0,.int .i64 0,.int .i64 0,.int .i64 0,.int .i64 0,.int .i64 0,.int .i64 0,.int .i64 0,.int .i64 0,.int .i64 0,.int .i64 0,.int .i64 0,.int .i64 0,.int .i64 0,.int .i64 0,.int .i64 0,.int .i64 0,.int .i64 0,.int .i64 0,.int .i64 0,.int .i64 0,.int .i64 0,.int .i64 0,.int .i64 0,.int .i64 0,.int .i64 0,.int .i64 0,.int .i64 0,.int .i64 0,.int .i64 0,.int .i64 0,.int .i64 0,.int .i64 0,.int .i64 0,.int .i64 0,.int .i64 0,.int .i64 0,.int .i64 0,.int .i64 0,.int .i64 0,.int .i64 0,.int .i64 0,.int .i64 0,.int .i64 0,.int .i64 0,.int .i64 0,.int .i64 0,.int .i64 0,.int .i64 0,.int .i64 0,.int .i64 0,.int .i64 0,.int .i64 0,.int .i64 0,.int .i64 0,.int .i64 0,.int .i64 0,.int .i64 0,.int .i64 0,.int .i64 0,.int .i64 0,.int .i64 0,.int .i64 0,.int .i64 0,.int .i64 0,.int .i64 0,.int .i64 0,.int .i64 0,.int .i64 0,.int .i64 0,.int .i64 0,.int .i64 0,.int .i64 0,.int .i64 0,.int .i64 0,.int .i64 0,.int .i64 0,.int .i64 0,.int .i64 0,.int .i64 0,.int .i64 0,.int .i64 0,.int .i64 0,.int .i64 0,.int .i64 0,.int .i64 0,.int .i64 0,.int .i64 0,.int .i64 0,.int .i64 0,.int .i64 0,.int .i64 0,.int .i64 0,.int .i64 0,.int .i64 0,.int .i64 0,.int .i64 0,.int .i64 0,.int .i64 0,.int .i64 0,.int .i64 0,.int .i64 0,.int .i64 0,.int .i64 0,.int .i64 0,.int .i64 0,.int .i64 0,.int .i64 0,.int .i64 0,.int .i64 0,.int .i64 0,.int .i64 0,.int .i64 0,.int .i64 0,.int .i64 0,.int .i64 0,.int .i64 0,.int .i64 0,.int .i64 0,.int .i64 0,.int .i64 0],elem:=42,esz:=8,alen:=16,eagg:=true,arr:=true }
theorem JR:tokb Tryz.prog 217 JO=true:=by kernel_rfl
def K3:TI:={ agg:=false,size:=1,bytes:=8,zero:=[.int .u64 0],ik:=some .u64 }
theorem Jd:tokb Tryz.prog 220 K3=true:=by kernel_rfl
def Jj:TI:={ agg:=true,size:=5,bytes:=40,zero:=[.int .i64 0,.int .i64 0,.int .i64 0,.int .i64 0,.int .i64 0],elem:=2,esz:=1,alen:=5,eagg:=false,arr:=true }
theorem K8:tokb Tryz.prog 222 Jj=true:=by kernel_rfl
def JZ:TI:={ agg:=true,size:=3,bytes:=40,zero:=[.int .i64 0,.int .i64 0,.nils],fields:=[(0,2,true),(2,1,false)] }
theorem Xm:tokb Tryz.prog 240 JZ=true:=by kernel_rfl
def Jw:TI:={ agg:=true,size:=6,bytes:=64,zero:=[.int .i64 0,.int .i64 0,.int .i64 0,.bool false,.int .i64 0,.nils],fields:=[(0,2,true),(2,1,false),(3,1,false),(4,1,false),(5,1,false)] }
theorem XF:tokb Tryz.prog 244 Jw=true:=by kernel_rfl
def YI:TI:={ agg:=false,size:=1,bytes:=24,zero:=[.nils],elem:=140,esz:=1,slc:=true,ek:=some (.slice (.int .i64)),eb:=24,rr:=some (.int .i64),tag:=3 }
theorem Y7:tokb Tryz.prog 258 YI=true:=by kernel_rfl
def J4:TI:={ agg:=false,size:=1,bytes:=8,zero:=[.nilf],tag:=4 }
theorem JL:tokb Tryz.prog 266 J4=true:=by kernel_rfl
def J5:TI:={ agg:=true,size:=5,bytes:=20,zero:=[.int .i32 0,.int .i32 0,.int .i32 0,.int .i32 0,.int .i32 0],elem:=21,esz:=1,alen:=5,eagg:=false,arr:=true }
theorem K0:tokb Tryz.prog 268 J5=true:=by kernel_rfl
def K5:TI:={ agg:=true,size:=4,bytes:=8,zero:=[.int .i16 0,.int .i16 0,.int .i16 0,.int .i16 0],elem:=139,esz:=1,alen:=4,eagg:=false,arr:=true }
theorem XH:tokb Tryz.prog 270 K5=true:=by kernel_rfl
def KJ:TI:={ agg:=true,size:=4,bytes:=16,zero:=[.int .i32 0,.int .i32 0,.int .i32 0,.int .i32 0],elem:=21,esz:=1,alen:=4,eagg:=false,arr:=true }
theorem Xs:tokb Tryz.prog 271 KJ=true:=by kernel_rfl
def KI:TI:={ agg:=true,size:=8,bytes:=24,zero:=[.int .i16 0,.int .i16 0,.int .i16 0,.int .i16 0,.int .i32 0,.int .i32 0,.int .i32 0,.int .i32 0],fields:=[(0,4,true),(4,4,true)] }
theorem Xn:tokb Tryz.prog 273 KI=true:=by kernel_rfl
def XA:TI:={ agg:=false,size:=1,bytes:=2,zero:=[.int .u16 0],ik:=some .u16 }
theorem XC:tokb Tryz.prog 276 XA=true:=by kernel_rfl
def J1:TI:={ agg:=true,size:=1,bytes:=2,zero:=[.int .u16 0],fields:=[(0,1,false)] }
theorem JQ:tokb Tryz.prog 278 J1=true:=by kernel_rfl
def Xr:TI:={ agg:=false,size:=1,bytes:=8,zero:=[.nilp],tag:=2 }
theorem JH:tokb Tryz.prog 288 Xr=true:=by kernel_rfl
def Xi:TI:={ agg:=true,size:=8,bytes:=64,zero:=[.int .u64 0,.int .u64 0,.int .u64 0,.int .u64 0,.int .u64 0,.int .u64 0,.int .u64 0,.int .u64 0],elem:=144,esz:=1,alen:=8,eagg:=false,arr:=true }
theorem KC:tokb Tryz.prog 292 Xi=true:=by kernel_rfl
def XG:TI:={ agg:=false,size:=1,bytes:=24,zero:=[.nils],elem:=4,esz:=1,slc:=true,ek:=some (.bool),eb:=1,tag:=3 }
theorem JS:tokb Tryz.prog 294 XG=true:=by kernel_rfl
def KQ:TI:={ agg:=true,size:=4,bytes:=32,zero:=[.int .u64 0,.int .u64 0,.int .u64 0,.int .u64 0],elem:=144,esz:=1,alen:=4,eagg:=false,arr:=true }
theorem Jy:tokb Tryz.prog 314 KQ=true:=by kernel_rfl
def tab:Nat->Option TI
  | 2=>some ti2
  | 3=>some ti3
  | 4=>some ti4
  | 5=>some ti5
  | 9=>some ti9
  | 21=>some VE
  | 22=>some Vv
  | 24=>some Vh
  | 25=>some Vp
  | 26=>some Vs
  | 35=>some VF
  | 40=>some VM
  | 42=>some VP
  | 44=>some Vi
  | 45=>some X7
  | 47=>some VK
  | 49=>some X0
  | 50=>some VQ
  | 52=>some Vt
  | 55=>some Vx
  | 57=>some VR
  | 58=>some Vq
  | 59=>some Vc
  | 61=>some VA
  | 62=>some Vb
  | 64=>some Vf
  | 68=>some Y8
  | 69=>some V4
  | 74=>some Vy
  | 95=>some Va
  | 103=>some KM
  | 105=>some KG
  | 106=>some KV
  | 107=>some KZ
  | 113=>some Xl
  | 114=>some Je
  | 118=>some J6
  | 122=>some XB
  | 127=>some Xj
  | 129=>some KS
  | 131=>some Jq
  | 133=>some XL
  | 135=>some Jx
  | 137=>some Xg
  | 138=>some Xa
  | 139=>some Xb
  | 140=>some K9
  | 144=>some Jr
  | 165=>some Jl
  | 168=>some Xh
  | 171=>some KK
  | 173=>some Xd
  | 186=>some Jz
  | 188=>some Xk
  | 195=>some Xv
  | 197=>some Xy
  | 202=>some KP
  | 207=>some Xe
  | 211=>some XK
  | 217=>some JO
  | 220=>some K3
  | 222=>some Jj
  | 240=>some JZ
  | 244=>some Jw
  | 258=>some YI
  | 266=>some J4
  | 268=>some J5
  | 270=>some K5
  | 271=>some KJ
  | 273=>some KI
  | 276=>some XA
  | 278=>some J1
  | 288=>some Xr
  | 292=>some Xi
  | 294=>some XG
  | 314=>some KQ
  | _=>none
theorem VB (t:Nat) (i:TI) (h:tab t=some i):TOK Tryz.prog t i:=by
 unfold tab at h
 split at h
 ·cases h; exact wi Ub
 ·cases h; exact wi V5
 ·cases h; exact wi VZ
 ·cases h; exact wi V3
 ·cases h; exact wi V0
 ·cases h; exact wi Y5
 ·cases h; exact wi JG
 ·cases h; exact wi YU
 ·cases h; exact wi Y6
 ·cases h; exact wi YF
 ·cases h; exact wi Y0
 ·cases h; exact wi YM
 ·cases h; exact wi Y1
 ·cases h; exact wi YN
 ·cases h; exact wi YV
 ·cases h; exact wi YR
 ·cases h; exact wi YH
 ·cases h; exact wi Y4
 ·cases h; exact wi YE
 ·cases h; exact wi YJ
 ·cases h; exact wi YG
 ·cases h; exact wi YC
 ·cases h; exact wi YW
 ·cases h; exact wi YS
 ·cases h; exact wi Y2
 ·cases h; exact wi YZ
 ·cases h; exact wi YQ
 ·cases h; exact wi V6
 ·cases h; exact wi YO
 ·cases h; exact wi YD
 ·cases h; exact wi Jp
 ·cases h; exact wi KR
 ·cases h; exact wi XP
 ·cases h; exact wi KT
 ·cases h; exact wi JB
 ·cases h; exact wi Xo
 ·cases h; exact wi Jc
 ·cases h; exact wi J7
 ·cases h; exact wi KF
 ·cases h; exact wi Ji
 ·cases h; exact wi XO
 ·cases h; exact wi J9
 ·cases h; exact wi JM
 ·cases h; exact wi Jf
 ·cases h; exact wi JD
 ·cases h; exact wi J3
 ·cases h; exact wi QI
 ·cases h; exact wi Xu
 ·cases h; exact wi XD
 ·cases h; exact wi XE
 ·cases h; exact wi XJ
 ·cases h; exact wi KL
 ·cases h; exact wi XN
 ·cases h; exact wi JF
 ·cases h; exact wi JY
 ·cases h; exact wi Jv
 ·cases h; exact wi K1
 ·cases h; exact wi Jb
 ·cases h; exact wi Xc
 ·cases h; exact wi JR
 ·cases h; exact wi Jd
 ·cases h; exact wi K8
 ·cases h; exact wi Xm
 ·cases h; exact wi XF
 ·cases h; exact wi Y7
 ·cases h; exact wi JL
 ·cases h; exact wi K0
 ·cases h; exact wi XH
 ·cases h; exact wi Xs
 ·cases h; exact wi Xn
 ·cases h; exact wi XC
 ·cases h; exact wi JQ
 ·cases h; exact wi JH
 ·cases h; exact wi KC
 ·cases h; exact wi JS
 ·cases h; exact wi Jy
 ·cases h
theorem YY:EqF Tryz.prog 45 X7:=JP (by kernel_rfl)
theorem YX:EqF Tryz.prog 49 X0:=JP (by kernel_rfl)
theorem Vk (t:Nat) (i:TI) (h:tab t=some i) (e:i.eqf=true):EqF Tryz.prog t i:=by
 unfold tab at h
 split at h
 ·cases h; cases e
 ·cases h; cases e
 ·cases h; cases e
 ·cases h; cases e
 ·cases h; cases e
 ·cases h; cases e
 ·cases h; cases e
 ·cases h; cases e
 ·cases h; cases e
 ·cases h; cases e
 ·cases h; cases e
 ·cases h; cases e
 ·cases h; cases e
 ·cases h; cases e
 ·cases h; exact YY
 ·cases h; cases e
 ·cases h; exact YX
 ·cases h; cases e
 ·cases h; cases e
 ·cases h; cases e
 ·cases h; cases e
 ·cases h; cases e
 ·cases h; cases e
 ·cases h; cases e
 ·cases h; cases e
 ·cases h; cases e
 ·cases h; cases e
 ·cases h; cases e
 ·cases h; cases e
 ·cases h; cases e
 ·cases h; cases e
 ·cases h; cases e
 ·cases h; cases e
 ·cases h; cases e
 ·cases h; cases e
 ·cases h; cases e
 ·cases h; cases e
 ·cases h; cases e
 ·cases h; cases e
 ·cases h; cases e
 ·cases h; cases e
 ·cases h; cases e
 ·cases h; cases e
 ·cases h; cases e
 ·cases h; cases e
 ·cases h; cases e
 ·cases h; cases e
 ·cases h; cases e
 ·cases h; cases e
 ·cases h; cases e
 ·cases h; cases e
 ·cases h; cases e
 ·cases h; cases e
 ·cases h; cases e
 ·cases h; cases e
 ·cases h; cases e
 ·cases h; cases e
 ·cases h; cases e
 ·cases h; cases e
 ·cases h; cases e
 ·cases h; cases e
 ·cases h; cases e
 ·cases h; cases e
 ·cases h; cases e
 ·cases h; cases e
 ·cases h; cases e
 ·cases h; cases e
 ·cases h; cases e
 ·cases h; cases e
 ·cases h; cases e
 ·cases h; cases e
 ·cases h; cases e
 ·cases h; cases e
 ·cases h; cases e
 ·cases h; cases e
 ·cases h; cases e
 ·cases h
def YP:TI:={ agg:=false,size:=1,bytes:=24,zero:=[.nils],elem:=22,esz:=1,slc:=true,tag:=3 }
theorem VD:tokb Tryz.prog 69 YP=true:=by kernel_rfl
def Jn:TI:={ agg:=false,size:=1,bytes:=24,zero:=[.nils],elem:=140,esz:=1,slc:=true,tag:=3 }
theorem XW:tokb Tryz.prog 258 Jn=true:=by kernel_rfl
def J2:Nat->Option TI
  | 2=>some ti2
  | 3=>some ti3
  | 4=>some ti4
  | 5=>some ti5
  | 9=>some ti9
  | 21=>some VE
  | 22=>some Vv
  | 24=>some Vh
  | 25=>some Vp
  | 26=>some Vs
  | 35=>some VF
  | 40=>some VM
  | 42=>some VP
  | 44=>some Vi
  | 45=>some X7
  | 47=>some VK
  | 49=>some X0
  | 50=>some VQ
  | 52=>some Vt
  | 55=>some Vx
  | 57=>some VR
  | 58=>some Vq
  | 59=>some Vc
  | 61=>some VA
  | 62=>some Vb
  | 64=>some Vf
  | 68=>some Y8
  | 69=>some YP
  | 74=>some Vy
  | 95=>some Va
  | 103=>some KM
  | 105=>some KG
  | 106=>some KV
  | 107=>some KZ
  | 113=>some Xl
  | 114=>some Je
  | 118=>some J6
  | 122=>some XB
  | 127=>some Xj
  | 129=>some KS
  | 131=>some Jq
  | 133=>some XL
  | 135=>some Jx
  | 137=>some Xg
  | 138=>some Xa
  | 139=>some Xb
  | 140=>some K9
  | 144=>some Jr
  | 165=>some Jl
  | 168=>some Xh
  | 171=>some KK
  | 173=>some Xd
  | 186=>some Jz
  | 188=>some Xk
  | 195=>some Xv
  | 197=>some Xy
  | 202=>some KP
  | 207=>some Xe
  | 211=>some XK
  | 217=>some JO
  | 220=>some K3
  | 222=>some Jj
  | 240=>some JZ
  | 244=>some Jw
  | 258=>some Jn
  | 266=>some J4
  | 268=>some J5
  | 270=>some K5
  | 271=>some KJ
  | 273=>some KI
  | 276=>some XA
  | 278=>some J1
  | 288=>some Xr
  | 292=>some Xi
  | 294=>some XG
  | 314=>some KQ
  | _=>none
theorem XZ (t:Nat) (i:TI) (h:J2 t=some i):TOK Tryz.prog t i:=by
 unfold J2 at h
 split at h
 ·cases h; exact wi Ub
 ·cases h; exact wi V5
 ·cases h; exact wi VZ
 ·cases h; exact wi V3
 ·cases h; exact wi V0
 ·cases h; exact wi Y5
 ·cases h; exact wi JG
 ·cases h; exact wi YU
 ·cases h; exact wi Y6
 ·cases h; exact wi YF
 ·cases h; exact wi Y0
 ·cases h; exact wi YM
 ·cases h; exact wi Y1
 ·cases h; exact wi YN
 ·cases h; exact wi YV
 ·cases h; exact wi YR
 ·cases h; exact wi YH
 ·cases h; exact wi Y4
 ·cases h; exact wi YE
 ·cases h; exact wi YJ
 ·cases h; exact wi YG
 ·cases h; exact wi YC
 ·cases h; exact wi YW
 ·cases h; exact wi YS
 ·cases h; exact wi Y2
 ·cases h; exact wi YZ
 ·cases h; exact wi YQ
 ·cases h; exact wi VD
 ·cases h; exact wi YO
 ·cases h; exact wi YD
 ·cases h; exact wi Jp
 ·cases h; exact wi KR
 ·cases h; exact wi XP
 ·cases h; exact wi KT
 ·cases h; exact wi JB
 ·cases h; exact wi Xo
 ·cases h; exact wi Jc
 ·cases h; exact wi J7
 ·cases h; exact wi KF
 ·cases h; exact wi Ji
 ·cases h; exact wi XO
 ·cases h; exact wi J9
 ·cases h; exact wi JM
 ·cases h; exact wi Jf
 ·cases h; exact wi JD
 ·cases h; exact wi J3
 ·cases h; exact wi QI
 ·cases h; exact wi Xu
 ·cases h; exact wi XD
 ·cases h; exact wi XE
 ·cases h; exact wi XJ
 ·cases h; exact wi KL
 ·cases h; exact wi XN
 ·cases h; exact wi JF
 ·cases h; exact wi JY
 ·cases h; exact wi Jv
 ·cases h; exact wi K1
 ·cases h; exact wi Jb
 ·cases h; exact wi Xc
 ·cases h; exact wi JR
 ·cases h; exact wi Jd
 ·cases h; exact wi K8
 ·cases h; exact wi Xm
 ·cases h; exact wi XF
 ·cases h; exact wi XW
 ·cases h; exact wi JL
 ·cases h; exact wi K0
 ·cases h; exact wi XH
 ·cases h; exact wi Xs
 ·cases h; exact wi Xn
 ·cases h; exact wi XC
 ·cases h; exact wi JQ
 ·cases h; exact wi JH
 ·cases h; exact wi KC
 ·cases h; exact wi JS
 ·cases h; exact wi Jy
 ·cases h
theorem X3 (t:Nat) (i:TI) (h:J2 t=some i) (e:i.eqf=true):EqF Tryz.prog t i:=by
 unfold J2 at h
 split at h
 ·cases h; cases e
 ·cases h; cases e
 ·cases h; cases e
 ·cases h; cases e
 ·cases h; cases e
 ·cases h; cases e
 ·cases h; cases e
 ·cases h; cases e
 ·cases h; cases e
 ·cases h; cases e
 ·cases h; cases e
 ·cases h; cases e
 ·cases h; cases e
 ·cases h; cases e
 ·cases h; exact YY
 ·cases h; cases e
 ·cases h; exact YX
 ·cases h; cases e
 ·cases h; cases e
 ·cases h; cases e
 ·cases h; cases e
 ·cases h; cases e
 ·cases h; cases e
 ·cases h; cases e
 ·cases h; cases e
 ·cases h; cases e
 ·cases h; cases e
 ·cases h; cases e
 ·cases h; cases e
 ·cases h; cases e
 ·cases h; cases e
 ·cases h; cases e
 ·cases h; cases e
 ·cases h; cases e
 ·cases h; cases e
 ·cases h; cases e
 ·cases h; cases e
 ·cases h; cases e
 ·cases h; cases e
 ·cases h; cases e
 ·cases h; cases e
 ·cases h; cases e
 ·cases h; cases e
 ·cases h; cases e
 ·cases h; cases e
 ·cases h; cases e
 ·cases h; cases e
 ·cases h; cases e
 ·cases h; cases e
 ·cases h; cases e
 ·cases h; cases e
 ·cases h; cases e
 ·cases h; cases e
 ·cases h; cases e
 ·cases h; cases e
 ·cases h; cases e
 ·cases h; cases e
 ·cases h; cases e
 ·cases h; cases e
 ·cases h; cases e
 ·cases h; cases e
 ·cases h; cases e
 ·cases h; cases e
 ·cases h; cases e
 ·cases h; cases e
 ·cases h; cases e
 ·cases h; cases e
 ·cases h; cases e
 ·cases h; cases e
 ·cases h; cases e
 ·cases h; cases e
 ·cases h; cases e
 ·cases h; cases e
 ·cases h; cases e
 ·cases h; cases e
 ·cases h; cases e
 ·cases h
def VS:Env Tryz.prog:=⟨J2,XZ,X3⟩
theorem tv:True:=trivial
def env:Env Tryz.prog:=⟨tab,VB,Vk⟩
section
variable {Γ:Gd} {N:Nat} {Q:Exit->Act->World->Prop} {A A':List (Nat × MV)} {L L':List (Nat × Option MObj)}
theorem zr {y:Code} {id:Nat} {l:List Oper} (h:TL Tryz.prog Γ N l.toArray (Exit.then (fun a w=>y.wp Tryz.prog Q a w) Q) l A L):TC Tryz.prog Γ N (.seq (.region id l.toArray false) y) Q A L:=wa (wj h)
theorem zg {Q':Exit->Act->World->Prop} {y:Code} {id:Nat} {l:List Oper} (h:TL Tryz.prog Γ N l.toArray (Exit.then (fun a w=>y.wp Tryz.prog Q a w) Q) l A L):TE Γ N (Exit.then (fun a w=>(Code.seq (.region id l.toArray false) y).wp Tryz.prog Q a w) Q' .normal) A L:=wL (zr h)
theorem ze {Q':Exit->Act->World->Prop} {ops:Array Oper} {c:Code} (h:TC Tryz.prog Γ N c Q A L):TL Tryz.prog Γ N ops (Exit.then (fun a w=>c.wp Tryz.prog Q a w) Q') [] A L:=wn (wL h)
theorem zn {Q':Exit->Act->World->Prop} {ops:Array Oper} {y:Code} {id:Nat} {l:List Oper} (h:TL Tryz.prog Γ N l.toArray (Exit.then (fun a w=>y.wp Tryz.prog Q a w) Q) l A L):TL Tryz.prog Γ N ops (Exit.then (fun a w=>(Code.seq (.region id l.toArray false) y).wp Tryz.prog Q a w) Q') [] A L:=wn (zg h)
theorem zm {f:Act->World->Prop} {ops:Array Oper} (h:TE Γ N f A L):TL Tryz.prog Γ N ops (Exit.then f Q) [] A L:=wn (tsn h)
theorem zt {Q':Exit->Act->World->Prop} {id:Nat} {l:List Oper} (h:TL Tryz.prog Γ N l.toArray Q l A L):TE Γ N (Exit.then (fun a w=>(Code.region id l.toArray false).wp Tryz.prog Q a w) Q' .normal) A L:=wL (wj h)
theorem zu {Q':Exit->Act->World->Prop} (h:TE Γ N (Q .ret) A L):TE Γ N (Exit.then (fun a w=>Code.ret.wp Tryz.prog Q a w) Q' .normal) A L:=wL (wd h)
theorem zk {Q':Exit->Act->World->Prop} {c:Code} (h:TC Tryz.prog Γ N c Q A L):TC Tryz.prog Γ N .skip (Exit.then (fun a w=>c.wp Tryz.prog Q a w) Q') A L:=wq (wL h)
end
def fl:List Nat:=[3,4,5,6,7,8,9,10,11,12,13,18,19,20,21,22,23,27,28,29,30,31,32,33,34,35,36,37,38,39,40,41,42,43,44,45,46,47,48,49,50,51,52,53,54,55,56,57,58,59,60,61,62,63,64,65,66,67,68,69,70,71,72,73,76,77,78,79,80,81,82,83,84,85,86,87,88,89,90,91,92,93,94,95,96,97,98,99,100,101,102,103,104,105,106,107,108,109,110,111,112,113,114,115,116,117,118,119,120,122,123,124,125,126,127,128,129,130,131,132,133,134,135,136,137,138,139,140,141,142,143,144,145,146,147,148,149,150,151,152,153,154,155,156,157,158,159,160,161,162,163,164,165,166,167,168,169,170,171,172,173,174,175,176,177,178,179,181,182,183,185]
theorem V8:fl.all (fun f=>fnb Tryz.prog f)=true:=by kernel_rfl
theorem fb {f:FuncId} (h:fl.contains f=true):fnb Tryz.prog f=true:=List.all_eq_true.1 V8 f (List.contains_iff_mem.1 h)
section
variable {Γ:Gd} {N:Nat} {Q:Exit->Act->World->Prop} {A A':List (Nat × MV)} {L L':List (Nat × Option MObj)} {γ:Type} {R:Act->World->Prop}
theorem cC {c:Operand} {x y:Code} {b:Bool} {u v:Option γ} {z:γ} (h:(bif b then u else v)=some z) (ht:u=some z->TC Tryz.prog Γ N x Q A L) (hf:v=some z->TC Tryz.prog Γ N y Q A L) (hc:opd A c=some (.bool b):=by exact rfl):TC Tryz.prog Γ N (.cond c x y) Q A L:=ZO hc (fun e=>ht (WE h e)) (fun e=>hf (WL h e))
theorem cT {c:Operand} {x y:Code} (h:TC Tryz.prog Γ N x Q A L) (hc:opd A c=some (.bool true):=by exact rfl):TC Tryz.prog Γ N (.cond c x y) Q A L:=ZO hc (fun _=>h) (fun e=>(tff e).elim)
theorem cF {c:Operand} {x y:Code} (h:TC Tryz.prog Γ N y Q A L) (hc:opd A c=some (.bool false):=by exact rfl):TC Tryz.prog Γ N (.cond c x y) Q A L:=ZO hc (fun e=>(ftf e).elim) (fun _=>h)
theorem tce {c:Code} (h:TE Γ N (fun a w=>c.wp Tryz.prog Q a w) A L):TC Tryz.prog Γ N c Q A L:=h
theorem ect {c:Code} (h:TC Tryz.prog Γ N c Q A L):TE Γ N (fun a w=>c.wp Tryz.prog Q a w) A L:=h
theorem rE (A':List (Nat × MV)) (L':List (Nat × Option MObj)) (l:List (Nat × Nat)) (h:TE Γ N R A' L') (hA:qK (sg l) A' A:=by (repeat' (first | exact trivial | refine And.intro rfl ?_))) (hL:qJ (sg l) L' L:=by (repeat' (first | exact trivial | refine And.intro rfl ?_))) (hb:sgB l (wu L')=true:=by exact rfl):TE Γ N R A L:=Ka l hA hL hb h
theorem rC {c:Code} (A':List (Nat × MV)) (L':List (Nat × Option MObj)) (l:List (Nat × Nat)) (h:TC Tryz.prog Γ N c Q A' L') (hA:qK (sg l) A' A:=by (repeat' (first | exact trivial | refine And.intro rfl ?_))) (hL:qJ (sg l) L' L:=by (repeat' (first | exact trivial | refine And.intro rfl ?_))) (hb:sgB l (wu L')=true:=by exact rfl):TC Tryz.prog Γ N c Q A L:=Ym l hA hL hb h
theorem zR {fn:Func} {res:MV} {Lc:List (Nat × Option MObj)} {C:Prop} (hr:Jt env.tab A L fn.results.toList=some (res,C)) (hC:C:=by (repeat' (first | exact trivial | refine And.intro ?_ ?_ | decide | assumption | exact rfl | exact of_decide_eq_true rfl))) (hL:yz Lc L:=by (repeat' (first | exact trivial | refine And.intro (.inr rfl) ?_ | refine And.intro (.inl rfl) ?_))):TE Γ N (bodyPost Tryz.prog fn (vP Γ res Lc) .ret) A L:=QL env hr hC hL
theorem zN {fn:Func} {res:MV} {Lc:List (Nat × Option MObj)} {C:Prop} (hr:Jt env.tab A L fn.results.toList=some (res,C)) (hC:C:=by (repeat' (first | exact trivial | refine And.intro ?_ ?_ | decide | assumption | exact rfl | exact of_decide_eq_true rfl))) (hL:yz Lc L:=by (repeat' (first | exact trivial | refine And.intro (.inr rfl) ?_ | refine And.intro (.inl rfl) ?_))):TE Γ N (bodyPost Tryz.prog fn (vP Γ res Lc) .normal) A L:=Vn env hr hC hL
theorem cB {ops:Array Oper} {o:Oper} {l:List Oper} {f:FuncId} {xs ys:List MV} {Lc Lc':List (Nat × Option MObj)} {res:MV} {C:Prop} (π:List (Nat × Nat)) (hF:Fn Tryz.prog f xs Lc res Lc') (h:kZ A o.op=some (f,ys,C)) (hys:ys=MV.renL (sg π) xs) (k:TL Tryz.prog Γ N ops Q l (xY o.dst (res.ren (sg π)) A) (kk (sg π) Lc'++L)) (hf:fl.contains f=true:=by exact rfl) (hC:C:=by (repeat' (first | exact trivial | refine And.intro ?_ ?_ | decide | assumption | exact rfl | exact of_decide_eq_true rfl))) (hs:yz (kk (sg π) Lc) L:=by (repeat' (first | exact trivial | refine And.intro (.inr rfl) ?_ | refine And.intro (.inl rfl) ?_))) (hb:Xt (sg π) N o.dst o.guard.isNone A L Lc Lc' res=true:=by exact rfl):TL Tryz.prog Γ N ops Q (o::l) A L:=JT π hF (fb hf) h hC hys hs hb k
end
section
variable {Γ:Gd} {N:Nat} {Q:Exit->Act->World->Prop} {A:List (Nat × MV)} {L:List (Nat × Option MObj)} {r:Rg} {G:Prop} {ex:Nat->List Nat} {l:List De} {n:Nat}
theorem jC {o:Oper} {f:FuncId} {xs ys:List MV} {Lc Lc':List (Nat × Option MObj)} {res:MV} {C:Prop} (n':Nat) (π:List (Nat × Nat)) (hF:Fn Tryz.prog f xs Lc res Lc') (ho:r.ops[n]? = some o) (h:kZ (kJ r (fnR n l) A n) o.op=some (f,ys,C)) (k:AJR Tryz.prog Γ N Q r ex A L G n' ((xY o.dst (res.ren (sg π)) [],kk (sg π) Lc')::l)) (hys:ys=MV.renL (sg π) xs:=by exact rfl) (hf:fl.contains f=true:=by exact rfl) (hC:C:=by (repeat' (first | exact trivial | refine And.intro ?_ ?_ | decide | assumption | exact rfl | exact of_decide_eq_true rfl))) (hsub:yz (kk (sg π) Lc) (xG r ex (fnR n l) L n):=by (repeat' (first | exact trivial | refine And.intro (.inr rfl) ?_ | refine And.intro (.inl rfl) ?_))) (hb:yC (sg π) N o.dst o.guard.isNone (r.wk n) (r.nk n) Lc Lc' res=true:=by exact rfl) (hn':n'=n+1:=by exact rfl) (hn:Nat.ble (n+1) r.ops.size=true:=by exact rfl):AJR Tryz.prog Γ N Q r ex A L G n l:=XI n' hn' (Nat.le_of_ble_eq_true hn) π ho hF (fb hf) h hC hys hsub hb k
theorem jK {T:TypeId} {x:Operand} {i:TI} {d key off:Nat} {cs0:List MV} {y:MV} {C:Prop} {o:Oper} (n':Nat) (ho:r.ops[n]? = some o) (hop:o.op=.load T x) (hd:o.dst=some d) (ht:env.tab T=some i) (hx:opg (kJ r (fnR n l) A n) none x=some (.p key off,C)) (hL0:wo L key=some (.cells cs0)) (hy:cs0[off]? = some y) (k:AJR Tryz.prog Γ N Q r ex A L G n' (([(d,y)],[])::l)) (hg:o.guard=none:=by exact rfl) (hdN:d<N:=by decide) (hs:i.size=1:=by exact rfl) (ha:i.agg=false:=by exact rfl) (hC:C:=by (repeat' (first | exact trivial | refine And.intro ?_ ?_ | decide | assumption | exact rfl | exact of_decide_eq_true rfl))) (hkp:r.kp.contains (n,key,off)=true:=by exact rfl) (hn':n'=n+1:=by exact rfl) (hn:Nat.ble (n+1) r.ops.size=true:=by exact rfl):AJR Tryz.prog Γ N Q r ex A L G n l:=Yp env n' hn' (Nat.le_of_ble_eq_true hn) ho hop hg hd hdN ht hs ha hx hC hL0 hy hkp k
theorem zD {ops:Array Oper} (a:List Nat) (b c d:List (Nat × List Nat)) {id:Nat} (h:AJR Tryz.prog Γ N Q ⟨ops,fun i=>bts (a.getD i 0) i,fun i=>lkI i b,fun i=>lkI i c,fun _=>[],[]⟩ (fun i=>lkM i d) A L (TC Tryz.prog Γ N (.region id ops true) Q A L) 0 []) (hr:(⟨ops,fun i=>bts (a.getD i 0) i,fun i=>lkI i b,fun i=>lkI i c,fun _=>[],[]⟩:Rg).ok=true:=by kernel_rfl) (hx:exB ⟨ops,fun i=>bts (a.getD i 0) i,fun i=>lkI i b,fun i=>lkI i c,fun _=>[],[]⟩ (fun i=>lkM i d) A=true:=by kernel_rfl):TC Tryz.prog Γ N (.region id ops true) Q A L:=Qm _ _ hr hx h
theorem zDa {ops:Array Oper} (a:List Nat) (b c d e:List (Nat × List Nat)) (kp:List (Nat × Nat × Nat)) {id:Nat} (h:AJR Tryz.prog Γ N Q ⟨ops,fun i=>bts (a.getD i 0) i,fun i=>lkI i b,fun i=>lkI i c,fun i=>lkI i e,kp⟩ (fun i=>lkM i d) A L (TC Tryz.prog Γ N (.region id ops true) Q A L) 0 []) (hr:(⟨ops,fun i=>bts (a.getD i 0) i,fun i=>lkI i b,fun i=>lkI i c,fun i=>lkI i e,kp⟩:Rg).ok=true:=by kernel_rfl) (hx:exB ⟨ops,fun i=>bts (a.getD i 0) i,fun i=>lkI i b,fun i=>lkI i c,fun i=>lkI i e,kp⟩ (fun i=>lkM i d) A=true:=by kernel_rfl):TC Tryz.prog Γ N (.region id ops true) Q A L:=Qm _ _ hr hx h
theorem jN {ex:Nat->List Nat} {id n:Nat} {l:List De} (fin:TE Γ N (Q .normal) (Qq n (fnR n l) A) (Qg n (fnR n l) L)) (hl:r.ops.size=n:=by exact rfl) (hf:frR r n l A L=true:=by exact rfl) (hk:kp1 (fnR n l) L (kpL r n (fnR n l)):=by repeat' (first | exact trivial | refine And.intro ?_ ?_ | exact rfl)):AJR Tryz.prog Γ N Q r ex A L (TC Tryz.prog Γ N (.region id r.ops true) Q A L) n l:=Yu rfl hl hf hk fin
end
theorem fO {f:FuncId} {fn:Func} {c:Code} {args:List MV} {Lc Lc':List (Nat × Option MObj)} {res:MV} (hf:Tryz.prog.funcs[f]? = some fn) (hb:fn.body=some c) (h:∀ Γ:Gd,TC Tryz.prog Γ fn.ntmps c (bodyPost Tryz.prog fn (vP Γ res Lc')) (WH 0 args) Lc) (hn:Nat.ble args.length fn.ntmps=true:=by exact rfl):Fn Tryz.prog f args Lc res Lc':=yo hf hb (Nat.le_of_ble_eq_true hn) h

section
variable {Γ:Gd} {N:Nat} {Q:Exit->Act->World->Prop} {A A':List (Nat × MV)} {L L':List (Nat × Option MObj)} {γ:Type}
theorem zE {ops:Array Oper} (n:Nat) {l l':List Oper} {C:Prop} (h:jk env.tab N ops n l A L=some (l',A',L',C)) (k:TL Tryz.prog Γ N ops Q l' A' L') (hC:C:=by (repeat' (first | exact trivial | refine And.intro ?_ ?_ | decide | assumption | exact rfl | exact of_decide_eq_true rfl))):TL Tryz.prog Γ N ops Q l A L:=xz env n h hC k
theorem zG {ops:Array Oper} {G:Prop} {_:Decidable G} {X:Option γ} {z:γ} (h0:gd G X=some z) (n:Nat) {l l':List Oper} {C:Prop} (h:jk env.tab N ops n l A L=some (l',A',L',C)) (k:X=some z->TL Tryz.prog Γ N ops Q l' A' L') (hC:G->C:=by intro g; (repeat' (first | exact trivial | refine And.intro ?_ ?_ | with_reducible (first | exact g | exact g.1 | exact g.2 | exact g.2.1 | exact g.2.2 | exact g.2.2.1 | exact g.2.2.2 | exact g.2.2.2.1 | exact g.2.2.2.2 | exact g.2.2.2.2.1 | exact g.2.2.2.2.2 | exact g.2.2.2.2.2.1 | exact g.2.2.2.2.2.2 | exact g.2.2.2.2.2.2.1 | exact g.2.2.2.2.2.2.2) | decide | exact rfl | exact g.2.2.2.2.2.2.2 | exact g.2.2.2.2.2.2.1 | exact g.2.2.2.2.2.2 | exact g.2.2.2.2.2.1 | exact g.2.2.2.2.2 | exact g.2.2.2.2.1 | exact g.2.2.2.2 | exact g.2.2.2.1 | exact g.2.2.2 | exact g.2.2.1 | exact g.2.2 | exact g.2.1 | exact g.2 | exact g.1 | exact g | exact of_decide_eq_true rfl))):TL Tryz.prog Γ N ops Q l A L:=xz env n h (hC (yG h0).1) (k (yG h0).2)
end
section
variable {Γ:Gd} {N:Nat} {Q Q':Exit->Act->World->Prop} {A A':List (Nat × MV)} {L L':List (Nat × Option MObj)} {ops:Array Oper} {l l2:List Oper} {C:Prop} {y c:Code} {id id2:Nat} {f:Act->World->Prop}
theorem zx (n:Nat) (h:jk env.tab N ops n l A L=some ([],A',L',C)) (k:TC Tryz.prog Γ N c Q A' L') (hC:C:=by (repeat' (first | exact trivial | refine And.intro ?_ ?_ | decide | assumption | exact rfl | exact of_decide_eq_true rfl))):TL Tryz.prog Γ N ops (Exit.then (fun a w=>c.wp Tryz.prog Q a w) Q') l A L:=xz env n h hC (wn (wL k))
theorem zy (n:Nat) (h:jk env.tab N ops n l A L=some ([],A',L',C)) (k:TL Tryz.prog Γ N l2.toArray (Exit.then (fun a w=>y.wp Tryz.prog Q a w) Q) l2 A' L') (hC:C:=by (repeat' (first | exact trivial | refine And.intro ?_ ?_ | decide | assumption | exact rfl | exact of_decide_eq_true rfl))):TL Tryz.prog Γ N ops (Exit.then (fun a w=>(Code.seq (.region id2 l2.toArray false) y).wp Tryz.prog Q a w) Q') l A L:=zx n h (zr k) hC
theorem zz (n:Nat) (h:jk env.tab N ops n l A L=some ([],A',L',C)) (k:TE Γ N f A' L') (hC:C:=by (repeat' (first | exact trivial | refine And.intro ?_ ?_ | decide | assumption | exact rfl | exact of_decide_eq_true rfl))):TL Tryz.prog Γ N ops (Exit.then f Q) l A L:=xz env n h hC (wn (tsn k))
theorem zA (n:Nat) (h:jk env.tab N l.toArray n l A L=some ([],A',L',C)) (k:TC Tryz.prog Γ N c Q A' L') (hC:C:=by (repeat' (first | exact trivial | refine And.intro ?_ ?_ | decide | assumption | exact rfl | exact of_decide_eq_true rfl))):TC Tryz.prog Γ N (.seq (.region id l.toArray false) c) Q A L:=zr (zx n h k hC)
theorem zB (n:Nat) (h:jk env.tab N l.toArray n l A L=some ([],A',L',C)) (k:TC Tryz.prog Γ N c Q A' L') (hC:C:=by (repeat' (first | exact trivial | refine And.intro ?_ ?_ | decide | assumption | exact rfl | exact of_decide_eq_true rfl))):TE Γ N (Exit.then (fun a w=>(Code.seq (.region id l.toArray false) c).wp Tryz.prog Q a w) Q' .normal) A L:=zg (zx n h k hC)
theorem zC (n:Nat) (h:jk env.tab N l.toArray n l A L=some ([],A',L',C)) (k:TL Tryz.prog Γ N l2.toArray (Exit.then (fun a w=>y.wp Tryz.prog Q a w) Q) l2 A' L') (hC:C:=by (repeat' (first | exact trivial | refine And.intro ?_ ?_ | decide | assumption | exact rfl | exact of_decide_eq_true rfl))):TC Tryz.prog Γ N (.seq (.region id l.toArray false) (.seq (.region id2 l2.toArray false) y)) Q A L:=zr (zy n h k hC)
theorem zF (n:Nat) (h:jk env.tab N l.toArray n l A L=some ([],A',L',C)) (k:TL Tryz.prog Γ N l2.toArray (Exit.then (fun a w=>y.wp Tryz.prog Q a w) Q) l2 A' L') (hC:C:=by (repeat' (first | exact trivial | refine And.intro ?_ ?_ | decide | assumption | exact rfl | exact of_decide_eq_true rfl))):TE Γ N (Exit.then (fun a w=>(Code.seq (.region id l.toArray false) (.seq (.region id2 l2.toArray false) y)).wp Tryz.prog Q a w) Q' .normal) A L:=zg (zy n h k hC)
end
theorem zS {Γ:Gd} {N:Nat} {Q:Exit->Act->World->Prop} {A A':List (Nat × MV)} {L L':List (Nat × Option MObj)} {ops:Array Oper} (cs:List Nat) {l l':List Oper} {C:Prop} (h:v5 env.tab N ops (xpT cs) l A L=some (l',A',L',C)) (k:TL Tryz.prog Γ N ops Q l' A' L') (hC:C:=by (repeat' (first | exact trivial | refine And.intro ?_ ?_ | exact id | decide | assumption | exact rfl | exact of_decide_eq_true rfl | intro _))):TL Tryz.prog Γ N ops Q l A L:=vn env (xpT cs) h hC k
section
variable {Γ:Gd} {N:Nat} {Q:Exit->Act->World->Prop} {A:List (Nat × MV)} {L:List (Nat × Option MObj)} {r:Rg} {G:Prop} {ex:Nat->List Nat} {l:List De} {n:Nat} {γ:Type}
theorem jR {l':List De} {C:Prop} (n':Nat) (cs:List Nat) (h:Kt env.tab N r ex A L (xpJ cs) n l=some (n',l',C)) (k:AJR Tryz.prog Γ N Q r ex A L G n' l') (hC:C:=by (repeat' (first | exact trivial | refine And.intro ?_ ?_ | exact id | decide | assumption | exact rfl | exact of_decide_eq_true rfl | intro _))):AJR Tryz.prog Γ N Q r ex A L G n l:=ZI env (xpJ cs) h hC k
theorem jP {l':List De} {C G':Prop} {_:Decidable G'} {X:Option γ} {z:γ} (h0:gd G' X=some z) (n':Nat) (cs:List Nat) (h:Kt env.tab N r ex A L (xpJ cs) n l=some (n',l',C)) (k:X=some z->AJR Tryz.prog Γ N Q r ex A L G n' l') (hC:G'->C:=by intro g; (repeat' (first | exact trivial | refine And.intro ?_ ?_ | with_reducible (first | exact g | exact g.1 | exact g.2 | exact g.2.1 | exact g.2.2 | exact g.2.2.1 | exact g.2.2.2 | exact g.2.2.2.1 | exact g.2.2.2.2 | exact g.2.2.2.2.1 | exact g.2.2.2.2.2 | exact g.2.2.2.2.2.1 | exact g.2.2.2.2.2.2 | exact g.2.2.2.2.2.2.1 | exact g.2.2.2.2.2.2.2) | decide | exact rfl | exact g.2.2.2.2.2.2.2 | exact g.2.2.2.2.2.2.1 | exact g.2.2.2.2.2.2 | exact g.2.2.2.2.2.1 | exact g.2.2.2.2.2 | exact g.2.2.2.2.1 | exact g.2.2.2.2 | exact g.2.2.2.1 | exact g.2.2.2 | exact g.2.2.1 | exact g.2.2 | exact g.2.1 | exact g.2 | exact g.1 | exact g | exact of_decide_eq_true rfl))):AJR Tryz.prog Γ N Q r ex A L G n l:=ZI env (xpJ cs) h (hC (yG h0).1) (k (yG h0).2)
end

section
variable {Γ:Gd} {N:Nat} {Q:Exit->Act->World->Prop} {A A':List (Nat × MV)} {L L':List (Nat × Option MObj)} {γ:Type}
theorem zEH {ops:Array Oper} (n:Nat) {l l':List Oper} {C:Prop} (h:jk VS.tab N ops n l A L=some (l',A',L',C)) (k:TL Tryz.prog Γ N ops Q l' A' L') (hC:C:=by (repeat' (first | exact trivial | refine And.intro ?_ ?_ | decide | assumption | exact rfl | exact of_decide_eq_true rfl))):TL Tryz.prog Γ N ops Q l A L:=xz VS n h hC k
end

section
variable {Γ:Gd} {N:Nat} {Q:Exit->Act->World->Prop} {A:List (Nat × MV)} {L:List (Nat × Option MObj)} {r:Rg} {G:Prop} {ex:Nat->List Nat} {l:List De} {n:Nat} {γ:Type}
end

section
variable {Γ:Gd} {N:Nat} {Q:Exit->Act->World->Prop} {A A':List (Nat × MV)} {L L':List (Nat × Option MObj)}
def SQ1 (Γ:Gd) (N:Nat) {α0:Type} (z:α0) (SA:α0->List (Nat × MV)) (SL:α0->List (Nat × Option MObj)):Act->World->Prop:=SP Γ N (fun s:α0=>z=s) (fun z=>SA z) (fun z=>SL z)

theorem SR1 {α0:Type} {x0:α0} {z:α0} {SA:α0->List (Nat × MV)} {SL:α0->List (Nat × Option MObj)} (h:some x0=some z) (l:List (Nat × Nat)) (hA:qK (sg l) (SA x0) A:=by (repeat' (first | exact trivial | refine And.intro rfl ?_))) (hL:qJ (sg l) (SL x0) L:=by (repeat' (first | exact trivial | refine And.intro rfl ?_))) (hb:sgB l (wu (SL x0))=true:=by exact rfl):TE Γ N (SQ1 Γ N z SA SL) A L:=w9 l z rfl (by cases h; exact hA) (by cases h; exact hL) (by cases h; exact hb)

theorem CT1 {c:Code} {δ:Type} {α0:Type} {X:Option (α0)} {k:α0->Option δ} {r:δ} (h:X.bind k=some r) (SA:α0->List (Nat × MV)) (SL:α0->List (Nat × Option MObj)) (h1:∀ z,X=some z->TC Tryz.prog Γ N c (Exit.then (SQ1 Γ N z SA SL) Q) A L) (h2:∀ x0,k x0=some r->TE Γ N (Q .normal) (SA x0) (SL x0)):TC Tryz.prog Γ N c Q A L:=by
 obtain ⟨z,hx,hk⟩:=bnd h
 exact z0 (fun s=>z=s) _ _ (h1 z hx) (fun s e=>by subst e; exact h2 _ hk)

def SQ2 (Γ:Gd) (N:Nat) {α0 α1:Type} (z:α0 × α1) (SA:α0->α1->List (Nat × MV)) (SL:α0->α1->List (Nat × Option MObj)):Act->World->Prop:=SP Γ N (fun s:α0 × α1=>z=s) (fun z=>SA z.1 z.2) (fun z=>SL z.1 z.2)

theorem SR2 {α0 α1:Type} {x0:α0} {x1:α1} {z:α0 × α1} {SA:α0->α1->List (Nat × MV)} {SL:α0->α1->List (Nat × Option MObj)} (h:some (x0,x1)=some z) (l:List (Nat × Nat)) (hA:qK (sg l) (SA x0 x1) A:=by (repeat' (first | exact trivial | refine And.intro rfl ?_))) (hL:qJ (sg l) (SL x0 x1) L:=by (repeat' (first | exact trivial | refine And.intro rfl ?_))) (hb:sgB l (wu (SL x0 x1))=true:=by exact rfl):TE Γ N (SQ2 Γ N z SA SL) A L:=w9 l z rfl (by cases h; exact hA) (by cases h; exact hL) (by cases h; exact hb)

theorem CT2 {c:Code} {δ:Type} {α0 α1:Type} {X:Option (α0 × α1)} {k:(α0 × α1)->Option δ} {r:δ} (h:X.bind k=some r) (SA:α0->α1->List (Nat × MV)) (SL:α0->α1->List (Nat × Option MObj)) (h1:∀ z,X=some z->TC Tryz.prog Γ N c (Exit.then (SQ2 Γ N z SA SL) Q) A L) (h2:∀ x0 x1,k (x0,x1)=some r->TE Γ N (Q .normal) (SA x0 x1) (SL x0 x1)):TC Tryz.prog Γ N c Q A L:=by
 obtain ⟨z,hx,hk⟩:=bnd h
 exact z0 (fun s=>z=s) _ _ (h1 z hx) (fun s e=>by subst e; exact h2 _ _ hk)

def SQ3 (Γ:Gd) (N:Nat) {α0 α1 α2:Type} (z:α0 × α1 × α2) (SA:α0->α1->α2->List (Nat × MV)) (SL:α0->α1->α2->List (Nat × Option MObj)):Act->World->Prop:=SP Γ N (fun s:α0 × α1 × α2=>z=s) (fun z=>SA z.1 z.2.1 z.2.2) (fun z=>SL z.1 z.2.1 z.2.2)

theorem SR3 {α0 α1 α2:Type} {x0:α0} {x1:α1} {x2:α2} {z:α0 × α1 × α2} {SA:α0->α1->α2->List (Nat × MV)} {SL:α0->α1->α2->List (Nat × Option MObj)} (h:some (x0,x1,x2)=some z) (l:List (Nat × Nat)) (hA:qK (sg l) (SA x0 x1 x2) A:=by (repeat' (first | exact trivial | refine And.intro rfl ?_))) (hL:qJ (sg l) (SL x0 x1 x2) L:=by (repeat' (first | exact trivial | refine And.intro rfl ?_))) (hb:sgB l (wu (SL x0 x1 x2))=true:=by exact rfl):TE Γ N (SQ3 Γ N z SA SL) A L:=w9 l z rfl (by cases h; exact hA) (by cases h; exact hL) (by cases h; exact hb)

theorem CT3 {c:Code} {δ:Type} {α0 α1 α2:Type} {X:Option (α0 × α1 × α2)} {k:(α0 × α1 × α2)->Option δ} {r:δ} (h:X.bind k=some r) (SA:α0->α1->α2->List (Nat × MV)) (SL:α0->α1->α2->List (Nat × Option MObj)) (h1:∀ z,X=some z->TC Tryz.prog Γ N c (Exit.then (SQ3 Γ N z SA SL) Q) A L) (h2:∀ x0 x1 x2,k (x0,x1,x2)=some r->TE Γ N (Q .normal) (SA x0 x1 x2) (SL x0 x1 x2)):TC Tryz.prog Γ N c Q A L:=by
 obtain ⟨z,hx,hk⟩:=bnd h
 exact z0 (fun s=>z=s) _ _ (h1 z hx) (fun s e=>by subst e; exact h2 _ _ _ hk)

def SQ4 (Γ:Gd) (N:Nat) {α0 α1 α2 α3:Type} (z:α0 × α1 × α2 × α3) (SA:α0->α1->α2->α3->List (Nat × MV)) (SL:α0->α1->α2->α3->List (Nat × Option MObj)):Act->World->Prop:=SP Γ N (fun s:α0 × α1 × α2 × α3=>z=s) (fun z=>SA z.1 z.2.1 z.2.2.1 z.2.2.2) (fun z=>SL z.1 z.2.1 z.2.2.1 z.2.2.2)

theorem SR4 {α0 α1 α2 α3:Type} {x0:α0} {x1:α1} {x2:α2} {x3:α3} {z:α0 × α1 × α2 × α3} {SA:α0->α1->α2->α3->List (Nat × MV)} {SL:α0->α1->α2->α3->List (Nat × Option MObj)} (h:some (x0,x1,x2,x3)=some z) (l:List (Nat × Nat)) (hA:qK (sg l) (SA x0 x1 x2 x3) A:=by (repeat' (first | exact trivial | refine And.intro rfl ?_))) (hL:qJ (sg l) (SL x0 x1 x2 x3) L:=by (repeat' (first | exact trivial | refine And.intro rfl ?_))) (hb:sgB l (wu (SL x0 x1 x2 x3))=true:=by exact rfl):TE Γ N (SQ4 Γ N z SA SL) A L:=w9 l z rfl (by cases h; exact hA) (by cases h; exact hL) (by cases h; exact hb)

theorem CT4 {c:Code} {δ:Type} {α0 α1 α2 α3:Type} {X:Option (α0 × α1 × α2 × α3)} {k:(α0 × α1 × α2 × α3)->Option δ} {r:δ} (h:X.bind k=some r) (SA:α0->α1->α2->α3->List (Nat × MV)) (SL:α0->α1->α2->α3->List (Nat × Option MObj)) (h1:∀ z,X=some z->TC Tryz.prog Γ N c (Exit.then (SQ4 Γ N z SA SL) Q) A L) (h2:∀ x0 x1 x2 x3,k (x0,x1,x2,x3)=some r->TE Γ N (Q .normal) (SA x0 x1 x2 x3) (SL x0 x1 x2 x3)):TC Tryz.prog Γ N c Q A L:=by
 obtain ⟨z,hx,hk⟩:=bnd h
 exact z0 (fun s=>z=s) _ _ (h1 z hx) (fun s e=>by subst e; exact h2 _ _ _ _ hk)

def SQ5 (Γ:Gd) (N:Nat) {α0 α1 α2 α3 α4:Type} (z:α0 × α1 × α2 × α3 × α4) (SA:α0->α1->α2->α3->α4->List (Nat × MV)) (SL:α0->α1->α2->α3->α4->List (Nat × Option MObj)):Act->World->Prop:=SP Γ N (fun s:α0 × α1 × α2 × α3 × α4=>z=s) (fun z=>SA z.1 z.2.1 z.2.2.1 z.2.2.2.1 z.2.2.2.2) (fun z=>SL z.1 z.2.1 z.2.2.1 z.2.2.2.1 z.2.2.2.2)

theorem SR5 {α0 α1 α2 α3 α4:Type} {x0:α0} {x1:α1} {x2:α2} {x3:α3} {x4:α4} {z:α0 × α1 × α2 × α3 × α4} {SA:α0->α1->α2->α3->α4->List (Nat × MV)} {SL:α0->α1->α2->α3->α4->List (Nat × Option MObj)} (h:some (x0,x1,x2,x3,x4)=some z) (l:List (Nat × Nat)) (hA:qK (sg l) (SA x0 x1 x2 x3 x4) A:=by (repeat' (first | exact trivial | refine And.intro rfl ?_))) (hL:qJ (sg l) (SL x0 x1 x2 x3 x4) L:=by (repeat' (first | exact trivial | refine And.intro rfl ?_))) (hb:sgB l (wu (SL x0 x1 x2 x3 x4))=true:=by exact rfl):TE Γ N (SQ5 Γ N z SA SL) A L:=w9 l z rfl (by cases h; exact hA) (by cases h; exact hL) (by cases h; exact hb)

theorem CT5 {c:Code} {δ:Type} {α0 α1 α2 α3 α4:Type} {X:Option (α0 × α1 × α2 × α3 × α4)} {k:(α0 × α1 × α2 × α3 × α4)->Option δ} {r:δ} (h:X.bind k=some r) (SA:α0->α1->α2->α3->α4->List (Nat × MV)) (SL:α0->α1->α2->α3->α4->List (Nat × Option MObj)) (h1:∀ z,X=some z->TC Tryz.prog Γ N c (Exit.then (SQ5 Γ N z SA SL) Q) A L) (h2:∀ x0 x1 x2 x3 x4,k (x0,x1,x2,x3,x4)=some r->TE Γ N (Q .normal) (SA x0 x1 x2 x3 x4) (SL x0 x1 x2 x3 x4)):TC Tryz.prog Γ N c Q A L:=by
 obtain ⟨z,hx,hk⟩:=bnd h
 exact z0 (fun s=>z=s) _ _ (h1 z hx) (fun s e=>by subst e; exact h2 _ _ _ _ _ hk)

def SQ6 (Γ:Gd) (N:Nat) {α0 α1 α2 α3 α4 α5:Type} (z:α0 × α1 × α2 × α3 × α4 × α5) (SA:α0->α1->α2->α3->α4->α5->List (Nat × MV)) (SL:α0->α1->α2->α3->α4->α5->List (Nat × Option MObj)):Act->World->Prop:=SP Γ N (fun s:α0 × α1 × α2 × α3 × α4 × α5=>z=s) (fun z=>SA z.1 z.2.1 z.2.2.1 z.2.2.2.1 z.2.2.2.2.1 z.2.2.2.2.2) (fun z=>SL z.1 z.2.1 z.2.2.1 z.2.2.2.1 z.2.2.2.2.1 z.2.2.2.2.2)

theorem SR6 {α0 α1 α2 α3 α4 α5:Type} {x0:α0} {x1:α1} {x2:α2} {x3:α3} {x4:α4} {x5:α5} {z:α0 × α1 × α2 × α3 × α4 × α5} {SA:α0->α1->α2->α3->α4->α5->List (Nat × MV)} {SL:α0->α1->α2->α3->α4->α5->List (Nat × Option MObj)} (h:some (x0,x1,x2,x3,x4,x5)=some z) (l:List (Nat × Nat)) (hA:qK (sg l) (SA x0 x1 x2 x3 x4 x5) A:=by (repeat' (first | exact trivial | refine And.intro rfl ?_))) (hL:qJ (sg l) (SL x0 x1 x2 x3 x4 x5) L:=by (repeat' (first | exact trivial | refine And.intro rfl ?_))) (hb:sgB l (wu (SL x0 x1 x2 x3 x4 x5))=true:=by exact rfl):TE Γ N (SQ6 Γ N z SA SL) A L:=w9 l z rfl (by cases h; exact hA) (by cases h; exact hL) (by cases h; exact hb)

theorem CT6 {c:Code} {δ:Type} {α0 α1 α2 α3 α4 α5:Type} {X:Option (α0 × α1 × α2 × α3 × α4 × α5)} {k:(α0 × α1 × α2 × α3 × α4 × α5)->Option δ} {r:δ} (h:X.bind k=some r) (SA:α0->α1->α2->α3->α4->α5->List (Nat × MV)) (SL:α0->α1->α2->α3->α4->α5->List (Nat × Option MObj)) (h1:∀ z,X=some z->TC Tryz.prog Γ N c (Exit.then (SQ6 Γ N z SA SL) Q) A L) (h2:∀ x0 x1 x2 x3 x4 x5,k (x0,x1,x2,x3,x4,x5)=some r->TE Γ N (Q .normal) (SA x0 x1 x2 x3 x4 x5) (SL x0 x1 x2 x3 x4 x5)):TC Tryz.prog Γ N c Q A L:=by
 obtain ⟨z,hx,hk⟩:=bnd h
 exact z0 (fun s=>z=s) _ _ (h1 z hx) (fun s e=>by subst e; exact h2 _ _ _ _ _ _ hk)

def SQ8 (Γ:Gd) (N:Nat) {α0 α1 α2 α3 α4 α5 α6 α7:Type} (z:α0 × α1 × α2 × α3 × α4 × α5 × α6 × α7) (SA:α0->α1->α2->α3->α4->α5->α6->α7->List (Nat × MV)) (SL:α0->α1->α2->α3->α4->α5->α6->α7->List (Nat × Option MObj)):Act->World->Prop:=SP Γ N (fun s:α0 × α1 × α2 × α3 × α4 × α5 × α6 × α7=>z=s) (fun z=>SA z.1 z.2.1 z.2.2.1 z.2.2.2.1 z.2.2.2.2.1 z.2.2.2.2.2.1 z.2.2.2.2.2.2.1 z.2.2.2.2.2.2.2) (fun z=>SL z.1 z.2.1 z.2.2.1 z.2.2.2.1 z.2.2.2.2.1 z.2.2.2.2.2.1 z.2.2.2.2.2.2.1 z.2.2.2.2.2.2.2)

theorem SR8 {α0 α1 α2 α3 α4 α5 α6 α7:Type} {x0:α0} {x1:α1} {x2:α2} {x3:α3} {x4:α4} {x5:α5} {x6:α6} {x7:α7} {z:α0 × α1 × α2 × α3 × α4 × α5 × α6 × α7} {SA:α0->α1->α2->α3->α4->α5->α6->α7->List (Nat × MV)} {SL:α0->α1->α2->α3->α4->α5->α6->α7->List (Nat × Option MObj)} (h:some (x0,x1,x2,x3,x4,x5,x6,x7)=some z) (l:List (Nat × Nat)) (hA:qK (sg l) (SA x0 x1 x2 x3 x4 x5 x6 x7) A:=by (repeat' (first | exact trivial | refine And.intro rfl ?_))) (hL:qJ (sg l) (SL x0 x1 x2 x3 x4 x5 x6 x7) L:=by (repeat' (first | exact trivial | refine And.intro rfl ?_))) (hb:sgB l (wu (SL x0 x1 x2 x3 x4 x5 x6 x7))=true:=by exact rfl):TE Γ N (SQ8 Γ N z SA SL) A L:=w9 l z rfl (by cases h; exact hA) (by cases h; exact hL) (by cases h; exact hb)

theorem CT8 {c:Code} {δ:Type} {α0 α1 α2 α3 α4 α5 α6 α7:Type} {X:Option (α0 × α1 × α2 × α3 × α4 × α5 × α6 × α7)} {k:(α0 × α1 × α2 × α3 × α4 × α5 × α6 × α7)->Option δ} {r:δ} (h:X.bind k=some r) (SA:α0->α1->α2->α3->α4->α5->α6->α7->List (Nat × MV)) (SL:α0->α1->α2->α3->α4->α5->α6->α7->List (Nat × Option MObj)) (h1:∀ z,X=some z->TC Tryz.prog Γ N c (Exit.then (SQ8 Γ N z SA SL) Q) A L) (h2:∀ x0 x1 x2 x3 x4 x5 x6 x7,k (x0,x1,x2,x3,x4,x5,x6,x7)=some r->TE Γ N (Q .normal) (SA x0 x1 x2 x3 x4 x5 x6 x7) (SL x0 x1 x2 x3 x4 x5 x6 x7)):TC Tryz.prog Γ N c Q A L:=by
 obtain ⟨z,hx,hk⟩:=bnd h
 exact z0 (fun s=>z=s) _ _ (h1 z hx) (fun s e=>by subst e; exact h2 _ _ _ _ _ _ _ _ hk)

def SQ9 (Γ:Gd) (N:Nat) {α0 α1 α2 α3 α4 α5 α6 α7 α8:Type} (z:α0 × α1 × α2 × α3 × α4 × α5 × α6 × α7 × α8) (SA:α0->α1->α2->α3->α4->α5->α6->α7->α8->List (Nat × MV)) (SL:α0->α1->α2->α3->α4->α5->α6->α7->α8->List (Nat × Option MObj)):Act->World->Prop:=SP Γ N (fun s:α0 × α1 × α2 × α3 × α4 × α5 × α6 × α7 × α8=>z=s) (fun z=>SA z.1 z.2.1 z.2.2.1 z.2.2.2.1 z.2.2.2.2.1 z.2.2.2.2.2.1 z.2.2.2.2.2.2.1 z.2.2.2.2.2.2.2.1 z.2.2.2.2.2.2.2.2) (fun z=>SL z.1 z.2.1 z.2.2.1 z.2.2.2.1 z.2.2.2.2.1 z.2.2.2.2.2.1 z.2.2.2.2.2.2.1 z.2.2.2.2.2.2.2.1 z.2.2.2.2.2.2.2.2)

theorem SR9 {α0 α1 α2 α3 α4 α5 α6 α7 α8:Type} {x0:α0} {x1:α1} {x2:α2} {x3:α3} {x4:α4} {x5:α5} {x6:α6} {x7:α7} {x8:α8} {z:α0 × α1 × α2 × α3 × α4 × α5 × α6 × α7 × α8} {SA:α0->α1->α2->α3->α4->α5->α6->α7->α8->List (Nat × MV)} {SL:α0->α1->α2->α3->α4->α5->α6->α7->α8->List (Nat × Option MObj)} (h:some (x0,x1,x2,x3,x4,x5,x6,x7,x8)=some z) (l:List (Nat × Nat)) (hA:qK (sg l) (SA x0 x1 x2 x3 x4 x5 x6 x7 x8) A:=by (repeat' (first | exact trivial | refine And.intro rfl ?_))) (hL:qJ (sg l) (SL x0 x1 x2 x3 x4 x5 x6 x7 x8) L:=by (repeat' (first | exact trivial | refine And.intro rfl ?_))) (hb:sgB l (wu (SL x0 x1 x2 x3 x4 x5 x6 x7 x8))=true:=by exact rfl):TE Γ N (SQ9 Γ N z SA SL) A L:=w9 l z rfl (by cases h; exact hA) (by cases h; exact hL) (by cases h; exact hb)

theorem CT9 {c:Code} {δ:Type} {α0 α1 α2 α3 α4 α5 α6 α7 α8:Type} {X:Option (α0 × α1 × α2 × α3 × α4 × α5 × α6 × α7 × α8)} {k:(α0 × α1 × α2 × α3 × α4 × α5 × α6 × α7 × α8)->Option δ} {r:δ} (h:X.bind k=some r) (SA:α0->α1->α2->α3->α4->α5->α6->α7->α8->List (Nat × MV)) (SL:α0->α1->α2->α3->α4->α5->α6->α7->α8->List (Nat × Option MObj)) (h1:∀ z,X=some z->TC Tryz.prog Γ N c (Exit.then (SQ9 Γ N z SA SL) Q) A L) (h2:∀ x0 x1 x2 x3 x4 x5 x6 x7 x8,k (x0,x1,x2,x3,x4,x5,x6,x7,x8)=some r->TE Γ N (Q .normal) (SA x0 x1 x2 x3 x4 x5 x6 x7 x8) (SL x0 x1 x2 x3 x4 x5 x6 x7 x8)):TC Tryz.prog Γ N c Q A L:=by
 obtain ⟨z,hx,hk⟩:=bnd h
 exact z0 (fun s=>z=s) _ _ (h1 z hx) (fun s e=>by subst e; exact h2 _ _ _ _ _ _ _ _ _ hk)

def LN1 (Γ:Gd) (N:Nat) {α0:Type} {δ:Type} (g:Nat->α0->Option δ) (r:δ) (n:Nat) (SA:α0->List (Nat × MV)) (SL:α0->List (Nat × Option MObj)):Act->World->Prop:=fun a w=>∃ n',n'<n/\SP Γ N (fun z:α0=>g n' z=some r) (fun z=>SA z) (fun z=>SL z) a w

theorem NX1 {α0:Type} {δ:Type} {g:Nat->α0->Option δ} {r:δ} {n:Nat} {x0:α0} {SA:α0->List (Nat × MV)} {SL:α0->List (Nat × Option MObj)} (h:g n x0=some r) (l:List (Nat × Nat)) (hA:qK (sg l) (SA x0) A:=by (repeat' (first | exact trivial | refine And.intro rfl ?_))) (hL:qJ (sg l) (SL x0) L:=by (repeat' (first | exact trivial | refine And.intro rfl ?_))) (hb:sgB l (wu (SL x0))=true:=by exact rfl):TE Γ N (LN1 Γ N g r (n+1) SA SL) A L:=xW (p:=fun n (z:α0)=>g n z=some r) (SA:=fun z=>SA z) (SL:=fun z=>SL z) l n (Nat.lt_succ_self n) x0 h hA hL hb

theorem LP1 {c:Code} {α0:Type} {δ:Type} {g:Nat->α0->Option δ} {r:δ} {K:Nat} {x0:α0} (h:g K x0=some r) (l:List (Nat × Nat)) (SA:α0->List (Nat × MV)) (SL:α0->List (Nat × Option MObj)) (b:∀ n x0,g (n+1) x0=some r->TC Tryz.prog Γ N c (Exit.then (LN1 Γ N g r (n+1) SA SL) Q) (SA x0) (SL x0)) (hA:qK (sg l) (SA x0) A:=by (repeat' (first | exact trivial | refine And.intro rfl ?_))) (hL:qJ (sg l) (SL x0) L:=by (repeat' (first | exact trivial | refine And.intro rfl ?_))) (hb:sgB l (wu (SL x0))=true:=by exact rfl) (h0:∀ x0,g 0 x0=none:=by intros; exact rfl):TC Tryz.prog Γ N (.loop c) Q A L:=yB (α:=α0) (fun n z=>g n z=some r) (fun z=>SA z) (fun z=>SL z) K (w9 l x0 h hA hL hb) (fun n z hz=>by
 rcases n with _ | n
 ·rw [h0] at hz; cases hz
 ·exact b n _ hz)

def LN2 (Γ:Gd) (N:Nat) {α0 α1:Type} {δ:Type} (g:Nat->α0->α1->Option δ) (r:δ) (n:Nat) (SA:α0->α1->List (Nat × MV)) (SL:α0->α1->List (Nat × Option MObj)):Act->World->Prop:=fun a w=>∃ n',n'<n/\SP Γ N (fun z:α0 × α1=>g n' z.1 z.2=some r) (fun z=>SA z.1 z.2) (fun z=>SL z.1 z.2) a w

theorem NX2 {α0 α1:Type} {δ:Type} {g:Nat->α0->α1->Option δ} {r:δ} {n:Nat} {x0:α0} {x1:α1} {SA:α0->α1->List (Nat × MV)} {SL:α0->α1->List (Nat × Option MObj)} (h:g n x0 x1=some r) (l:List (Nat × Nat)) (hA:qK (sg l) (SA x0 x1) A:=by (repeat' (first | exact trivial | refine And.intro rfl ?_))) (hL:qJ (sg l) (SL x0 x1) L:=by (repeat' (first | exact trivial | refine And.intro rfl ?_))) (hb:sgB l (wu (SL x0 x1))=true:=by exact rfl):TE Γ N (LN2 Γ N g r (n+1) SA SL) A L:=xW (p:=fun n (z:α0 × α1)=>g n z.1 z.2=some r) (SA:=fun z=>SA z.1 z.2) (SL:=fun z=>SL z.1 z.2) l n (Nat.lt_succ_self n) (x0,x1) h hA hL hb

theorem LP2 {c:Code} {α0 α1:Type} {δ:Type} {g:Nat->α0->α1->Option δ} {r:δ} {K:Nat} {x0:α0} {x1:α1} (h:g K x0 x1=some r) (l:List (Nat × Nat)) (SA:α0->α1->List (Nat × MV)) (SL:α0->α1->List (Nat × Option MObj)) (b:∀ n x0 x1,g (n+1) x0 x1=some r->TC Tryz.prog Γ N c (Exit.then (LN2 Γ N g r (n+1) SA SL) Q) (SA x0 x1) (SL x0 x1)) (hA:qK (sg l) (SA x0 x1) A:=by (repeat' (first | exact trivial | refine And.intro rfl ?_))) (hL:qJ (sg l) (SL x0 x1) L:=by (repeat' (first | exact trivial | refine And.intro rfl ?_))) (hb:sgB l (wu (SL x0 x1))=true:=by exact rfl) (h0:∀ x0 x1,g 0 x0 x1=none:=by intros; exact rfl):TC Tryz.prog Γ N (.loop c) Q A L:=yB (α:=α0 × α1) (fun n z=>g n z.1 z.2=some r) (fun z=>SA z.1 z.2) (fun z=>SL z.1 z.2) K (w9 l (x0,x1) h hA hL hb) (fun n z hz=>by
 rcases n with _ | n
 ·rw [h0] at hz; cases hz
 ·exact b n _ _ hz)

def LN3 (Γ:Gd) (N:Nat) {α0 α1 α2:Type} {δ:Type} (g:Nat->α0->α1->α2->Option δ) (r:δ) (n:Nat) (SA:α0->α1->α2->List (Nat × MV)) (SL:α0->α1->α2->List (Nat × Option MObj)):Act->World->Prop:=fun a w=>∃ n',n'<n/\SP Γ N (fun z:α0 × α1 × α2=>g n' z.1 z.2.1 z.2.2=some r) (fun z=>SA z.1 z.2.1 z.2.2) (fun z=>SL z.1 z.2.1 z.2.2) a w

theorem NX3 {α0 α1 α2:Type} {δ:Type} {g:Nat->α0->α1->α2->Option δ} {r:δ} {n:Nat} {x0:α0} {x1:α1} {x2:α2} {SA:α0->α1->α2->List (Nat × MV)} {SL:α0->α1->α2->List (Nat × Option MObj)} (h:g n x0 x1 x2=some r) (l:List (Nat × Nat)) (hA:qK (sg l) (SA x0 x1 x2) A:=by (repeat' (first | exact trivial | refine And.intro rfl ?_))) (hL:qJ (sg l) (SL x0 x1 x2) L:=by (repeat' (first | exact trivial | refine And.intro rfl ?_))) (hb:sgB l (wu (SL x0 x1 x2))=true:=by exact rfl):TE Γ N (LN3 Γ N g r (n+1) SA SL) A L:=xW (p:=fun n (z:α0 × α1 × α2)=>g n z.1 z.2.1 z.2.2=some r) (SA:=fun z=>SA z.1 z.2.1 z.2.2) (SL:=fun z=>SL z.1 z.2.1 z.2.2) l n (Nat.lt_succ_self n) (x0,x1,x2) h hA hL hb

theorem LP3 {c:Code} {α0 α1 α2:Type} {δ:Type} {g:Nat->α0->α1->α2->Option δ} {r:δ} {K:Nat} {x0:α0} {x1:α1} {x2:α2} (h:g K x0 x1 x2=some r) (l:List (Nat × Nat)) (SA:α0->α1->α2->List (Nat × MV)) (SL:α0->α1->α2->List (Nat × Option MObj)) (b:∀ n x0 x1 x2,g (n+1) x0 x1 x2=some r->TC Tryz.prog Γ N c (Exit.then (LN3 Γ N g r (n+1) SA SL) Q) (SA x0 x1 x2) (SL x0 x1 x2)) (hA:qK (sg l) (SA x0 x1 x2) A:=by (repeat' (first | exact trivial | refine And.intro rfl ?_))) (hL:qJ (sg l) (SL x0 x1 x2) L:=by (repeat' (first | exact trivial | refine And.intro rfl ?_))) (hb:sgB l (wu (SL x0 x1 x2))=true:=by exact rfl) (h0:∀ x0 x1 x2,g 0 x0 x1 x2=none:=by intros; exact rfl):TC Tryz.prog Γ N (.loop c) Q A L:=yB (α:=α0 × α1 × α2) (fun n z=>g n z.1 z.2.1 z.2.2=some r) (fun z=>SA z.1 z.2.1 z.2.2) (fun z=>SL z.1 z.2.1 z.2.2) K (w9 l (x0,x1,x2) h hA hL hb) (fun n z hz=>by
 rcases n with _ | n
 ·rw [h0] at hz; cases hz
 ·exact b n _ _ _ hz)

def LN4 (Γ:Gd) (N:Nat) {α0 α1 α2 α3:Type} {δ:Type} (g:Nat->α0->α1->α2->α3->Option δ) (r:δ) (n:Nat) (SA:α0->α1->α2->α3->List (Nat × MV)) (SL:α0->α1->α2->α3->List (Nat × Option MObj)):Act->World->Prop:=fun a w=>∃ n',n'<n/\SP Γ N (fun z:α0 × α1 × α2 × α3=>g n' z.1 z.2.1 z.2.2.1 z.2.2.2=some r) (fun z=>SA z.1 z.2.1 z.2.2.1 z.2.2.2) (fun z=>SL z.1 z.2.1 z.2.2.1 z.2.2.2) a w

theorem NX4 {α0 α1 α2 α3:Type} {δ:Type} {g:Nat->α0->α1->α2->α3->Option δ} {r:δ} {n:Nat} {x0:α0} {x1:α1} {x2:α2} {x3:α3} {SA:α0->α1->α2->α3->List (Nat × MV)} {SL:α0->α1->α2->α3->List (Nat × Option MObj)} (h:g n x0 x1 x2 x3=some r) (l:List (Nat × Nat)) (hA:qK (sg l) (SA x0 x1 x2 x3) A:=by (repeat' (first | exact trivial | refine And.intro rfl ?_))) (hL:qJ (sg l) (SL x0 x1 x2 x3) L:=by (repeat' (first | exact trivial | refine And.intro rfl ?_))) (hb:sgB l (wu (SL x0 x1 x2 x3))=true:=by exact rfl):TE Γ N (LN4 Γ N g r (n+1) SA SL) A L:=xW (p:=fun n (z:α0 × α1 × α2 × α3)=>g n z.1 z.2.1 z.2.2.1 z.2.2.2=some r) (SA:=fun z=>SA z.1 z.2.1 z.2.2.1 z.2.2.2) (SL:=fun z=>SL z.1 z.2.1 z.2.2.1 z.2.2.2) l n (Nat.lt_succ_self n) (x0,x1,x2,x3) h hA hL hb

theorem LP4 {c:Code} {α0 α1 α2 α3:Type} {δ:Type} {g:Nat->α0->α1->α2->α3->Option δ} {r:δ} {K:Nat} {x0:α0} {x1:α1} {x2:α2} {x3:α3} (h:g K x0 x1 x2 x3=some r) (l:List (Nat × Nat)) (SA:α0->α1->α2->α3->List (Nat × MV)) (SL:α0->α1->α2->α3->List (Nat × Option MObj)) (b:∀ n x0 x1 x2 x3,g (n+1) x0 x1 x2 x3=some r->TC Tryz.prog Γ N c (Exit.then (LN4 Γ N g r (n+1) SA SL) Q) (SA x0 x1 x2 x3) (SL x0 x1 x2 x3)) (hA:qK (sg l) (SA x0 x1 x2 x3) A:=by (repeat' (first | exact trivial | refine And.intro rfl ?_))) (hL:qJ (sg l) (SL x0 x1 x2 x3) L:=by (repeat' (first | exact trivial | refine And.intro rfl ?_))) (hb:sgB l (wu (SL x0 x1 x2 x3))=true:=by exact rfl) (h0:∀ x0 x1 x2 x3,g 0 x0 x1 x2 x3=none:=by intros; exact rfl):TC Tryz.prog Γ N (.loop c) Q A L:=yB (α:=α0 × α1 × α2 × α3) (fun n z=>g n z.1 z.2.1 z.2.2.1 z.2.2.2=some r) (fun z=>SA z.1 z.2.1 z.2.2.1 z.2.2.2) (fun z=>SL z.1 z.2.1 z.2.2.1 z.2.2.2) K (w9 l (x0,x1,x2,x3) h hA hL hb) (fun n z hz=>by
 rcases n with _ | n
 ·rw [h0] at hz; cases hz
 ·exact b n _ _ _ _ hz)

def LN5 (Γ:Gd) (N:Nat) {α0 α1 α2 α3 α4:Type} {δ:Type} (g:Nat->α0->α1->α2->α3->α4->Option δ) (r:δ) (n:Nat) (SA:α0->α1->α2->α3->α4->List (Nat × MV)) (SL:α0->α1->α2->α3->α4->List (Nat × Option MObj)):Act->World->Prop:=fun a w=>∃ n',n'<n/\SP Γ N (fun z:α0 × α1 × α2 × α3 × α4=>g n' z.1 z.2.1 z.2.2.1 z.2.2.2.1 z.2.2.2.2=some r) (fun z=>SA z.1 z.2.1 z.2.2.1 z.2.2.2.1 z.2.2.2.2) (fun z=>SL z.1 z.2.1 z.2.2.1 z.2.2.2.1 z.2.2.2.2) a w

theorem NX5 {α0 α1 α2 α3 α4:Type} {δ:Type} {g:Nat->α0->α1->α2->α3->α4->Option δ} {r:δ} {n:Nat} {x0:α0} {x1:α1} {x2:α2} {x3:α3} {x4:α4} {SA:α0->α1->α2->α3->α4->List (Nat × MV)} {SL:α0->α1->α2->α3->α4->List (Nat × Option MObj)} (h:g n x0 x1 x2 x3 x4=some r) (l:List (Nat × Nat)) (hA:qK (sg l) (SA x0 x1 x2 x3 x4) A:=by (repeat' (first | exact trivial | refine And.intro rfl ?_))) (hL:qJ (sg l) (SL x0 x1 x2 x3 x4) L:=by (repeat' (first | exact trivial | refine And.intro rfl ?_))) (hb:sgB l (wu (SL x0 x1 x2 x3 x4))=true:=by exact rfl):TE Γ N (LN5 Γ N g r (n+1) SA SL) A L:=xW (p:=fun n (z:α0 × α1 × α2 × α3 × α4)=>g n z.1 z.2.1 z.2.2.1 z.2.2.2.1 z.2.2.2.2=some r) (SA:=fun z=>SA z.1 z.2.1 z.2.2.1 z.2.2.2.1 z.2.2.2.2) (SL:=fun z=>SL z.1 z.2.1 z.2.2.1 z.2.2.2.1 z.2.2.2.2) l n (Nat.lt_succ_self n) (x0,x1,x2,x3,x4) h hA hL hb

theorem LP5 {c:Code} {α0 α1 α2 α3 α4:Type} {δ:Type} {g:Nat->α0->α1->α2->α3->α4->Option δ} {r:δ} {K:Nat} {x0:α0} {x1:α1} {x2:α2} {x3:α3} {x4:α4} (h:g K x0 x1 x2 x3 x4=some r) (l:List (Nat × Nat)) (SA:α0->α1->α2->α3->α4->List (Nat × MV)) (SL:α0->α1->α2->α3->α4->List (Nat × Option MObj)) (b:∀ n x0 x1 x2 x3 x4,g (n+1) x0 x1 x2 x3 x4=some r->TC Tryz.prog Γ N c (Exit.then (LN5 Γ N g r (n+1) SA SL) Q) (SA x0 x1 x2 x3 x4) (SL x0 x1 x2 x3 x4)) (hA:qK (sg l) (SA x0 x1 x2 x3 x4) A:=by (repeat' (first | exact trivial | refine And.intro rfl ?_))) (hL:qJ (sg l) (SL x0 x1 x2 x3 x4) L:=by (repeat' (first | exact trivial | refine And.intro rfl ?_))) (hb:sgB l (wu (SL x0 x1 x2 x3 x4))=true:=by exact rfl) (h0:∀ x0 x1 x2 x3 x4,g 0 x0 x1 x2 x3 x4=none:=by intros; exact rfl):TC Tryz.prog Γ N (.loop c) Q A L:=yB (α:=α0 × α1 × α2 × α3 × α4) (fun n z=>g n z.1 z.2.1 z.2.2.1 z.2.2.2.1 z.2.2.2.2=some r) (fun z=>SA z.1 z.2.1 z.2.2.1 z.2.2.2.1 z.2.2.2.2) (fun z=>SL z.1 z.2.1 z.2.2.1 z.2.2.2.1 z.2.2.2.2) K (w9 l (x0,x1,x2,x3,x4) h hA hL hb) (fun n z hz=>by
 rcases n with _ | n
 ·rw [h0] at hz; cases hz
 ·exact b n _ _ _ _ _ hz)

def LN6 (Γ:Gd) (N:Nat) {α0 α1 α2 α3 α4 α5:Type} {δ:Type} (g:Nat->α0->α1->α2->α3->α4->α5->Option δ) (r:δ) (n:Nat) (SA:α0->α1->α2->α3->α4->α5->List (Nat × MV)) (SL:α0->α1->α2->α3->α4->α5->List (Nat × Option MObj)):Act->World->Prop:=fun a w=>∃ n',n'<n/\SP Γ N (fun z:α0 × α1 × α2 × α3 × α4 × α5=>g n' z.1 z.2.1 z.2.2.1 z.2.2.2.1 z.2.2.2.2.1 z.2.2.2.2.2=some r) (fun z=>SA z.1 z.2.1 z.2.2.1 z.2.2.2.1 z.2.2.2.2.1 z.2.2.2.2.2) (fun z=>SL z.1 z.2.1 z.2.2.1 z.2.2.2.1 z.2.2.2.2.1 z.2.2.2.2.2) a w

theorem NX6 {α0 α1 α2 α3 α4 α5:Type} {δ:Type} {g:Nat->α0->α1->α2->α3->α4->α5->Option δ} {r:δ} {n:Nat} {x0:α0} {x1:α1} {x2:α2} {x3:α3} {x4:α4} {x5:α5} {SA:α0->α1->α2->α3->α4->α5->List (Nat × MV)} {SL:α0->α1->α2->α3->α4->α5->List (Nat × Option MObj)} (h:g n x0 x1 x2 x3 x4 x5=some r) (l:List (Nat × Nat)) (hA:qK (sg l) (SA x0 x1 x2 x3 x4 x5) A:=by (repeat' (first | exact trivial | refine And.intro rfl ?_))) (hL:qJ (sg l) (SL x0 x1 x2 x3 x4 x5) L:=by (repeat' (first | exact trivial | refine And.intro rfl ?_))) (hb:sgB l (wu (SL x0 x1 x2 x3 x4 x5))=true:=by exact rfl):TE Γ N (LN6 Γ N g r (n+1) SA SL) A L:=xW (p:=fun n (z:α0 × α1 × α2 × α3 × α4 × α5)=>g n z.1 z.2.1 z.2.2.1 z.2.2.2.1 z.2.2.2.2.1 z.2.2.2.2.2=some r) (SA:=fun z=>SA z.1 z.2.1 z.2.2.1 z.2.2.2.1 z.2.2.2.2.1 z.2.2.2.2.2) (SL:=fun z=>SL z.1 z.2.1 z.2.2.1 z.2.2.2.1 z.2.2.2.2.1 z.2.2.2.2.2) l n (Nat.lt_succ_self n) (x0,x1,x2,x3,x4,x5) h hA hL hb

theorem LP6 {c:Code} {α0 α1 α2 α3 α4 α5:Type} {δ:Type} {g:Nat->α0->α1->α2->α3->α4->α5->Option δ} {r:δ} {K:Nat} {x0:α0} {x1:α1} {x2:α2} {x3:α3} {x4:α4} {x5:α5} (h:g K x0 x1 x2 x3 x4 x5=some r) (l:List (Nat × Nat)) (SA:α0->α1->α2->α3->α4->α5->List (Nat × MV)) (SL:α0->α1->α2->α3->α4->α5->List (Nat × Option MObj)) (b:∀ n x0 x1 x2 x3 x4 x5,g (n+1) x0 x1 x2 x3 x4 x5=some r->TC Tryz.prog Γ N c (Exit.then (LN6 Γ N g r (n+1) SA SL) Q) (SA x0 x1 x2 x3 x4 x5) (SL x0 x1 x2 x3 x4 x5)) (hA:qK (sg l) (SA x0 x1 x2 x3 x4 x5) A:=by (repeat' (first | exact trivial | refine And.intro rfl ?_))) (hL:qJ (sg l) (SL x0 x1 x2 x3 x4 x5) L:=by (repeat' (first | exact trivial | refine And.intro rfl ?_))) (hb:sgB l (wu (SL x0 x1 x2 x3 x4 x5))=true:=by exact rfl) (h0:∀ x0 x1 x2 x3 x4 x5,g 0 x0 x1 x2 x3 x4 x5=none:=by intros; exact rfl):TC Tryz.prog Γ N (.loop c) Q A L:=yB (α:=α0 × α1 × α2 × α3 × α4 × α5) (fun n z=>g n z.1 z.2.1 z.2.2.1 z.2.2.2.1 z.2.2.2.2.1 z.2.2.2.2.2=some r) (fun z=>SA z.1 z.2.1 z.2.2.1 z.2.2.2.1 z.2.2.2.2.1 z.2.2.2.2.2) (fun z=>SL z.1 z.2.1 z.2.2.1 z.2.2.2.1 z.2.2.2.2.1 z.2.2.2.2.2) K (w9 l (x0,x1,x2,x3,x4,x5) h hA hL hb) (fun n z hz=>by
 rcases n with _ | n
 ·rw [h0] at hz; cases hz
 ·exact b n _ _ _ _ _ _ hz)

def LN7 (Γ:Gd) (N:Nat) {α0 α1 α2 α3 α4 α5 α6:Type} {δ:Type} (g:Nat->α0->α1->α2->α3->α4->α5->α6->Option δ) (r:δ) (n:Nat) (SA:α0->α1->α2->α3->α4->α5->α6->List (Nat × MV)) (SL:α0->α1->α2->α3->α4->α5->α6->List (Nat × Option MObj)):Act->World->Prop:=fun a w=>∃ n',n'<n/\SP Γ N (fun z:α0 × α1 × α2 × α3 × α4 × α5 × α6=>g n' z.1 z.2.1 z.2.2.1 z.2.2.2.1 z.2.2.2.2.1 z.2.2.2.2.2.1 z.2.2.2.2.2.2=some r) (fun z=>SA z.1 z.2.1 z.2.2.1 z.2.2.2.1 z.2.2.2.2.1 z.2.2.2.2.2.1 z.2.2.2.2.2.2) (fun z=>SL z.1 z.2.1 z.2.2.1 z.2.2.2.1 z.2.2.2.2.1 z.2.2.2.2.2.1 z.2.2.2.2.2.2) a w

theorem NX7 {α0 α1 α2 α3 α4 α5 α6:Type} {δ:Type} {g:Nat->α0->α1->α2->α3->α4->α5->α6->Option δ} {r:δ} {n:Nat} {x0:α0} {x1:α1} {x2:α2} {x3:α3} {x4:α4} {x5:α5} {x6:α6} {SA:α0->α1->α2->α3->α4->α5->α6->List (Nat × MV)} {SL:α0->α1->α2->α3->α4->α5->α6->List (Nat × Option MObj)} (h:g n x0 x1 x2 x3 x4 x5 x6=some r) (l:List (Nat × Nat)) (hA:qK (sg l) (SA x0 x1 x2 x3 x4 x5 x6) A:=by (repeat' (first | exact trivial | refine And.intro rfl ?_))) (hL:qJ (sg l) (SL x0 x1 x2 x3 x4 x5 x6) L:=by (repeat' (first | exact trivial | refine And.intro rfl ?_))) (hb:sgB l (wu (SL x0 x1 x2 x3 x4 x5 x6))=true:=by exact rfl):TE Γ N (LN7 Γ N g r (n+1) SA SL) A L:=xW (p:=fun n (z:α0 × α1 × α2 × α3 × α4 × α5 × α6)=>g n z.1 z.2.1 z.2.2.1 z.2.2.2.1 z.2.2.2.2.1 z.2.2.2.2.2.1 z.2.2.2.2.2.2=some r) (SA:=fun z=>SA z.1 z.2.1 z.2.2.1 z.2.2.2.1 z.2.2.2.2.1 z.2.2.2.2.2.1 z.2.2.2.2.2.2) (SL:=fun z=>SL z.1 z.2.1 z.2.2.1 z.2.2.2.1 z.2.2.2.2.1 z.2.2.2.2.2.1 z.2.2.2.2.2.2) l n (Nat.lt_succ_self n) (x0,x1,x2,x3,x4,x5,x6) h hA hL hb

theorem LP7 {c:Code} {α0 α1 α2 α3 α4 α5 α6:Type} {δ:Type} {g:Nat->α0->α1->α2->α3->α4->α5->α6->Option δ} {r:δ} {K:Nat} {x0:α0} {x1:α1} {x2:α2} {x3:α3} {x4:α4} {x5:α5} {x6:α6} (h:g K x0 x1 x2 x3 x4 x5 x6=some r) (l:List (Nat × Nat)) (SA:α0->α1->α2->α3->α4->α5->α6->List (Nat × MV)) (SL:α0->α1->α2->α3->α4->α5->α6->List (Nat × Option MObj)) (b:∀ n x0 x1 x2 x3 x4 x5 x6,g (n+1) x0 x1 x2 x3 x4 x5 x6=some r->TC Tryz.prog Γ N c (Exit.then (LN7 Γ N g r (n+1) SA SL) Q) (SA x0 x1 x2 x3 x4 x5 x6) (SL x0 x1 x2 x3 x4 x5 x6)) (hA:qK (sg l) (SA x0 x1 x2 x3 x4 x5 x6) A:=by (repeat' (first | exact trivial | refine And.intro rfl ?_))) (hL:qJ (sg l) (SL x0 x1 x2 x3 x4 x5 x6) L:=by (repeat' (first | exact trivial | refine And.intro rfl ?_))) (hb:sgB l (wu (SL x0 x1 x2 x3 x4 x5 x6))=true:=by exact rfl) (h0:∀ x0 x1 x2 x3 x4 x5 x6,g 0 x0 x1 x2 x3 x4 x5 x6=none:=by intros; exact rfl):TC Tryz.prog Γ N (.loop c) Q A L:=yB (α:=α0 × α1 × α2 × α3 × α4 × α5 × α6) (fun n z=>g n z.1 z.2.1 z.2.2.1 z.2.2.2.1 z.2.2.2.2.1 z.2.2.2.2.2.1 z.2.2.2.2.2.2=some r) (fun z=>SA z.1 z.2.1 z.2.2.1 z.2.2.2.1 z.2.2.2.2.1 z.2.2.2.2.2.1 z.2.2.2.2.2.2) (fun z=>SL z.1 z.2.1 z.2.2.1 z.2.2.2.1 z.2.2.2.2.1 z.2.2.2.2.2.1 z.2.2.2.2.2.2) K (w9 l (x0,x1,x2,x3,x4,x5,x6) h hA hL hb) (fun n z hz=>by
 rcases n with _ | n
 ·rw [h0] at hz; cases hz
 ·exact b n _ _ _ _ _ _ _ hz)

end
theorem pj1 {α:Type} {a c:α} (h:some a=some c):c=a:=sinj h

theorem pj2 {α0 α1:Type} {a0 c0:α0} {a1 c1:α1} (h:some (a0,a1)=some (c0,c1)):c0=a0/\c1=a1:=by cases h; exact ⟨rfl,rfl⟩

theorem pj3 {α0 α1 α2:Type} {a0 c0:α0} {a1 c1:α1} {a2 c2:α2} (h:some (a0,a1,a2)=some (c0,c1,c2)):c0=a0/\c1=a1/\c2=a2:=by cases h; exact ⟨rfl,rfl,rfl⟩

theorem pj4 {α0 α1 α2 α3:Type} {a0 c0:α0} {a1 c1:α1} {a2 c2:α2} {a3 c3:α3} (h:some (a0,a1,a2,a3)=some (c0,c1,c2,c3)):c0=a0/\c1=a1/\c2=a2/\c3=a3:=by cases h; exact ⟨rfl,rfl,rfl,rfl⟩

theorem pj5 {α0 α1 α2 α3 α4:Type} {a0 c0:α0} {a1 c1:α1} {a2 c2:α2} {a3 c3:α3} {a4 c4:α4} (h:some (a0,a1,a2,a3,a4)=some (c0,c1,c2,c3,c4)):c0=a0/\c1=a1/\c2=a2/\c3=a3/\c4=a4:=by cases h; exact ⟨rfl,rfl,rfl,rfl,rfl⟩

theorem pj6 {α0 α1 α2 α3 α4 α5:Type} {a0 c0:α0} {a1 c1:α1} {a2 c2:α2} {a3 c3:α3} {a4 c4:α4} {a5 c5:α5} (h:some (a0,a1,a2,a3,a4,a5)=some (c0,c1,c2,c3,c4,c5)):c0=a0/\c1=a1/\c2=a2/\c3=a3/\c4=a4/\c5=a5:=by cases h; exact ⟨rfl,rfl,rfl,rfl,rfl,rfl⟩

theorem pj7 {α0 α1 α2 α3 α4 α5 α6:Type} {a0 c0:α0} {a1 c1:α1} {a2 c2:α2} {a3 c3:α3} {a4 c4:α4} {a5 c5:α5} {a6 c6:α6} (h:some (a0,a1,a2,a3,a4,a5,a6)=some (c0,c1,c2,c3,c4,c5,c6)):c0=a0/\c1=a1/\c2=a2/\c3=a3/\c4=a4/\c5=a5/\c6=a6:=by cases h; exact ⟨rfl,rfl,rfl,rfl,rfl,rfl,rfl⟩

theorem pj9 {α0 α1 α2 α3 α4 α5 α6 α7 α8:Type} {a0 c0:α0} {a1 c1:α1} {a2 c2:α2} {a3 c3:α3} {a4 c4:α4} {a5 c5:α5} {a6 c6:α6} {a7 c7:α7} {a8 c8:α8} (h:some (a0,a1,a2,a3,a4,a5,a6,a7,a8)=some (c0,c1,c2,c3,c4,c5,c6,c7,c8)):c0=a0/\c1=a1/\c2=a2/\c3=a3/\c4=a4/\c5=a5/\c6=a6/\c7=a7/\c8=a8:=by cases h; exact ⟨rfl,rfl,rfl,rfl,rfl,rfl,rfl,rfl,rfl⟩

theorem V9 {α0 α1 α2 α3 α4 α5 α6 α7 α8 α9:Type} {a0 c0:α0} {a1 c1:α1} {a2 c2:α2} {a3 c3:α3} {a4 c4:α4} {a5 c5:α5} {a6 c6:α6} {a7 c7:α7} {a8 c8:α8} {a9 c9:α9} (h:some (a0,a1,a2,a3,a4,a5,a6,a7,a8,a9)=some (c0,c1,c2,c3,c4,c5,c6,c7,c8,c9)):c0=a0/\c1=a1/\c2=a2/\c3=a3/\c4=a4/\c5=a5/\c6=a6/\c7=a7/\c8=a8/\c9=a9:=by cases h; exact ⟨rfl,rfl,rfl,rfl,rfl,rfl,rfl,rfl,rfl,rfl⟩

theorem WQ {α0 α1 α2 α3 α4 α5 α6 α7 α8 α9 α10 α11 α12 α13 α14 α15 α16 α17 α18 α19 α20 α21:Type} {a0 c0:α0} {a1 c1:α1} {a2 c2:α2} {a3 c3:α3} {a4 c4:α4} {a5 c5:α5} {a6 c6:α6} {a7 c7:α7} {a8 c8:α8} {a9 c9:α9} {a10 c10:α10} {a11 c11:α11} {a12 c12:α12} {a13 c13:α13} {a14 c14:α14} {a15 c15:α15} {a16 c16:α16} {a17 c17:α17} {a18 c18:α18} {a19 c19:α19} {a20 c20:α20} {a21 c21:α21} (h:some (a0,a1,a2,a3,a4,a5,a6,a7,a8,a9,a10,a11,a12,a13,a14,a15,a16,a17,a18,a19,a20,a21)=some (c0,c1,c2,c3,c4,c5,c6,c7,c8,c9,c10,c11,c12,c13,c14,c15,c16,c17,c18,c19,c20,c21)):c0=a0/\c1=a1/\c2=a2/\c3=a3/\c4=a4/\c5=a5/\c6=a6/\c7=a7/\c8=a8/\c9=a9/\c10=a10/\c11=a11/\c12=a12/\c13=a13/\c14=a14/\c15=a15/\c16=a16/\c17=a17/\c18=a18/\c19=a19/\c20=a20/\c21=a21:=by cases h; exact ⟨rfl,rfl,rfl,rfl,rfl,rfl,rfl,rfl,rfl,rfl,rfl,rfl,rfl,rfl,rfl,rfl,rfl,rfl,rfl,rfl,rfl,rfl⟩

end Go.Fo
