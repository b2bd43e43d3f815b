/- What the kit's program says of the types that these functions use. -/
import Derived.Test.YtgbfdfkfkfldoaaGreatProg
import Derived.Test.YtgbfdfkfkfldoaaGreatJ4
namespace Go.Fo
abbrev J (x : Int) : MV:=.int .i64 x
abbrev C (l : List MV) : Option MObj:=some (.cells l)
abbrev M0 (x : List (Int)) : MV:=.im (.slice (.int .u8)) x
abbrev W1 (x : List (Bool)) : Option MObj:=some (.rows (.bool) x)
abbrev M2 (x : List (Int)) : MV:=.im (.slice (.int .i64)) x
abbrev M3 (x : List (Int)) : MV:=.im (.slice (.int .i16)) x
abbrev W4 (x : List (Int)) : Option MObj:=some (.rows (.int .i16) x)
abbrev W5 (x : List (Int)) : Option MObj:=some (.rows (.int .i32) x)
abbrev W6 (x : List ((Int × Int))) : Option MObj:=some (.rows (.pair (.int .i64) (.int .i64)) x)
abbrev W7 (x : List (Int)) : Option MObj:=some (.rows (.int .u16) x)
abbrev M8 (x : List ((Int × (Int × (Int × List (Int)))))) : MV:=.im (.slice (.pair (.int .i64) (.pair (.int .i64) (.pair (.int .i64) (.slice (.int .i16)))))) x
abbrev W9 (x : List (Int)) : Option MObj:=some (.rows (.int .u8) x)
abbrev M10 (x : List (List (Int))) : MV:=.im (.slice (.slice (.int .i32))) x
abbrev W11 (x : List (List (Int))) : Option MObj:=some (.rows (.slice (.int .i16)) x)
abbrev M12 (x : List (Int)) : MV:=.im (.slice (.int .i32)) x
abbrev W13 (x : List (Int)) : Option MObj:=some (.rows (.int .i64) x)
abbrev M14 (x : List (List (Int))) : MV:=.im (.slice (.slice (.int .i16))) x
open Go.Proofs
def ti2 : TI:={ agg:=false,size:=1,bytes:=8,zero:=[.int .i64 0],ik:=some .i64 }
theorem tok2 : tokb Tryz.prog 2 ti2 = true:=by kernel_rfl
def ti3 : TI:={ agg:=false,size:=1,bytes:=8,zero:=[.int .i64 0],ik:=some .i64 }
theorem tok3 : tokb Tryz.prog 3 ti3 = true:=by kernel_rfl
def ti4 : TI:={ agg:=false,size:=1,bytes:=1,zero:=[.bool false],tag:=1 }
theorem tok4 : tokb Tryz.prog 4 ti4 = true:=by kernel_rfl
def ti5 : TI:={ agg:=false,size:=1,bytes:=1,zero:=[.int .u8 0],ik:=some .u8 }
theorem tok5 : tokb Tryz.prog 5 ti5 = true:=by kernel_rfl
def ti9 : TI:={ agg:=false,size:=1,bytes:=16,zero:=[.str ⟨#[]⟩],tag:=7 }
theorem tok9 : tokb Tryz.prog 9 ti9 = true:=by kernel_rfl
def ti21 : TI:={ agg:=false,size:=1,bytes:=4,zero:=[.int .i32 0],ik:=some .i32 }
theorem tok21 : tokb Tryz.prog 21 ti21 = true:=by kernel_rfl
def ti22 : TI:={ agg:=false,size:=1,bytes:=24,zero:=[.nils],elem:=5,esz:=1,slc:=true,ek:=some (.int .u8),eb:=1,tag:=3 }
theorem tok22 : tokb Tryz.prog 22 ti22 = true:=by kernel_rfl
def ti24 : TI:={ agg:=false,size:=1,bytes:=8,zero:=[.nilp],tag:=2 }
theorem tok24 : tokb Tryz.prog 24 ti24 = true:=by kernel_rfl
def ti31 : TI:={ agg:=true,size:=10,bytes:=80,zero:=[.int .i64 0,.int .i64 0,.int .i64 0,.int .i64 0,.int .i64 0,.int .i64 0,.int .i64 0,.int .i64 0,.int .i64 0,.int .i64 0],fields:=[(0,1,false),(1,1,false),(2,1,false),(3,1,false),(4,1,false),(5,1,false),(6,1,false),(7,1,false),(8,1,false),(9,1,false)] }
theorem tok31 : tokb Tryz.prog 31 ti31 = true:=by kernel_rfl
def ti34 : TI:={ agg:=true,size:=2,bytes:=16,zero:=[.int .i64 0,.int .i64 0],fields:=[(0,1,false),(1,1,false)] }
theorem tok34 : tokb Tryz.prog 34 ti34 = true:=by kernel_rfl
def ti35 : TI:={ agg:=false,size:=1,bytes:=24,zero:=[.nils],elem:=43,esz:=4,slc:=true,ek:=some (.pair (.int .i64) (.pair (.int .i64) (.pair (.int .i64) (.slice (.int .i16))))),eb:=48,tag:=3 }
theorem tok35 : tokb Tryz.prog 35 ti35 = true:=by kernel_rfl
def ti39 : TI:={ agg:=false,size:=1,bytes:=8,zero:=[.nilp],tag:=2 }
theorem tok39 : tokb Tryz.prog 39 ti39 = true:=by kernel_rfl
def ti41 : TI:={ agg:=false,size:=1,bytes:=24,zero:=[.nils],elem:=175,esz:=1,slc:=true,ek:=some (.int .i16),eb:=2,tag:=3 }
theorem tok41 : tokb Tryz.prog 41 ti41 = true:=by kernel_rfl
def ti43 : TI:={ agg:=true,size:=4,bytes:=48,zero:=[.int .i64 0,.int .i64 0,.int .i64 0,.nils],fields:=[(0,1,false),(1,1,false),(2,1,false),(3,1,false)] }
theorem tok43 : tokb Tryz.prog 43 ti43 = true:=by kernel_rfl
def ti45 : TI:={ agg:=true,size:=4,bytes:=40,zero:=[.int .i64 0,.int .i64 0,.int .i64 0,.str ⟨#[]⟩],fields:=[(0,1,false),(1,1,false),(2,1,false),(3,1,false)] }
theorem tok45 : tokb Tryz.prog 45 ti45 = true:=by kernel_rfl
def ti48 : TI:={ agg:=false,size:=1,bytes:=8,zero:=[.nilp],tag:=2 }
theorem tok48 : tokb Tryz.prog 48 ti48 = true:=by kernel_rfl
def ti49 : TI:={ agg:=false,size:=1,bytes:=8,zero:=[.nilm],elem:=9,mp:=true }
theorem tok49 : tokb Tryz.prog 49 ti49 = true:=by kernel_rfl
def ti51 : TI:={ agg:=true,size:=7,bytes:=56,zero:=[.nilp,.int .i64 0,.int .i64 0,.int .i64 0,.int .i64 0,.nilm,.int .i64 0],fields:=[(0,1,false),(1,1,false),(2,1,false),(3,1,false),(4,1,false),(5,1,false),(6,1,false)] }
theorem tok51 : tokb Tryz.prog 51 ti51 = true:=by kernel_rfl
def ti61 : TI:={ agg:=false,size:=1,bytes:=4,zero:=[.int .u32 0],ik:=some .u32 }
theorem tok61 : tokb Tryz.prog 61 ti61 = true:=by kernel_rfl
def ti69 : TI:={ agg:=true,size:=3,bytes:=12,zero:=[.int .u32 0,.int .i32 0,.int .u32 0],fields:=[(0,0,true),(0,1,true),(1,2,true)] }
theorem tok69 : tokb Tryz.prog 69 ti69 = true:=by kernel_rfl
def ti71 : TI:={ agg:=true,size:=4,bytes:=40,zero:=[.int .u32 0,.int .i32 0,.int .u32 0,.nils],fields:=[(0,3,true),(3,1,false)] }
theorem tok71 : tokb Tryz.prog 71 ti71 = true:=by kernel_rfl
def ti72 : TI:={ agg:=true,size:=1028,bytes:=10280,zero:=tcs (List.replicate 257 none),elem:=71,esz:=4,alen:=257,eagg:=true,arr:=true }
theorem tok72 : tokb Tryz.prog 72 ti72 = true:=by kernel_rfl
def ti73 : TI:={ agg:=true,size:=516,bytes:=5160,zero:=tcs (List.replicate 129 none),elem:=71,esz:=4,alen:=129,eagg:=true,arr:=true }
theorem tok73 : tokb Tryz.prog 73 ti73 = true:=by kernel_rfl
def ti79 : TI:={ agg:=true,size:=1554,bytes:=15536,zero:=pst (List.replicate 388 none) 0 0,fields:=[(0,1028,true),(1028,516,true),(1544,8,true),(1552,1,true),(1553,1,true)] }
theorem tok79 : tokb Tryz.prog 79 ti79 = true:=by kernel_rfl
def ti86 : TI:={ agg:=false,size:=1,bytes:=16,zero:=[.nili],tag:=5 }
theorem tok86 : tokb Tryz.prog 86 ti86 = true:=by kernel_rfl
def ti90 : TI:={ agg:=true,size:=2,bytes:=24,zero:=[.nili,.int .i64 0],fields:=[(0,1,false),(1,1,false)] }
theorem tok90 : tokb Tryz.prog 90 ti90 = true:=by kernel_rfl
def ti95 : TI:={ agg:=true,size:=3,bytes:=16,zero:=[.int .i64 0,.int .u32 0,.int .u32 0],fields:=[(0,1,false),(1,1,false),(2,1,false)] }
theorem tok95 : tokb Tryz.prog 95 ti95 = true:=by kernel_rfl
def ti102 : TI:={ agg:=false,size:=1,bytes:=8,zero:=[.int .u64 0],ik:=some .u64 }
theorem tok102 : tokb Tryz.prog 102 ti102 = true:=by kernel_rfl
def ti112 : TI:={ agg:=false,size:=1,bytes:=8,zero:=[.nilp],tag:=2 }
theorem tok112 : tokb Tryz.prog 112 ti112 = true:=by kernel_rfl
def ti115 : TI:={ agg:=false,size:=1,bytes:=8,zero:=[.nilp],tag:=2 }
theorem tok115 : tokb Tryz.prog 115 ti115 = true:=by kernel_rfl
def ti116 : TI:={ agg:=false,size:=1,bytes:=24,zero:=[.nils],elem:=161,esz:=1,slc:=true,ek:=some (.slice (.int .i32)),eb:=24,rr:=some (.int .i32),tag:=3 }
theorem tok116 : tokb Tryz.prog 116 ti116 = true:=by kernel_rfl
def ti117 : TI:={ agg:=false,size:=1,bytes:=24,zero:=[.nils],elem:=339,esz:=2,slc:=true,ek:=some (.pair (.int .i64) (.int .i64)),eb:=16,tag:=3 }
theorem tok117 : tokb Tryz.prog 117 ti117 = true:=by kernel_rfl
def ti118 : TI:={ agg:=false,size:=1,bytes:=24,zero:=[.nils],elem:=333,esz:=1,slc:=true,ek:=some (.int .u16),eb:=2,tag:=3 }
theorem tok118 : tokb Tryz.prog 118 ti118 = true:=by kernel_rfl
def ti120 : TI:={ agg:=true,size:=14,bytes:=160,zero:=[.int .i64 0,.int .i64 0,.int .i64 0,.int .i64 0,.int .i64 0,.int .i64 0,.int .i64 0,.int .i64 0,.int .i64 0,.int .i64 0,.nilp,.nils,.nils,.nils],fields:=[(0,10,true),(10,1,false),(11,1,false),(12,1,false),(13,1,false)] }
theorem tok120 : tokb Tryz.prog 120 ti120 = true:=by kernel_rfl
def ti127 : TI:={ agg:=false,size:=1,bytes:=24,zero:=[.nils],elem:=3,esz:=1,slc:=true,ek:=some (.int .i64),eb:=8,tag:=3 }
theorem tok127 : tokb Tryz.prog 127 ti127 = true:=by kernel_rfl
def ti135 : TI:={ agg:=false,size:=1,bytes:=24,zero:=[.nils],elem:=144,esz:=2,slc:=true,tag:=3 }
theorem tok135 : tokb Tryz.prog 135 ti135 = true:=by kernel_rfl
def ti137 : TI:={ agg:=true,size:=11,bytes:=104,zero:=[.int .i64 0,.int .i64 0,.int .i64 0,.int .i64 0,.int .i64 0,.int .i64 0,.int .i64 0,.int .i64 0,.int .i64 0,.int .i64 0,.nils],fields:=[(0,10,true),(10,1,false)] }
theorem tok137 : tokb Tryz.prog 137 ti137 = true:=by kernel_rfl
def ti138 : TI:={ agg:=false,size:=1,bytes:=8,zero:=[.nilp],tag:=2 }
theorem tok138 : tokb Tryz.prog 138 ti138 = true:=by kernel_rfl
def ti141 : TI:={ agg:=false,size:=1,bytes:=8,zero:=[.nilp],tag:=2 }
theorem tok141 : tokb Tryz.prog 141 ti141 = true:=by kernel_rfl
def ti144 : TI:={ agg:=true,size:=2,bytes:=16,zero:=[.nilp,.nilp],fields:=[(0,1,false),(1,1,false)] }
theorem tok144 : tokb Tryz.prog 144 ti144 = true:=by kernel_rfl
def ti145 : TI:={ agg:=false,size:=1,bytes:=24,zero:=[.nils],elem:=4,esz:=1,slc:=true,ek:=some (.bool),eb:=1,tag:=3 }
theorem tok145 : tokb Tryz.prog 145 ti145 = true:=by kernel_rfl
def ti148 : TI:={ agg:=true,size:=4,bytes:=32,zero:=[.int .i64 0,.int .i64 0,.int .i64 0,.int .i64 0],elem:=3,esz:=1,alen:=4,eagg:=false,arr:=true }
theorem tok148 : tokb Tryz.prog 148 ti148 = true:=by kernel_rfl
def ti154 : TI:={ agg:=false,size:=1,bytes:=24,zero:=[.nils],elem:=2,esz:=1,slc:=true,ek:=some (.int .i64),eb:=8,tag:=3 }
theorem tok154 : tokb Tryz.prog 154 ti154 = true:=by kernel_rfl
def ti158 : TI:={ agg:=true,size:=3,bytes:=56,zero:=[.int .i64 0,.nils,.nils],fields:=[(0,1,false),(1,1,false),(2,1,false)] }
theorem tok158 : tokb Tryz.prog 158 ti158 = true:=by kernel_rfl
def ti161 : TI:={ agg:=false,size:=1,bytes:=24,zero:=[.nils],elem:=21,esz:=1,slc:=true,ek:=some (.int .i32),eb:=4,tag:=3 }
theorem tok161 : tokb Tryz.prog 161 ti161 = true:=by kernel_rfl
def ti163 : TI:={ agg:=true,size:=4,bytes:=80,zero:=[.int .i64 0,.nils,.nils,.nils],fields:=[(0,3,true),(3,1,false)] }
theorem tok163 : tokb Tryz.prog 163 ti163 = true:=by kernel_rfl
def ti164 : TI:={ agg:=true,size:=79,bytes:=632,zero:=[.int .i64 0,.int .i64 0,.int .i64 0,.int .i64 0,.int .i64 0,.int .i64 0,.int .i64 0,.int .i64 0,.int .i64 0,.int .i64 0,.int .i64 0,.int .i64 0,.int .i64 0,.int .i64 0,.int .i64 0,.int .i64 0,.int .i64 0,.int .i64 0,.int .i64 0,.int .i64 0,.int .i64 0,.int .i64 0,.int .i64 0,.int .i64 0,.int .i64 0,.int .i64 0,.int .i64 0,.int .i64 0,.int .i64 0,.int .i64 0,.int .i64 0,.int .i64 0,.int .i64 0,.int .i64 0,.int .i64 0,.int .i64 0,.int .i64 0,.int .i64 0,.int .i64 0,.int .i64 0,.int .i64 0,.int .i64 0,.int .i64 0,.int .i64 0,.int .i64 0,.int .i64 0,.int .i64 0,.int .i64 0,.int .i64 0,.int .i64 0,.int .i64 0,.int .i64 0,.int .i64 0,.int .i64 0,.int .i64 0,.int .i64 0,.int .i64 0,.int .i64 0,.int .i64 0,.int .i64 0,.int .i64 0,.int .i64 0,.int .i64 0,.int .i64 0,.int .i64 0,.int .i64 0,.int .i64 0,.int .i64 0,.int .i64 0,.int .i64 0,.int .i64 0,.int .i64 0,.int .i64 0,.int .i64 0,.int .i64 0,.int .i64 0,.int .i64 0,.int .i64 0,.int .i64 0],elem:=2,esz:=1,alen:=79,eagg:=false,arr:=true }
theorem tok164 : tokb Tryz.prog 164 ti164 = true:=by kernel_rfl
def ti166 : TI:={ agg:=true,size:=79,bytes:=632,zero:=[.int .i64 0,.int .i64 0,.int .i64 0,.int .i64 0,.int .i64 0,.int .i64 0,.int .i64 0,.int .i64 0,.int .i64 0,.int .i64 0,.int .i64 0,.int .i64 0,.int .i64 0,.int .i64 0,.int .i64 0,.int .i64 0,.int .i64 0,.int .i64 0,.int .i64 0,.int .i64 0,.int .i64 0,.int .i64 0,.int .i64 0,.int .i64 0,.int .i64 0,.int .i64 0,.int .i64 0,.int .i64 0,.int .i64 0,.int .i64 0,.int .i64 0,.int .i64 0,.int .i64 0,.int .i64 0,.int .i64 0,.int .i64 0,.int .i64 0,.int .i64 0,.int .i64 0,.int .i64 0,.int .i64 0,.int .i64 0,.int .i64 0,.int .i64 0,.int .i64 0,.int .i64 0,.int .i64 0,.int .i64 0,.int .i64 0,.int .i64 0,.int .i64 0,.int .i64 0,.int .i64 0,.int .i64 0,.int .i64 0,.int .i64 0,.int .i64 0,.int .i64 0,.int .i64 0,.int .i64 0,.int .i64 0,.int .i64 0,.int .i64 0,.int .i64 0,.int .i64 0,.int .i64 0,.int .i64 0,.int .i64 0,.int .i64 0,.int .i64 0,.int .i64 0,.int .i64 0,.int .i64 0,.int .i64 0,.int .i64 0,.int .i64 0,.int .i64 0,.int .i64 0,.int .i64 0],fields:=[(0,79,true)] }
theorem tok166 : tokb Tryz.prog 166 ti166 = true:=by kernel_rfl
def ti168 : TI:={ agg:=true,size:=79,bytes:=632,zero:=[.int .i64 0,.int .i64 0,.int .i64 0,.int .i64 0,.int .i64 0,.int .i64 0,.int .i64 0,.int .i64 0,.int .i64 0,.int .i64 0,.int .i64 0,.int .i64 0,.int .i64 0,.int .i64 0,.int .i64 0,.int .i64 0,.int .i64 0,.int .i64 0,.int .i64 0,.int .i64 0,.int .i64 0,.int .i64 0,.int .i64 0,.int .i64 0,.int .i64 0,.int .i64 0,.int .i64 0,.int .i64 0,.int .i64 0,.int .i64 0,.int .i64 0,.int .i64 0,.int .i64 0,.int .i64 0,.int .i64 0,.int .i64 0,.int .i64 0,.int .i64 0,.int .i64 0,.int .i64 0,.int .i64 0,.int .i64 0,.int .i64 0,.int .i64 0,.int .i64 0,.int .i64 0,.int .i64 0,.int .i64 0,.int .i64 0,.int .i64 0,.int .i64 0,.int .i64 0,.int .i64 0,.int .i64 0,.int .i64 0,.int .i64 0,.int .i64 0,.int .i64 0,.int .i64 0,.int .i64 0,.int .i64 0,.int .i64 0,.int .i64 0,.int .i64 0,.int .i64 0,.int .i64 0,.int .i64 0,.int .i64 0,.int .i64 0,.int .i64 0,.int .i64 0,.int .i64 0,.int .i64 0,.int .i64 0,.int .i64 0,.int .i64 0,.int .i64 0,.int .i64 0,.int .i64 0],fields:=[(0,79,true)] }
theorem tok168 : tokb Tryz.prog 168 ti168 = true:=by kernel_rfl
def ti174 : TI:={ agg:=false,size:=1,bytes:=8,zero:=[.nilp],tag:=2 }
theorem tok174 : tokb Tryz.prog 174 ti174 = true:=by kernel_rfl
def ti175 : TI:={ agg:=false,size:=1,bytes:=2,zero:=[.int .i16 0],ik:=some .i16 }
theorem tok175 : tokb Tryz.prog 175 ti175 = true:=by kernel_rfl
def ti177 : TI:={ agg:=false,size:=1,bytes:=8,zero:=[.nilf],tag:=4 }
theorem tok177 : tokb Tryz.prog 177 ti177 = true:=by kernel_rfl
def ti196 : TI:={ agg:=false,size:=1,bytes:=8,zero:=[.int .u64 0],ik:=some .u64 }
theorem tok196 : tokb Tryz.prog 196 ti196 = true:=by kernel_rfl
def ti199 : TI:={ agg:=true,size:=4,bytes:=32,zero:=[.int .u64 0,.int .u64 0,.int .u64 0,.int .u64 0],elem:=196,esz:=1,alen:=4,eagg:=false,arr:=true }
theorem tok199 : tokb Tryz.prog 199 ti199 = true:=by kernel_rfl
def ti247 : TI:={ agg:=false,size:=1,bytes:=24,zero:=[.nils],elem:=41,esz:=1,slc:=true,ek:=some (.slice (.int .i16)),eb:=24,rr:=some (.int .i16),tag:=3 }
theorem tok247 : tokb Tryz.prog 247 ti247 = true:=by kernel_rfl
def ti333 : TI:={ agg:=false,size:=1,bytes:=2,zero:=[.int .u16 0],ik:=some .u16 }
theorem tok333 : tokb Tryz.prog 333 ti333 = true:=by kernel_rfl
def ti339 : TI:={ agg:=true,size:=2,bytes:=16,zero:=[.int .i64 0,.int .i64 0],fields:=[(0,1,false),(1,1,false)],eqf:=true }
theorem tok339 : tokb Tryz.prog 339 ti339 = true:=by kernel_rfl
def ti423 : TI:={ agg:=false,size:=1,bytes:=24,zero:=[.nils],elem:=154,esz:=1,slc:=true,ek:=some (.slice (.int .i64)),eb:=24,rr:=some (.int .i64),tag:=3 }
theorem tok423 : tokb Tryz.prog 423 ti423 = true:=by kernel_rfl
def tab : Nat → Option TI
  | 2=>some ti2
  | 3=>some ti3
  | 4=>some ti4
  | 5=>some ti5
  | 9=>some ti9
  | 21=>some ti21
  | 22=>some ti22
  | 24=>some ti24
  | 31=>some ti31
  | 34=>some ti34
  | 35=>some ti35
  | 39=>some ti39
  | 41=>some ti41
  | 43=>some ti43
  | 45=>some ti45
  | 48=>some ti48
  | 49=>some ti49
  | 51=>some ti51
  | 61=>some ti61
  | 69=>some ti69
  | 71=>some ti71
  | 72=>some ti72
  | 73=>some ti73
  | 79=>some ti79
  | 86=>some ti86
  | 90=>some ti90
  | 95=>some ti95
  | 102=>some ti102
  | 112=>some ti112
  | 115=>some ti115
  | 116=>some ti116
  | 117=>some ti117
  | 118=>some ti118
  | 120=>some ti120
  | 127=>some ti127
  | 135=>some ti135
  | 137=>some ti137
  | 138=>some ti138
  | 141=>some ti141
  | 144=>some ti144
  | 145=>some ti145
  | 148=>some ti148
  | 154=>some ti154
  | 158=>some ti158
  | 161=>some ti161
  | 163=>some ti163
  | 164=>some ti164
  | 166=>some ti166
  | 168=>some ti168
  | 174=>some ti174
  | 175=>some ti175
  | 177=>some ti177
  | 196=>some ti196
  | 199=>some ti199
  | 247=>some ti247
  | 333=>some ti333
  | 339=>some ti339
  | 423=>some ti423
  | _=>none
theorem tab_ok (t : Nat) (i : TI) (h : tab t = some i) : TOK Tryz.prog t i:=by
 unfold tab at h
 split at h
 ·cases h; exact tok_of tok2
 ·cases h; exact tok_of tok3
 ·cases h; exact tok_of tok4
 ·cases h; exact tok_of tok5
 ·cases h; exact tok_of tok9
 ·cases h; exact tok_of tok21
 ·cases h; exact tok_of tok22
 ·cases h; exact tok_of tok24
 ·cases h; exact tok_of tok31
 ·cases h; exact tok_of tok34
 ·cases h; exact tok_of tok35
 ·cases h; exact tok_of tok39
 ·cases h; exact tok_of tok41
 ·cases h; exact tok_of tok43
 ·cases h; exact tok_of tok45
 ·cases h; exact tok_of tok48
 ·cases h; exact tok_of tok49
 ·cases h; exact tok_of tok51
 ·cases h; exact tok_of tok61
 ·cases h; exact tok_of tok69
 ·cases h; exact tok_of tok71
 ·cases h; exact tok_of tok72
 ·cases h; exact tok_of tok73
 ·cases h; exact tok_of tok79
 ·cases h; exact tok_of tok86
 ·cases h; exact tok_of tok90
 ·cases h; exact tok_of tok95
 ·cases h; exact tok_of tok102
 ·cases h; exact tok_of tok112
 ·cases h; exact tok_of tok115
 ·cases h; exact tok_of tok116
 ·cases h; exact tok_of tok117
 ·cases h; exact tok_of tok118
 ·cases h; exact tok_of tok120
 ·cases h; exact tok_of tok127
 ·cases h; exact tok_of tok135
 ·cases h; exact tok_of tok137
 ·cases h; exact tok_of tok138
 ·cases h; exact tok_of tok141
 ·cases h; exact tok_of tok144
 ·cases h; exact tok_of tok145
 ·cases h; exact tok_of tok148
 ·cases h; exact tok_of tok154
 ·cases h; exact tok_of tok158
 ·cases h; exact tok_of tok161
 ·cases h; exact tok_of tok163
 ·cases h; exact tok_of tok164
 ·cases h; exact tok_of tok166
 ·cases h; exact tok_of tok168
 ·cases h; exact tok_of tok174
 ·cases h; exact tok_of tok175
 ·cases h; exact tok_of tok177
 ·cases h; exact tok_of tok196
 ·cases h; exact tok_of tok199
 ·cases h; exact tok_of tok247
 ·cases h; exact tok_of tok333
 ·cases h; exact tok_of tok339
 ·cases h; exact tok_of tok423
 ·cases h
theorem eqf339 : EqF Tryz.prog 339 ti339:=eqf_of (by kernel_rfl)
theorem tab_eq (t : Nat) (i : TI) (h : tab t = some i) (e : i.eqf = true) : EqF Tryz.prog t i:=by
 unfold tab at h
 split at h
 ·cases h; cases e
 ·cases h; cases e
 ·cases h; cases e
 ·cases h; cases e
 ·cases h; cases e
 ·cases h; cases e
 ·cases h; cases e
 ·cases h; cases e
 ·cases h; cases e
 ·cases h; cases e
 ·cases h; cases e
 ·cases h; cases e
 ·cases h; cases e
 ·cases h; cases e
 ·cases h; cases e
 ·cases h; cases e
 ·cases h; cases e
 ·cases h; cases e
 ·cases h; cases e
 ·cases h; cases e
 ·cases h; cases e
 ·cases h; cases e
 ·cases h; cases e
 ·cases h; cases e
 ·cases h; cases e
 ·cases h; cases e
 ·cases h; cases e
 ·cases h; cases e
 ·cases h; cases e
 ·cases h; cases e
 ·cases h; cases e
 ·cases h; cases e
 ·cases h; cases e
 ·cases h; cases e
 ·cases h; cases e
 ·cases h; cases e
 ·cases h; cases e
 ·cases h; cases e
 ·cases h; cases e
 ·cases h; cases e
 ·cases h; cases e
 ·cases h; cases e
 ·cases h; cases e
 ·cases h; cases e
 ·cases h; cases e
 ·cases h; cases e
 ·cases h; cases e
 ·cases h; cases e
 ·cases h; cases e
 ·cases h; cases e
 ·cases h; cases e
 ·cases h; cases e
 ·cases h; cases e
 ·cases h; cases e
 ·cases h; cases e
 ·cases h; cases e
 ·cases h; exact eqf339
 ·cases h; cases e
 ·cases h
def tiH116 : TI:={ agg:=false,size:=1,bytes:=24,zero:=[.nils],elem:=161,esz:=1,slc:=true,tag:=3 }
theorem tokH116 : tokb Tryz.prog 116 tiH116 = true:=by kernel_rfl
def tiH247 : TI:={ agg:=false,size:=1,bytes:=24,zero:=[.nils],elem:=41,esz:=1,slc:=true,tag:=3 }
theorem tokH247 : tokb Tryz.prog 247 tiH247 = true:=by kernel_rfl
def tiH423 : TI:={ agg:=false,size:=1,bytes:=24,zero:=[.nils],elem:=154,esz:=1,slc:=true,tag:=3 }
theorem tokH423 : tokb Tryz.prog 423 tiH423 = true:=by kernel_rfl
def tabH : Nat → Option TI
  | 2=>some ti2
  | 3=>some ti3
  | 4=>some ti4
  | 5=>some ti5
  | 9=>some ti9
  | 21=>some ti21
  | 22=>some ti22
  | 24=>some ti24
  | 31=>some ti31
  | 34=>some ti34
  | 35=>some ti35
  | 39=>some ti39
  | 41=>some ti41
  | 43=>some ti43
  | 45=>some ti45
  | 48=>some ti48
  | 49=>some ti49
  | 51=>some ti51
  | 61=>some ti61
  | 69=>some ti69
  | 71=>some ti71
  | 72=>some ti72
  | 73=>some ti73
  | 79=>some ti79
  | 86=>some ti86
  | 90=>some ti90
  | 95=>some ti95
  | 102=>some ti102
  | 112=>some ti112
  | 115=>some ti115
  | 116=>some tiH116
  | 117=>some ti117
  | 118=>some ti118
  | 120=>some ti120
  | 127=>some ti127
  | 135=>some ti135
  | 137=>some ti137
  | 138=>some ti138
  | 141=>some ti141
  | 144=>some ti144
  | 145=>some ti145
  | 148=>some ti148
  | 154=>some ti154
  | 158=>some ti158
  | 161=>some ti161
  | 163=>some ti163
  | 164=>some ti164
  | 166=>some ti166
  | 168=>some ti168
  | 174=>some ti174
  | 175=>some ti175
  | 177=>some ti177
  | 196=>some ti196
  | 199=>some ti199
  | 247=>some tiH247
  | 333=>some ti333
  | 339=>some ti339
  | 423=>some tiH423
  | _=>none
theorem tabH_ok (t : Nat) (i : TI) (h : tabH t = some i) : TOK Tryz.prog t i:=by
 unfold tabH at h
 split at h
 ·cases h; exact tok_of tok2
 ·cases h; exact tok_of tok3
 ·cases h; exact tok_of tok4
 ·cases h; exact tok_of tok5
 ·cases h; exact tok_of tok9
 ·cases h; exact tok_of tok21
 ·cases h; exact tok_of tok22
 ·cases h; exact tok_of tok24
 ·cases h; exact tok_of tok31
 ·cases h; exact tok_of tok34
 ·cases h; exact tok_of tok35
 ·cases h; exact tok_of tok39
 ·cases h; exact tok_of tok41
 ·cases h; exact tok_of tok43
 ·cases h; exact tok_of tok45
 ·cases h; exact tok_of tok48
 ·cases h; exact tok_of tok49
 ·cases h; exact tok_of tok51
 ·cases h; exact tok_of tok61
 ·cases h; exact tok_of tok69
 ·cases h; exact tok_of tok71
 ·cases h; exact tok_of tok72
 ·cases h; exact tok_of tok73
 ·cases h; exact tok_of tok79
 ·cases h; exact tok_of tok86
 ·cases h; exact tok_of tok90
 ·cases h; exact tok_of tok95
 ·cases h; exact tok_of tok102
 ·cases h; exact tok_of tok112
 ·cases h; exact tok_of tok115
 ·cases h; exact tok_of tokH116
 ·cases h; exact tok_of tok117
 ·cases h; exact tok_of tok118
 ·cases h; exact tok_of tok120
 ·cases h; exact tok_of tok127
 ·cases h; exact tok_of tok135
 ·cases h; exact tok_of tok137
 ·cases h; exact tok_of tok138
 ·cases h; exact tok_of tok141
 ·cases h; exact tok_of tok144
 ·cases h; exact tok_of tok145
 ·cases h; exact tok_of tok148
 ·cases h; exact tok_of tok154
 ·cases h; exact tok_of tok158
 ·cases h; exact tok_of tok161
 ·cases h; exact tok_of tok163
 ·cases h; exact tok_of tok164
 ·cases h; exact tok_of tok166
 ·cases h; exact tok_of tok168
 ·cases h; exact tok_of tok174
 ·cases h; exact tok_of tok175
 ·cases h; exact tok_of tok177
 ·cases h; exact tok_of tok196
 ·cases h; exact tok_of tok199
 ·cases h; exact tok_of tokH247
 ·cases h; exact tok_of tok333
 ·cases h; exact tok_of tok339
 ·cases h; exact tok_of tokH423
 ·cases h
theorem tabH_eq (t : Nat) (i : TI) (h : tabH t = some i) (e : i.eqf = true) : EqF Tryz.prog t i:=by
 unfold tabH at h
 split at h
 ·cases h; cases e
 ·cases h; cases e
 ·cases h; cases e
 ·cases h; cases e
 ·cases h; cases e
 ·cases h; cases e
 ·cases h; cases e
 ·cases h; cases e
 ·cases h; cases e
 ·cases h; cases e
 ·cases h; cases e
 ·cases h; cases e
 ·cases h; cases e
 ·cases h; cases e
 ·cases h; cases e
 ·cases h; cases e
 ·cases h; cases e
 ·cases h; cases e
 ·cases h; cases e
 ·cases h; cases e
 ·cases h; cases e
 ·cases h; cases e
 ·cases h; cases e
 ·cases h; cases e
 ·cases h; cases e
 ·cases h; cases e
 ·cases h; cases e
 ·cases h; cases e
 ·cases h; cases e
 ·cases h; cases e
 ·cases h; cases e
 ·cases h; cases e
 ·cases h; cases e
 ·cases h; cases e
 ·cases h; cases e
 ·cases h; cases e
 ·cases h; cases e
 ·cases h; cases e
 ·cases h; cases e
 ·cases h; cases e
 ·cases h; cases e
 ·cases h; cases e
 ·cases h; cases e
 ·cases h; cases e
 ·cases h; cases e
 ·cases h; cases e
 ·cases h; cases e
 ·cases h; cases e
 ·cases h; cases e
 ·cases h; cases e
 ·cases h; cases e
 ·cases h; cases e
 ·cases h; cases e
 ·cases h; cases e
 ·cases h; cases e
 ·cases h; cases e
 ·cases h; exact eqf339
 ·cases h; cases e
 ·cases h
def envH : Env Tryz.prog:=⟨tabH,tabH_ok,tabH_eq⟩
def tiD116 : TI:={ agg:=false,size:=1,bytes:=24,zero:=[.nils],elem:=161,esz:=1,slc:=true,ek:=some (.slice (.int .i32)),eb:=24,tag:=3 }
theorem tokD116 : tokb Tryz.prog 116 tiD116 = true:=by kernel_rfl
def tiD247 : TI:={ agg:=false,size:=1,bytes:=24,zero:=[.nils],elem:=41,esz:=1,slc:=true,ek:=some (.slice (.int .i16)),eb:=24,tag:=3 }
theorem tokD247 : tokb Tryz.prog 247 tiD247 = true:=by kernel_rfl
def tiD423 : TI:={ agg:=false,size:=1,bytes:=24,zero:=[.nils],elem:=154,esz:=1,slc:=true,ek:=some (.slice (.int .i64)),eb:=24,tag:=3 }
theorem tokD423 : tokb Tryz.prog 423 tiD423 = true:=by kernel_rfl
def tabD : Nat → Option TI
  | 2=>some ti2
  | 3=>some ti3
  | 4=>some ti4
  | 5=>some ti5
  | 9=>some ti9
  | 21=>some ti21
  | 22=>some ti22
  | 24=>some ti24
  | 31=>some ti31
  | 34=>some ti34
  | 35=>some ti35
  | 39=>some ti39
  | 41=>some ti41
  | 43=>some ti43
  | 45=>some ti45
  | 48=>some ti48
  | 49=>some ti49
  | 51=>some ti51
  | 61=>some ti61
  | 69=>some ti69
  | 71=>some ti71
  | 72=>some ti72
  | 73=>some ti73
  | 79=>some ti79
  | 86=>some ti86
  | 90=>some ti90
  | 95=>some ti95
  | 102=>some ti102
  | 112=>some ti112
  | 115=>some ti115
  | 116=>some tiD116
  | 117=>some ti117
  | 118=>some ti118
  | 120=>some ti120
  | 127=>some ti127
  | 135=>some ti135
  | 137=>some ti137
  | 138=>some ti138
  | 141=>some ti141
  | 144=>some ti144
  | 145=>some ti145
  | 148=>some ti148
  | 154=>some ti154
  | 158=>some ti158
  | 161=>some ti161
  | 163=>some ti163
  | 164=>some ti164
  | 166=>some ti166
  | 168=>some ti168
  | 174=>some ti174
  | 175=>some ti175
  | 177=>some ti177
  | 196=>some ti196
  | 199=>some ti199
  | 247=>some tiD247
  | 333=>some ti333
  | 339=>some ti339
  | 423=>some tiD423
  | _=>none
theorem tabD_ok (t : Nat) (i : TI) (h : tabD t = some i) : TOK Tryz.prog t i:=by
 unfold tabD at h
 split at h
 ·cases h; exact tok_of tok2
 ·cases h; exact tok_of tok3
 ·cases h; exact tok_of tok4
 ·cases h; exact tok_of tok5
 ·cases h; exact tok_of tok9
 ·cases h; exact tok_of tok21
 ·cases h; exact tok_of tok22
 ·cases h; exact tok_of tok24
 ·cases h; exact tok_of tok31
 ·cases h; exact tok_of tok34
 ·cases h; exact tok_of tok35
 ·cases h; exact tok_of tok39
 ·cases h; exact tok_of tok41
 ·cases h; exact tok_of tok43
 ·cases h; exact tok_of tok45
 ·cases h; exact tok_of tok48
 ·cases h; exact tok_of tok49
 ·cases h; exact tok_of tok51
 ·cases h; exact tok_of tok61
 ·cases h; exact tok_of tok69
 ·cases h; exact tok_of tok71
 ·cases h; exact tok_of tok72
 ·cases h; exact tok_of tok73
 ·cases h; exact tok_of tok79
 ·cases h; exact tok_of tok86
 ·cases h; exact tok_of tok90
 ·cases h; exact tok_of tok95
 ·cases h; exact tok_of tok102
 ·cases h; exact tok_of tok112
 ·cases h; exact tok_of tok115
 ·cases h; exact tok_of tokD116
 ·cases h; exact tok_of tok117
 ·cases h; exact tok_of tok118
 ·cases h; exact tok_of tok120
 ·cases h; exact tok_of tok127
 ·cases h; exact tok_of tok135
 ·cases h; exact tok_of tok137
 ·cases h; exact tok_of tok138
 ·cases h; exact tok_of tok141
 ·cases h; exact tok_of tok144
 ·cases h; exact tok_of tok145
 ·cases h; exact tok_of tok148
 ·cases h; exact tok_of tok154
 ·cases h; exact tok_of tok158
 ·cases h; exact tok_of tok161
 ·cases h; exact tok_of tok163
 ·cases h; exact tok_of tok164
 ·cases h; exact tok_of tok166
 ·cases h; exact tok_of tok168
 ·cases h; exact tok_of tok174
 ·cases h; exact tok_of tok175
 ·cases h; exact tok_of tok177
 ·cases h; exact tok_of tok196
 ·cases h; exact tok_of tok199
 ·cases h; exact tok_of tokD247
 ·cases h; exact tok_of tok333
 ·cases h; exact tok_of tok339
 ·cases h; exact tok_of tokD423
 ·cases h
theorem tabD_eq (t : Nat) (i : TI) (h : tabD t = some i) (e : i.eqf = true) : EqF Tryz.prog t i:=by
 unfold tabD at h
 split at h
 ·cases h; cases e
 ·cases h; cases e
 ·cases h; cases e
 ·cases h; cases e
 ·cases h; cases e
 ·cases h; cases e
 ·cases h; cases e
 ·cases h; cases e
 ·cases h; cases e
 ·cases h; cases e
 ·cases h; cases e
 ·cases h; cases e
 ·cases h; cases e
 ·cases h; cases e
 ·cases h; cases e
 ·cases h; cases e
 ·cases h; cases e
 ·cases h; cases e
 ·cases h; cases e
 ·cases h; cases e
 ·cases h; cases e
 ·cases h; cases e
 ·cases h; cases e
 ·cases h; cases e
 ·cases h; cases e
 ·cases h; cases e
 ·cases h; cases e
 ·cases h; cases e
 ·cases h; cases e
 ·cases h; cases e
 ·cases h; cases e
 ·cases h; cases e
 ·cases h; cases e
 ·cases h; cases e
 ·cases h; cases e
 ·cases h; cases e
 ·cases h; cases e
 ·cases h; cases e
 ·cases h; cases e
 ·cases h; cases e
 ·cases h; cases e
 ·cases h; cases e
 ·cases h; cases e
 ·cases h; cases e
 ·cases h; cases e
 ·cases h; cases e
 ·cases h; cases e
 ·cases h; cases e
 ·cases h; cases e
 ·cases h; cases e
 ·cases h; cases e
 ·cases h; cases e
 ·cases h; cases e
 ·cases h; cases e
 ·cases h; cases e
 ·cases h; cases e
 ·cases h; exact eqf339
 ·cases h; cases e
 ·cases h
def envD : Env Tryz.prog:=⟨tabD,tabD_ok,tabD_eq⟩
theorem tv : True:=trivial
def env : Env Tryz.prog:=⟨tab,tab_ok,tab_eq⟩
section
variable {Γ : Gd} {N : Nat} {Q : Exit → Act → World → Prop} {A A' : List (Nat × MV)} {L L' : List (Nat × Option MObj)}
theorem zr {y : Code} {id : Nat} {l : List Oper} (h : TL Tryz.prog Γ N l.toArray (Exit.then (fun a w=>y.wp Tryz.prog Q a w) Q) l A L) : TC Tryz.prog Γ N (.seq (.region id l.toArray false) y) Q A L:=TC_seq (TC_reg h)
theorem zg {Q' : Exit → Act → World → Prop} {y : Code} {id : Nat} {l : List Oper} (h : TL Tryz.prog Γ N l.toArray (Exit.then (fun a w=>y.wp Tryz.prog Q a w) Q) l A L) : TE Γ N (Exit.then (fun a w=>(Code.seq (.region id l.toArray false) y).wp Tryz.prog Q a w) Q' .normal) A L:=TE_go (zr h)
theorem ze {Q' : Exit → Act → World → Prop} {ops : Array Oper} {c : Code} (h : TC Tryz.prog Γ N c Q A L) : TL Tryz.prog Γ N ops (Exit.then (fun a w=>c.wp Tryz.prog Q a w) Q') [] A L:=TL_end (TE_go h)
theorem zn {Q' : Exit → Act → World → Prop} {ops : Array Oper} {y : Code} {id : Nat} {l : List Oper} (h : TL Tryz.prog Γ N l.toArray (Exit.then (fun a w=>y.wp Tryz.prog Q a w) Q) l A L) : TL Tryz.prog Γ N ops (Exit.then (fun a w=>(Code.seq (.region id l.toArray false) y).wp Tryz.prog Q a w) Q') [] A L:=TL_end (zg h)
theorem zm {f : Act → World → Prop} {ops : Array Oper} (h : TE Γ N f A L) : TL Tryz.prog Γ N ops (Exit.then f Q) [] A L:=TL_end (tsn h)
theorem zt {Q' : Exit → Act → World → Prop} {id : Nat} {l : List Oper} (h : TL Tryz.prog Γ N l.toArray Q l A L) : TE Γ N (Exit.then (fun a w=>(Code.region id l.toArray false).wp Tryz.prog Q a w) Q' .normal) A L:=TE_go (TC_reg h)
theorem zu {Q' : Exit → Act → World → Prop} (h : TE Γ N (Q .ret) A L) : TE Γ N (Exit.then (fun a w=>Code.ret.wp Tryz.prog Q a w) Q' .normal) A L:=TE_go (TC_ret h)
theorem zk {Q' : Exit → Act → World → Prop} {c : Code} (h : TC Tryz.prog Γ N c Q A L) : TC Tryz.prog Γ N .skip (Exit.then (fun a w=>c.wp Tryz.prog Q a w) Q') A L:=TC_skip (TE_go h)
theorem zs (n : Nat) : n < n + 1:=Nat.lt_succ_self n
theorem zv {ops : Array Oper} (n : Nat) {l l' : List Oper} {C : Prop} (h : evalN env.tab N ops n l A L = some (l',A',L',C)) (hC : C) (k : TL Tryz.prog Γ N ops Q l' A' L') : TL Tryz.prog Γ N ops Q l A L:=TL_ev env n h hC k
theorem zj {r : Rg} {G : Prop} {ex : Nat → List Nat} {l : List De} {n : Nat} {δ : De} {C : Prop} (n' : Nat) (hn' : n' = n + 1) (hn : Nat.ble (n + 1) r.ops.size = true) (h : evalV env.tab N r (viewA2 r (fnR n l) A n) (viewL2 r ex (fnR n l) L n) n = some (δ,C)) (hC : C) (k : AJR Tryz.prog Γ N Q r ex A L G n' (δ :: l)) : AJR Tryz.prog Γ N Q r ex A L G n l:=AJR_ev env n' hn' (Nat.le_of_ble_eq_true hn) h hC k
theorem zd {ops : Array Oper} (a b c d : List (List Nat)) {id : Nat} (hr : (⟨ops,fun i=>a.getD i [],fun i=>b.getD i [],fun i=>c.getD i []⟩ : Rg).ok = true) (hx : exB ⟨ops,fun i=>a.getD i [],fun i=>b.getD i [],fun i=>c.getD i []⟩ (fun i=>d.getD i []) A = true)
  (h : AJR Tryz.prog Γ N Q ⟨ops,fun i=>a.getD i [],fun i=>b.getD i [],fun i=>c.getD i []⟩ (fun i=>d.getD i []) A L (TC Tryz.prog Γ N (.region id ops true) Q A L) 0 []) : TC Tryz.prog Γ N (.region id ops true) Q A L:=TC_drawR _ _ hr hx h
end
def fl : List Nat:=[3,4,5,6,7,8,9,10,11,12,13,15,16,17,18,22,23,25,26,28,29,31,32,34,36,37,38,39,43,44,45,46,47,48,50,51,53,54,55,56,59,60,61,62,63,64,65,66,67,68,69,70,71,72,73,74,75,76,78,79,80,81,83,135,138,150,184,185,213,214,215,217,218,219,220,223,224,225,226,238,239,240,268,269,270,271,294]
theorem fl_ok : fl.all (fun f=>fnb Tryz.prog f) = true:=by kernel_rfl
theorem fb {f : FuncId} (h : fl.contains f = true) : fnb Tryz.prog f = true:=List.all_eq_true.1 fl_ok f (List.contains_iff_mem.1 h)
section
variable {Γ : Gd} {N : Nat} {Q : Exit → Act → World → Prop} {A A' : List (Nat × MV)} {L L' : List (Nat × Option MObj)} {γ : Type} {R : Act → World → Prop}
theorem cC {c : Operand} {x y : Code} {b : Bool} {u v : Option γ} {z : γ} (h : (bif b then u else v) = some z) (ht : u = some z → TC Tryz.prog Γ N x Q A L) (hf : v = some z → TC Tryz.prog Γ N y Q A L) (hc : opd A c = some (.bool b):=by exact rfl) : TC Tryz.prog Γ N (.cond c x y) Q A L:=TC_cond hc (fun e=>ht (bif_t h e)) (fun e=>hf (bif_f h e))
theorem cT {c : Operand} {x y : Code} (h : TC Tryz.prog Γ N x Q A L) (hc : opd A c = some (.bool true):=by exact rfl) : TC Tryz.prog Γ N (.cond c x y) Q A L:=TC_cond hc (fun _=>h) (fun e=>(tff e).elim)
theorem cF {c : Operand} {x y : Code} (h : TC Tryz.prog Γ N y Q A L) (hc : opd A c = some (.bool false):=by exact rfl) : TC Tryz.prog Γ N (.cond c x y) Q A L:=TC_cond hc (fun e=>(ftf e).elim) (fun _=>h)
theorem tce {c : Code} (h : TE Γ N (fun a w=>c.wp Tryz.prog Q a w) A L) : TC Tryz.prog Γ N c Q A L:=h
theorem ect {c : Code} (h : TC Tryz.prog Γ N c Q A L) : TE Γ N (fun a w=>c.wp Tryz.prog Q a w) A L:=h
theorem rE (A' : List (Nat × MV)) (L' : List (Nat × Option MObj)) (l : List (Nat × Nat)) (h : TE Γ N R A' L') (hA : SubAr (sg l) A' A:=by (repeat' (first | exact trivial | refine And.intro rfl ?_))) (hL : SubLr (sg l) L' L:=by (repeat' (first | exact trivial | refine And.intro rfl ?_))) (hb : sgB l (keysO L') = true:=by exact rfl) : TE Γ N R A L:=TE_renw l hA hL hb h
theorem rC {c : Code} (A' : List (Nat × MV)) (L' : List (Nat × Option MObj)) (l : List (Nat × Nat)) (h : TC Tryz.prog Γ N c Q A' L') (hA : SubAr (sg l) A' A:=by (repeat' (first | exact trivial | refine And.intro rfl ?_))) (hL : SubLr (sg l) L' L:=by (repeat' (first | exact trivial | refine And.intro rfl ?_))) (hb : sgB l (keysO L') = true:=by exact rfl) : TC Tryz.prog Γ N c Q A L:=TC_renw l hA hL hb h
theorem zR {fn : Func} {res : MV} {Lc : List (Nat × Option MObj)} {C : Prop} (hr : resM env.tab A L fn.results.toList = some (res,C)) (hC : C:=by (repeat' (first | exact trivial | refine And.intro ?_ ?_ | decide | assumption | exact rfl))) (hL : SubL Lc L:=by (repeat' (first | exact trivial | refine And.intro (.inr rfl) ?_ | refine And.intro (.inl rfl) ?_))) : TE Γ N (bodyPost Tryz.prog fn (FnPost Γ res Lc) .ret) A L:=TE_ret env hr hC hL
theorem zN {fn : Func} {res : MV} {Lc : List (Nat × Option MObj)} {C : Prop} (hr : resM env.tab A L fn.results.toList = some (res,C)) (hC : C:=by (repeat' (first | exact trivial | refine And.intro ?_ ?_ | decide | assumption | exact rfl))) (hL : SubL Lc L:=by (repeat' (first | exact trivial | refine And.intro (.inr rfl) ?_ | refine And.intro (.inl rfl) ?_))) : TE Γ N (bodyPost Tryz.prog fn (FnPost Γ res Lc) .normal) A L:=TE_end env hr hC hL
theorem cB {ops : Array Oper} {o : Oper} {l : List Oper} {f : FuncId} {xs ys : List MV} {Lc Lc' : List (Nat × Option MObj)} {res : MV} {C : Prop} (π : List (Nat × Nat)) (hF : Fn Tryz.prog f xs Lc res Lc') (h : calleeM A o.op = some (f,ys,C)) (hys : ys = MV.renL (sg π) xs) (k : TL Tryz.prog Γ N ops Q l (addL o.dst (res.ren (sg π)) A) (renO (sg π) Lc' ++ L)) (hf : fl.contains f = true:=by exact rfl) (hC : C:=by (repeat' (first | exact trivial | refine And.intro ?_ ?_ | decide | assumption | exact rfl))) (hs : SubL (renO (sg π) Lc) L:=by (repeat' (first | exact trivial | refine And.intro (.inr rfl) ?_ | refine And.intro (.inl rfl) ?_))) (hb : callB (sg π) N o.dst o.guard.isNone A L Lc Lc' res = true:=by exact rfl) : TL Tryz.prog Γ N ops Q (o :: l) A L:=TL_callB π hF (fb hf) h hC hys hs hb k
end
section
variable {Γ : Gd} {N : Nat} {Q : Exit → Act → World → Prop} {A : List (Nat × MV)} {L : List (Nat × Option MObj)} {r : Rg} {G : Prop} {ex : Nat → List Nat} {l : List De} {n : Nat}
theorem jU {y : MV} {j dj : Nat} {o oj : Oper} {want : Bool} {d : Nat} (n' : Nat) (ho : r.ops[n]? = some o) (hg : o.guard = some (j,want)) (hj : r.ops[j]? = some oj) (hdj : oj.dst = some dj) (hv : get (viewA2 r (fnR n l) A n) dj = some (.cnd false y)) (hd : o.dst = some d) (k : AJR Tryz.prog Γ N Q r ex A L G n' (([(d,.cnd false (.bool false))],[]) :: l)) (hdN : d < N:=by decide) (hn' : n' = n + 1:=by exact rfl) (hn : Nat.ble (n + 1) r.ops.size = true:=by exact rfl) : AJR Tryz.prog Γ N Q r ex A L G n l:=AJR_gskipU (.bool false) n' hn' (Nat.le_of_ble_eq_true hn) ho hg hj hdj hv hd hdN k
theorem jS {j dj : Nat} {o oj : Oper} {want b : Bool} {d : Nat} (n' : Nat) (hb : b = !want) (ho : r.ops[n]? = some o) (hg : o.guard = some (j,want)) (hj : r.ops[j]? = some oj) (hdj : oj.dst = some dj) (hv : get (viewA2 r (fnR n l) A n) dj = some (.bool b)) (hd : o.dst = some d) (k : AJR Tryz.prog Γ N Q r ex A L G n' (([(d,.cnd false (.bool false))],[]) :: l)) (hdN : d < N:=by decide) (hn' : n' = n + 1:=by exact rfl) (hn : Nat.ble (n + 1) r.ops.size = true:=by exact rfl) : AJR Tryz.prog Γ N Q r ex A L G n l:=AJR_gskip (.bool false) n' hn' (Nat.le_of_ble_eq_true hn) hb ho hg hj hdj hv hd hdN k
theorem jC {o : Oper} {f : FuncId} {xs ys : List MV} {Lc Lc' : List (Nat × Option MObj)} {res : MV} {C : Prop} (n' : Nat) (π : List (Nat × Nat)) (hF : Fn Tryz.prog f xs Lc res Lc') (ho : r.ops[n]? = some o) (h : calleeM (viewA2 r (fnR n l) A n) o.op = some (f,ys,C)) (k : AJR Tryz.prog Γ N Q r ex A L G n' ((addL o.dst (res.ren (sg π)) [],renO (sg π) Lc') :: l)) (hys : ys = MV.renL (sg π) xs:=by exact rfl) (hf : fl.contains f = true:=by exact rfl) (hC : C:=by (repeat' (first | exact trivial | refine And.intro ?_ ?_ | decide | assumption | exact rfl))) (hsub : SubL (renO (sg π) Lc) (viewL2 r ex (fnR n l) L n):=by (repeat' (first | exact trivial | refine And.intro (.inr rfl) ?_ | refine And.intro (.inl rfl) ?_))) (hb : callAB (sg π) N o.dst o.guard.isNone (r.wk n) (r.nk n) Lc Lc' res = true:=by exact rfl) (hn' : n' = n + 1:=by exact rfl) (hn : Nat.ble (n + 1) r.ops.size = true:=by exact rfl) : AJR Tryz.prog Γ N Q r ex A L G n l:=AJR_call n' hn' (Nat.le_of_ble_eq_true hn) π ho hF (fb hf) h hC hys hsub hb k
theorem zD {ops : Array Oper} (a : List Nat) (b c d : List (Nat × List Nat)) {id : Nat} (h : AJR Tryz.prog Γ N Q ⟨ops,fun i=>bts (a.getD i 0) i,fun i=>lkI i b,fun i=>lkI i c⟩ (fun i=>lkM i d) A L (TC Tryz.prog Γ N (.region id ops true) Q A L) 0 []) (hr : (⟨ops,fun i=>bts (a.getD i 0) i,fun i=>lkI i b,fun i=>lkI i c⟩ : Rg).ok = true:=by kernel_rfl) (hx : exB ⟨ops,fun i=>bts (a.getD i 0) i,fun i=>lkI i b,fun i=>lkI i c⟩ (fun i=>lkM i d) A = true:=by kernel_rfl) : TC Tryz.prog Γ N (.region id ops true) Q A L:=TC_drawR _ _ hr hx h
theorem jN {ex : Nat → List Nat} {id n : Nat} {l : List De} (fin : TE Γ N (Q .normal) (allA n (fnR n l) A) (allL n (fnR n l) L)) (hl : r.ops.size = n:=by exact rfl) (hf : frR r n l A L = true:=by exact rfl) : AJR Tryz.prog Γ N Q r ex A L (TC Tryz.prog Γ N (.region id r.ops true) Q A L) n l:=AJR_end rfl hl hf fin
end
theorem fO {f : FuncId} {fn : Func} {c : Code} {args : List MV} {Lc Lc' : List (Nat × Option MObj)} {res : MV} (hf : Tryz.prog.funcs[f]? = some fn) (hb : fn.body = some c) (h : ∀ Γ : Gd,TC Tryz.prog Γ fn.ntmps c (bodyPost Tryz.prog fn (FnPost Γ res Lc')) (initA 0 args) Lc) (hn : Nat.ble args.length fn.ntmps = true:=by exact rfl) : Fn Tryz.prog f args Lc res Lc':=Fn_of hf hb (Nat.le_of_ble_eq_true hn) h

section
variable {Γ : Gd} {N : Nat} {Q : Exit → Act → World → Prop} {A A' : List (Nat × MV)} {L L' : List (Nat × Option MObj)} {γ : Type}
theorem zE {ops : Array Oper} (n : Nat) {l l' : List Oper} {C : Prop} (h : evalN env.tab N ops n l A L = some (l',A',L',C)) (k : TL Tryz.prog Γ N ops Q l' A' L') (hC : C:=by (repeat' (first | exact trivial | refine And.intro ?_ ?_ | decide | assumption | exact rfl))) : TL Tryz.prog Γ N ops Q l A L:=TL_ev env n h hC k
theorem zG {ops : Array Oper} {G : Prop} {_ : Decidable G} {X : Option γ} {z : γ} (h0 : gd G X = some z) (n : Nat) {l l' : List Oper} {C : Prop} (h : evalN env.tab N ops n l A L = some (l',A',L',C)) (k : X = some z → TL Tryz.prog Γ N ops Q l' A' L') (hC : G → C:=by intro g; (repeat' (first | exact trivial | refine And.intro ?_ ?_ | with_reducible (first | exact g | exact g.1 | exact g.2 | exact g.2.1 | exact g.2.2 | exact g.2.2.1 | exact g.2.2.2 | exact g.2.2.2.1 | exact g.2.2.2.2 | exact g.2.2.2.2.1 | exact g.2.2.2.2.2 | exact g.2.2.2.2.2.1 | exact g.2.2.2.2.2.2 | exact g.2.2.2.2.2.2.1 | exact g.2.2.2.2.2.2.2) | decide | exact rfl | exact g.2.2.2.2.2.2.2 | exact g.2.2.2.2.2.2.1 | exact g.2.2.2.2.2.2 | exact g.2.2.2.2.2.1 | exact g.2.2.2.2.2 | exact g.2.2.2.2.1 | exact g.2.2.2.2 | exact g.2.2.2.1 | exact g.2.2.2 | exact g.2.2.1 | exact g.2.2 | exact g.2.1 | exact g.2 | exact g.1 | exact g))) : TL Tryz.prog Γ N ops Q l A L:=TL_ev env n h (hC (gd_t h0).1) (k (gd_t h0).2)
end
section
variable {Γ : Gd} {N : Nat} {Q Q' : Exit → Act → World → Prop} {A A' : List (Nat × MV)} {L L' : List (Nat × Option MObj)} {ops : Array Oper} {l l2 : List Oper} {C : Prop} {y c : Code} {id id2 : Nat} {f : Act → World → Prop}
theorem zx (n : Nat) (h : evalN env.tab N ops n l A L = some ([],A',L',C)) (k : TC Tryz.prog Γ N c Q A' L') (hC : C:=by (repeat' (first | exact trivial | refine And.intro ?_ ?_ | decide | assumption | exact rfl))) : TL Tryz.prog Γ N ops (Exit.then (fun a w=>c.wp Tryz.prog Q a w) Q') l A L:=TL_ev env n h hC (TL_end (TE_go k))
theorem zy (n : Nat) (h : evalN env.tab N ops n l A L = some ([],A',L',C)) (k : TL Tryz.prog Γ N l2.toArray (Exit.then (fun a w=>y.wp Tryz.prog Q a w) Q) l2 A' L') (hC : C:=by (repeat' (first | exact trivial | refine And.intro ?_ ?_ | decide | assumption | exact rfl))) : TL Tryz.prog Γ N ops (Exit.then (fun a w=>(Code.seq (.region id2 l2.toArray false) y).wp Tryz.prog Q a w) Q') l A L:=zx n h (zr k) hC
theorem zz (n : Nat) (h : evalN env.tab N ops n l A L = some ([],A',L',C)) (k : TE Γ N f A' L') (hC : C:=by (repeat' (first | exact trivial | refine And.intro ?_ ?_ | decide | assumption | exact rfl))) : TL Tryz.prog Γ N ops (Exit.then f Q) l A L:=TL_ev env n h hC (TL_end (tsn k))
theorem zA (n : Nat) (h : evalN env.tab N l.toArray n l A L = some ([],A',L',C)) (k : TC Tryz.prog Γ N c Q A' L') (hC : C:=by (repeat' (first | exact trivial | refine And.intro ?_ ?_ | decide | assumption | exact rfl))) : TC Tryz.prog Γ N (.seq (.region id l.toArray false) c) Q A L:=zr (zx n h k hC)
theorem zB (n : Nat) (h : evalN env.tab N l.toArray n l A L = some ([],A',L',C)) (k : TC Tryz.prog Γ N c Q A' L') (hC : C:=by (repeat' (first | exact trivial | refine And.intro ?_ ?_ | decide | assumption | exact rfl))) : TE Γ N (Exit.then (fun a w=>(Code.seq (.region id l.toArray false) c).wp Tryz.prog Q a w) Q' .normal) A L:=zg (zx n h k hC)
theorem zC (n : Nat) (h : evalN env.tab N l.toArray n l A L = some ([],A',L',C)) (k : TL Tryz.prog Γ N l2.toArray (Exit.then (fun a w=>y.wp Tryz.prog Q a w) Q) l2 A' L') (hC : C:=by (repeat' (first | exact trivial | refine And.intro ?_ ?_ | decide | assumption | exact rfl))) : TC Tryz.prog Γ N (.seq (.region id l.toArray false) (.seq (.region id2 l2.toArray false) y)) Q A L:=zr (zy n h k hC)
theorem zF (n : Nat) (h : evalN env.tab N l.toArray n l A L = some ([],A',L',C)) (k : TL Tryz.prog Γ N l2.toArray (Exit.then (fun a w=>y.wp Tryz.prog Q a w) Q) l2 A' L') (hC : C:=by (repeat' (first | exact trivial | refine And.intro ?_ ?_ | decide | assumption | exact rfl))) : TE Γ N (Exit.then (fun a w=>(Code.seq (.region id l.toArray false) (.seq (.region id2 l2.toArray false) y)).wp Tryz.prog Q a w) Q' .normal) A L:=zg (zy n h k hC)
end
theorem zS {Γ : Gd} {N : Nat} {Q : Exit → Act → World → Prop} {A A' : List (Nat × MV)} {L L' : List (Nat × Option MObj)} {ops : Array Oper} (cs : List Nat) {l l' : List Oper} {C : Prop} (h : runT env.tab N ops (xpT cs) l A L = some (l',A',L',C)) (k : TL Tryz.prog Γ N ops Q l' A' L') (hC : C:=by (repeat' (first | exact trivial | refine And.intro ?_ ?_ | exact id | decide | assumption | exact rfl | intro _))) : TL Tryz.prog Γ N ops Q l A L:=runT_ok env (xpT cs) h hC k
section
variable {Γ : Gd} {N : Nat} {Q : Exit → Act → World → Prop} {A : List (Nat × MV)} {L : List (Nat × Option MObj)} {r : Rg} {G : Prop} {ex : Nat → List Nat} {l : List De} {n : Nat} {γ : Type}
theorem jR {l' : List De} {C : Prop} (n' : Nat) (cs : List Nat) (h : runJ env.tab N r ex A L (xpJ cs) n l = some (n',l',C)) (k : AJR Tryz.prog Γ N Q r ex A L G n' l') (hC : C:=by (repeat' (first | exact trivial | refine And.intro ?_ ?_ | exact id | decide | assumption | exact rfl | intro _))) : AJR Tryz.prog Γ N Q r ex A L G n l:=AJR_run env (xpJ cs) h hC k
theorem jP {l' : List De} {C G' : Prop} {_ : Decidable G'} {X : Option γ} {z : γ} (h0 : gd G' X = some z) (n' : Nat) (cs : List Nat) (h : runJ env.tab N r ex A L (xpJ cs) n l = some (n',l',C)) (k : X = some z → AJR Tryz.prog Γ N Q r ex A L G n' l') (hC : G' → C:=by intro g; (repeat' (first | exact trivial | refine And.intro ?_ ?_ | with_reducible (first | exact g | exact g.1 | exact g.2 | exact g.2.1 | exact g.2.2 | exact g.2.2.1 | exact g.2.2.2 | exact g.2.2.2.1 | exact g.2.2.2.2 | exact g.2.2.2.2.1 | exact g.2.2.2.2.2 | exact g.2.2.2.2.2.1 | exact g.2.2.2.2.2.2 | exact g.2.2.2.2.2.2.1 | exact g.2.2.2.2.2.2.2) | decide | exact rfl | exact g.2.2.2.2.2.2.2 | exact g.2.2.2.2.2.2.1 | exact g.2.2.2.2.2.2 | exact g.2.2.2.2.2.1 | exact g.2.2.2.2.2 | exact g.2.2.2.2.1 | exact g.2.2.2.2 | exact g.2.2.2.1 | exact g.2.2.2 | exact g.2.2.1 | exact g.2.2 | exact g.2.1 | exact g.2 | exact g.1 | exact g))) : AJR Tryz.prog Γ N Q r ex A L G n l:=AJR_run env (xpJ cs) h (hC (gd_t h0).1) (k (gd_t h0).2)
theorem jQ {l' : List De} {C G' : Prop} {_ : Decidable G'} {X : Option γ} {z : γ} (h0 : gd G' X = some z) (n' : Nat) (cs : List Nat) (h : runJ env.tab N r ex A L (xpJ cs) n l = some (n',l',C)) (k : X = some z → AJR Tryz.prog Γ N Q r ex A L G n' l') (hC : G' → C:=by intro g; (repeat' (first | exact trivial | refine And.intro ?_ ?_ | with_reducible (first | exact g | exact g.1 | exact g.2 | exact g.2.1 | exact g.2.2 | exact g.2.2.1 | exact g.2.2.2 | exact g.2.2.2.1 | exact g.2.2.2.2 | exact g.2.2.2.2.1 | exact g.2.2.2.2.2 | exact g.2.2.2.2.2.1 | exact g.2.2.2.2.2.2 | exact g.2.2.2.2.2.2.1 | exact g.2.2.2.2.2.2.2) | decide | assumption | exact rfl | exact g.2.2.2.2.2.2.2 | exact g.2.2.2.2.2.2.1 | exact g.2.2.2.2.2.2 | exact g.2.2.2.2.2.1 | exact g.2.2.2.2.2 | exact g.2.2.2.2.1 | exact g.2.2.2.2 | exact g.2.2.2.1 | exact g.2.2.2 | exact g.2.2.1 | exact g.2.2 | exact g.2.1 | exact g.2 | exact g.1 | exact g | exact id | intro _))) : AJR Tryz.prog Γ N Q r ex A L G n l:=AJR_run env (xpJ cs) h (hC (gd_t h0).1) (k (gd_t h0).2)
theorem jE {δ : De} {C : Prop} (n' : Nat) (h : evalV env.tab N r (viewA2 r (fnR n l) A n) (viewL2 r ex (fnR n l) L n) n = some (δ,C)) (k : AJR Tryz.prog Γ N Q r ex A L G n' (δ :: l)) (hC : C:=by (repeat' (first | exact trivial | refine And.intro ?_ ?_ | decide | assumption | exact rfl))) (hn' : n' = n + 1:=by exact rfl) (hn : Nat.ble (n + 1) r.ops.size = true:=by exact rfl) : AJR Tryz.prog Γ N Q r ex A L G n l:=AJR_ev env n' hn' (Nat.le_of_ble_eq_true hn) h hC k
theorem jG {δ : De} {C G' : Prop} {_ : Decidable G'} {X : Option γ} {z : γ} (h0 : gd G' X = some z) (n' : Nat) (h : evalV env.tab N r (viewA2 r (fnR n l) A n) (viewL2 r ex (fnR n l) L n) n = some (δ,C)) (k : X = some z → AJR Tryz.prog Γ N Q r ex A L G n' (δ :: l)) (hC : G' → C:=by intro g; (repeat' (first | exact trivial | refine And.intro ?_ ?_ | with_reducible (first | exact g | exact g.1 | exact g.2 | exact g.2.1 | exact g.2.2 | exact g.2.2.1 | exact g.2.2.2 | exact g.2.2.2.1 | exact g.2.2.2.2 | exact g.2.2.2.2.1 | exact g.2.2.2.2.2 | exact g.2.2.2.2.2.1 | exact g.2.2.2.2.2.2 | exact g.2.2.2.2.2.2.1 | exact g.2.2.2.2.2.2.2) | decide | exact rfl | exact g.2.2.2.2.2.2.2 | exact g.2.2.2.2.2.2.1 | exact g.2.2.2.2.2.2 | exact g.2.2.2.2.2.1 | exact g.2.2.2.2.2 | exact g.2.2.2.2.1 | exact g.2.2.2.2 | exact g.2.2.2.1 | exact g.2.2.2 | exact g.2.2.1 | exact g.2.2 | exact g.2.1 | exact g.2 | exact g.1 | exact g))) (hn' : n' = n + 1:=by exact rfl) (hn : Nat.ble (n + 1) r.ops.size = true:=by exact rfl) : AJR Tryz.prog Γ N Q r ex A L G n l:=AJR_ev env n' hn' (Nat.le_of_ble_eq_true hn) h (hC (gd_t h0).1) (k (gd_t h0).2)
theorem jV {δ : De} {C : Prop} {j dj : Nat} {o oj : Oper} {want b : Bool} (n' : Nat) (hb : b = want) (ho : r.ops[n]? = some o) (hg : o.guard = some (j,want)) (hj : r.ops[j]? = some oj) (hdj : oj.dst = some dj) (hv : get (viewA2 r (fnR n l) A n) dj = some (.bool b)) (h : evalG env.tab N (r.wk n) (r.nk n) o (viewA2 r (fnR n l) A n) (viewL2 r ex (fnR n l) L n) = some (δ,C)) (k : AJR Tryz.prog Γ N Q r ex A L G n' (δ :: l)) (hC : C:=by (repeat' (first | exact trivial | refine And.intro ?_ ?_ | decide | assumption | exact rfl))) (hn' : n' = n + 1:=by exact rfl) (hn : Nat.ble (n + 1) r.ops.size = true:=by exact rfl) : AJR Tryz.prog Γ N Q r ex A L G n l:=AJR_gev env n' hn' (Nat.le_of_ble_eq_true hn) hb ho hg hj hdj hv h hC k
end

section
variable {Γ : Gd} {N : Nat} {Q : Exit → Act → World → Prop} {A A' : List (Nat × MV)} {L L' : List (Nat × Option MObj)} {γ : Type}
theorem zEH {ops : Array Oper} (n : Nat) {l l' : List Oper} {C : Prop} (h : evalN envH.tab N ops n l A L = some (l',A',L',C)) (k : TL Tryz.prog Γ N ops Q l' A' L') (hC : C:=by (repeat' (first | exact trivial | refine And.intro ?_ ?_ | decide | assumption | exact rfl))) : TL Tryz.prog Γ N ops Q l A L:=TL_ev envH n h hC k
theorem zGH {ops : Array Oper} {G : Prop} {_ : Decidable G} {X : Option γ} {z : γ} (h0 : gd G X = some z) (n : Nat) {l l' : List Oper} {C : Prop} (h : evalN envH.tab N ops n l A L = some (l',A',L',C)) (k : X = some z → TL Tryz.prog Γ N ops Q l' A' L') (hC : G → C:=by intro g; (repeat' (first | exact trivial | refine And.intro ?_ ?_ | with_reducible (first | exact g | exact g.1 | exact g.2 | exact g.2.1 | exact g.2.2 | exact g.2.2.1 | exact g.2.2.2 | exact g.2.2.2.1 | exact g.2.2.2.2 | exact g.2.2.2.2.1 | exact g.2.2.2.2.2 | exact g.2.2.2.2.2.1 | exact g.2.2.2.2.2.2 | exact g.2.2.2.2.2.2.1 | exact g.2.2.2.2.2.2.2) | decide | exact rfl | exact g.2.2.2.2.2.2.2 | exact g.2.2.2.2.2.2.1 | exact g.2.2.2.2.2.2 | exact g.2.2.2.2.2.1 | exact g.2.2.2.2.2 | exact g.2.2.2.2.1 | exact g.2.2.2.2 | exact g.2.2.2.1 | exact g.2.2.2 | exact g.2.2.1 | exact g.2.2 | exact g.2.1 | exact g.2 | exact g.1 | exact g))) : TL Tryz.prog Γ N ops Q l A L:=TL_ev envH n h (hC (gd_t h0).1) (k (gd_t h0).2)
end

theorem zSH {Γ : Gd} {N : Nat} {Q : Exit → Act → World → Prop} {A A' : List (Nat × MV)} {L L' : List (Nat × Option MObj)} {ops : Array Oper} (cs : List Nat) {l l' : List Oper} {C : Prop} (h : runT envH.tab N ops (xpT cs) l A L = some (l',A',L',C)) (k : TL Tryz.prog Γ N ops Q l' A' L') (hC : C:=by (repeat' (first | exact trivial | refine And.intro ?_ ?_ | exact id | decide | assumption | exact rfl | intro _))) : TL Tryz.prog Γ N ops Q l A L:=runT_ok envH (xpT cs) h hC k
section
variable {Γ : Gd} {N : Nat} {Q : Exit → Act → World → Prop} {A : List (Nat × MV)} {L : List (Nat × Option MObj)} {r : Rg} {G : Prop} {ex : Nat → List Nat} {l : List De} {n : Nat} {γ : Type}
theorem jRH {l' : List De} {C : Prop} (n' : Nat) (cs : List Nat) (h : runJ envH.tab N r ex A L (xpJ cs) n l = some (n',l',C)) (k : AJR Tryz.prog Γ N Q r ex A L G n' l') (hC : C:=by (repeat' (first | exact trivial | refine And.intro ?_ ?_ | exact id | decide | assumption | exact rfl | intro _))) : AJR Tryz.prog Γ N Q r ex A L G n l:=AJR_run envH (xpJ cs) h hC k
theorem jPH {l' : List De} {C G' : Prop} {_ : Decidable G'} {X : Option γ} {z : γ} (h0 : gd G' X = some z) (n' : Nat) (cs : List Nat) (h : runJ envH.tab N r ex A L (xpJ cs) n l = some (n',l',C)) (k : X = some z → AJR Tryz.prog Γ N Q r ex A L G n' l') (hC : G' → C:=by intro g; (repeat' (first | exact trivial | refine And.intro ?_ ?_ | with_reducible (first | exact g | exact g.1 | exact g.2 | exact g.2.1 | exact g.2.2 | exact g.2.2.1 | exact g.2.2.2 | exact g.2.2.2.1 | exact g.2.2.2.2 | exact g.2.2.2.2.1 | exact g.2.2.2.2.2 | exact g.2.2.2.2.2.1 | exact g.2.2.2.2.2.2 | exact g.2.2.2.2.2.2.1 | exact g.2.2.2.2.2.2.2) | decide | exact rfl | exact g.2.2.2.2.2.2.2 | exact g.2.2.2.2.2.2.1 | exact g.2.2.2.2.2.2 | exact g.2.2.2.2.2.1 | exact g.2.2.2.2.2 | exact g.2.2.2.2.1 | exact g.2.2.2.2 | exact g.2.2.2.1 | exact g.2.2.2 | exact g.2.2.1 | exact g.2.2 | exact g.2.1 | exact g.2 | exact g.1 | exact g))) : AJR Tryz.prog Γ N Q r ex A L G n l:=AJR_run envH (xpJ cs) h (hC (gd_t h0).1) (k (gd_t h0).2)
theorem jQH {l' : List De} {C G' : Prop} {_ : Decidable G'} {X : Option γ} {z : γ} (h0 : gd G' X = some z) (n' : Nat) (cs : List Nat) (h : runJ envH.tab N r ex A L (xpJ cs) n l = some (n',l',C)) (k : X = some z → AJR Tryz.prog Γ N Q r ex A L G n' l') (hC : G' → C:=by intro g; (repeat' (first | exact trivial | refine And.intro ?_ ?_ | with_reducible (first | exact g | exact g.1 | exact g.2 | exact g.2.1 | exact g.2.2 | exact g.2.2.1 | exact g.2.2.2 | exact g.2.2.2.1 | exact g.2.2.2.2 | exact g.2.2.2.2.1 | exact g.2.2.2.2.2 | exact g.2.2.2.2.2.1 | exact g.2.2.2.2.2.2 | exact g.2.2.2.2.2.2.1 | exact g.2.2.2.2.2.2.2) | decide | assumption | exact rfl | exact g.2.2.2.2.2.2.2 | exact g.2.2.2.2.2.2.1 | exact g.2.2.2.2.2.2 | exact g.2.2.2.2.2.1 | exact g.2.2.2.2.2 | exact g.2.2.2.2.1 | exact g.2.2.2.2 | exact g.2.2.2.1 | exact g.2.2.2 | exact g.2.2.1 | exact g.2.2 | exact g.2.1 | exact g.2 | exact g.1 | exact g | exact id | intro _))) : AJR Tryz.prog Γ N Q r ex A L G n l:=AJR_run envH (xpJ cs) h (hC (gd_t h0).1) (k (gd_t h0).2)
theorem jEH {δ : De} {C : Prop} (n' : Nat) (h : evalV envH.tab N r (viewA2 r (fnR n l) A n) (viewL2 r ex (fnR n l) L n) n = some (δ,C)) (k : AJR Tryz.prog Γ N Q r ex A L G n' (δ :: l)) (hC : C:=by (repeat' (first | exact trivial | refine And.intro ?_ ?_ | decide | assumption | exact rfl))) (hn' : n' = n + 1:=by exact rfl) (hn : Nat.ble (n + 1) r.ops.size = true:=by exact rfl) : AJR Tryz.prog Γ N Q r ex A L G n l:=AJR_ev envH n' hn' (Nat.le_of_ble_eq_true hn) h hC k
theorem jGH {δ : De} {C G' : Prop} {_ : Decidable G'} {X : Option γ} {z : γ} (h0 : gd G' X = some z) (n' : Nat) (h : evalV envH.tab N r (viewA2 r (fnR n l) A n) (viewL2 r ex (fnR n l) L n) n = some (δ,C)) (k : X = some z → AJR Tryz.prog Γ N Q r ex A L G n' (δ :: l)) (hC : G' → C:=by intro g; (repeat' (first | exact trivial | refine And.intro ?_ ?_ | with_reducible (first | exact g | exact g.1 | exact g.2 | exact g.2.1 | exact g.2.2 | exact g.2.2.1 | exact g.2.2.2 | exact g.2.2.2.1 | exact g.2.2.2.2 | exact g.2.2.2.2.1 | exact g.2.2.2.2.2 | exact g.2.2.2.2.2.1 | exact g.2.2.2.2.2.2 | exact g.2.2.2.2.2.2.1 | exact g.2.2.2.2.2.2.2) | decide | exact rfl | exact g.2.2.2.2.2.2.2 | exact g.2.2.2.2.2.2.1 | exact g.2.2.2.2.2.2 | exact g.2.2.2.2.2.1 | exact g.2.2.2.2.2 | exact g.2.2.2.2.1 | exact g.2.2.2.2 | exact g.2.2.2.1 | exact g.2.2.2 | exact g.2.2.1 | exact g.2.2 | exact g.2.1 | exact g.2 | exact g.1 | exact g))) (hn' : n' = n + 1:=by exact rfl) (hn : Nat.ble (n + 1) r.ops.size = true:=by exact rfl) : AJR Tryz.prog Γ N Q r ex A L G n l:=AJR_ev envH n' hn' (Nat.le_of_ble_eq_true hn) h (hC (gd_t h0).1) (k (gd_t h0).2)
theorem jVH {δ : De} {C : Prop} {j dj : Nat} {o oj : Oper} {want b : Bool} (n' : Nat) (hb : b = want) (ho : r.ops[n]? = some o) (hg : o.guard = some (j,want)) (hj : r.ops[j]? = some oj) (hdj : oj.dst = some dj) (hv : get (viewA2 r (fnR n l) A n) dj = some (.bool b)) (h : evalG envH.tab N (r.wk n) (r.nk n) o (viewA2 r (fnR n l) A n) (viewL2 r ex (fnR n l) L n) = some (δ,C)) (k : AJR Tryz.prog Γ N Q r ex A L G n' (δ :: l)) (hC : C:=by (repeat' (first | exact trivial | refine And.intro ?_ ?_ | decide | assumption | exact rfl))) (hn' : n' = n + 1:=by exact rfl) (hn : Nat.ble (n + 1) r.ops.size = true:=by exact rfl) : AJR Tryz.prog Γ N Q r ex A L G n l:=AJR_gev envH n' hn' (Nat.le_of_ble_eq_true hn) hb ho hg hj hdj hv h hC k
end

section
variable {Γ : Gd} {N : Nat} {Q : Exit → Act → World → Prop} {A A' : List (Nat × MV)} {L L' : List (Nat × Option MObj)} {γ : Type}
theorem zED {ops : Array Oper} (n : Nat) {l l' : List Oper} {C : Prop} (h : evalN envD.tab N ops n l A L = some (l',A',L',C)) (k : TL Tryz.prog Γ N ops Q l' A' L') (hC : C:=by (repeat' (first | exact trivial | refine And.intro ?_ ?_ | decide | assumption | exact rfl))) : TL Tryz.prog Γ N ops Q l A L:=TL_ev envD n h hC k
theorem zGD {ops : Array Oper} {G : Prop} {_ : Decidable G} {X : Option γ} {z : γ} (h0 : gd G X = some z) (n : Nat) {l l' : List Oper} {C : Prop} (h : evalN envD.tab N ops n l A L = some (l',A',L',C)) (k : X = some z → TL Tryz.prog Γ N ops Q l' A' L') (hC : G → C:=by intro g; (repeat' (first | exact trivial | refine And.intro ?_ ?_ | with_reducible (first | exact g | exact g.1 | exact g.2 | exact g.2.1 | exact g.2.2 | exact g.2.2.1 | exact g.2.2.2 | exact g.2.2.2.1 | exact g.2.2.2.2 | exact g.2.2.2.2.1 | exact g.2.2.2.2.2 | exact g.2.2.2.2.2.1 | exact g.2.2.2.2.2.2 | exact g.2.2.2.2.2.2.1 | exact g.2.2.2.2.2.2.2) | decide | exact rfl | exact g.2.2.2.2.2.2.2 | exact g.2.2.2.2.2.2.1 | exact g.2.2.2.2.2.2 | exact g.2.2.2.2.2.1 | exact g.2.2.2.2.2 | exact g.2.2.2.2.1 | exact g.2.2.2.2 | exact g.2.2.2.1 | exact g.2.2.2 | exact g.2.2.1 | exact g.2.2 | exact g.2.1 | exact g.2 | exact g.1 | exact g))) : TL Tryz.prog Γ N ops Q l A L:=TL_ev envD n h (hC (gd_t h0).1) (k (gd_t h0).2)
end

theorem zSD {Γ : Gd} {N : Nat} {Q : Exit → Act → World → Prop} {A A' : List (Nat × MV)} {L L' : List (Nat × Option MObj)} {ops : Array Oper} (cs : List Nat) {l l' : List Oper} {C : Prop} (h : runT envD.tab N ops (xpT cs) l A L = some (l',A',L',C)) (k : TL Tryz.prog Γ N ops Q l' A' L') (hC : C:=by (repeat' (first | exact trivial | refine And.intro ?_ ?_ | exact id | decide | assumption | exact rfl | intro _))) : TL Tryz.prog Γ N ops Q l A L:=runT_ok envD (xpT cs) h hC k
section
variable {Γ : Gd} {N : Nat} {Q : Exit → Act → World → Prop} {A : List (Nat × MV)} {L : List (Nat × Option MObj)} {r : Rg} {G : Prop} {ex : Nat → List Nat} {l : List De} {n : Nat} {γ : Type}
theorem jRD {l' : List De} {C : Prop} (n' : Nat) (cs : List Nat) (h : runJ envD.tab N r ex A L (xpJ cs) n l = some (n',l',C)) (k : AJR Tryz.prog Γ N Q r ex A L G n' l') (hC : C:=by (repeat' (first | exact trivial | refine And.intro ?_ ?_ | exact id | decide | assumption | exact rfl | intro _))) : AJR Tryz.prog Γ N Q r ex A L G n l:=AJR_run envD (xpJ cs) h hC k
theorem jPD {l' : List De} {C G' : Prop} {_ : Decidable G'} {X : Option γ} {z : γ} (h0 : gd G' X = some z) (n' : Nat) (cs : List Nat) (h : runJ envD.tab N r ex A L (xpJ cs) n l = some (n',l',C)) (k : X = some z → AJR Tryz.prog Γ N Q r ex A L G n' l') (hC : G' → C:=by intro g; (repeat' (first | exact trivial | refine And.intro ?_ ?_ | with_reducible (first | exact g | exact g.1 | exact g.2 | exact g.2.1 | exact g.2.2 | exact g.2.2.1 | exact g.2.2.2 | exact g.2.2.2.1 | exact g.2.2.2.2 | exact g.2.2.2.2.1 | exact g.2.2.2.2.2 | exact g.2.2.2.2.2.1 | exact g.2.2.2.2.2.2 | exact g.2.2.2.2.2.2.1 | exact g.2.2.2.2.2.2.2) | decide | exact rfl | exact g.2.2.2.2.2.2.2 | exact g.2.2.2.2.2.2.1 | exact g.2.2.2.2.2.2 | exact g.2.2.2.2.2.1 | exact g.2.2.2.2.2 | exact g.2.2.2.2.1 | exact g.2.2.2.2 | exact g.2.2.2.1 | exact g.2.2.2 | exact g.2.2.1 | exact g.2.2 | exact g.2.1 | exact g.2 | exact g.1 | exact g))) : AJR Tryz.prog Γ N Q r ex A L G n l:=AJR_run envD (xpJ cs) h (hC (gd_t h0).1) (k (gd_t h0).2)
theorem jQD {l' : List De} {C G' : Prop} {_ : Decidable G'} {X : Option γ} {z : γ} (h0 : gd G' X = some z) (n' : Nat) (cs : List Nat) (h : runJ envD.tab N r ex A L (xpJ cs) n l = some (n',l',C)) (k : X = some z → AJR Tryz.prog Γ N Q r ex A L G n' l') (hC : G' → C:=by intro g; (repeat' (first | exact trivial | refine And.intro ?_ ?_ | with_reducible (first | exact g | exact g.1 | exact g.2 | exact g.2.1 | exact g.2.2 | exact g.2.2.1 | exact g.2.2.2 | exact g.2.2.2.1 | exact g.2.2.2.2 | exact g.2.2.2.2.1 | exact g.2.2.2.2.2 | exact g.2.2.2.2.2.1 | exact g.2.2.2.2.2.2 | exact g.2.2.2.2.2.2.1 | exact g.2.2.2.2.2.2.2) | decide | assumption | exact rfl | exact g.2.2.2.2.2.2.2 | exact g.2.2.2.2.2.2.1 | exact g.2.2.2.2.2.2 | exact g.2.2.2.2.2.1 | exact g.2.2.2.2.2 | exact g.2.2.2.2.1 | exact g.2.2.2.2 | exact g.2.2.2.1 | exact g.2.2.2 | exact g.2.2.1 | exact g.2.2 | exact g.2.1 | exact g.2 | exact g.1 | exact g | exact id | intro _))) : AJR Tryz.prog Γ N Q r ex A L G n l:=AJR_run envD (xpJ cs) h (hC (gd_t h0).1) (k (gd_t h0).2)
theorem jED {δ : De} {C : Prop} (n' : Nat) (h : evalV envD.tab N r (viewA2 r (fnR n l) A n) (viewL2 r ex (fnR n l) L n) n = some (δ,C)) (k : AJR Tryz.prog Γ N Q r ex A L G n' (δ :: l)) (hC : C:=by (repeat' (first | exact trivial | refine And.intro ?_ ?_ | decide | assumption | exact rfl))) (hn' : n' = n + 1:=by exact rfl) (hn : Nat.ble (n + 1) r.ops.size = true:=by exact rfl) : AJR Tryz.prog Γ N Q r ex A L G n l:=AJR_ev envD n' hn' (Nat.le_of_ble_eq_true hn) h hC k
theorem jGD {δ : De} {C G' : Prop} {_ : Decidable G'} {X : Option γ} {z : γ} (h0 : gd G' X = some z) (n' : Nat) (h : evalV envD.tab N r (viewA2 r (fnR n l) A n) (viewL2 r ex (fnR n l) L n) n = some (δ,C)) (k : X = some z → AJR Tryz.prog Γ N Q r ex A L G n' (δ :: l)) (hC : G' → C:=by intro g; (repeat' (first | exact trivial | refine And.intro ?_ ?_ | with_reducible (first | exact g | exact g.1 | exact g.2 | exact g.2.1 | exact g.2.2 | exact g.2.2.1 | exact g.2.2.2 | exact g.2.2.2.1 | exact g.2.2.2.2 | exact g.2.2.2.2.1 | exact g.2.2.2.2.2 | exact g.2.2.2.2.2.1 | exact g.2.2.2.2.2.2 | exact g.2.2.2.2.2.2.1 | exact g.2.2.2.2.2.2.2) | decide | exact rfl | exact g.2.2.2.2.2.2.2 | exact g.2.2.2.2.2.2.1 | exact g.2.2.2.2.2.2 | exact g.2.2.2.2.2.1 | exact g.2.2.2.2.2 | exact g.2.2.2.2.1 | exact g.2.2.2.2 | exact g.2.2.2.1 | exact g.2.2.2 | exact g.2.2.1 | exact g.2.2 | exact g.2.1 | exact g.2 | exact g.1 | exact g))) (hn' : n' = n + 1:=by exact rfl) (hn : Nat.ble (n + 1) r.ops.size = true:=by exact rfl) : AJR Tryz.prog Γ N Q r ex A L G n l:=AJR_ev envD n' hn' (Nat.le_of_ble_eq_true hn) h (hC (gd_t h0).1) (k (gd_t h0).2)
theorem jVD {δ : De} {C : Prop} {j dj : Nat} {o oj : Oper} {want b : Bool} (n' : Nat) (hb : b = want) (ho : r.ops[n]? = some o) (hg : o.guard = some (j,want)) (hj : r.ops[j]? = some oj) (hdj : oj.dst = some dj) (hv : get (viewA2 r (fnR n l) A n) dj = some (.bool b)) (h : evalG envD.tab N (r.wk n) (r.nk n) o (viewA2 r (fnR n l) A n) (viewL2 r ex (fnR n l) L n) = some (δ,C)) (k : AJR Tryz.prog Γ N Q r ex A L G n' (δ :: l)) (hC : C:=by (repeat' (first | exact trivial | refine And.intro ?_ ?_ | decide | assumption | exact rfl))) (hn' : n' = n + 1:=by exact rfl) (hn : Nat.ble (n + 1) r.ops.size = true:=by exact rfl) : AJR Tryz.prog Γ N Q r ex A L G n l:=AJR_gev envD n' hn' (Nat.le_of_ble_eq_true hn) hb ho hg hj hdj hv h hC k
end

section
variable {Γ : Gd} {N : Nat} {Q : Exit → Act → World → Prop} {A A' : List (Nat × MV)} {L L' : List (Nat × Option MObj)}
def SQ0 (Γ : Gd) (N : Nat) (z : Unit) (SA : List (Nat × MV)) (SL : List (Nat × Option MObj)) : Act → World → Prop:=SP Γ N (fun s : Unit=>z = s) (fun _=>SA) (fun _=>SL)

theorem SR0 {z : Unit} {SA : List (Nat × MV)} {SL : List (Nat × Option MObj)} (h : some () = some z) (l : List (Nat × Nat)) (hA : SubAr (sg l) (SA) A:=by (repeat' (first | exact trivial | refine And.intro rfl ?_))) (hL : SubLr (sg l) (SL) L:=by (repeat' (first | exact trivial | refine And.intro rfl ?_))) (hb : sgB l (keysO (SL)) = true:=by exact rfl) : TE Γ N (SQ0 Γ N z SA SL) A L:=SP_ren l z rfl (by cases h; exact hA) (by cases h; exact hL) (by cases h; exact hb)

theorem CT0 {c : Code} {δ : Type} {X : Option (Unit)} {k : Unit → Option δ} {r : δ} (h : X.bind k = some r) (SA : List (Nat × MV)) (SL : List (Nat × Option MObj)) (h1 : ∀ z,X = some z → TC Tryz.prog Γ N c (Exit.then (SQ0 Γ N z SA SL) Q) A L) (h2 : k () = some r → TE Γ N (Q .normal) (SA) (SL)) : TC Tryz.prog Γ N c Q A L:=by
 obtain ⟨z,hx,hk⟩:=bnd h
 exact TC_cut (fun s=>z = s) _ _ (h1 z hx) (fun s e=>by subst e; exact h2 hk)

def SQ1 (Γ : Gd) (N : Nat) {α0 : Type} (z : α0) (SA : α0 → List (Nat × MV)) (SL : α0 → List (Nat × Option MObj)) : Act → World → Prop:=SP Γ N (fun s : α0=>z = s) (fun z=>SA z) (fun z=>SL z)

theorem SR1 {α0 : Type} {x0 : α0} {z : α0} {SA : α0 → List (Nat × MV)} {SL : α0 → List (Nat × Option MObj)} (h : some x0 = some z) (l : List (Nat × Nat)) (hA : SubAr (sg l) (SA x0) A:=by (repeat' (first | exact trivial | refine And.intro rfl ?_))) (hL : SubLr (sg l) (SL x0) L:=by (repeat' (first | exact trivial | refine And.intro rfl ?_))) (hb : sgB l (keysO (SL x0)) = true:=by exact rfl) : TE Γ N (SQ1 Γ N z SA SL) A L:=SP_ren l z rfl (by cases h; exact hA) (by cases h; exact hL) (by cases h; exact hb)

theorem CT1 {c : Code} {δ : Type} {α0 : Type} {X : Option (α0)} {k : α0 → Option δ} {r : δ} (h : X.bind k = some r) (SA : α0 → List (Nat × MV)) (SL : α0 → List (Nat × Option MObj)) (h1 : ∀ z,X = some z → TC Tryz.prog Γ N c (Exit.then (SQ1 Γ N z SA SL) Q) A L) (h2 : ∀ x0,k x0 = some r → TE Γ N (Q .normal) (SA x0) (SL x0)) : TC Tryz.prog Γ N c Q A L:=by
 obtain ⟨z,hx,hk⟩:=bnd h
 exact TC_cut (fun s=>z = s) _ _ (h1 z hx) (fun s e=>by subst e; exact h2 _ hk)

def SQ2 (Γ : Gd) (N : Nat) {α0 α1 : Type} (z : α0 × α1) (SA : α0 → α1 → List (Nat × MV)) (SL : α0 → α1 → List (Nat × Option MObj)) : Act → World → Prop:=SP Γ N (fun s : α0 × α1=>z = s) (fun z=>SA z.1 z.2) (fun z=>SL z.1 z.2)

theorem SR2 {α0 α1 : Type} {x0 : α0} {x1 : α1} {z : α0 × α1} {SA : α0 → α1 → List (Nat × MV)} {SL : α0 → α1 → List (Nat × Option MObj)} (h : some (x0,x1) = some z) (l : List (Nat × Nat)) (hA : SubAr (sg l) (SA x0 x1) A:=by (repeat' (first | exact trivial | refine And.intro rfl ?_))) (hL : SubLr (sg l) (SL x0 x1) L:=by (repeat' (first | exact trivial | refine And.intro rfl ?_))) (hb : sgB l (keysO (SL x0 x1)) = true:=by exact rfl) : TE Γ N (SQ2 Γ N z SA SL) A L:=SP_ren l z rfl (by cases h; exact hA) (by cases h; exact hL) (by cases h; exact hb)

theorem CT2 {c : Code} {δ : Type} {α0 α1 : Type} {X : Option (α0 × α1)} {k : (α0 × α1) → Option δ} {r : δ} (h : X.bind k = some r) (SA : α0 → α1 → List (Nat × MV)) (SL : α0 → α1 → List (Nat × Option MObj)) (h1 : ∀ z,X = some z → TC Tryz.prog Γ N c (Exit.then (SQ2 Γ N z SA SL) Q) A L) (h2 : ∀ x0 x1,k (x0,x1) = some r → TE Γ N (Q .normal) (SA x0 x1) (SL x0 x1)) : TC Tryz.prog Γ N c Q A L:=by
 obtain ⟨z,hx,hk⟩:=bnd h
 exact TC_cut (fun s=>z = s) _ _ (h1 z hx) (fun s e=>by subst e; exact h2 _ _ hk)

def SQ3 (Γ : Gd) (N : Nat) {α0 α1 α2 : Type} (z : α0 × α1 × α2) (SA : α0 → α1 → α2 → List (Nat × MV)) (SL : α0 → α1 → α2 → List (Nat × Option MObj)) : Act → World → Prop:=SP Γ N (fun s : α0 × α1 × α2=>z = s) (fun z=>SA z.1 z.2.1 z.2.2) (fun z=>SL z.1 z.2.1 z.2.2)

theorem SR3 {α0 α1 α2 : Type} {x0 : α0} {x1 : α1} {x2 : α2} {z : α0 × α1 × α2} {SA : α0 → α1 → α2 → List (Nat × MV)} {SL : α0 → α1 → α2 → List (Nat × Option MObj)} (h : some (x0,x1,x2) = some z) (l : List (Nat × Nat)) (hA : SubAr (sg l) (SA x0 x1 x2) A:=by (repeat' (first | exact trivial | refine And.intro rfl ?_))) (hL : SubLr (sg l) (SL x0 x1 x2) L:=by (repeat' (first | exact trivial | refine And.intro rfl ?_))) (hb : sgB l (keysO (SL x0 x1 x2)) = true:=by exact rfl) : TE Γ N (SQ3 Γ N z SA SL) A L:=SP_ren l z rfl (by cases h; exact hA) (by cases h; exact hL) (by cases h; exact hb)

theorem CT3 {c : Code} {δ : Type} {α0 α1 α2 : Type} {X : Option (α0 × α1 × α2)} {k : (α0 × α1 × α2) → Option δ} {r : δ} (h : X.bind k = some r) (SA : α0 → α1 → α2 → List (Nat × MV)) (SL : α0 → α1 → α2 → List (Nat × Option MObj)) (h1 : ∀ z,X = some z → TC Tryz.prog Γ N c (Exit.then (SQ3 Γ N z SA SL) Q) A L) (h2 : ∀ x0 x1 x2,k (x0,x1,x2) = some r → TE Γ N (Q .normal) (SA x0 x1 x2) (SL x0 x1 x2)) : TC Tryz.prog Γ N c Q A L:=by
 obtain ⟨z,hx,hk⟩:=bnd h
 exact TC_cut (fun s=>z = s) _ _ (h1 z hx) (fun s e=>by subst e; exact h2 _ _ _ hk)

def SQ8 (Γ : Gd) (N : Nat) {α0 α1 α2 α3 α4 α5 α6 α7 : Type} (z : α0 × α1 × α2 × α3 × α4 × α5 × α6 × α7) (SA : α0 → α1 → α2 → α3 → α4 → α5 → α6 → α7 → List (Nat × MV)) (SL : α0 → α1 → α2 → α3 → α4 → α5 → α6 → α7 → List (Nat × Option MObj)) : Act → World → Prop:=SP Γ N (fun s : α0 × α1 × α2 × α3 × α4 × α5 × α6 × α7=>z = s) (fun z=>SA z.1 z.2.1 z.2.2.1 z.2.2.2.1 z.2.2.2.2.1 z.2.2.2.2.2.1 z.2.2.2.2.2.2.1 z.2.2.2.2.2.2.2) (fun z=>SL z.1 z.2.1 z.2.2.1 z.2.2.2.1 z.2.2.2.2.1 z.2.2.2.2.2.1 z.2.2.2.2.2.2.1 z.2.2.2.2.2.2.2)

theorem SR8 {α0 α1 α2 α3 α4 α5 α6 α7 : Type} {x0 : α0} {x1 : α1} {x2 : α2} {x3 : α3} {x4 : α4} {x5 : α5} {x6 : α6} {x7 : α7} {z : α0 × α1 × α2 × α3 × α4 × α5 × α6 × α7} {SA : α0 → α1 → α2 → α3 → α4 → α5 → α6 → α7 → List (Nat × MV)} {SL : α0 → α1 → α2 → α3 → α4 → α5 → α6 → α7 → List (Nat × Option MObj)} (h : some (x0,x1,x2,x3,x4,x5,x6,x7) = some z) (l : List (Nat × Nat)) (hA : SubAr (sg l) (SA x0 x1 x2 x3 x4 x5 x6 x7) A:=by (repeat' (first | exact trivial | refine And.intro rfl ?_))) (hL : SubLr (sg l) (SL x0 x1 x2 x3 x4 x5 x6 x7) L:=by (repeat' (first | exact trivial | refine And.intro rfl ?_))) (hb : sgB l (keysO (SL x0 x1 x2 x3 x4 x5 x6 x7)) = true:=by exact rfl) : TE Γ N (SQ8 Γ N z SA SL) A L:=SP_ren l z rfl (by cases h; exact hA) (by cases h; exact hL) (by cases h; exact hb)

theorem CT8 {c : Code} {δ : Type} {α0 α1 α2 α3 α4 α5 α6 α7 : Type} {X : Option (α0 × α1 × α2 × α3 × α4 × α5 × α6 × α7)} {k : (α0 × α1 × α2 × α3 × α4 × α5 × α6 × α7) → Option δ} {r : δ} (h : X.bind k = some r) (SA : α0 → α1 → α2 → α3 → α4 → α5 → α6 → α7 → List (Nat × MV)) (SL : α0 → α1 → α2 → α3 → α4 → α5 → α6 → α7 → List (Nat × Option MObj)) (h1 : ∀ z,X = some z → TC Tryz.prog Γ N c (Exit.then (SQ8 Γ N z SA SL) Q) A L) (h2 : ∀ x0 x1 x2 x3 x4 x5 x6 x7,k (x0,x1,x2,x3,x4,x5,x6,x7) = some r → TE Γ N (Q .normal) (SA x0 x1 x2 x3 x4 x5 x6 x7) (SL x0 x1 x2 x3 x4 x5 x6 x7)) : TC Tryz.prog Γ N c Q A L:=by
 obtain ⟨z,hx,hk⟩:=bnd h
 exact TC_cut (fun s=>z = s) _ _ (h1 z hx) (fun s e=>by subst e; exact h2 _ _ _ _ _ _ _ _ hk)

def LN0 (Γ : Gd) (N : Nat) {δ : Type} (g : Nat → Option δ) (r : δ) (n : Nat) (SA : List (Nat × MV)) (SL : List (Nat × Option MObj)) : Act → World → Prop:=fun a w=>∃ n',n' < n ∧ SP Γ N (fun _ : Unit=>g n' = some r) (fun _=>SA) (fun _=>SL) a w

theorem NX0 {δ : Type} {g : Nat → Option δ} {r : δ} {n : Nat} {SA : List (Nat × MV)} {SL : List (Nat × Option MObj)} (h : g n = some r) (l : List (Nat × Nat)) (hA : SubAr (sg l) (SA) A:=by (repeat' (first | exact trivial | refine And.intro rfl ?_))) (hL : SubLr (sg l) (SL) L:=by (repeat' (first | exact trivial | refine And.intro rfl ?_))) (hb : sgB l (keysO (SL)) = true:=by exact rfl) : TE Γ N (LN0 Γ N g r (n + 1) SA SL) A L:=TE_nextr (p:=fun n (_ : Unit)=>g n = some r) (SA:=fun _=>SA) (SL:=fun _=>SL) l n (Nat.lt_succ_self n) () h hA hL hb

theorem LP0 {c : Code} {δ : Type} {g : Nat → Option δ} {r : δ} {K : Nat} (h : g K = some r) (l : List (Nat × Nat)) (SA : List (Nat × MV)) (SL : List (Nat × Option MObj)) (b : ∀ n,g (n + 1) = some r → TC Tryz.prog Γ N c (Exit.then (LN0 Γ N g r (n + 1) SA SL) Q) SA SL) (hA : SubAr (sg l) (SA) A:=by (repeat' (first | exact trivial | refine And.intro rfl ?_))) (hL : SubLr (sg l) (SL) L:=by (repeat' (first | exact trivial | refine And.intro rfl ?_))) (hb : sgB l (keysO (SL)) = true:=by exact rfl) (h0 : g 0 = none:=by exact rfl) : TC Tryz.prog Γ N (.loop c) Q A L:=TC_loop (α:=Unit) (fun n _=>g n = some r) (fun _=>SA) (fun _=>SL) K (SP_ren l () h hA hL hb) (fun n z hz=>by
 rcases n with _ | n
 ·rw [h0] at hz; cases hz
 ·exact b n hz)

def LN1 (Γ : Gd) (N : Nat) {α0 : Type} {δ : Type} (g : Nat → α0 → Option δ) (r : δ) (n : Nat) (SA : α0 → List (Nat × MV)) (SL : α0 → List (Nat × Option MObj)) : Act → World → Prop:=fun a w=>∃ n',n' < n ∧ SP Γ N (fun z : α0=>g n' z = some r) (fun z=>SA z) (fun z=>SL z) a w

theorem NX1 {α0 : Type} {δ : Type} {g : Nat → α0 → Option δ} {r : δ} {n : Nat} {x0 : α0} {SA : α0 → List (Nat × MV)} {SL : α0 → List (Nat × Option MObj)} (h : g n x0 = some r) (l : List (Nat × Nat)) (hA : SubAr (sg l) (SA x0) A:=by (repeat' (first | exact trivial | refine And.intro rfl ?_))) (hL : SubLr (sg l) (SL x0) L:=by (repeat' (first | exact trivial | refine And.intro rfl ?_))) (hb : sgB l (keysO (SL x0)) = true:=by exact rfl) : TE Γ N (LN1 Γ N g r (n + 1) SA SL) A L:=TE_nextr (p:=fun n (z : α0)=>g n z = some r) (SA:=fun z=>SA z) (SL:=fun z=>SL z) l n (Nat.lt_succ_self n) x0 h hA hL hb

theorem LP1 {c : Code} {α0 : Type} {δ : Type} {g : Nat → α0 → Option δ} {r : δ} {K : Nat} {x0 : α0} (h : g K x0 = some r) (l : List (Nat × Nat)) (SA : α0 → List (Nat × MV)) (SL : α0 → List (Nat × Option MObj)) (b : ∀ n x0,g (n + 1) x0 = some r → TC Tryz.prog Γ N c (Exit.then (LN1 Γ N g r (n + 1) SA SL) Q) (SA x0) (SL x0)) (hA : SubAr (sg l) (SA x0) A:=by (repeat' (first | exact trivial | refine And.intro rfl ?_))) (hL : SubLr (sg l) (SL x0) L:=by (repeat' (first | exact trivial | refine And.intro rfl ?_))) (hb : sgB l (keysO (SL x0)) = true:=by exact rfl) (h0 : ∀ x0,g 0 x0 = none:=by intros; exact rfl) : TC Tryz.prog Γ N (.loop c) Q A L:=TC_loop (α:=α0) (fun n z=>g n z = some r) (fun z=>SA z) (fun z=>SL z) K (SP_ren l x0 h hA hL hb) (fun n z hz=>by
 rcases n with _ | n
 ·rw [h0] at hz; cases hz
 ·exact b n _ hz)

def LN2 (Γ : Gd) (N : Nat) {α0 α1 : Type} {δ : Type} (g : Nat → α0 → α1 → Option δ) (r : δ) (n : Nat) (SA : α0 → α1 → List (Nat × MV)) (SL : α0 → α1 → List (Nat × Option MObj)) : Act → World → Prop:=fun a w=>∃ n',n' < n ∧ SP Γ N (fun z : α0 × α1=>g n' z.1 z.2 = some r) (fun z=>SA z.1 z.2) (fun z=>SL z.1 z.2) a w

theorem NX2 {α0 α1 : Type} {δ : Type} {g : Nat → α0 → α1 → Option δ} {r : δ} {n : Nat} {x0 : α0} {x1 : α1} {SA : α0 → α1 → List (Nat × MV)} {SL : α0 → α1 → List (Nat × Option MObj)} (h : g n x0 x1 = some r) (l : List (Nat × Nat)) (hA : SubAr (sg l) (SA x0 x1) A:=by (repeat' (first | exact trivial | refine And.intro rfl ?_))) (hL : SubLr (sg l) (SL x0 x1) L:=by (repeat' (first | exact trivial | refine And.intro rfl ?_))) (hb : sgB l (keysO (SL x0 x1)) = true:=by exact rfl) : TE Γ N (LN2 Γ N g r (n + 1) SA SL) A L:=TE_nextr (p:=fun n (z : α0 × α1)=>g n z.1 z.2 = some r) (SA:=fun z=>SA z.1 z.2) (SL:=fun z=>SL z.1 z.2) l n (Nat.lt_succ_self n) (x0,x1) h hA hL hb

theorem LP2 {c : Code} {α0 α1 : Type} {δ : Type} {g : Nat → α0 → α1 → Option δ} {r : δ} {K : Nat} {x0 : α0} {x1 : α1} (h : g K x0 x1 = some r) (l : List (Nat × Nat)) (SA : α0 → α1 → List (Nat × MV)) (SL : α0 → α1 → List (Nat × Option MObj)) (b : ∀ n x0 x1,g (n + 1) x0 x1 = some r → TC Tryz.prog Γ N c (Exit.then (LN2 Γ N g r (n + 1) SA SL) Q) (SA x0 x1) (SL x0 x1)) (hA : SubAr (sg l) (SA x0 x1) A:=by (repeat' (first | exact trivial | refine And.intro rfl ?_))) (hL : SubLr (sg l) (SL x0 x1) L:=by (repeat' (first | exact trivial | refine And.intro rfl ?_))) (hb : sgB l (keysO (SL x0 x1)) = true:=by exact rfl) (h0 : ∀ x0 x1,g 0 x0 x1 = none:=by intros; exact rfl) : TC Tryz.prog Γ N (.loop c) Q A L:=TC_loop (α:=α0 × α1) (fun n z=>g n z.1 z.2 = some r) (fun z=>SA z.1 z.2) (fun z=>SL z.1 z.2) K (SP_ren l (x0,x1) h hA hL hb) (fun n z hz=>by
 rcases n with _ | n
 ·rw [h0] at hz; cases hz
 ·exact b n _ _ hz)

def LN3 (Γ : Gd) (N : Nat) {α0 α1 α2 : Type} {δ : Type} (g : Nat → α0 → α1 → α2 → Option δ) (r : δ) (n : Nat) (SA : α0 → α1 → α2 → List (Nat × MV)) (SL : α0 → α1 → α2 → List (Nat × Option MObj)) : Act → World → Prop:=fun a w=>∃ n',n' < n ∧ SP Γ N (fun z : α0 × α1 × α2=>g n' z.1 z.2.1 z.2.2 = some r) (fun z=>SA z.1 z.2.1 z.2.2) (fun z=>SL z.1 z.2.1 z.2.2) a w

theorem NX3 {α0 α1 α2 : Type} {δ : Type} {g : Nat → α0 → α1 → α2 → Option δ} {r : δ} {n : Nat} {x0 : α0} {x1 : α1} {x2 : α2} {SA : α0 → α1 → α2 → List (Nat × MV)} {SL : α0 → α1 → α2 → List (Nat × Option MObj)} (h : g n x0 x1 x2 = some r) (l : List (Nat × Nat)) (hA : SubAr (sg l) (SA x0 x1 x2) A:=by (repeat' (first | exact trivial | refine And.intro rfl ?_))) (hL : SubLr (sg l) (SL x0 x1 x2) L:=by (repeat' (first | exact trivial | refine And.intro rfl ?_))) (hb : sgB l (keysO (SL x0 x1 x2)) = true:=by exact rfl) : TE Γ N (LN3 Γ N g r (n + 1) SA SL) A L:=TE_nextr (p:=fun n (z : α0 × α1 × α2)=>g n z.1 z.2.1 z.2.2 = some r) (SA:=fun z=>SA z.1 z.2.1 z.2.2) (SL:=fun z=>SL z.1 z.2.1 z.2.2) l n (Nat.lt_succ_self n) (x0,x1,x2) h hA hL hb

theorem LP3 {c : Code} {α0 α1 α2 : Type} {δ : Type} {g : Nat → α0 → α1 → α2 → Option δ} {r : δ} {K : Nat} {x0 : α0} {x1 : α1} {x2 : α2} (h : g K x0 x1 x2 = some r) (l : List (Nat × Nat)) (SA : α0 → α1 → α2 → List (Nat × MV)) (SL : α0 → α1 → α2 → List (Nat × Option MObj)) (b : ∀ n x0 x1 x2,g (n + 1) x0 x1 x2 = some r → TC Tryz.prog Γ N c (Exit.then (LN3 Γ N g r (n + 1) SA SL) Q) (SA x0 x1 x2) (SL x0 x1 x2)) (hA : SubAr (sg l) (SA x0 x1 x2) A:=by (repeat' (first | exact trivial | refine And.intro rfl ?_))) (hL : SubLr (sg l) (SL x0 x1 x2) L:=by (repeat' (first | exact trivial | refine And.intro rfl ?_))) (hb : sgB l (keysO (SL x0 x1 x2)) = true:=by exact rfl) (h0 : ∀ x0 x1 x2,g 0 x0 x1 x2 = none:=by intros; exact rfl) : TC Tryz.prog Γ N (.loop c) Q A L:=TC_loop (α:=α0 × α1 × α2) (fun n z=>g n z.1 z.2.1 z.2.2 = some r) (fun z=>SA z.1 z.2.1 z.2.2) (fun z=>SL z.1 z.2.1 z.2.2) K (SP_ren l (x0,x1,x2) h hA hL hb) (fun n z hz=>by
 rcases n with _ | n
 ·rw [h0] at hz; cases hz
 ·exact b n _ _ _ hz)

def LN4 (Γ : Gd) (N : Nat) {α0 α1 α2 α3 : Type} {δ : Type} (g : Nat → α0 → α1 → α2 → α3 → Option δ) (r : δ) (n : Nat) (SA : α0 → α1 → α2 → α3 → List (Nat × MV)) (SL : α0 → α1 → α2 → α3 → List (Nat × Option MObj)) : Act → World → Prop:=fun a w=>∃ n',n' < n ∧ SP Γ N (fun z : α0 × α1 × α2 × α3=>g n' z.1 z.2.1 z.2.2.1 z.2.2.2 = some r) (fun z=>SA z.1 z.2.1 z.2.2.1 z.2.2.2) (fun z=>SL z.1 z.2.1 z.2.2.1 z.2.2.2) a w

theorem NX4 {α0 α1 α2 α3 : Type} {δ : Type} {g : Nat → α0 → α1 → α2 → α3 → Option δ} {r : δ} {n : Nat} {x0 : α0} {x1 : α1} {x2 : α2} {x3 : α3} {SA : α0 → α1 → α2 → α3 → List (Nat × MV)} {SL : α0 → α1 → α2 → α3 → List (Nat × Option MObj)} (h : g n x0 x1 x2 x3 = some r) (l : List (Nat × Nat)) (hA : SubAr (sg l) (SA x0 x1 x2 x3) A:=by (repeat' (first | exact trivial | refine And.intro rfl ?_))) (hL : SubLr (sg l) (SL x0 x1 x2 x3) L:=by (repeat' (first | exact trivial | refine And.intro rfl ?_))) (hb : sgB l (keysO (SL x0 x1 x2 x3)) = true:=by exact rfl) : TE Γ N (LN4 Γ N g r (n + 1) SA SL) A L:=TE_nextr (p:=fun n (z : α0 × α1 × α2 × α3)=>g n z.1 z.2.1 z.2.2.1 z.2.2.2 = some r) (SA:=fun z=>SA z.1 z.2.1 z.2.2.1 z.2.2.2) (SL:=fun z=>SL z.1 z.2.1 z.2.2.1 z.2.2.2) l n (Nat.lt_succ_self n) (x0,x1,x2,x3) h hA hL hb

theorem LP4 {c : Code} {α0 α1 α2 α3 : Type} {δ : Type} {g : Nat → α0 → α1 → α2 → α3 → Option δ} {r : δ} {K : Nat} {x0 : α0} {x1 : α1} {x2 : α2} {x3 : α3} (h : g K x0 x1 x2 x3 = some r) (l : List (Nat × Nat)) (SA : α0 → α1 → α2 → α3 → List (Nat × MV)) (SL : α0 → α1 → α2 → α3 → List (Nat × Option MObj)) (b : ∀ n x0 x1 x2 x3,g (n + 1) x0 x1 x2 x3 = some r → TC Tryz.prog Γ N c (Exit.then (LN4 Γ N g r (n + 1) SA SL) Q) (SA x0 x1 x2 x3) (SL x0 x1 x2 x3)) (hA : SubAr (sg l) (SA x0 x1 x2 x3) A:=by (repeat' (first | exact trivial | refine And.intro rfl ?_))) (hL : SubLr (sg l) (SL x0 x1 x2 x3) L:=by (repeat' (first | exact trivial | refine And.intro rfl ?_))) (hb : sgB l (keysO (SL x0 x1 x2 x3)) = true:=by exact rfl) (h0 : ∀ x0 x1 x2 x3,g 0 x0 x1 x2 x3 = none:=by intros; exact rfl) : TC Tryz.prog Γ N (.loop c) Q A L:=TC_loop (α:=α0 × α1 × α2 × α3) (fun n z=>g n z.1 z.2.1 z.2.2.1 z.2.2.2 = some r) (fun z=>SA z.1 z.2.1 z.2.2.1 z.2.2.2) (fun z=>SL z.1 z.2.1 z.2.2.1 z.2.2.2) K (SP_ren l (x0,x1,x2,x3) h hA hL hb) (fun n z hz=>by
 rcases n with _ | n
 ·rw [h0] at hz; cases hz
 ·exact b n _ _ _ _ hz)

end
theorem pj1 {α : Type} {a c : α} (h : some a = some c) : c = a:=sinj h

theorem pj2 {α0 α1 : Type} {a0 c0 : α0} {a1 c1 : α1} (h : some (a0,a1) = some (c0,c1)) : c0 = a0 ∧ c1 = a1:=by cases h; exact ⟨rfl,rfl⟩

theorem pj3 {α0 α1 α2 : Type} {a0 c0 : α0} {a1 c1 : α1} {a2 c2 : α2} (h : some (a0,a1,a2) = some (c0,c1,c2)) : c0 = a0 ∧ c1 = a1 ∧ c2 = a2:=by cases h; exact ⟨rfl,rfl,rfl⟩

theorem pj4 {α0 α1 α2 α3 : Type} {a0 c0 : α0} {a1 c1 : α1} {a2 c2 : α2} {a3 c3 : α3} (h : some (a0,a1,a2,a3) = some (c0,c1,c2,c3)) : c0 = a0 ∧ c1 = a1 ∧ c2 = a2 ∧ c3 = a3:=by cases h; exact ⟨rfl,rfl,rfl,rfl⟩

theorem pj5 {α0 α1 α2 α3 α4 : Type} {a0 c0 : α0} {a1 c1 : α1} {a2 c2 : α2} {a3 c3 : α3} {a4 c4 : α4} (h : some (a0,a1,a2,a3,a4) = some (c0,c1,c2,c3,c4)) : c0 = a0 ∧ c1 = a1 ∧ c2 = a2 ∧ c3 = a3 ∧ c4 = a4:=by cases h; exact ⟨rfl,rfl,rfl,rfl,rfl⟩

theorem pj6 {α0 α1 α2 α3 α4 α5 : Type} {a0 c0 : α0} {a1 c1 : α1} {a2 c2 : α2} {a3 c3 : α3} {a4 c4 : α4} {a5 c5 : α5} (h : some (a0,a1,a2,a3,a4,a5) = some (c0,c1,c2,c3,c4,c5)) : c0 = a0 ∧ c1 = a1 ∧ c2 = a2 ∧ c3 = a3 ∧ c4 = a4 ∧ c5 = a5:=by cases h; exact ⟨rfl,rfl,rfl,rfl,rfl,rfl⟩

theorem pj7 {α0 α1 α2 α3 α4 α5 α6 : Type} {a0 c0 : α0} {a1 c1 : α1} {a2 c2 : α2} {a3 c3 : α3} {a4 c4 : α4} {a5 c5 : α5} {a6 c6 : α6} (h : some (a0,a1,a2,a3,a4,a5,a6) = some (c0,c1,c2,c3,c4,c5,c6)) : c0 = a0 ∧ c1 = a1 ∧ c2 = a2 ∧ c3 = a3 ∧ c4 = a4 ∧ c5 = a5 ∧ c6 = a6:=by cases h; exact ⟨rfl,rfl,rfl,rfl,rfl,rfl,rfl⟩

end Go.Fo
