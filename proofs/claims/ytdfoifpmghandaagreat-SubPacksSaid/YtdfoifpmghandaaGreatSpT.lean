/- What the kit's program says of the types that these functions use. -/
import Derived.Test.YtdfoifpmghandaaGreatProg
import Derived.Test.YtdfoifpmghandaaGreatJ3
namespace Go.Fo
abbrev J (x : Int) : MV:=.int .i64 x
abbrev C (l : List MV) : Option MObj:=some (.cells l)
abbrev M0 (x : List (Int)) : MV:=.im (.slice (.int .i64)) x
abbrev M1 (x : List (List (Int))) : MV:=.im (.slice (.slice (.int .i64))) x
abbrev M2 (x : List (List (List (Int)))) : MV:=.im (.slice (.slice (.slice (.int .i64)))) x
abbrev W3 (x : List (Bool)) : Option MObj:=some (.rows (.bool) x)
abbrev M4 (x : List (Int)) : MV:=.im (.slice (.int .i16)) x
abbrev W5 (x : List (Int)) : Option MObj:=some (.rows (.int .i16) x)
abbrev W6 (x : List (Int)) : Option MObj:=some (.rows (.int .i64) x)
abbrev M7 (x : List (Int)) : MV:=.im (.slice (.int .u8)) x
abbrev W8 (x : List (List (Int))) : Option MObj:=some (.rows (.slice (.int .i64)) x)
abbrev W9 (x : List (List (List (Int)))) : Option MObj:=some (.rows (.slice (.slice (.int .i64))) x)
abbrev W10 (x : List (Int)) : Option MObj:=some (.rows (.int .u8) x)
abbrev M11 (x : List ((Int × Int))) : MV:=.im (.slice (.pair (.int .i64) (.int .i64))) x
abbrev W12 (x : List ((Int × Int))) : Option MObj:=some (.rows (.pair (.int .i64) (.int .i64)) x)
abbrev M13 (x : List (List (Int))) : MV:=.im (.slice (.slice (.int .i16))) x
abbrev M14 (x : List (Int)) : MV:=.im (.slice (.int .i32)) x
abbrev W15 (x : List (Int)) : Option MObj:=some (.rows (.int .i32) x)
abbrev M16 (x : List (List (List (Int)))) : MV:=.im (.slice (.slice (.slice (.int .i32)))) x
abbrev M17 (x : List (List (Int))) : MV:=.im (.slice (.slice (.int .i32))) x
abbrev M18 (x : List (Bool)) : MV:=.im (.slice (.bool)) x
open Go.Proofs
def ti2 : TI:={ agg:=false,size:=1,bytes:=8,zero:=[.int .i64 0],ik:=some .i64 }
theorem tok2 : tokb Tryz.prog 2 ti2 = true:=by kernel_rfl
def ti3 : TI:={ agg:=false,size:=1,bytes:=8,zero:=[.int .i64 0],ik:=some .i64 }
theorem tok3 : tokb Tryz.prog 3 ti3 = true:=by kernel_rfl
def ti4 : TI:={ agg:=false,size:=1,bytes:=1,zero:=[.bool false],tag:=1 }
theorem tok4 : tokb Tryz.prog 4 ti4 = true:=by kernel_rfl
def ti5 : TI:={ agg:=false,size:=1,bytes:=1,zero:=[.int .u8 0],ik:=some .u8 }
theorem tok5 : tokb Tryz.prog 5 ti5 = true:=by kernel_rfl
def ti9 : TI:={ agg:=false,size:=1,bytes:=16,zero:=[.str ⟨#[]⟩],tag:=7 }
theorem tok9 : tokb Tryz.prog 9 ti9 = true:=by kernel_rfl
def ti21 : TI:={ agg:=false,size:=1,bytes:=4,zero:=[.int .i32 0],ik:=some .i32 }
theorem tok21 : tokb Tryz.prog 21 ti21 = true:=by kernel_rfl
def ti23 : TI:={ agg:=true,size:=10,bytes:=80,zero:=[.int .i64 0,.int .i64 0,.int .i64 0,.int .i64 0,.int .i64 0,.int .i64 0,.int .i64 0,.int .i64 0,.int .i64 0,.int .i64 0],fields:=[(0,1,false),(1,1,false),(2,1,false),(3,1,false),(4,1,false),(5,1,false),(6,1,false),(7,1,false),(8,1,false),(9,1,false)] }
theorem tok23 : tokb Tryz.prog 23 ti23 = true:=by kernel_rfl
def ti24 : TI:={ agg:=false,size:=1,bytes:=24,zero:=[.nils],elem:=3,esz:=1,slc:=true,ek:=some (.int .i64),eb:=8,tag:=3 }
theorem tok24 : tokb Tryz.prog 24 ti24 = true:=by kernel_rfl
def ti25 : TI:={ agg:=false,size:=1,bytes:=24,zero:=[.nils],elem:=24,esz:=1,slc:=true,ek:=some (.slice (.int .i64)),eb:=24,rr:=some (.int .i64),tag:=3 }
theorem tok25 : tokb Tryz.prog 25 ti25 = true:=by kernel_rfl
def ti26 : TI:={ agg:=false,size:=1,bytes:=24,zero:=[.nils],elem:=25,esz:=1,slc:=true,ek:=some (.slice (.slice (.int .i64))),eb:=24,rr:=some (.slice (.int .i64)),tag:=3 }
theorem tok26 : tokb Tryz.prog 26 ti26 = true:=by kernel_rfl
def ti28 : TI:={ agg:=true,size:=3,bytes:=72,zero:=[.nils,.nils,.nils],fields:=[(0,1,false),(1,1,false),(2,1,false)] }
theorem tok28 : tokb Tryz.prog 28 ti28 = true:=by kernel_rfl
def ti31 : TI:={ agg:=false,size:=1,bytes:=24,zero:=[.nils],elem:=5,esz:=1,slc:=true,ek:=some (.int .u8),eb:=1,tag:=3 }
theorem tok31 : tokb Tryz.prog 31 ti31 = true:=by kernel_rfl
def ti35 : TI:={ agg:=true,size:=3,bytes:=72,zero:=[.nils,.nils,.nils],fields:=[(0,1,false),(1,1,false),(2,1,false)] }
theorem tok35 : tokb Tryz.prog 35 ti35 = true:=by kernel_rfl
def ti45 : TI:={ agg:=false,size:=1,bytes:=8,zero:=[.nilp],tag:=2 }
theorem tok45 : tokb Tryz.prog 45 ti45 = true:=by kernel_rfl
def ti48 : TI:={ agg:=false,size:=1,bytes:=8,zero:=[.nilp],tag:=2 }
theorem tok48 : tokb Tryz.prog 48 ti48 = true:=by kernel_rfl
def ti52 : TI:={ agg:=false,size:=1,bytes:=24,zero:=[.nils],elem:=168,esz:=1,slc:=true,ek:=some (.int .i16),eb:=2,tag:=3 }
theorem tok52 : tokb Tryz.prog 52 ti52 = true:=by kernel_rfl
def ti56 : TI:={ agg:=false,size:=1,bytes:=8,zero:=[.nilp],tag:=2 }
theorem tok56 : tokb Tryz.prog 56 ti56 = true:=by kernel_rfl
def ti61 : TI:={ agg:=true,size:=2,bytes:=16,zero:=[.int .i64 0,.int .i64 0],elem:=3,esz:=1,alen:=2,eagg:=false,arr:=true }
theorem tok61 : tokb Tryz.prog 61 ti61 = true:=by kernel_rfl
def ti62 : TI:={ agg:=false,size:=1,bytes:=24,zero:=[.nils],elem:=61,esz:=2,slc:=true,ek:=some (.pair (.int .i64) (.int .i64)),eb:=16,tag:=3 }
theorem tok62 : tokb Tryz.prog 62 ti62 = true:=by kernel_rfl
def ti66 : TI:={ agg:=false,size:=1,bytes:=8,zero:=[.nilp],tag:=2 }
theorem tok66 : tokb Tryz.prog 66 ti66 = true:=by kernel_rfl
def ti69 : TI:={ agg:=false,size:=1,bytes:=4,zero:=[.int .u32 0],ik:=some .u32 }
theorem tok69 : tokb Tryz.prog 69 ti69 = true:=by kernel_rfl
def ti85 : TI:={ agg:=true,size:=3,bytes:=40,zero:=[.nils,.int .i64 0,.int .i64 0],fields:=[(0,1,false),(1,1,false),(2,1,false)] }
theorem tok85 : tokb Tryz.prog 85 ti85 = true:=by kernel_rfl
def ti91 : TI:={ agg:=false,size:=1,bytes:=24,zero:=[.nils],elem:=94,esz:=1,slc:=true,tag:=3 }
theorem tok91 : tokb Tryz.prog 91 ti91 = true:=by kernel_rfl
def ti93 : TI:={ agg:=true,size:=11,bytes:=104,zero:=[.int .i64 0,.int .i64 0,.int .i64 0,.int .i64 0,.int .i64 0,.int .i64 0,.int .i64 0,.int .i64 0,.int .i64 0,.int .i64 0,.nils],fields:=[(0,10,true),(10,1,false)] }
theorem tok93 : tokb Tryz.prog 93 ti93 = true:=by kernel_rfl
def ti94 : TI:={ agg:=false,size:=1,bytes:=8,zero:=[.nilp],tag:=2 }
theorem tok94 : tokb Tryz.prog 94 ti94 = true:=by kernel_rfl
def ti107 : TI:={ agg:=true,size:=3,bytes:=12,zero:=[.int .u32 0,.int .i32 0,.int .u32 0],fields:=[(0,0,true),(0,1,true),(1,2,true)] }
theorem tok107 : tokb Tryz.prog 107 ti107 = true:=by kernel_rfl
def ti109 : TI:={ agg:=true,size:=4,bytes:=40,zero:=[.int .u32 0,.int .i32 0,.int .u32 0,.nils],fields:=[(0,3,true),(3,1,false)] }
theorem tok109 : tokb Tryz.prog 109 ti109 = true:=by kernel_rfl
def ti110 : TI:={ agg:=true,size:=1028,bytes:=10280,zero:=tcs (List.replicate 257 none),elem:=109,esz:=4,alen:=257,eagg:=true,arr:=true }
theorem tok110 : tokb Tryz.prog 110 ti110 = true:=by kernel_rfl
def ti112 : TI:={ agg:=true,size:=8,bytes:=80,zero:=[.int .u32 0,.int .i32 0,.int .u32 0,.nils,.int .u32 0,.int .i32 0,.int .u32 0,.nils],elem:=109,esz:=4,alen:=2,eagg:=true,arr:=true }
theorem tok112 : tokb Tryz.prog 112 ti112 = true:=by kernel_rfl
def ti117 : TI:={ agg:=true,size:=1554,bytes:=15536,zero:=pst (List.replicate 388 none) 0 0,fields:=[(0,1028,true),(1028,516,true),(1544,8,true),(1552,1,true),(1553,1,true)] }
theorem tok117 : tokb Tryz.prog 117 ti117 = true:=by kernel_rfl
def ti118 : TI:={ agg:=false,size:=1,bytes:=24,zero:=[.nils],elem:=52,esz:=1,slc:=true,ek:=some (.slice (.int .i16)),eb:=24,rr:=some (.int .i16),tag:=3 }
theorem tok118 : tokb Tryz.prog 118 ti118 = true:=by kernel_rfl
def ti121 : TI:={ agg:=false,size:=1,bytes:=24,zero:=[.nils],elem:=125,esz:=1,slc:=true,ek:=some (.slice (.slice (.int .i32))),eb:=24,rr:=some (.slice (.int .i32)),tag:=3 }
theorem tok121 : tokb Tryz.prog 121 ti121 = true:=by kernel_rfl
def ti122 : TI:={ agg:=false,size:=1,bytes:=24,zero:=[.nils],elem:=21,esz:=1,slc:=true,ek:=some (.int .i32),eb:=4,tag:=3 }
theorem tok122 : tokb Tryz.prog 122 ti122 = true:=by kernel_rfl
def ti125 : TI:={ agg:=false,size:=1,bytes:=24,zero:=[.nils],elem:=122,esz:=1,slc:=true,ek:=some (.slice (.int .i32)),eb:=24,rr:=some (.int .i32),tag:=3 }
theorem tok125 : tokb Tryz.prog 125 ti125 = true:=by kernel_rfl
def ti128 : TI:={ agg:=false,size:=1,bytes:=8,zero:=[.nilf],tag:=4 }
theorem tok128 : tokb Tryz.prog 128 ti128 = true:=by kernel_rfl
def ti131 : TI:={ agg:=false,size:=1,bytes:=8,zero:=[.nilf],tag:=4 }
theorem tok131 : tokb Tryz.prog 131 ti131 = true:=by kernel_rfl
def ti135 : TI:={ agg:=true,size:=2,bytes:=16,zero:=[.int .i64 0,.int .i64 0],fields:=[(0,1,false),(1,1,false)] }
theorem tok135 : tokb Tryz.prog 135 ti135 = true:=by kernel_rfl
def ti137 : TI:={ agg:=true,size:=3,bytes:=40,zero:=[.int .i64 0,.int .i64 0,.nils],fields:=[(0,2,true),(2,1,false)] }
theorem tok137 : tokb Tryz.prog 137 ti137 = true:=by kernel_rfl
def ti142 : TI:={ agg:=true,size:=3,bytes:=40,zero:=[.int .i64 0,.int .i64 0,.nils],fields:=[(0,2,true),(2,1,false)] }
theorem tok142 : tokb Tryz.prog 142 ti142 = true:=by kernel_rfl
def ti144 : TI:={ agg:=false,size:=1,bytes:=8,zero:=[.int .u64 0],ik:=some .u64 }
theorem tok144 : tokb Tryz.prog 144 ti144 = true:=by kernel_rfl
def ti148 : TI:={ agg:=false,size:=1,bytes:=8,zero:=[.nilp],tag:=2 }
theorem tok148 : tokb Tryz.prog 148 ti148 = true:=by kernel_rfl
def ti150 : TI:={ agg:=true,size:=5,bytes:=72,zero:=[.int .i64 0,.int .i64 0,.int .i64 0,.nils,.nils],fields:=[(0,1,false),(1,1,false),(2,1,false),(3,1,false),(4,1,false)] }
theorem tok150 : tokb Tryz.prog 150 ti150 = true:=by kernel_rfl
def ti162 : TI:={ agg:=true,size:=3,bytes:=56,zero:=[.int .i64 0,.nils,.nils],fields:=[(0,1,false),(1,1,false),(2,1,false)] }
theorem tok162 : tokb Tryz.prog 162 ti162 = true:=by kernel_rfl
def ti165 : TI:={ agg:=false,size:=1,bytes:=24,zero:=[.nils],elem:=2,esz:=1,slc:=true,ek:=some (.int .i64),eb:=8,tag:=3 }
theorem tok165 : tokb Tryz.prog 165 ti165 = true:=by kernel_rfl
def ti167 : TI:={ agg:=true,size:=4,bytes:=80,zero:=[.int .i64 0,.nils,.nils,.nils],fields:=[(0,3,true),(3,1,false)] }
theorem tok167 : tokb Tryz.prog 167 ti167 = true:=by kernel_rfl
def ti168 : TI:={ agg:=false,size:=1,bytes:=2,zero:=[.int .i16 0],ik:=some .i16 }
theorem tok168 : tokb Tryz.prog 168 ti168 = true:=by kernel_rfl
def ti172 : TI:={ agg:=false,size:=1,bytes:=24,zero:=[.nils],elem:=4,esz:=1,slc:=true,ek:=some (.bool),eb:=1,tag:=3 }
theorem tok172 : tokb Tryz.prog 172 ti172 = true:=by kernel_rfl
def ti184 : TI:={ agg:=true,size:=3,bytes:=16,zero:=[.int .i64 0,.int .u32 0,.int .u32 0],fields:=[(0,1,false),(1,1,false),(2,1,false)] }
theorem tok184 : tokb Tryz.prog 184 ti184 = true:=by kernel_rfl
def ti200 : TI:={ agg:=false,size:=1,bytes:=8,zero:=[.nilf],tag:=4 }
theorem tok200 : tokb Tryz.prog 200 ti200 = true:=by kernel_rfl
def ti201 : TI:={ agg:=false,size:=1,bytes:=8,zero:=[.nilf],tag:=4 }
theorem tok201 : tokb Tryz.prog 201 ti201 = true:=by kernel_rfl
def ti203 : TI:={ agg:=true,size:=4,bytes:=96,zero:=[.nils,.nils,.nils,.nils],elem:=24,esz:=1,alen:=4,eagg:=false,arr:=true }
theorem tok203 : tokb Tryz.prog 203 ti203 = true:=by kernel_rfl
def ti204 : TI:={ agg:=true,size:=4,bytes:=96,zero:=[.nils,.nils,.nils,.nils],elem:=125,esz:=1,alen:=4,eagg:=false,arr:=true }
theorem tok204 : tokb Tryz.prog 204 ti204 = true:=by kernel_rfl
def ti222 : TI:={ agg:=false,size:=1,bytes:=8,zero:=[.nilp],tag:=2 }
theorem tok222 : tokb Tryz.prog 222 ti222 = true:=by kernel_rfl
def ti224 : TI:={ agg:=false,size:=1,bytes:=8,zero:=[.nilf],tag:=4 }
theorem tok224 : tokb Tryz.prog 224 ti224 = true:=by kernel_rfl
def ti233 : TI:={ agg:=true,size:=4,bytes:=32,zero:=[.int .i64 0,.int .i64 0,.int .i64 0,.int .i64 0],elem:=3,esz:=1,alen:=4,eagg:=false,arr:=true }
theorem tok233 : tokb Tryz.prog 233 ti233 = true:=by kernel_rfl
def ti235 : TI:={ agg:=true,size:=16,bytes:=128,zero:=[.int .i64 0,.int .i64 0,.int .i64 0,.int .i64 0,.int .i64 0,.int .i64 0,.int .i64 0,.int .i64 0,.int .i64 0,.int .i64 0,.int .i64 0,.int .i64 0,.int .i64 0,.int .i64 0,.int .i64 0,.int .i64 0],elem:=233,esz:=4,alen:=4,eagg:=true,arr:=true }
theorem tok235 : tokb Tryz.prog 235 ti235 = true:=by kernel_rfl
def ti237 : TI:={ agg:=true,size:=8,bytes:=64,zero:=[.int .i64 0,.int .i64 0,.int .i64 0,.int .i64 0,.int .i64 0,.int .i64 0,.int .i64 0,.int .i64 0],elem:=3,esz:=1,alen:=8,eagg:=false,arr:=true }
theorem tok237 : tokb Tryz.prog 237 ti237 = true:=by kernel_rfl
def ti238 : TI:={ agg:=true,size:=32,bytes:=256,zero:=[.int .i64 0,.int .i64 0,.int .i64 0,.int .i64 0,.int .i64 0,.int .i64 0,.int .i64 0,.int .i64 0,.int .i64 0,.int .i64 0,.int .i64 0,.int .i64 0,.int .i64 0,.int .i64 0,.int .i64 0,.int .i64 0,.int .i64 0,.int .i64 0,.int .i64 0,.int .i64 0,.int .i64 0,.int .i64 0,.int .i64 0,.int .i64 0,.int .i64 0,.int .i64 0,.int .i64 0,.int .i64 0,.int .i64 0,.int .i64 0,.int .i64 0,.int .i64 0],elem:=237,esz:=8,alen:=4,eagg:=true,arr:=true }
theorem tok238 : tokb Tryz.prog 238 ti238 = true:=by kernel_rfl
def ti252 : TI:={ agg:=false,size:=1,bytes:=8,zero:=[.int .u64 0],ik:=some .u64 }
theorem tok252 : tokb Tryz.prog 252 ti252 = true:=by kernel_rfl
def ti255 : TI:={ agg:=true,size:=4,bytes:=32,zero:=[.int .u64 0,.int .u64 0,.int .u64 0,.int .u64 0],elem:=252,esz:=1,alen:=4,eagg:=false,arr:=true }
theorem tok255 : tokb Tryz.prog 255 ti255 = true:=by kernel_rfl
def tab : Nat → Option TI
  | 2=>some ti2
  | 3=>some ti3
  | 4=>some ti4
  | 5=>some ti5
  | 9=>some ti9
  | 21=>some ti21
  | 23=>some ti23
  | 24=>some ti24
  | 25=>some ti25
  | 26=>some ti26
  | 28=>some ti28
  | 31=>some ti31
  | 35=>some ti35
  | 45=>some ti45
  | 48=>some ti48
  | 52=>some ti52
  | 56=>some ti56
  | 61=>some ti61
  | 62=>some ti62
  | 66=>some ti66
  | 69=>some ti69
  | 85=>some ti85
  | 91=>some ti91
  | 93=>some ti93
  | 94=>some ti94
  | 107=>some ti107
  | 109=>some ti109
  | 110=>some ti110
  | 112=>some ti112
  | 117=>some ti117
  | 118=>some ti118
  | 121=>some ti121
  | 122=>some ti122
  | 125=>some ti125
  | 128=>some ti128
  | 131=>some ti131
  | 135=>some ti135
  | 137=>some ti137
  | 142=>some ti142
  | 144=>some ti144
  | 148=>some ti148
  | 150=>some ti150
  | 162=>some ti162
  | 165=>some ti165
  | 167=>some ti167
  | 168=>some ti168
  | 172=>some ti172
  | 184=>some ti184
  | 200=>some ti200
  | 201=>some ti201
  | 203=>some ti203
  | 204=>some ti204
  | 222=>some ti222
  | 224=>some ti224
  | 233=>some ti233
  | 235=>some ti235
  | 237=>some ti237
  | 238=>some ti238
  | 252=>some ti252
  | 255=>some ti255
  | _=>none
theorem tab_ok (t : Nat) (i : TI) (h : tab t = some i) : TOK Tryz.prog t i:=by
 unfold tab at h
 split at h
 ·cases h; exact tok_of tok2
 ·cases h; exact tok_of tok3
 ·cases h; exact tok_of tok4
 ·cases h; exact tok_of tok5
 ·cases h; exact tok_of tok9
 ·cases h; exact tok_of tok21
 ·cases h; exact tok_of tok23
 ·cases h; exact tok_of tok24
 ·cases h; exact tok_of tok25
 ·cases h; exact tok_of tok26
 ·cases h; exact tok_of tok28
 ·cases h; exact tok_of tok31
 ·cases h; exact tok_of tok35
 ·cases h; exact tok_of tok45
 ·cases h; exact tok_of tok48
 ·cases h; exact tok_of tok52
 ·cases h; exact tok_of tok56
 ·cases h; exact tok_of tok61
 ·cases h; exact tok_of tok62
 ·cases h; exact tok_of tok66
 ·cases h; exact tok_of tok69
 ·cases h; exact tok_of tok85
 ·cases h; exact tok_of tok91
 ·cases h; exact tok_of tok93
 ·cases h; exact tok_of tok94
 ·cases h; exact tok_of tok107
 ·cases h; exact tok_of tok109
 ·cases h; exact tok_of tok110
 ·cases h; exact tok_of tok112
 ·cases h; exact tok_of tok117
 ·cases h; exact tok_of tok118
 ·cases h; exact tok_of tok121
 ·cases h; exact tok_of tok122
 ·cases h; exact tok_of tok125
 ·cases h; exact tok_of tok128
 ·cases h; exact tok_of tok131
 ·cases h; exact tok_of tok135
 ·cases h; exact tok_of tok137
 ·cases h; exact tok_of tok142
 ·cases h; exact tok_of tok144
 ·cases h; exact tok_of tok148
 ·cases h; exact tok_of tok150
 ·cases h; exact tok_of tok162
 ·cases h; exact tok_of tok165
 ·cases h; exact tok_of tok167
 ·cases h; exact tok_of tok168
 ·cases h; exact tok_of tok172
 ·cases h; exact tok_of tok184
 ·cases h; exact tok_of tok200
 ·cases h; exact tok_of tok201
 ·cases h; exact tok_of tok203
 ·cases h; exact tok_of tok204
 ·cases h; exact tok_of tok222
 ·cases h; exact tok_of tok224
 ·cases h; exact tok_of tok233
 ·cases h; exact tok_of tok235
 ·cases h; exact tok_of tok237
 ·cases h; exact tok_of tok238
 ·cases h; exact tok_of tok252
 ·cases h; exact tok_of tok255
 ·cases h
theorem tab_eq (t : Nat) (i : TI) (h : tab t = some i) (e : i.eqf = true) : EqF Tryz.prog t i:=by
 unfold tab at h
 split at h
 ·cases h; cases e
 ·cases h; cases e
 ·cases h; cases e
 ·cases h; cases e
 ·cases h; cases e
 ·cases h; cases e
 ·cases h; cases e
 ·cases h; cases e
 ·cases h; cases e
 ·cases h; cases e
 ·cases h; cases e
 ·cases h; cases e
 ·cases h; cases e
 ·cases h; cases e
 ·cases h; cases e
 ·cases h; cases e
 ·cases h; cases e
 ·cases h; cases e
 ·cases h; cases e
 ·cases h; cases e
 ·cases h; cases e
 ·cases h; cases e
 ·cases h; cases e
 ·cases h; cases e
 ·cases h; cases e
 ·cases h; cases e
 ·cases h; cases e
 ·cases h; cases e
 ·cases h; cases e
 ·cases h; cases e
 ·cases h; cases e
 ·cases h; cases e
 ·cases h; cases e
 ·cases h; cases e
 ·cases h; cases e
 ·cases h; cases e
 ·cases h; cases e
 ·cases h; cases e
 ·cases h; cases e
 ·cases h; cases e
 ·cases h; cases e
 ·cases h; cases e
 ·cases h; cases e
 ·cases h; cases e
 ·cases h; cases e
 ·cases h; cases e
 ·cases h; cases e
 ·cases h; cases e
 ·cases h; cases e
 ·cases h; cases e
 ·cases h; cases e
 ·cases h; cases e
 ·cases h; cases e
 ·cases h; cases e
 ·cases h; cases e
 ·cases h; cases e
 ·cases h; cases e
 ·cases h; cases e
 ·cases h; cases e
 ·cases h; cases e
 ·cases h
def tiH25 : TI:={ agg:=false,size:=1,bytes:=24,zero:=[.nils],elem:=24,esz:=1,slc:=true,tag:=3 }
theorem tokH25 : tokb Tryz.prog 25 tiH25 = true:=by kernel_rfl
def tiH26 : TI:={ agg:=false,size:=1,bytes:=24,zero:=[.nils],elem:=25,esz:=1,slc:=true,tag:=3 }
theorem tokH26 : tokb Tryz.prog 26 tiH26 = true:=by kernel_rfl
def tiH118 : TI:={ agg:=false,size:=1,bytes:=24,zero:=[.nils],elem:=52,esz:=1,slc:=true,tag:=3 }
theorem tokH118 : tokb Tryz.prog 118 tiH118 = true:=by kernel_rfl
def tiH121 : TI:={ agg:=false,size:=1,bytes:=24,zero:=[.nils],elem:=125,esz:=1,slc:=true,tag:=3 }
theorem tokH121 : tokb Tryz.prog 121 tiH121 = true:=by kernel_rfl
def tiH125 : TI:={ agg:=false,size:=1,bytes:=24,zero:=[.nils],elem:=122,esz:=1,slc:=true,tag:=3 }
theorem tokH125 : tokb Tryz.prog 125 tiH125 = true:=by kernel_rfl
def tabH : Nat → Option TI
  | 2=>some ti2
  | 3=>some ti3
  | 4=>some ti4
  | 5=>some ti5
  | 9=>some ti9
  | 21=>some ti21
  | 23=>some ti23
  | 24=>some ti24
  | 25=>some tiH25
  | 26=>some tiH26
  | 28=>some ti28
  | 31=>some ti31
  | 35=>some ti35
  | 45=>some ti45
  | 48=>some ti48
  | 52=>some ti52
  | 56=>some ti56
  | 61=>some ti61
  | 62=>some ti62
  | 66=>some ti66
  | 69=>some ti69
  | 85=>some ti85
  | 91=>some ti91
  | 93=>some ti93
  | 94=>some ti94
  | 107=>some ti107
  | 109=>some ti109
  | 110=>some ti110
  | 112=>some ti112
  | 117=>some ti117
  | 118=>some tiH118
  | 121=>some tiH121
  | 122=>some ti122
  | 125=>some tiH125
  | 128=>some ti128
  | 131=>some ti131
  | 135=>some ti135
  | 137=>some ti137
  | 142=>some ti142
  | 144=>some ti144
  | 148=>some ti148
  | 150=>some ti150
  | 162=>some ti162
  | 165=>some ti165
  | 167=>some ti167
  | 168=>some ti168
  | 172=>some ti172
  | 184=>some ti184
  | 200=>some ti200
  | 201=>some ti201
  | 203=>some ti203
  | 204=>some ti204
  | 222=>some ti222
  | 224=>some ti224
  | 233=>some ti233
  | 235=>some ti235
  | 237=>some ti237
  | 238=>some ti238
  | 252=>some ti252
  | 255=>some ti255
  | _=>none
theorem tabH_ok (t : Nat) (i : TI) (h : tabH t = some i) : TOK Tryz.prog t i:=by
 unfold tabH at h
 split at h
 ·cases h; exact tok_of tok2
 ·cases h; exact tok_of tok3
 ·cases h; exact tok_of tok4
 ·cases h; exact tok_of tok5
 ·cases h; exact tok_of tok9
 ·cases h; exact tok_of tok21
 ·cases h; exact tok_of tok23
 ·cases h; exact tok_of tok24
 ·cases h; exact tok_of tokH25
 ·cases h; exact tok_of tokH26
 ·cases h; exact tok_of tok28
 ·cases h; exact tok_of tok31
 ·cases h; exact tok_of tok35
 ·cases h; exact tok_of tok45
 ·cases h; exact tok_of tok48
 ·cases h; exact tok_of tok52
 ·cases h; exact tok_of tok56
 ·cases h; exact tok_of tok61
 ·cases h; exact tok_of tok62
 ·cases h; exact tok_of tok66
 ·cases h; exact tok_of tok69
 ·cases h; exact tok_of tok85
 ·cases h; exact tok_of tok91
 ·cases h; exact tok_of tok93
 ·cases h; exact tok_of tok94
 ·cases h; exact tok_of tok107
 ·cases h; exact tok_of tok109
 ·cases h; exact tok_of tok110
 ·cases h; exact tok_of tok112
 ·cases h; exact tok_of tok117
 ·cases h; exact tok_of tokH118
 ·cases h; exact tok_of tokH121
 ·cases h; exact tok_of tok122
 ·cases h; exact tok_of tokH125
 ·cases h; exact tok_of tok128
 ·cases h; exact tok_of tok131
 ·cases h; exact tok_of tok135
 ·cases h; exact tok_of tok137
 ·cases h; exact tok_of tok142
 ·cases h; exact tok_of tok144
 ·cases h; exact tok_of tok148
 ·cases h; exact tok_of tok150
 ·cases h; exact tok_of tok162
 ·cases h; exact tok_of tok165
 ·cases h; exact tok_of tok167
 ·cases h; exact tok_of tok168
 ·cases h; exact tok_of tok172
 ·cases h; exact tok_of tok184
 ·cases h; exact tok_of tok200
 ·cases h; exact tok_of tok201
 ·cases h; exact tok_of tok203
 ·cases h; exact tok_of tok204
 ·cases h; exact tok_of tok222
 ·cases h; exact tok_of tok224
 ·cases h; exact tok_of tok233
 ·cases h; exact tok_of tok235
 ·cases h; exact tok_of tok237
 ·cases h; exact tok_of tok238
 ·cases h; exact tok_of tok252
 ·cases h; exact tok_of tok255
 ·cases h
theorem tabH_eq (t : Nat) (i : TI) (h : tabH t = some i) (e : i.eqf = true) : EqF Tryz.prog t i:=by
 unfold tabH at h
 split at h
 ·cases h; cases e
 ·cases h; cases e
 ·cases h; cases e
 ·cases h; cases e
 ·cases h; cases e
 ·cases h; cases e
 ·cases h; cases e
 ·cases h; cases e
 ·cases h; cases e
 ·cases h; cases e
 ·cases h; cases e
 ·cases h; cases e
 ·cases h; cases e
 ·cases h; cases e
 ·cases h; cases e
 ·cases h; cases e
 ·cases h; cases e
 ·cases h; cases e
 ·cases h; cases e
 ·cases h; cases e
 ·cases h; cases e
 ·cases h; cases e
 ·cases h; cases e
 ·cases h; cases e
 ·cases h; cases e
 ·cases h; cases e
 ·cases h; cases e
 ·cases h; cases e
 ·cases h; cases e
 ·cases h; cases e
 ·cases h; cases e
 ·cases h; cases e
 ·cases h; cases e
 ·cases h; cases e
 ·cases h; cases e
 ·cases h; cases e
 ·cases h; cases e
 ·cases h; cases e
 ·cases h; cases e
 ·cases h; cases e
 ·cases h; cases e
 ·cases h; cases e
 ·cases h; cases e
 ·cases h; cases e
 ·cases h; cases e
 ·cases h; cases e
 ·cases h; cases e
 ·cases h; cases e
 ·cases h; cases e
 ·cases h; cases e
 ·cases h; cases e
 ·cases h; cases e
 ·cases h; cases e
 ·cases h; cases e
 ·cases h; cases e
 ·cases h; cases e
 ·cases h; cases e
 ·cases h; cases e
 ·cases h; cases e
 ·cases h; cases e
 ·cases h
def envH : Env Tryz.prog:=⟨tabH,tabH_ok,tabH_eq⟩
def tiD25 : TI:={ agg:=false,size:=1,bytes:=24,zero:=[.nils],elem:=24,esz:=1,slc:=true,ek:=some (.slice (.int .i64)),eb:=24,tag:=3 }
theorem tokD25 : tokb Tryz.prog 25 tiD25 = true:=by kernel_rfl
def tiD26 : TI:={ agg:=false,size:=1,bytes:=24,zero:=[.nils],elem:=25,esz:=1,slc:=true,ek:=some (.slice (.slice (.int .i64))),eb:=24,tag:=3 }
theorem tokD26 : tokb Tryz.prog 26 tiD26 = true:=by kernel_rfl
def tiD118 : TI:={ agg:=false,size:=1,bytes:=24,zero:=[.nils],elem:=52,esz:=1,slc:=true,ek:=some (.slice (.int .i16)),eb:=24,tag:=3 }
theorem tokD118 : tokb Tryz.prog 118 tiD118 = true:=by kernel_rfl
def tiD121 : TI:={ agg:=false,size:=1,bytes:=24,zero:=[.nils],elem:=125,esz:=1,slc:=true,ek:=some (.slice (.slice (.int .i32))),eb:=24,tag:=3 }
theorem tokD121 : tokb Tryz.prog 121 tiD121 = true:=by kernel_rfl
def tiD125 : TI:={ agg:=false,size:=1,bytes:=24,zero:=[.nils],elem:=122,esz:=1,slc:=true,ek:=some (.slice (.int .i32)),eb:=24,tag:=3 }
theorem tokD125 : tokb Tryz.prog 125 tiD125 = true:=by kernel_rfl
def tabD : Nat → Option TI
  | 2=>some ti2
  | 3=>some ti3
  | 4=>some ti4
  | 5=>some ti5
  | 9=>some ti9
  | 21=>some ti21
  | 23=>some ti23
  | 24=>some ti24
  | 25=>some tiD25
  | 26=>some tiD26
  | 28=>some ti28
  | 31=>some ti31
  | 35=>some ti35
  | 45=>some ti45
  | 48=>some ti48
  | 52=>some ti52
  | 56=>some ti56
  | 61=>some ti61
  | 62=>some ti62
  | 66=>some ti66
  | 69=>some ti69
  | 85=>some ti85
  | 91=>some ti91
  | 93=>some ti93
  | 94=>some ti94
  | 107=>some ti107
  | 109=>some ti109
  | 110=>some ti110
  | 112=>some ti112
  | 117=>some ti117
  | 118=>some tiD118
  | 121=>some tiD121
  | 122=>some ti122
  | 125=>some tiD125
  | 128=>some ti128
  | 131=>some ti131
  | 135=>some ti135
  | 137=>some ti137
  | 142=>some ti142
  | 144=>some ti144
  | 148=>some ti148
  | 150=>some ti150
  | 162=>some ti162
  | 165=>some ti165
  | 167=>some ti167
  | 168=>some ti168
  | 172=>some ti172
  | 184=>some ti184
  | 200=>some ti200
  | 201=>some ti201
  | 203=>some ti203
  | 204=>some ti204
  | 222=>some ti222
  | 224=>some ti224
  | 233=>some ti233
  | 235=>some ti235
  | 237=>some ti237
  | 238=>some ti238
  | 252=>some ti252
  | 255=>some ti255
  | _=>none
theorem tabD_ok (t : Nat) (i : TI) (h : tabD t = some i) : TOK Tryz.prog t i:=by
 unfold tabD at h
 split at h
 ·cases h; exact tok_of tok2
 ·cases h; exact tok_of tok3
 ·cases h; exact tok_of tok4
 ·cases h; exact tok_of tok5
 ·cases h; exact tok_of tok9
 ·cases h; exact tok_of tok21
 ·cases h; exact tok_of tok23
 ·cases h; exact tok_of tok24
 ·cases h; exact tok_of tokD25
 ·cases h; exact tok_of tokD26
 ·cases h; exact tok_of tok28
 ·cases h; exact tok_of tok31
 ·cases h; exact tok_of tok35
 ·cases h; exact tok_of tok45
 ·cases h; exact tok_of tok48
 ·cases h; exact tok_of tok52
 ·cases h; exact tok_of tok56
 ·cases h; exact tok_of tok61
 ·cases h; exact tok_of tok62
 ·cases h; exact tok_of tok66
 ·cases h; exact tok_of tok69
 ·cases h; exact tok_of tok85
 ·cases h; exact tok_of tok91
 ·cases h; exact tok_of tok93
 ·cases h; exact tok_of tok94
 ·cases h; exact tok_of tok107
 ·cases h; exact tok_of tok109
 ·cases h; exact tok_of tok110
 ·cases h; exact tok_of tok112
 ·cases h; exact tok_of tok117
 ·cases h; exact tok_of tokD118
 ·cases h; exact tok_of tokD121
 ·cases h; exact tok_of tok122
 ·cases h; exact tok_of tokD125
 ·cases h; exact tok_of tok128
 ·cases h; exact tok_of tok131
 ·cases h; exact tok_of tok135
 ·cases h; exact tok_of tok137
 ·cases h; exact tok_of tok142
 ·cases h; exact tok_of tok144
 ·cases h; exact tok_of tok148
 ·cases h; exact tok_of tok150
 ·cases h; exact tok_of tok162
 ·cases h; exact tok_of tok165
 ·cases h; exact tok_of tok167
 ·cases h; exact tok_of tok168
 ·cases h; exact tok_of tok172
 ·cases h; exact tok_of tok184
 ·cases h; exact tok_of tok200
 ·cases h; exact tok_of tok201
 ·cases h; exact tok_of tok203
 ·cases h; exact tok_of tok204
 ·cases h; exact tok_of tok222
 ·cases h; exact tok_of tok224
 ·cases h; exact tok_of tok233
 ·cases h; exact tok_of tok235
 ·cases h; exact tok_of tok237
 ·cases h; exact tok_of tok238
 ·cases h; exact tok_of tok252
 ·cases h; exact tok_of tok255
 ·cases h
theorem tabD_eq (t : Nat) (i : TI) (h : tabD t = some i) (e : i.eqf = true) : EqF Tryz.prog t i:=by
 unfold tabD at h
 split at h
 ·cases h; cases e
 ·cases h; cases e
 ·cases h; cases e
 ·cases h; cases e
 ·cases h; cases e
 ·cases h; cases e
 ·cases h; cases e
 ·cases h; cases e
 ·cases h; cases e
 ·cases h; cases e
 ·cases h; cases e
 ·cases h; cases e
 ·cases h; cases e
 ·cases h; cases e
 ·cases h; cases e
 ·cases h; cases e
 ·cases h; cases e
 ·cases h; cases e
 ·cases h; cases e
 ·cases h; cases e
 ·cases h; cases e
 ·cases h; cases e
 ·cases h; cases e
 ·cases h; cases e
 ·cases h; cases e
 ·cases h; cases e
 ·cases h; cases e
 ·cases h; cases e
 ·cases h; cases e
 ·cases h; cases e
 ·cases h; cases e
 ·cases h; cases e
 ·cases h; cases e
 ·cases h; cases e
 ·cases h; cases e
 ·cases h; cases e
 ·cases h; cases e
 ·cases h; cases e
 ·cases h; cases e
 ·cases h; cases e
 ·cases h; cases e
 ·cases h; cases e
 ·cases h; cases e
 ·cases h; cases e
 ·cases h; cases e
 ·cases h; cases e
 ·cases h; cases e
 ·cases h; cases e
 ·cases h; cases e
 ·cases h; cases e
 ·cases h; cases e
 ·cases h; cases e
 ·cases h; cases e
 ·cases h; cases e
 ·cases h; cases e
 ·cases h; cases e
 ·cases h; cases e
 ·cases h; cases e
 ·cases h; cases e
 ·cases h; cases e
 ·cases h
def envD : Env Tryz.prog:=⟨tabD,tabD_ok,tabD_eq⟩
theorem tv : True:=trivial
def env : Env Tryz.prog:=⟨tab,tab_ok,tab_eq⟩
section
variable {Γ : Gd} {N : Nat} {Q : Exit → Act → World → Prop} {A A' : List (Nat × MV)} {L L' : List (Nat × Option MObj)}
theorem zr {y : Code} {id : Nat} {l : List Oper} (h : TL Tryz.prog Γ N l.toArray (Exit.then (fun a w=>y.wp Tryz.prog Q a w) Q) l A L) : TC Tryz.prog Γ N (.seq (.region id l.toArray false) y) Q A L:=TC_seq (TC_reg h)
theorem zg {Q' : Exit → Act → World → Prop} {y : Code} {id : Nat} {l : List Oper} (h : TL Tryz.prog Γ N l.toArray (Exit.then (fun a w=>y.wp Tryz.prog Q a w) Q) l A L) : TE Γ N (Exit.then (fun a w=>(Code.seq (.region id l.toArray false) y).wp Tryz.prog Q a w) Q' .normal) A L:=TE_go (zr h)
theorem ze {Q' : Exit → Act → World → Prop} {ops : Array Oper} {c : Code} (h : TC Tryz.prog Γ N c Q A L) : TL Tryz.prog Γ N ops (Exit.then (fun a w=>c.wp Tryz.prog Q a w) Q') [] A L:=TL_end (TE_go h)
theorem zn {Q' : Exit → Act → World → Prop} {ops : Array Oper} {y : Code} {id : Nat} {l : List Oper} (h : TL Tryz.prog Γ N l.toArray (Exit.then (fun a w=>y.wp Tryz.prog Q a w) Q) l A L) : TL Tryz.prog Γ N ops (Exit.then (fun a w=>(Code.seq (.region id l.toArray false) y).wp Tryz.prog Q a w) Q') [] A L:=TL_end (zg h)
theorem zm {f : Act → World → Prop} {ops : Array Oper} (h : TE Γ N f A L) : TL Tryz.prog Γ N ops (Exit.then f Q) [] A L:=TL_end (tsn h)
theorem zt {Q' : Exit → Act → World → Prop} {id : Nat} {l : List Oper} (h : TL Tryz.prog Γ N l.toArray Q l A L) : TE Γ N (Exit.then (fun a w=>(Code.region id l.toArray false).wp Tryz.prog Q a w) Q' .normal) A L:=TE_go (TC_reg h)
theorem zu {Q' : Exit → Act → World → Prop} (h : TE Γ N (Q .ret) A L) : TE Γ N (Exit.then (fun a w=>Code.ret.wp Tryz.prog Q a w) Q' .normal) A L:=TE_go (TC_ret h)
theorem zk {Q' : Exit → Act → World → Prop} {c : Code} (h : TC Tryz.prog Γ N c Q A L) : TC Tryz.prog Γ N .skip (Exit.then (fun a w=>c.wp Tryz.prog Q a w) Q') A L:=TC_skip (TE_go h)
theorem zs (n : Nat) : n < n + 1:=Nat.lt_succ_self n
theorem zv {ops : Array Oper} (n : Nat) {l l' : List Oper} {C : Prop} (h : evalN env.tab N ops n l A L = some (l',A',L',C)) (hC : C) (k : TL Tryz.prog Γ N ops Q l' A' L') : TL Tryz.prog Γ N ops Q l A L:=TL_ev env n h hC k
theorem zj {r : Rg} {G : Prop} {ex : Nat → List Nat} {l : List De} {n : Nat} {δ : De} {C : Prop} (n' : Nat) (hn' : n' = n + 1) (hn : Nat.ble (n + 1) r.ops.size = true) (h : evalV env.tab N r (viewA2 r (fnR n l) A n) (viewL2 r ex (fnR n l) L n) n = some (δ,C)) (hC : C) (k : AJR Tryz.prog Γ N Q r ex A L G n' (δ :: l)) : AJR Tryz.prog Γ N Q r ex A L G n l:=AJR_ev env n' hn' (Nat.le_of_ble_eq_true hn) h hC k
theorem zd {ops : Array Oper} (a b c d : List (List Nat)) {id : Nat} (hr : (⟨ops,fun i=>a.getD i [],fun i=>b.getD i [],fun i=>c.getD i []⟩ : Rg).ok = true) (hx : exB ⟨ops,fun i=>a.getD i [],fun i=>b.getD i [],fun i=>c.getD i []⟩ (fun i=>d.getD i []) A = true)
  (h : AJR Tryz.prog Γ N Q ⟨ops,fun i=>a.getD i [],fun i=>b.getD i [],fun i=>c.getD i []⟩ (fun i=>d.getD i []) A L (TC Tryz.prog Γ N (.region id ops true) Q A L) 0 []) : TC Tryz.prog Γ N (.region id ops true) Q A L:=TC_drawR _ _ hr hx h
end
def fl : List Nat:=[3,4,5,6,7,8,9,10,11,12,13,14,15,16,17,18,19,20,21,22,23,24,25,26,27,28,29,30,31,32,33,34,35,36,37,38,39,40,41,42,43,44,45,46,47,48,49,50,51,52,53,54,55,56,57,58,59,60,61,62,63,64,65,66,67,68,69,70,71,72,73,74,75,76,77,78,79,80,81,82,83,84,85,86,87,88,89,90,91,92,93,94,95,96,97,98,99,100,101,102,103,104,105,106,107,108,109,110,111,112,113,114,115,116,117,118,119,120,121,122,123,124,125,126,127,128,129,130,131,132,133,134,135,136,137,138,139,140,141,142,143,144,145,146,147,148,149,150,151,152,153,154,155,156,157,159]
theorem fl_ok : fl.all (fun f=>fnb Tryz.prog f) = true:=by kernel_rfl
theorem fb {f : FuncId} (h : fl.contains f = true) : fnb Tryz.prog f = true:=List.all_eq_true.1 fl_ok f (List.contains_iff_mem.1 h)
section
variable {Γ : Gd} {N : Nat} {Q : Exit → Act → World → Prop} {A A' : List (Nat × MV)} {L L' : List (Nat × Option MObj)} {γ : Type} {R : Act → World → Prop}
theorem cC {c : Operand} {x y : Code} {b : Bool} {u v : Option γ} {z : γ} (h : (bif b then u else v) = some z) (ht : u = some z → TC Tryz.prog Γ N x Q A L) (hf : v = some z → TC Tryz.prog Γ N y Q A L) (hc : opd A c = some (.bool b):=by exact rfl) : TC Tryz.prog Γ N (.cond c x y) Q A L:=TC_cond hc (fun e=>ht (bif_t h e)) (fun e=>hf (bif_f h e))
theorem cT {c : Operand} {x y : Code} (h : TC Tryz.prog Γ N x Q A L) (hc : opd A c = some (.bool true):=by exact rfl) : TC Tryz.prog Γ N (.cond c x y) Q A L:=TC_cond hc (fun _=>h) (fun e=>(tff e).elim)
theorem cF {c : Operand} {x y : Code} (h : TC Tryz.prog Γ N y Q A L) (hc : opd A c = some (.bool false):=by exact rfl) : TC Tryz.prog Γ N (.cond c x y) Q A L:=TC_cond hc (fun e=>(ftf e).elim) (fun _=>h)
theorem tce {c : Code} (h : TE Γ N (fun a w=>c.wp Tryz.prog Q a w) A L) : TC Tryz.prog Γ N c Q A L:=h
theorem ect {c : Code} (h : TC Tryz.prog Γ N c Q A L) : TE Γ N (fun a w=>c.wp Tryz.prog Q a w) A L:=h
theorem rE (A' : List (Nat × MV)) (L' : List (Nat × Option MObj)) (l : List (Nat × Nat)) (h : TE Γ N R A' L') (hA : SubAr (sg l) A' A:=by (repeat' (first | exact trivial | refine And.intro rfl ?_))) (hL : SubLr (sg l) L' L:=by (repeat' (first | exact trivial | refine And.intro rfl ?_))) (hb : sgB l (keysO L') = true:=by exact rfl) : TE Γ N R A L:=TE_renw l hA hL hb h
theorem rC {c : Code} (A' : List (Nat × MV)) (L' : List (Nat × Option MObj)) (l : List (Nat × Nat)) (h : TC Tryz.prog Γ N c Q A' L') (hA : SubAr (sg l) A' A:=by (repeat' (first | exact trivial | refine And.intro rfl ?_))) (hL : SubLr (sg l) L' L:=by (repeat' (first | exact trivial | refine And.intro rfl ?_))) (hb : sgB l (keysO L') = true:=by exact rfl) : TC Tryz.prog Γ N c Q A L:=TC_renw l hA hL hb h
theorem zR {fn : Func} {res : MV} {Lc : List (Nat × Option MObj)} {C : Prop} (hr : resM env.tab A L fn.results.toList = some (res,C)) (hC : C:=by (repeat' (first | exact trivial | refine And.intro ?_ ?_ | decide | assumption | exact rfl))) (hL : SubL Lc L:=by (repeat' (first | exact trivial | refine And.intro (.inr rfl) ?_ | refine And.intro (.inl rfl) ?_))) : TE Γ N (bodyPost Tryz.prog fn (FnPost Γ res Lc) .ret) A L:=TE_ret env hr hC hL
theorem zN {fn : Func} {res : MV} {Lc : List (Nat × Option MObj)} {C : Prop} (hr : resM env.tab A L fn.results.toList = some (res,C)) (hC : C:=by (repeat' (first | exact trivial | refine And.intro ?_ ?_ | decide | assumption | exact rfl))) (hL : SubL Lc L:=by (repeat' (first | exact trivial | refine And.intro (.inr rfl) ?_ | refine And.intro (.inl rfl) ?_))) : TE Γ N (bodyPost Tryz.prog fn (FnPost Γ res Lc) .normal) A L:=TE_end env hr hC hL
theorem cB {ops : Array Oper} {o : Oper} {l : List Oper} {f : FuncId} {xs ys : List MV} {Lc Lc' : List (Nat × Option MObj)} {res : MV} {C : Prop} (π : List (Nat × Nat)) (hF : Fn Tryz.prog f xs Lc res Lc') (h : calleeM A o.op = some (f,ys,C)) (hys : ys = MV.renL (sg π) xs) (k : TL Tryz.prog Γ N ops Q l (addL o.dst (res.ren (sg π)) A) (renO (sg π) Lc' ++ L)) (hf : fl.contains f = true:=by exact rfl) (hC : C:=by (repeat' (first | exact trivial | refine And.intro ?_ ?_ | decide | assumption | exact rfl))) (hs : SubL (renO (sg π) Lc) L:=by (repeat' (first | exact trivial | refine And.intro (.inr rfl) ?_ | refine And.intro (.inl rfl) ?_))) (hb : callB (sg π) N o.dst o.guard.isNone A L Lc Lc' res = true:=by exact rfl) : TL Tryz.prog Γ N ops Q (o :: l) A L:=TL_callB π hF (fb hf) h hC hys hs hb k
end
section
variable {Γ : Gd} {N : Nat} {Q : Exit → Act → World → Prop} {A : List (Nat × MV)} {L : List (Nat × Option MObj)} {r : Rg} {G : Prop} {ex : Nat → List Nat} {l : List De} {n : Nat}
theorem jU {y : MV} {j dj : Nat} {o oj : Oper} {want : Bool} {d : Nat} (n' : Nat) (ho : r.ops[n]? = some o) (hg : o.guard = some (j,want)) (hj : r.ops[j]? = some oj) (hdj : oj.dst = some dj) (hv : get (viewA2 r (fnR n l) A n) dj = some (.cnd false y)) (hd : o.dst = some d) (k : AJR Tryz.prog Γ N Q r ex A L G n' (([(d,.cnd false (.bool false))],[]) :: l)) (hdN : d < N:=by decide) (hn' : n' = n + 1:=by exact rfl) (hn : Nat.ble (n + 1) r.ops.size = true:=by exact rfl) : AJR Tryz.prog Γ N Q r ex A L G n l:=AJR_gskipU (.bool false) n' hn' (Nat.le_of_ble_eq_true hn) ho hg hj hdj hv hd hdN k
theorem jS {j dj : Nat} {o oj : Oper} {want b : Bool} {d : Nat} (n' : Nat) (hb : b = !want) (ho : r.ops[n]? = some o) (hg : o.guard = some (j,want)) (hj : r.ops[j]? = some oj) (hdj : oj.dst = some dj) (hv : get (viewA2 r (fnR n l) A n) dj = some (.bool b)) (hd : o.dst = some d) (k : AJR Tryz.prog Γ N Q r ex A L G n' (([(d,.cnd false (.bool false))],[]) :: l)) (hdN : d < N:=by decide) (hn' : n' = n + 1:=by exact rfl) (hn : Nat.ble (n + 1) r.ops.size = true:=by exact rfl) : AJR Tryz.prog Γ N Q r ex A L G n l:=AJR_gskip (.bool false) n' hn' (Nat.le_of_ble_eq_true hn) hb ho hg hj hdj hv hd hdN k
theorem jC {o : Oper} {f : FuncId} {xs ys : List MV} {Lc Lc' : List (Nat × Option MObj)} {res : MV} {C : Prop} (n' : Nat) (π : List (Nat × Nat)) (hF : Fn Tryz.prog f xs Lc res Lc') (ho : r.ops[n]? = some o) (h : calleeM (viewA2 r (fnR n l) A n) o.op = some (f,ys,C)) (k : AJR Tryz.prog Γ N Q r ex A L G n' ((addL o.dst (res.ren (sg π)) [],renO (sg π) Lc') :: l)) (hys : ys = MV.renL (sg π) xs:=by exact rfl) (hf : fl.contains f = true:=by exact rfl) (hC : C:=by (repeat' (first | exact trivial | refine And.intro ?_ ?_ | decide | assumption | exact rfl))) (hsub : SubL (renO (sg π) Lc) (viewL2 r ex (fnR n l) L n):=by (repeat' (first | exact trivial | refine And.intro (.inr rfl) ?_ | refine And.intro (.inl rfl) ?_))) (hb : callAB (sg π) N o.dst o.guard.isNone (r.wk n) (r.nk n) Lc Lc' res = true:=by exact rfl) (hn' : n' = n + 1:=by exact rfl) (hn : Nat.ble (n + 1) r.ops.size = true:=by exact rfl) : AJR Tryz.prog Γ N Q r ex A L G n l:=AJR_call n' hn' (Nat.le_of_ble_eq_true hn) π ho hF (fb hf) h hC hys hsub hb k
theorem zD {ops : Array Oper} (a : List Nat) (b c d : List (Nat × List Nat)) {id : Nat} (h : AJR Tryz.prog Γ N Q ⟨ops,fun i=>bts (a.getD i 0) i,fun i=>lkI i b,fun i=>lkI i c⟩ (fun i=>lkM i d) A L (TC Tryz.prog Γ N (.region id ops true) Q A L) 0 []) (hr : (⟨ops,fun i=>bts (a.getD i 0) i,fun i=>lkI i b,fun i=>lkI i c⟩ : Rg).ok = true:=by kernel_rfl) (hx : exB ⟨ops,fun i=>bts (a.getD i 0) i,fun i=>lkI i b,fun i=>lkI i c⟩ (fun i=>lkM i d) A = true:=by kernel_rfl) : TC Tryz.prog Γ N (.region id ops true) Q A L:=TC_drawR _ _ hr hx h
theorem jN {ex : Nat → List Nat} {id n : Nat} {l : List De} (fin : TE Γ N (Q .normal) (allA n (fnR n l) A) (allL n (fnR n l) L)) (hl : r.ops.size = n:=by exact rfl) (hf : frR r n l A L = true:=by exact rfl) : AJR Tryz.prog Γ N Q r ex A L (TC Tryz.prog Γ N (.region id r.ops true) Q A L) n l:=AJR_end rfl hl hf fin
end
theorem fO {f : FuncId} {fn : Func} {c : Code} {args : List MV} {Lc Lc' : List (Nat × Option MObj)} {res : MV} (hf : Tryz.prog.funcs[f]? = some fn) (hb : fn.body = some c) (h : ∀ Γ : Gd,TC Tryz.prog Γ fn.ntmps c (bodyPost Tryz.prog fn (FnPost Γ res Lc')) (initA 0 args) Lc) (hn : Nat.ble args.length fn.ntmps = true:=by exact rfl) : Fn Tryz.prog f args Lc res Lc':=Fn_of hf hb (Nat.le_of_ble_eq_true hn) h

section
variable {Γ : Gd} {N : Nat} {Q : Exit → Act → World → Prop} {A A' : List (Nat × MV)} {L L' : List (Nat × Option MObj)} {γ : Type}
theorem zE {ops : Array Oper} (n : Nat) {l l' : List Oper} {C : Prop} (h : evalN env.tab N ops n l A L = some (l',A',L',C)) (k : TL Tryz.prog Γ N ops Q l' A' L') (hC : C:=by (repeat' (first | exact trivial | refine And.intro ?_ ?_ | decide | assumption | exact rfl))) : TL Tryz.prog Γ N ops Q l A L:=TL_ev env n h hC k
theorem zG {ops : Array Oper} {G : Prop} {_ : Decidable G} {X : Option γ} {z : γ} (h0 : gd G X = some z) (n : Nat) {l l' : List Oper} {C : Prop} (h : evalN env.tab N ops n l A L = some (l',A',L',C)) (k : X = some z → TL Tryz.prog Γ N ops Q l' A' L') (hC : G → C:=by intro g; (repeat' (first | exact trivial | refine And.intro ?_ ?_ | with_reducible (first | exact g | exact g.1 | exact g.2 | exact g.2.1 | exact g.2.2 | exact g.2.2.1 | exact g.2.2.2 | exact g.2.2.2.1 | exact g.2.2.2.2 | exact g.2.2.2.2.1 | exact g.2.2.2.2.2 | exact g.2.2.2.2.2.1 | exact g.2.2.2.2.2.2 | exact g.2.2.2.2.2.2.1 | exact g.2.2.2.2.2.2.2) | decide | exact rfl | exact g.2.2.2.2.2.2.2 | exact g.2.2.2.2.2.2.1 | exact g.2.2.2.2.2.2 | exact g.2.2.2.2.2.1 | exact g.2.2.2.2.2 | exact g.2.2.2.2.1 | exact g.2.2.2.2 | exact g.2.2.2.1 | exact g.2.2.2 | exact g.2.2.1 | exact g.2.2 | exact g.2.1 | exact g.2 | exact g.1 | exact g))) : TL Tryz.prog Γ N ops Q l A L:=TL_ev env n h (hC (gd_t h0).1) (k (gd_t h0).2)
end
section
variable {Γ : Gd} {N : Nat} {Q Q' : Exit → Act → World → Prop} {A A' : List (Nat × MV)} {L L' : List (Nat × Option MObj)} {ops : Array Oper} {l l2 : List Oper} {C : Prop} {y c : Code} {id id2 : Nat} {f : Act → World → Prop}
theorem zx (n : Nat) (h : evalN env.tab N ops n l A L = some ([],A',L',C)) (k : TC Tryz.prog Γ N c Q A' L') (hC : C:=by (repeat' (first | exact trivial | refine And.intro ?_ ?_ | decide | assumption | exact rfl))) : TL Tryz.prog Γ N ops (Exit.then (fun a w=>c.wp Tryz.prog Q a w) Q') l A L:=TL_ev env n h hC (TL_end (TE_go k))
theorem zy (n : Nat) (h : evalN env.tab N ops n l A L = some ([],A',L',C)) (k : TL Tryz.prog Γ N l2.toArray (Exit.then (fun a w=>y.wp Tryz.prog Q a w) Q) l2 A' L') (hC : C:=by (repeat' (first | exact trivial | refine And.intro ?_ ?_ | decide | assumption | exact rfl))) : TL Tryz.prog Γ N ops (Exit.then (fun a w=>(Code.seq (.region id2 l2.toArray false) y).wp Tryz.prog Q a w) Q') l A L:=zx n h (zr k) hC
theorem zz (n : Nat) (h : evalN env.tab N ops n l A L = some ([],A',L',C)) (k : TE Γ N f A' L') (hC : C:=by (repeat' (first | exact trivial | refine And.intro ?_ ?_ | decide | assumption | exact rfl))) : TL Tryz.prog Γ N ops (Exit.then f Q) l A L:=TL_ev env n h hC (TL_end (tsn k))
theorem zA (n : Nat) (h : evalN env.tab N l.toArray n l A L = some ([],A',L',C)) (k : TC Tryz.prog Γ N c Q A' L') (hC : C:=by (repeat' (first | exact trivial | refine And.intro ?_ ?_ | decide | assumption | exact rfl))) : TC Tryz.prog Γ N (.seq (.region id l.toArray false) c) Q A L:=zr (zx n h k hC)
theorem zB (n : Nat) (h : evalN env.tab N l.toArray n l A L = some ([],A',L',C)) (k : TC Tryz.prog Γ N c Q A' L') (hC : C:=by (repeat' (first | exact trivial | refine And.intro ?_ ?_ | decide | assumption | exact rfl))) : TE Γ N (Exit.then (fun a w=>(Code.seq (.region id l.toArray false) c).wp Tryz.prog Q a w) Q' .normal) A L:=zg (zx n h k hC)
theorem zC (n : Nat) (h : evalN env.tab N l.toArray n l A L = some ([],A',L',C)) (k : TL Tryz.prog Γ N l2.toArray (Exit.then (fun a w=>y.wp Tryz.prog Q a w) Q) l2 A' L') (hC : C:=by (repeat' (first | exact trivial | refine And.intro ?_ ?_ | decide | assumption | exact rfl))) : TC Tryz.prog Γ N (.seq (.region id l.toArray false) (.seq (.region id2 l2.toArray false) y)) Q A L:=zr (zy n h k hC)
theorem zF (n : Nat) (h : evalN env.tab N l.toArray n l A L = some ([],A',L',C)) (k : TL Tryz.prog Γ N l2.toArray (Exit.then (fun a w=>y.wp Tryz.prog Q a w) Q) l2 A' L') (hC : C:=by (repeat' (first | exact trivial | refine And.intro ?_ ?_ | decide | assumption | exact rfl))) : TE Γ N (Exit.then (fun a w=>(Code.seq (.region id l.toArray false) (.seq (.region id2 l2.toArray false) y)).wp Tryz.prog Q a w) Q' .normal) A L:=zg (zy n h k hC)
end
theorem zS {Γ : Gd} {N : Nat} {Q : Exit → Act → World → Prop} {A A' : List (Nat × MV)} {L L' : List (Nat × Option MObj)} {ops : Array Oper} (cs : List Nat) {l l' : List Oper} {C : Prop} (h : runT env.tab N ops (xpT cs) l A L = some (l',A',L',C)) (k : TL Tryz.prog Γ N ops Q l' A' L') (hC : C:=by (repeat' (first | exact trivial | refine And.intro ?_ ?_ | exact id | decide | assumption | exact rfl | intro _))) : TL Tryz.prog Γ N ops Q l A L:=runT_ok env (xpT cs) h hC k
section
variable {Γ : Gd} {N : Nat} {Q : Exit → Act → World → Prop} {A : List (Nat × MV)} {L : List (Nat × Option MObj)} {r : Rg} {G : Prop} {ex : Nat → List Nat} {l : List De} {n : Nat} {γ : Type}
theorem jR {n' : Nat} {l' : List De} {C : Prop} (cs : List Nat) (h : runJ env.tab N r ex A L (xpJ cs) n l = some (n',l',C)) (k : AJR Tryz.prog Γ N Q r ex A L G n' l') (hC : C:=by (repeat' (first | exact trivial | refine And.intro ?_ ?_ | exact id | decide | assumption | exact rfl | intro _))) : AJR Tryz.prog Γ N Q r ex A L G n l:=AJR_run env (xpJ cs) h hC k
theorem jP {n' : Nat} {l' : List De} {C G' : Prop} {_ : Decidable G'} {X : Option γ} {z : γ} (h0 : gd G' X = some z) (cs : List Nat) (h : runJ env.tab N r ex A L (xpJ cs) n l = some (n',l',C)) (k : X = some z → AJR Tryz.prog Γ N Q r ex A L G n' l') (hC : G' → C:=by intro g; (repeat' (first | exact trivial | refine And.intro ?_ ?_ | with_reducible (first | exact g | exact g.1 | exact g.2 | exact g.2.1 | exact g.2.2 | exact g.2.2.1 | exact g.2.2.2 | exact g.2.2.2.1 | exact g.2.2.2.2 | exact g.2.2.2.2.1 | exact g.2.2.2.2.2 | exact g.2.2.2.2.2.1 | exact g.2.2.2.2.2.2 | exact g.2.2.2.2.2.2.1 | exact g.2.2.2.2.2.2.2) | decide | exact rfl | exact g.2.2.2.2.2.2.2 | exact g.2.2.2.2.2.2.1 | exact g.2.2.2.2.2.2 | exact g.2.2.2.2.2.1 | exact g.2.2.2.2.2 | exact g.2.2.2.2.1 | exact g.2.2.2.2 | exact g.2.2.2.1 | exact g.2.2.2 | exact g.2.2.1 | exact g.2.2 | exact g.2.1 | exact g.2 | exact g.1 | exact g))) : AJR Tryz.prog Γ N Q r ex A L G n l:=AJR_run env (xpJ cs) h (hC (gd_t h0).1) (k (gd_t h0).2)
theorem jQ {n' : Nat} {l' : List De} {C G' : Prop} {_ : Decidable G'} {X : Option γ} {z : γ} (h0 : gd G' X = some z) (cs : List Nat) (h : runJ env.tab N r ex A L (xpJ cs) n l = some (n',l',C)) (k : X = some z → AJR Tryz.prog Γ N Q r ex A L G n' l') (hC : G' → C:=by intro g; (repeat' (first | exact trivial | refine And.intro ?_ ?_ | with_reducible (first | exact g | exact g.1 | exact g.2 | exact g.2.1 | exact g.2.2 | exact g.2.2.1 | exact g.2.2.2 | exact g.2.2.2.1 | exact g.2.2.2.2 | exact g.2.2.2.2.1 | exact g.2.2.2.2.2 | exact g.2.2.2.2.2.1 | exact g.2.2.2.2.2.2 | exact g.2.2.2.2.2.2.1 | exact g.2.2.2.2.2.2.2) | decide | assumption | exact rfl | exact g.2.2.2.2.2.2.2 | exact g.2.2.2.2.2.2.1 | exact g.2.2.2.2.2.2 | exact g.2.2.2.2.2.1 | exact g.2.2.2.2.2 | exact g.2.2.2.2.1 | exact g.2.2.2.2 | exact g.2.2.2.1 | exact g.2.2.2 | exact g.2.2.1 | exact g.2.2 | exact g.2.1 | exact g.2 | exact g.1 | exact g | exact id | intro _))) : AJR Tryz.prog Γ N Q r ex A L G n l:=AJR_run env (xpJ cs) h (hC (gd_t h0).1) (k (gd_t h0).2)
theorem jE {δ : De} {C : Prop} (n' : Nat) (h : evalV env.tab N r (viewA2 r (fnR n l) A n) (viewL2 r ex (fnR n l) L n) n = some (δ,C)) (k : AJR Tryz.prog Γ N Q r ex A L G n' (δ :: l)) (hC : C:=by (repeat' (first | exact trivial | refine And.intro ?_ ?_ | decide | assumption | exact rfl))) (hn' : n' = n + 1:=by exact rfl) (hn : Nat.ble (n + 1) r.ops.size = true:=by exact rfl) : AJR Tryz.prog Γ N Q r ex A L G n l:=AJR_ev env n' hn' (Nat.le_of_ble_eq_true hn) h hC k
theorem jG {δ : De} {C G' : Prop} {_ : Decidable G'} {X : Option γ} {z : γ} (h0 : gd G' X = some z) (n' : Nat) (h : evalV env.tab N r (viewA2 r (fnR n l) A n) (viewL2 r ex (fnR n l) L n) n = some (δ,C)) (k : X = some z → AJR Tryz.prog Γ N Q r ex A L G n' (δ :: l)) (hC : G' → C:=by intro g; (repeat' (first | exact trivial | refine And.intro ?_ ?_ | with_reducible (first | exact g | exact g.1 | exact g.2 | exact g.2.1 | exact g.2.2 | exact g.2.2.1 | exact g.2.2.2 | exact g.2.2.2.1 | exact g.2.2.2.2 | exact g.2.2.2.2.1 | exact g.2.2.2.2.2 | exact g.2.2.2.2.2.1 | exact g.2.2.2.2.2.2 | exact g.2.2.2.2.2.2.1 | exact g.2.2.2.2.2.2.2) | decide | exact rfl | exact g.2.2.2.2.2.2.2 | exact g.2.2.2.2.2.2.1 | exact g.2.2.2.2.2.2 | exact g.2.2.2.2.2.1 | exact g.2.2.2.2.2 | exact g.2.2.2.2.1 | exact g.2.2.2.2 | exact g.2.2.2.1 | exact g.2.2.2 | exact g.2.2.1 | exact g.2.2 | exact g.2.1 | exact g.2 | exact g.1 | exact g))) (hn' : n' = n + 1:=by exact rfl) (hn : Nat.ble (n + 1) r.ops.size = true:=by exact rfl) : AJR Tryz.prog Γ N Q r ex A L G n l:=AJR_ev env n' hn' (Nat.le_of_ble_eq_true hn) h (hC (gd_t h0).1) (k (gd_t h0).2)
theorem jV {δ : De} {C : Prop} {j dj : Nat} {o oj : Oper} {want b : Bool} (n' : Nat) (hb : b = want) (ho : r.ops[n]? = some o) (hg : o.guard = some (j,want)) (hj : r.ops[j]? = some oj) (hdj : oj.dst = some dj) (hv : get (viewA2 r (fnR n l) A n) dj = some (.bool b)) (h : evalG env.tab N (r.wk n) (r.nk n) o (viewA2 r (fnR n l) A n) (viewL2 r ex (fnR n l) L n) = some (δ,C)) (k : AJR Tryz.prog Γ N Q r ex A L G n' (δ :: l)) (hC : C:=by (repeat' (first | exact trivial | refine And.intro ?_ ?_ | decide | assumption | exact rfl))) (hn' : n' = n + 1:=by exact rfl) (hn : Nat.ble (n + 1) r.ops.size = true:=by exact rfl) : AJR Tryz.prog Γ N Q r ex A L G n l:=AJR_gev env n' hn' (Nat.le_of_ble_eq_true hn) hb ho hg hj hdj hv h hC k
end

section
variable {Γ : Gd} {N : Nat} {Q : Exit → Act → World → Prop} {A A' : List (Nat × MV)} {L L' : List (Nat × Option MObj)} {γ : Type}
theorem zEH {ops : Array Oper} (n : Nat) {l l' : List Oper} {C : Prop} (h : evalN envH.tab N ops n l A L = some (l',A',L',C)) (k : TL Tryz.prog Γ N ops Q l' A' L') (hC : C:=by (repeat' (first | exact trivial | refine And.intro ?_ ?_ | decide | assumption | exact rfl))) : TL Tryz.prog Γ N ops Q l A L:=TL_ev envH n h hC k
theorem zGH {ops : Array Oper} {G : Prop} {_ : Decidable G} {X : Option γ} {z : γ} (h0 : gd G X = some z) (n : Nat) {l l' : List Oper} {C : Prop} (h : evalN envH.tab N ops n l A L = some (l',A',L',C)) (k : X = some z → TL Tryz.prog Γ N ops Q l' A' L') (hC : G → C:=by intro g; (repeat' (first | exact trivial | refine And.intro ?_ ?_ | with_reducible (first | exact g | exact g.1 | exact g.2 | exact g.2.1 | exact g.2.2 | exact g.2.2.1 | exact g.2.2.2 | exact g.2.2.2.1 | exact g.2.2.2.2 | exact g.2.2.2.2.1 | exact g.2.2.2.2.2 | exact g.2.2.2.2.2.1 | exact g.2.2.2.2.2.2 | exact g.2.2.2.2.2.2.1 | exact g.2.2.2.2.2.2.2) | decide | exact rfl | exact g.2.2.2.2.2.2.2 | exact g.2.2.2.2.2.2.1 | exact g.2.2.2.2.2.2 | exact g.2.2.2.2.2.1 | exact g.2.2.2.2.2 | exact g.2.2.2.2.1 | exact g.2.2.2.2 | exact g.2.2.2.1 | exact g.2.2.2 | exact g.2.2.1 | exact g.2.2 | exact g.2.1 | exact g.2 | exact g.1 | exact g))) : TL Tryz.prog Γ N ops Q l A L:=TL_ev envH n h (hC (gd_t h0).1) (k (gd_t h0).2)
end

theorem zSH {Γ : Gd} {N : Nat} {Q : Exit → Act → World → Prop} {A A' : List (Nat × MV)} {L L' : List (Nat × Option MObj)} {ops : Array Oper} (cs : List Nat) {l l' : List Oper} {C : Prop} (h : runT envH.tab N ops (xpT cs) l A L = some (l',A',L',C)) (k : TL Tryz.prog Γ N ops Q l' A' L') (hC : C:=by (repeat' (first | exact trivial | refine And.intro ?_ ?_ | exact id | decide | assumption | exact rfl | intro _))) : TL Tryz.prog Γ N ops Q l A L:=runT_ok envH (xpT cs) h hC k
section
variable {Γ : Gd} {N : Nat} {Q : Exit → Act → World → Prop} {A : List (Nat × MV)} {L : List (Nat × Option MObj)} {r : Rg} {G : Prop} {ex : Nat → List Nat} {l : List De} {n : Nat} {γ : Type}
theorem jRH {n' : Nat} {l' : List De} {C : Prop} (cs : List Nat) (h : runJ envH.tab N r ex A L (xpJ cs) n l = some (n',l',C)) (k : AJR Tryz.prog Γ N Q r ex A L G n' l') (hC : C:=by (repeat' (first | exact trivial | refine And.intro ?_ ?_ | exact id | decide | assumption | exact rfl | intro _))) : AJR Tryz.prog Γ N Q r ex A L G n l:=AJR_run envH (xpJ cs) h hC k
theorem jPH {n' : Nat} {l' : List De} {C G' : Prop} {_ : Decidable G'} {X : Option γ} {z : γ} (h0 : gd G' X = some z) (cs : List Nat) (h : runJ envH.tab N r ex A L (xpJ cs) n l = some (n',l',C)) (k : X = some z → AJR Tryz.prog Γ N Q r ex A L G n' l') (hC : G' → C:=by intro g; (repeat' (first | exact trivial | refine And.intro ?_ ?_ | with_reducible (first | exact g | exact g.1 | exact g.2 | exact g.2.1 | exact g.2.2 | exact g.2.2.1 | exact g.2.2.2 | exact g.2.2.2.1 | exact g.2.2.2.2 | exact g.2.2.2.2.1 | exact g.2.2.2.2.2 | exact g.2.2.2.2.2.1 | exact g.2.2.2.2.2.2 | exact g.2.2.2.2.2.2.1 | exact g.2.2.2.2.2.2.2) | decide | exact rfl | exact g.2.2.2.2.2.2.2 | exact g.2.2.2.2.2.2.1 | exact g.2.2.2.2.2.2 | exact g.2.2.2.2.2.1 | exact g.2.2.2.2.2 | exact g.2.2.2.2.1 | exact g.2.2.2.2 | exact g.2.2.2.1 | exact g.2.2.2 | exact g.2.2.1 | exact g.2.2 | exact g.2.1 | exact g.2 | exact g.1 | exact g))) : AJR Tryz.prog Γ N Q r ex A L G n l:=AJR_run envH (xpJ cs) h (hC (gd_t h0).1) (k (gd_t h0).2)
theorem jQH {n' : Nat} {l' : List De} {C G' : Prop} {_ : Decidable G'} {X : Option γ} {z : γ} (h0 : gd G' X = some z) (cs : List Nat) (h : runJ envH.tab N r ex A L (xpJ cs) n l = some (n',l',C)) (k : X = some z → AJR Tryz.prog Γ N Q r ex A L G n' l') (hC : G' → C:=by intro g; (repeat' (first | exact trivial | refine And.intro ?_ ?_ | with_reducible (first | exact g | exact g.1 | exact g.2 | exact g.2.1 | exact g.2.2 | exact g.2.2.1 | exact g.2.2.2 | exact g.2.2.2.1 | exact g.2.2.2.2 | exact g.2.2.2.2.1 | exact g.2.2.2.2.2 | exact g.2.2.2.2.2.1 | exact g.2.2.2.2.2.2 | exact g.2.2.2.2.2.2.1 | exact g.2.2.2.2.2.2.2) | decide | assumption | exact rfl | exact g.2.2.2.2.2.2.2 | exact g.2.2.2.2.2.2.1 | exact g.2.2.2.2.2.2 | exact g.2.2.2.2.2.1 | exact g.2.2.2.2.2 | exact g.2.2.2.2.1 | exact g.2.2.2.2 | exact g.2.2.2.1 | exact g.2.2.2 | exact g.2.2.1 | exact g.2.2 | exact g.2.1 | exact g.2 | exact g.1 | exact g | exact id | intro _))) : AJR Tryz.prog Γ N Q r ex A L G n l:=AJR_run envH (xpJ cs) h (hC (gd_t h0).1) (k (gd_t h0).2)
theorem jEH {δ : De} {C : Prop} (n' : Nat) (h : evalV envH.tab N r (viewA2 r (fnR n l) A n) (viewL2 r ex (fnR n l) L n) n = some (δ,C)) (k : AJR Tryz.prog Γ N Q r ex A L G n' (δ :: l)) (hC : C:=by (repeat' (first | exact trivial | refine And.intro ?_ ?_ | decide | assumption | exact rfl))) (hn' : n' = n + 1:=by exact rfl) (hn : Nat.ble (n + 1) r.ops.size = true:=by exact rfl) : AJR Tryz.prog Γ N Q r ex A L G n l:=AJR_ev envH n' hn' (Nat.le_of_ble_eq_true hn) h hC k
theorem jGH {δ : De} {C G' : Prop} {_ : Decidable G'} {X : Option γ} {z : γ} (h0 : gd G' X = some z) (n' : Nat) (h : evalV envH.tab N r (viewA2 r (fnR n l) A n) (viewL2 r ex (fnR n l) L n) n = some (δ,C)) (k : X = some z → AJR Tryz.prog Γ N Q r ex A L G n' (δ :: l)) (hC : G' → C:=by intro g; (repeat' (first | exact trivial | refine And.intro ?_ ?_ | with_reducible (first | exact g | exact g.1 | exact g.2 | exact g.2.1 | exact g.2.2 | exact g.2.2.1 | exact g.2.2.2 | exact g.2.2.2.1 | exact g.2.2.2.2 | exact g.2.2.2.2.1 | exact g.2.2.2.2.2 | exact g.2.2.2.2.2.1 | exact g.2.2.2.2.2.2 | exact g.2.2.2.2.2.2.1 | exact g.2.2.2.2.2.2.2) | decide | exact rfl | exact g.2.2.2.2.2.2.2 | exact g.2.2.2.2.2.2.1 | exact g.2.2.2.2.2.2 | exact g.2.2.2.2.2.1 | exact g.2.2.2.2.2 | exact g.2.2.2.2.1 | exact g.2.2.2.2 | exact g.2.2.2.1 | exact g.2.2.2 | exact g.2.2.1 | exact g.2.2 | exact g.2.1 | exact g.2 | exact g.1 | exact g))) (hn' : n' = n + 1:=by exact rfl) (hn : Nat.ble (n + 1) r.ops.size = true:=by exact rfl) : AJR Tryz.prog Γ N Q r ex A L G n l:=AJR_ev envH n' hn' (Nat.le_of_ble_eq_true hn) h (hC (gd_t h0).1) (k (gd_t h0).2)
theorem jVH {δ : De} {C : Prop} {j dj : Nat} {o oj : Oper} {want b : Bool} (n' : Nat) (hb : b = want) (ho : r.ops[n]? = some o) (hg : o.guard = some (j,want)) (hj : r.ops[j]? = some oj) (hdj : oj.dst = some dj) (hv : get (viewA2 r (fnR n l) A n) dj = some (.bool b)) (h : evalG envH.tab N (r.wk n) (r.nk n) o (viewA2 r (fnR n l) A n) (viewL2 r ex (fnR n l) L n) = some (δ,C)) (k : AJR Tryz.prog Γ N Q r ex A L G n' (δ :: l)) (hC : C:=by (repeat' (first | exact trivial | refine And.intro ?_ ?_ | decide | assumption | exact rfl))) (hn' : n' = n + 1:=by exact rfl) (hn : Nat.ble (n + 1) r.ops.size = true:=by exact rfl) : AJR Tryz.prog Γ N Q r ex A L G n l:=AJR_gev envH n' hn' (Nat.le_of_ble_eq_true hn) hb ho hg hj hdj hv h hC k
end

section
variable {Γ : Gd} {N : Nat} {Q : Exit → Act → World → Prop} {A A' : List (Nat × MV)} {L L' : List (Nat × Option MObj)} {γ : Type}
theorem zED {ops : Array Oper} (n : Nat) {l l' : List Oper} {C : Prop} (h : evalN envD.tab N ops n l A L = some (l',A',L',C)) (k : TL Tryz.prog Γ N ops Q l' A' L') (hC : C:=by (repeat' (first | exact trivial | refine And.intro ?_ ?_ | decide | assumption | exact rfl))) : TL Tryz.prog Γ N ops Q l A L:=TL_ev envD n h hC k
theorem zGD {ops : Array Oper} {G : Prop} {_ : Decidable G} {X : Option γ} {z : γ} (h0 : gd G X = some z) (n : Nat) {l l' : List Oper} {C : Prop} (h : evalN envD.tab N ops n l A L = some (l',A',L',C)) (k : X = some z → TL Tryz.prog Γ N ops Q l' A' L') (hC : G → C:=by intro g; (repeat' (first | exact trivial | refine And.intro ?_ ?_ | with_reducible (first | exact g | exact g.1 | exact g.2 | exact g.2.1 | exact g.2.2 | exact g.2.2.1 | exact g.2.2.2 | exact g.2.2.2.1 | exact g.2.2.2.2 | exact g.2.2.2.2.1 | exact g.2.2.2.2.2 | exact g.2.2.2.2.2.1 | exact g.2.2.2.2.2.2 | exact g.2.2.2.2.2.2.1 | exact g.2.2.2.2.2.2.2) | decide | exact rfl | exact g.2.2.2.2.2.2.2 | exact g.2.2.2.2.2.2.1 | exact g.2.2.2.2.2.2 | exact g.2.2.2.2.2.1 | exact g.2.2.2.2.2 | exact g.2.2.2.2.1 | exact g.2.2.2.2 | exact g.2.2.2.1 | exact g.2.2.2 | exact g.2.2.1 | exact g.2.2 | exact g.2.1 | exact g.2 | exact g.1 | exact g))) : TL Tryz.prog Γ N ops Q l A L:=TL_ev envD n h (hC (gd_t h0).1) (k (gd_t h0).2)
end

theorem zSD {Γ : Gd} {N : Nat} {Q : Exit → Act → World → Prop} {A A' : List (Nat × MV)} {L L' : List (Nat × Option MObj)} {ops : Array Oper} (cs : List Nat) {l l' : List Oper} {C : Prop} (h : runT envD.tab N ops (xpT cs) l A L = some (l',A',L',C)) (k : TL Tryz.prog Γ N ops Q l' A' L') (hC : C:=by (repeat' (first | exact trivial | refine And.intro ?_ ?_ | exact id | decide | assumption | exact rfl | intro _))) : TL Tryz.prog Γ N ops Q l A L:=runT_ok envD (xpT cs) h hC k
section
variable {Γ : Gd} {N : Nat} {Q : Exit → Act → World → Prop} {A : List (Nat × MV)} {L : List (Nat × Option MObj)} {r : Rg} {G : Prop} {ex : Nat → List Nat} {l : List De} {n : Nat} {γ : Type}
theorem jRD {n' : Nat} {l' : List De} {C : Prop} (cs : List Nat) (h : runJ envD.tab N r ex A L (xpJ cs) n l = some (n',l',C)) (k : AJR Tryz.prog Γ N Q r ex A L G n' l') (hC : C:=by (repeat' (first | exact trivial | refine And.intro ?_ ?_ | exact id | decide | assumption | exact rfl | intro _))) : AJR Tryz.prog Γ N Q r ex A L G n l:=AJR_run envD (xpJ cs) h hC k
theorem jPD {n' : Nat} {l' : List De} {C G' : Prop} {_ : Decidable G'} {X : Option γ} {z : γ} (h0 : gd G' X = some z) (cs : List Nat) (h : runJ envD.tab N r ex A L (xpJ cs) n l = some (n',l',C)) (k : X = some z → AJR Tryz.prog Γ N Q r ex A L G n' l') (hC : G' → C:=by intro g; (repeat' (first | exact trivial | refine And.intro ?_ ?_ | with_reducible (first | exact g | exact g.1 | exact g.2 | exact g.2.1 | exact g.2.2 | exact g.2.2.1 | exact g.2.2.2 | exact g.2.2.2.1 | exact g.2.2.2.2 | exact g.2.2.2.2.1 | exact g.2.2.2.2.2 | exact g.2.2.2.2.2.1 | exact g.2.2.2.2.2.2 | exact g.2.2.2.2.2.2.1 | exact g.2.2.2.2.2.2.2) | decide | exact rfl | exact g.2.2.2.2.2.2.2 | exact g.2.2.2.2.2.2.1 | exact g.2.2.2.2.2.2 | exact g.2.2.2.2.2.1 | exact g.2.2.2.2.2 | exact g.2.2.2.2.1 | exact g.2.2.2.2 | exact g.2.2.2.1 | exact g.2.2.2 | exact g.2.2.1 | exact g.2.2 | exact g.2.1 | exact g.2 | exact g.1 | exact g))) : AJR Tryz.prog Γ N Q r ex A L G n l:=AJR_run envD (xpJ cs) h (hC (gd_t h0).1) (k (gd_t h0).2)
theorem jQD {n' : Nat} {l' : List De} {C G' : Prop} {_ : Decidable G'} {X : Option γ} {z : γ} (h0 : gd G' X = some z) (cs : List Nat) (h : runJ envD.tab N r ex A L (xpJ cs) n l = some (n',l',C)) (k : X = some z → AJR Tryz.prog Γ N Q r ex A L G n' l') (hC : G' → C:=by intro g; (repeat' (first | exact trivial | refine And.intro ?_ ?_ | with_reducible (first | exact g | exact g.1 | exact g.2 | exact g.2.1 | exact g.2.2 | exact g.2.2.1 | exact g.2.2.2 | exact g.2.2.2.1 | exact g.2.2.2.2 | exact g.2.2.2.2.1 | exact g.2.2.2.2.2 | exact g.2.2.2.2.2.1 | exact g.2.2.2.2.2.2 | exact g.2.2.2.2.2.2.1 | exact g.2.2.2.2.2.2.2) | decide | assumption | exact rfl | exact g.2.2.2.2.2.2.2 | exact g.2.2.2.2.2.2.1 | exact g.2.2.2.2.2.2 | exact g.2.2.2.2.2.1 | exact g.2.2.2.2.2 | exact g.2.2.2.2.1 | exact g.2.2.2.2 | exact g.2.2.2.1 | exact g.2.2.2 | exact g.2.2.1 | exact g.2.2 | exact g.2.1 | exact g.2 | exact g.1 | exact g | exact id | intro _))) : AJR Tryz.prog Γ N Q r ex A L G n l:=AJR_run envD (xpJ cs) h (hC (gd_t h0).1) (k (gd_t h0).2)
theorem jED {δ : De} {C : Prop} (n' : Nat) (h : evalV envD.tab N r (viewA2 r (fnR n l) A n) (viewL2 r ex (fnR n l) L n) n = some (δ,C)) (k : AJR Tryz.prog Γ N Q r ex A L G n' (δ :: l)) (hC : C:=by (repeat' (first | exact trivial | refine And.intro ?_ ?_ | decide | assumption | exact rfl))) (hn' : n' = n + 1:=by exact rfl) (hn : Nat.ble (n + 1) r.ops.size = true:=by exact rfl) : AJR Tryz.prog Γ N Q r ex A L G n l:=AJR_ev envD n' hn' (Nat.le_of_ble_eq_true hn) h hC k
theorem jGD {δ : De} {C G' : Prop} {_ : Decidable G'} {X : Option γ} {z : γ} (h0 : gd G' X = some z) (n' : Nat) (h : evalV envD.tab N r (viewA2 r (fnR n l) A n) (viewL2 r ex (fnR n l) L n) n = some (δ,C)) (k : X = some z → AJR Tryz.prog Γ N Q r ex A L G n' (δ :: l)) (hC : G' → C:=by intro g; (repeat' (first | exact trivial | refine And.intro ?_ ?_ | with_reducible (first | exact g | exact g.1 | exact g.2 | exact g.2.1 | exact g.2.2 | exact g.2.2.1 | exact g.2.2.2 | exact g.2.2.2.1 | exact g.2.2.2.2 | exact g.2.2.2.2.1 | exact g.2.2.2.2.2 | exact g.2.2.2.2.2.1 | exact g.2.2.2.2.2.2 | exact g.2.2.2.2.2.2.1 | exact g.2.2.2.2.2.2.2) | decide | exact rfl | exact g.2.2.2.2.2.2.2 | exact g.2.2.2.2.2.2.1 | exact g.2.2.2.2.2.2 | exact g.2.2.2.2.2.1 | exact g.2.2.2.2.2 | exact g.2.2.2.2.1 | exact g.2.2.2.2 | exact g.2.2.2.1 | exact g.2.2.2 | exact g.2.2.1 | exact g.2.2 | exact g.2.1 | exact g.2 | exact g.1 | exact g))) (hn' : n' = n + 1:=by exact rfl) (hn : Nat.ble (n + 1) r.ops.size = true:=by exact rfl) : AJR Tryz.prog Γ N Q r ex A L G n l:=AJR_ev envD n' hn' (Nat.le_of_ble_eq_true hn) h (hC (gd_t h0).1) (k (gd_t h0).2)
theorem jVD {δ : De} {C : Prop} {j dj : Nat} {o oj : Oper} {want b : Bool} (n' : Nat) (hb : b = want) (ho : r.ops[n]? = some o) (hg : o.guard = some (j,want)) (hj : r.ops[j]? = some oj) (hdj : oj.dst = some dj) (hv : get (viewA2 r (fnR n l) A n) dj = some (.bool b)) (h : evalG envD.tab N (r.wk n) (r.nk n) o (viewA2 r (fnR n l) A n) (viewL2 r ex (fnR n l) L n) = some (δ,C)) (k : AJR Tryz.prog Γ N Q r ex A L G n' (δ :: l)) (hC : C:=by (repeat' (first | exact trivial | refine And.intro ?_ ?_ | decide | assumption | exact rfl))) (hn' : n' = n + 1:=by exact rfl) (hn : Nat.ble (n + 1) r.ops.size = true:=by exact rfl) : AJR Tryz.prog Γ N Q r ex A L G n l:=AJR_gev envD n' hn' (Nat.le_of_ble_eq_true hn) hb ho hg hj hdj hv h hC k
end

section
variable {Γ : Gd} {N : Nat} {Q : Exit → Act → World → Prop} {A A' : List (Nat × MV)} {L L' : List (Nat × Option MObj)}
def SQ1 (Γ : Gd) (N : Nat) {α0 : Type} (z : α0) (SA : α0 → List (Nat × MV)) (SL : α0 → List (Nat × Option MObj)) : Act → World → Prop:=SP Γ N (fun s : α0=>z = s) (fun z=>SA z) (fun z=>SL z)

theorem SR1 {α0 : Type} {x0 : α0} {z : α0} {SA : α0 → List (Nat × MV)} {SL : α0 → List (Nat × Option MObj)} (h : some x0 = some z) (l : List (Nat × Nat)) (hA : SubAr (sg l) (SA x0) A:=by (repeat' (first | exact trivial | refine And.intro rfl ?_))) (hL : SubLr (sg l) (SL x0) L:=by (repeat' (first | exact trivial | refine And.intro rfl ?_))) (hb : sgB l (keysO (SL x0)) = true:=by exact rfl) : TE Γ N (SQ1 Γ N z SA SL) A L:=SP_ren l z rfl (by cases h; exact hA) (by cases h; exact hL) (by cases h; exact hb)

theorem CT1 {c : Code} {δ : Type} {α0 : Type} {X : Option (α0)} {k : α0 → Option δ} {r : δ} (h : X.bind k = some r) (SA : α0 → List (Nat × MV)) (SL : α0 → List (Nat × Option MObj)) (h1 : ∀ z,X = some z → TC Tryz.prog Γ N c (Exit.then (SQ1 Γ N z SA SL) Q) A L) (h2 : ∀ x0,k x0 = some r → TE Γ N (Q .normal) (SA x0) (SL x0)) : TC Tryz.prog Γ N c Q A L:=by
 obtain ⟨z,hx,hk⟩:=bnd h
 exact TC_cut (fun s=>z = s) _ _ (h1 z hx) (fun s e=>by subst e; exact h2 _ hk)

def SQ2 (Γ : Gd) (N : Nat) {α0 α1 : Type} (z : α0 × α1) (SA : α0 → α1 → List (Nat × MV)) (SL : α0 → α1 → List (Nat × Option MObj)) : Act → World → Prop:=SP Γ N (fun s : α0 × α1=>z = s) (fun z=>SA z.1 z.2) (fun z=>SL z.1 z.2)

theorem SR2 {α0 α1 : Type} {x0 : α0} {x1 : α1} {z : α0 × α1} {SA : α0 → α1 → List (Nat × MV)} {SL : α0 → α1 → List (Nat × Option MObj)} (h : some (x0,x1) = some z) (l : List (Nat × Nat)) (hA : SubAr (sg l) (SA x0 x1) A:=by (repeat' (first | exact trivial | refine And.intro rfl ?_))) (hL : SubLr (sg l) (SL x0 x1) L:=by (repeat' (first | exact trivial | refine And.intro rfl ?_))) (hb : sgB l (keysO (SL x0 x1)) = true:=by exact rfl) : TE Γ N (SQ2 Γ N z SA SL) A L:=SP_ren l z rfl (by cases h; exact hA) (by cases h; exact hL) (by cases h; exact hb)

theorem CT2 {c : Code} {δ : Type} {α0 α1 : Type} {X : Option (α0 × α1)} {k : (α0 × α1) → Option δ} {r : δ} (h : X.bind k = some r) (SA : α0 → α1 → List (Nat × MV)) (SL : α0 → α1 → List (Nat × Option MObj)) (h1 : ∀ z,X = some z → TC Tryz.prog Γ N c (Exit.then (SQ2 Γ N z SA SL) Q) A L) (h2 : ∀ x0 x1,k (x0,x1) = some r → TE Γ N (Q .normal) (SA x0 x1) (SL x0 x1)) : TC Tryz.prog Γ N c Q A L:=by
 obtain ⟨z,hx,hk⟩:=bnd h
 exact TC_cut (fun s=>z = s) _ _ (h1 z hx) (fun s e=>by subst e; exact h2 _ _ hk)

def SQ3 (Γ : Gd) (N : Nat) {α0 α1 α2 : Type} (z : α0 × α1 × α2) (SA : α0 → α1 → α2 → List (Nat × MV)) (SL : α0 → α1 → α2 → List (Nat × Option MObj)) : Act → World → Prop:=SP Γ N (fun s : α0 × α1 × α2=>z = s) (fun z=>SA z.1 z.2.1 z.2.2) (fun z=>SL z.1 z.2.1 z.2.2)

theorem SR3 {α0 α1 α2 : Type} {x0 : α0} {x1 : α1} {x2 : α2} {z : α0 × α1 × α2} {SA : α0 → α1 → α2 → List (Nat × MV)} {SL : α0 → α1 → α2 → List (Nat × Option MObj)} (h : some (x0,x1,x2) = some z) (l : List (Nat × Nat)) (hA : SubAr (sg l) (SA x0 x1 x2) A:=by (repeat' (first | exact trivial | refine And.intro rfl ?_))) (hL : SubLr (sg l) (SL x0 x1 x2) L:=by (repeat' (first | exact trivial | refine And.intro rfl ?_))) (hb : sgB l (keysO (SL x0 x1 x2)) = true:=by exact rfl) : TE Γ N (SQ3 Γ N z SA SL) A L:=SP_ren l z rfl (by cases h; exact hA) (by cases h; exact hL) (by cases h; exact hb)

theorem CT3 {c : Code} {δ : Type} {α0 α1 α2 : Type} {X : Option (α0 × α1 × α2)} {k : (α0 × α1 × α2) → Option δ} {r : δ} (h : X.bind k = some r) (SA : α0 → α1 → α2 → List (Nat × MV)) (SL : α0 → α1 → α2 → List (Nat × Option MObj)) (h1 : ∀ z,X = some z → TC Tryz.prog Γ N c (Exit.then (SQ3 Γ N z SA SL) Q) A L) (h2 : ∀ x0 x1 x2,k (x0,x1,x2) = some r → TE Γ N (Q .normal) (SA x0 x1 x2) (SL x0 x1 x2)) : TC Tryz.prog Γ N c Q A L:=by
 obtain ⟨z,hx,hk⟩:=bnd h
 exact TC_cut (fun s=>z = s) _ _ (h1 z hx) (fun s e=>by subst e; exact h2 _ _ _ hk)

def SQ4 (Γ : Gd) (N : Nat) {α0 α1 α2 α3 : Type} (z : α0 × α1 × α2 × α3) (SA : α0 → α1 → α2 → α3 → List (Nat × MV)) (SL : α0 → α1 → α2 → α3 → List (Nat × Option MObj)) : Act → World → Prop:=SP Γ N (fun s : α0 × α1 × α2 × α3=>z = s) (fun z=>SA z.1 z.2.1 z.2.2.1 z.2.2.2) (fun z=>SL z.1 z.2.1 z.2.2.1 z.2.2.2)

theorem SR4 {α0 α1 α2 α3 : Type} {x0 : α0} {x1 : α1} {x2 : α2} {x3 : α3} {z : α0 × α1 × α2 × α3} {SA : α0 → α1 → α2 → α3 → List (Nat × MV)} {SL : α0 → α1 → α2 → α3 → List (Nat × Option MObj)} (h : some (x0,x1,x2,x3) = some z) (l : List (Nat × Nat)) (hA : SubAr (sg l) (SA x0 x1 x2 x3) A:=by (repeat' (first | exact trivial | refine And.intro rfl ?_))) (hL : SubLr (sg l) (SL x0 x1 x2 x3) L:=by (repeat' (first | exact trivial | refine And.intro rfl ?_))) (hb : sgB l (keysO (SL x0 x1 x2 x3)) = true:=by exact rfl) : TE Γ N (SQ4 Γ N z SA SL) A L:=SP_ren l z rfl (by cases h; exact hA) (by cases h; exact hL) (by cases h; exact hb)

theorem CT4 {c : Code} {δ : Type} {α0 α1 α2 α3 : Type} {X : Option (α0 × α1 × α2 × α3)} {k : (α0 × α1 × α2 × α3) → Option δ} {r : δ} (h : X.bind k = some r) (SA : α0 → α1 → α2 → α3 → List (Nat × MV)) (SL : α0 → α1 → α2 → α3 → List (Nat × Option MObj)) (h1 : ∀ z,X = some z → TC Tryz.prog Γ N c (Exit.then (SQ4 Γ N z SA SL) Q) A L) (h2 : ∀ x0 x1 x2 x3,k (x0,x1,x2,x3) = some r → TE Γ N (Q .normal) (SA x0 x1 x2 x3) (SL x0 x1 x2 x3)) : TC Tryz.prog Γ N c Q A L:=by
 obtain ⟨z,hx,hk⟩:=bnd h
 exact TC_cut (fun s=>z = s) _ _ (h1 z hx) (fun s e=>by subst e; exact h2 _ _ _ _ hk)

def LN1 (Γ : Gd) (N : Nat) {α0 : Type} {δ : Type} (g : Nat → α0 → Option δ) (r : δ) (n : Nat) (SA : α0 → List (Nat × MV)) (SL : α0 → List (Nat × Option MObj)) : Act → World → Prop:=fun a w=>∃ n',n' < n ∧ SP Γ N (fun z : α0=>g n' z = some r) (fun z=>SA z) (fun z=>SL z) a w

theorem NX1 {α0 : Type} {δ : Type} {g : Nat → α0 → Option δ} {r : δ} {n : Nat} {x0 : α0} {SA : α0 → List (Nat × MV)} {SL : α0 → List (Nat × Option MObj)} (h : g n x0 = some r) (l : List (Nat × Nat)) (hA : SubAr (sg l) (SA x0) A:=by (repeat' (first | exact trivial | refine And.intro rfl ?_))) (hL : SubLr (sg l) (SL x0) L:=by (repeat' (first | exact trivial | refine And.intro rfl ?_))) (hb : sgB l (keysO (SL x0)) = true:=by exact rfl) : TE Γ N (LN1 Γ N g r (n + 1) SA SL) A L:=TE_nextr (p:=fun n (z : α0)=>g n z = some r) (SA:=fun z=>SA z) (SL:=fun z=>SL z) l n (Nat.lt_succ_self n) x0 h hA hL hb

theorem LP1 {c : Code} {α0 : Type} {δ : Type} {g : Nat → α0 → Option δ} {r : δ} {K : Nat} {x0 : α0} (h : g K x0 = some r) (l : List (Nat × Nat)) (SA : α0 → List (Nat × MV)) (SL : α0 → List (Nat × Option MObj)) (b : ∀ n x0,g (n + 1) x0 = some r → TC Tryz.prog Γ N c (Exit.then (LN1 Γ N g r (n + 1) SA SL) Q) (SA x0) (SL x0)) (hA : SubAr (sg l) (SA x0) A:=by (repeat' (first | exact trivial | refine And.intro rfl ?_))) (hL : SubLr (sg l) (SL x0) L:=by (repeat' (first | exact trivial | refine And.intro rfl ?_))) (hb : sgB l (keysO (SL x0)) = true:=by exact rfl) (h0 : ∀ x0,g 0 x0 = none:=by intros; exact rfl) : TC Tryz.prog Γ N (.loop c) Q A L:=TC_loop (α:=α0) (fun n z=>g n z = some r) (fun z=>SA z) (fun z=>SL z) K (SP_ren l x0 h hA hL hb) (fun n z hz=>by
 rcases n with _ | n
 ·rw [h0] at hz; cases hz
 ·exact b n _ hz)

def LN2 (Γ : Gd) (N : Nat) {α0 α1 : Type} {δ : Type} (g : Nat → α0 → α1 → Option δ) (r : δ) (n : Nat) (SA : α0 → α1 → List (Nat × MV)) (SL : α0 → α1 → List (Nat × Option MObj)) : Act → World → Prop:=fun a w=>∃ n',n' < n ∧ SP Γ N (fun z : α0 × α1=>g n' z.1 z.2 = some r) (fun z=>SA z.1 z.2) (fun z=>SL z.1 z.2) a w

theorem NX2 {α0 α1 : Type} {δ : Type} {g : Nat → α0 → α1 → Option δ} {r : δ} {n : Nat} {x0 : α0} {x1 : α1} {SA : α0 → α1 → List (Nat × MV)} {SL : α0 → α1 → List (Nat × Option MObj)} (h : g n x0 x1 = some r) (l : List (Nat × Nat)) (hA : SubAr (sg l) (SA x0 x1) A:=by (repeat' (first | exact trivial | refine And.intro rfl ?_))) (hL : SubLr (sg l) (SL x0 x1) L:=by (repeat' (first | exact trivial | refine And.intro rfl ?_))) (hb : sgB l (keysO (SL x0 x1)) = true:=by exact rfl) : TE Γ N (LN2 Γ N g r (n + 1) SA SL) A L:=TE_nextr (p:=fun n (z : α0 × α1)=>g n z.1 z.2 = some r) (SA:=fun z=>SA z.1 z.2) (SL:=fun z=>SL z.1 z.2) l n (Nat.lt_succ_self n) (x0,x1) h hA hL hb

theorem LP2 {c : Code} {α0 α1 : Type} {δ : Type} {g : Nat → α0 → α1 → Option δ} {r : δ} {K : Nat} {x0 : α0} {x1 : α1} (h : g K x0 x1 = some r) (l : List (Nat × Nat)) (SA : α0 → α1 → List (Nat × MV)) (SL : α0 → α1 → List (Nat × Option MObj)) (b : ∀ n x0 x1,g (n + 1) x0 x1 = some r → TC Tryz.prog Γ N c (Exit.then (LN2 Γ N g r (n + 1) SA SL) Q) (SA x0 x1) (SL x0 x1)) (hA : SubAr (sg l) (SA x0 x1) A:=by (repeat' (first | exact trivial | refine And.intro rfl ?_))) (hL : SubLr (sg l) (SL x0 x1) L:=by (repeat' (first | exact trivial | refine And.intro rfl ?_))) (hb : sgB l (keysO (SL x0 x1)) = true:=by exact rfl) (h0 : ∀ x0 x1,g 0 x0 x1 = none:=by intros; exact rfl) : TC Tryz.prog Γ N (.loop c) Q A L:=TC_loop (α:=α0 × α1) (fun n z=>g n z.1 z.2 = some r) (fun z=>SA z.1 z.2) (fun z=>SL z.1 z.2) K (SP_ren l (x0,x1) h hA hL hb) (fun n z hz=>by
 rcases n with _ | n
 ·rw [h0] at hz; cases hz
 ·exact b n _ _ hz)

def LN3 (Γ : Gd) (N : Nat) {α0 α1 α2 : Type} {δ : Type} (g : Nat → α0 → α1 → α2 → Option δ) (r : δ) (n : Nat) (SA : α0 → α1 → α2 → List (Nat × MV)) (SL : α0 → α1 → α2 → List (Nat × Option MObj)) : Act → World → Prop:=fun a w=>∃ n',n' < n ∧ SP Γ N (fun z : α0 × α1 × α2=>g n' z.1 z.2.1 z.2.2 = some r) (fun z=>SA z.1 z.2.1 z.2.2) (fun z=>SL z.1 z.2.1 z.2.2) a w

theorem NX3 {α0 α1 α2 : Type} {δ : Type} {g : Nat → α0 → α1 → α2 → Option δ} {r : δ} {n : Nat} {x0 : α0} {x1 : α1} {x2 : α2} {SA : α0 → α1 → α2 → List (Nat × MV)} {SL : α0 → α1 → α2 → List (Nat × Option MObj)} (h : g n x0 x1 x2 = some r) (l : List (Nat × Nat)) (hA : SubAr (sg l) (SA x0 x1 x2) A:=by (repeat' (first | exact trivial | refine And.intro rfl ?_))) (hL : SubLr (sg l) (SL x0 x1 x2) L:=by (repeat' (first | exact trivial | refine And.intro rfl ?_))) (hb : sgB l (keysO (SL x0 x1 x2)) = true:=by exact rfl) : TE Γ N (LN3 Γ N g r (n + 1) SA SL) A L:=TE_nextr (p:=fun n (z : α0 × α1 × α2)=>g n z.1 z.2.1 z.2.2 = some r) (SA:=fun z=>SA z.1 z.2.1 z.2.2) (SL:=fun z=>SL z.1 z.2.1 z.2.2) l n (Nat.lt_succ_self n) (x0,x1,x2) h hA hL hb

theorem LP3 {c : Code} {α0 α1 α2 : Type} {δ : Type} {g : Nat → α0 → α1 → α2 → Option δ} {r : δ} {K : Nat} {x0 : α0} {x1 : α1} {x2 : α2} (h : g K x0 x1 x2 = some r) (l : List (Nat × Nat)) (SA : α0 → α1 → α2 → List (Nat × MV)) (SL : α0 → α1 → α2 → List (Nat × Option MObj)) (b : ∀ n x0 x1 x2,g (n + 1) x0 x1 x2 = some r → TC Tryz.prog Γ N c (Exit.then (LN3 Γ N g r (n + 1) SA SL) Q) (SA x0 x1 x2) (SL x0 x1 x2)) (hA : SubAr (sg l) (SA x0 x1 x2) A:=by (repeat' (first | exact trivial | refine And.intro rfl ?_))) (hL : SubLr (sg l) (SL x0 x1 x2) L:=by (repeat' (first | exact trivial | refine And.intro rfl ?_))) (hb : sgB l (keysO (SL x0 x1 x2)) = true:=by exact rfl) (h0 : ∀ x0 x1 x2,g 0 x0 x1 x2 = none:=by intros; exact rfl) : TC Tryz.prog Γ N (.loop c) Q A L:=TC_loop (α:=α0 × α1 × α2) (fun n z=>g n z.1 z.2.1 z.2.2 = some r) (fun z=>SA z.1 z.2.1 z.2.2) (fun z=>SL z.1 z.2.1 z.2.2) K (SP_ren l (x0,x1,x2) h hA hL hb) (fun n z hz=>by
 rcases n with _ | n
 ·rw [h0] at hz; cases hz
 ·exact b n _ _ _ hz)

def LN4 (Γ : Gd) (N : Nat) {α0 α1 α2 α3 : Type} {δ : Type} (g : Nat → α0 → α1 → α2 → α3 → Option δ) (r : δ) (n : Nat) (SA : α0 → α1 → α2 → α3 → List (Nat × MV)) (SL : α0 → α1 → α2 → α3 → List (Nat × Option MObj)) : Act → World → Prop:=fun a w=>∃ n',n' < n ∧ SP Γ N (fun z : α0 × α1 × α2 × α3=>g n' z.1 z.2.1 z.2.2.1 z.2.2.2 = some r) (fun z=>SA z.1 z.2.1 z.2.2.1 z.2.2.2) (fun z=>SL z.1 z.2.1 z.2.2.1 z.2.2.2) a w

theorem NX4 {α0 α1 α2 α3 : Type} {δ : Type} {g : Nat → α0 → α1 → α2 → α3 → Option δ} {r : δ} {n : Nat} {x0 : α0} {x1 : α1} {x2 : α2} {x3 : α3} {SA : α0 → α1 → α2 → α3 → List (Nat × MV)} {SL : α0 → α1 → α2 → α3 → List (Nat × Option MObj)} (h : g n x0 x1 x2 x3 = some r) (l : List (Nat × Nat)) (hA : SubAr (sg l) (SA x0 x1 x2 x3) A:=by (repeat' (first | exact trivial | refine And.intro rfl ?_))) (hL : SubLr (sg l) (SL x0 x1 x2 x3) L:=by (repeat' (first | exact trivial | refine And.intro rfl ?_))) (hb : sgB l (keysO (SL x0 x1 x2 x3)) = true:=by exact rfl) : TE Γ N (LN4 Γ N g r (n + 1) SA SL) A L:=TE_nextr (p:=fun n (z : α0 × α1 × α2 × α3)=>g n z.1 z.2.1 z.2.2.1 z.2.2.2 = some r) (SA:=fun z=>SA z.1 z.2.1 z.2.2.1 z.2.2.2) (SL:=fun z=>SL z.1 z.2.1 z.2.2.1 z.2.2.2) l n (Nat.lt_succ_self n) (x0,x1,x2,x3) h hA hL hb

theorem LP4 {c : Code} {α0 α1 α2 α3 : Type} {δ : Type} {g : Nat → α0 → α1 → α2 → α3 → Option δ} {r : δ} {K : Nat} {x0 : α0} {x1 : α1} {x2 : α2} {x3 : α3} (h : g K x0 x1 x2 x3 = some r) (l : List (Nat × Nat)) (SA : α0 → α1 → α2 → α3 → List (Nat × MV)) (SL : α0 → α1 → α2 → α3 → List (Nat × Option MObj)) (b : ∀ n x0 x1 x2 x3,g (n + 1) x0 x1 x2 x3 = some r → TC Tryz.prog Γ N c (Exit.then (LN4 Γ N g r (n + 1) SA SL) Q) (SA x0 x1 x2 x3) (SL x0 x1 x2 x3)) (hA : SubAr (sg l) (SA x0 x1 x2 x3) A:=by (repeat' (first | exact trivial | refine And.intro rfl ?_))) (hL : SubLr (sg l) (SL x0 x1 x2 x3) L:=by (repeat' (first | exact trivial | refine And.intro rfl ?_))) (hb : sgB l (keysO (SL x0 x1 x2 x3)) = true:=by exact rfl) (h0 : ∀ x0 x1 x2 x3,g 0 x0 x1 x2 x3 = none:=by intros; exact rfl) : TC Tryz.prog Γ N (.loop c) Q A L:=TC_loop (α:=α0 × α1 × α2 × α3) (fun n z=>g n z.1 z.2.1 z.2.2.1 z.2.2.2 = some r) (fun z=>SA z.1 z.2.1 z.2.2.1 z.2.2.2) (fun z=>SL z.1 z.2.1 z.2.2.1 z.2.2.2) K (SP_ren l (x0,x1,x2,x3) h hA hL hb) (fun n z hz=>by
 rcases n with _ | n
 ·rw [h0] at hz; cases hz
 ·exact b n _ _ _ _ hz)

def LN5 (Γ : Gd) (N : Nat) {α0 α1 α2 α3 α4 : Type} {δ : Type} (g : Nat → α0 → α1 → α2 → α3 → α4 → Option δ) (r : δ) (n : Nat) (SA : α0 → α1 → α2 → α3 → α4 → List (Nat × MV)) (SL : α0 → α1 → α2 → α3 → α4 → List (Nat × Option MObj)) : Act → World → Prop:=fun a w=>∃ n',n' < n ∧ SP Γ N (fun z : α0 × α1 × α2 × α3 × α4=>g n' z.1 z.2.1 z.2.2.1 z.2.2.2.1 z.2.2.2.2 = some r) (fun z=>SA z.1 z.2.1 z.2.2.1 z.2.2.2.1 z.2.2.2.2) (fun z=>SL z.1 z.2.1 z.2.2.1 z.2.2.2.1 z.2.2.2.2) a w

theorem NX5 {α0 α1 α2 α3 α4 : Type} {δ : Type} {g : Nat → α0 → α1 → α2 → α3 → α4 → Option δ} {r : δ} {n : Nat} {x0 : α0} {x1 : α1} {x2 : α2} {x3 : α3} {x4 : α4} {SA : α0 → α1 → α2 → α3 → α4 → List (Nat × MV)} {SL : α0 → α1 → α2 → α3 → α4 → List (Nat × Option MObj)} (h : g n x0 x1 x2 x3 x4 = some r) (l : List (Nat × Nat)) (hA : SubAr (sg l) (SA x0 x1 x2 x3 x4) A:=by (repeat' (first | exact trivial | refine And.intro rfl ?_))) (hL : SubLr (sg l) (SL x0 x1 x2 x3 x4) L:=by (repeat' (first | exact trivial | refine And.intro rfl ?_))) (hb : sgB l (keysO (SL x0 x1 x2 x3 x4)) = true:=by exact rfl) : TE Γ N (LN5 Γ N g r (n + 1) SA SL) A L:=TE_nextr (p:=fun n (z : α0 × α1 × α2 × α3 × α4)=>g n z.1 z.2.1 z.2.2.1 z.2.2.2.1 z.2.2.2.2 = some r) (SA:=fun z=>SA z.1 z.2.1 z.2.2.1 z.2.2.2.1 z.2.2.2.2) (SL:=fun z=>SL z.1 z.2.1 z.2.2.1 z.2.2.2.1 z.2.2.2.2) l n (Nat.lt_succ_self n) (x0,x1,x2,x3,x4) h hA hL hb

theorem LP5 {c : Code} {α0 α1 α2 α3 α4 : Type} {δ : Type} {g : Nat → α0 → α1 → α2 → α3 → α4 → Option δ} {r : δ} {K : Nat} {x0 : α0} {x1 : α1} {x2 : α2} {x3 : α3} {x4 : α4} (h : g K x0 x1 x2 x3 x4 = some r) (l : List (Nat × Nat)) (SA : α0 → α1 → α2 → α3 → α4 → List (Nat × MV)) (SL : α0 → α1 → α2 → α3 → α4 → List (Nat × Option MObj)) (b : ∀ n x0 x1 x2 x3 x4,g (n + 1) x0 x1 x2 x3 x4 = some r → TC Tryz.prog Γ N c (Exit.then (LN5 Γ N g r (n + 1) SA SL) Q) (SA x0 x1 x2 x3 x4) (SL x0 x1 x2 x3 x4)) (hA : SubAr (sg l) (SA x0 x1 x2 x3 x4) A:=by (repeat' (first | exact trivial | refine And.intro rfl ?_))) (hL : SubLr (sg l) (SL x0 x1 x2 x3 x4) L:=by (repeat' (first | exact trivial | refine And.intro rfl ?_))) (hb : sgB l (keysO (SL x0 x1 x2 x3 x4)) = true:=by exact rfl) (h0 : ∀ x0 x1 x2 x3 x4,g 0 x0 x1 x2 x3 x4 = none:=by intros; exact rfl) : TC Tryz.prog Γ N (.loop c) Q A L:=TC_loop (α:=α0 × α1 × α2 × α3 × α4) (fun n z=>g n z.1 z.2.1 z.2.2.1 z.2.2.2.1 z.2.2.2.2 = some r) (fun z=>SA z.1 z.2.1 z.2.2.1 z.2.2.2.1 z.2.2.2.2) (fun z=>SL z.1 z.2.1 z.2.2.1 z.2.2.2.1 z.2.2.2.2) K (SP_ren l (x0,x1,x2,x3,x4) h hA hL hb) (fun n z hz=>by
 rcases n with _ | n
 ·rw [h0] at hz; cases hz
 ·exact b n _ _ _ _ _ hz)

end
theorem pj1 {α : Type} {a c : α} (h : some a = some c) : c = a:=sinj h

theorem pj2 {α0 α1 : Type} {a0 c0 : α0} {a1 c1 : α1} (h : some (a0,a1) = some (c0,c1)) : c0 = a0 ∧ c1 = a1:=by cases h; exact ⟨rfl,rfl⟩

theorem pj3 {α0 α1 α2 : Type} {a0 c0 : α0} {a1 c1 : α1} {a2 c2 : α2} (h : some (a0,a1,a2) = some (c0,c1,c2)) : c0 = a0 ∧ c1 = a1 ∧ c2 = a2:=by cases h; exact ⟨rfl,rfl,rfl⟩

theorem pj4 {α0 α1 α2 α3 : Type} {a0 c0 : α0} {a1 c1 : α1} {a2 c2 : α2} {a3 c3 : α3} (h : some (a0,a1,a2,a3) = some (c0,c1,c2,c3)) : c0 = a0 ∧ c1 = a1 ∧ c2 = a2 ∧ c3 = a3:=by cases h; exact ⟨rfl,rfl,rfl,rfl⟩

theorem pj5 {α0 α1 α2 α3 α4 : Type} {a0 c0 : α0} {a1 c1 : α1} {a2 c2 : α2} {a3 c3 : α3} {a4 c4 : α4} (h : some (a0,a1,a2,a3,a4) = some (c0,c1,c2,c3,c4)) : c0 = a0 ∧ c1 = a1 ∧ c2 = a2 ∧ c3 = a3 ∧ c4 = a4:=by cases h; exact ⟨rfl,rfl,rfl,rfl,rfl⟩

theorem pj7 {α0 α1 α2 α3 α4 α5 α6 : Type} {a0 c0 : α0} {a1 c1 : α1} {a2 c2 : α2} {a3 c3 : α3} {a4 c4 : α4} {a5 c5 : α5} {a6 c6 : α6} (h : some (a0,a1,a2,a3,a4,a5,a6) = some (c0,c1,c2,c3,c4,c5,c6)) : c0 = a0 ∧ c1 = a1 ∧ c2 = a2 ∧ c3 = a3 ∧ c4 = a4 ∧ c5 = a5 ∧ c6 = a6:=by cases h; exact ⟨rfl,rfl,rfl,rfl,rfl,rfl,rfl⟩

end Go.Fo
