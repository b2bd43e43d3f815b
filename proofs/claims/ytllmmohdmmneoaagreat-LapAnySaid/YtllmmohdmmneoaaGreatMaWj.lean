/- What parameters say of themselves. -/
import Derived.Test.YtllmmohdmmneoaaGreatMaWg
namespace Go.Fo
set_option maxRecDepth 6000
def sdl (w c r0 r1 r2 r3 r4 r5 r6 r7 on i0 i1 i2 i3 la st gn ns:Int) (l:Nat):List (Int×Int):=((((([(w,2),(c,4)]++([r0,r1,r2,r3,r4,r5,r6,r7]:Li).map fun r=>(r+4,(3:Int)))++[(on,(1:Int))])++(if on=1 then ([i0,i1,i2,i3]:Li).map (fun r=>(r,(5:Int))) else []))++[(st,(2:Int))])++(if 0<st then [(la-16,(6:Int))] else []))++[(gn,(8:Int)),(ns,(3:Int)),((l:Int),(7:Int))]
def sdw (on st:Int):Int:=51+(if on=1 then 20 else 0)+(if 0<st then 6 else 0)
def wsm (L:List (Int×Int)):Nat->Int
  | 0=>0
  | i+1=>wsm L i+(L.getD i (0,0)).2
theorem Xn {L:List (Int×Int)} (hb:∀x∈L,0<=x.2/\x.2<=32) (i:Nat) (hi:i<=L.length):0<=wsm L i/\wsm L i<=32*i:=by
 induction i with
 | zero=>exact ⟨Int.le_refl _,by show (0:Int)<=32*0;decide⟩
 | succ i ih =>
  have ih:=ih (by omega)
  have h:=hb (L.getD i (0,0)) (by rw[List.getD_eq_getElem?_getD,List.getElem?_eq_getElem (by omega)];exact List.getElem_mem (by omega))
  unfold wsm;omega
theorem H4 {L:List (Int×Int)} (h:((L.map Prod.snd).all fun k=>decide (0<=k/\k<=32))=true):∀x∈L,0<=x.2/\x.2<=32:=fun x hx=>of_decide_eq_true (List.all_eq_true.1 h x.2 (List.mem_map.2 ⟨x,hx,rfl⟩))
def wsi (l:Li):Nat->Int
  | 0=>0
  | i+1=>wsi l i+l.getD i 0
theorem uo (L:List (Int×Int)) (n:Nat):wsm L n=wsi (L.map Prod.snd) n:=by
 induction n with
 | zero=>rfl
 | succ n ih =>
  unfold wsm wsi
  rw[ih,List.getD_eq_getElem?_getD,List.getD_eq_getElem?_getD,List.getElem?_map]
  cases L[n]?<;>rfl
theorem XQ (w c r0 r1 r2 r3 r4 r5 r6 r7 on i0 i1 i2 i3 la st gn ns:Int) (l:Nat):wsm (sdl w c r0 r1 r2 r3 r4 r5 r6 r7 on i0 i1 i2 i3 la st gn ns l) (sdl w c r0 r1 r2 r3 r4 r5 r6 r7 on i0 i1 i2 i3 la st gn ns l).length=sdw on st/\(sdl w c r0 r1 r2 r3 r4 r5 r6 r7 on i0 i1 i2 i3 la st gn ns l).length<=90000/\∀x∈sdl w c r0 r1 r2 r3 r4 r5 r6 r7 on i0 i1 i2 i3 la st gn ns l,0<=x.2/\x.2<=32:=by
 have key:∀m:Li,(sdl w c r0 r1 r2 r3 r4 r5 r6 r7 on i0 i1 i2 i3 la st gn ns l).map Prod.snd=m->wsi m m.length=sdw on st->m.length<=90000->(m.all fun k=>decide (0<=k/\k<=32))=true->wsm (sdl w c r0 r1 r2 r3 r4 r5 r6 r7 on i0 i1 i2 i3 la st gn ns l) (sdl w c r0 r1 r2 r3 r4 r5 r6 r7 on i0 i1 i2 i3 la st gn ns l).length=sdw on st/\(sdl w c r0 r1 r2 r3 r4 r5 r6 r7 on i0 i1 i2 i3 la st gn ns l).length<=90000/\∀x∈sdl w c r0 r1 r2 r3 r4 r5 r6 r7 on i0 i1 i2 i3 la st gn ns l,0<=x.2/\x.2<=32:=by
  intro m hm h1 h2 h3
  have hl:(sdl w c r0 r1 r2 r3 r4 r5 r6 r7 on i0 i1 i2 i3 la st gn ns l).length=m.length:=by rw[<-hm,List.length_map]
  exact ⟨by rw[uo,hm,hl];exact h1,by rw[hl];exact h2,H4 (by rw[hm];exact h3)⟩
 unfold sdl sdw at *
 by_cases e:on=1
 ·rw[if_pos e] at *
  by_cases f:0<st
  ·rw[if_pos f] at *
   exact key [2,4,3,3,3,3,3,3,3,3,1,5,5,5,5,2,6,8,3,7] rfl (by rw[if_pos e,if_pos f];rfl) (by decide) rfl
  ·rw[if_neg f] at *
   exact key [2,4,3,3,3,3,3,3,3,3,1,5,5,5,5,2,8,3,7] rfl (by rw[if_pos e,if_neg f];rfl) (by decide) rfl
 ·rw[if_neg e] at *
  by_cases f:0<st
  ·rw[if_pos f] at *
   exact key [2,4,3,3,3,3,3,3,3,3,1,2,6,8,3,7] rfl (by rw[if_neg e,if_pos f];rfl) (by decide) rfl
  ·rw[if_neg f] at *
   exact key [2,4,3,3,3,3,3,3,3,3,1,2,8,3,7] rfl (by rw[if_neg e,if_neg f];rfl) (by decide) rfl
def nzc (q:Li):Nat->Nat
  | 0=>0
  | i+1=>if q.getD i 0=0 then nzc q i else nzc q i+1
theorem Q6 (q:Li) (i:Nat):nzc q i<=i:=by
 induction i with
 | zero=>exact Nat.le_refl _
 | succ i ih=>unfold nzc;split<;>omega
theorem Zq {q:Li} (h:Stp q) (n:Nat):Stp (q.take n):=⟨by rw[List.length_take];have:=h.1;omega,fun i=>by
 rw[List.getD_eq_getElem?_getD,List.getElem?_take]
 split
 ·rw[<-List.getD_eq_getElem?_getD];exact h.2 i
 ·decide⟩

theorem G3 {w c r0 r1 r2 r3 r4 r5 r6 r7 on i0 i1 i2 i3 la st gn ns:Int} {q  : Li} (hr:∀i,-1000<=([r0,r1,r2,r3,r4,r5,r6,r7]:Li).getD i 0/\([r0,r1,r2,r3,r4,r5,r6,r7]:Li).getD i 0<=1000) (b:List (Int×Int)) (hb:b.length<=100) :
  wC.l1 100000 r0 r1 r2 r3 r4 r5 r6 r7 w c on i0 i1 i2 i3 la st gn ns q  100000 0 b=some (b++([r0,r1,r2,r3,r4,r5,r6,r7]:Li).map fun r=>(r+4,3)):=by
 have key:∀(j m:Nat) (b:List (Int×Int)),j<m->j<=8->b.length+j<=200->wC.l1 100000 r0 r1 r2 r3 r4 r5 r6 r7 w c on i0 i1 i2 i3 la st gn ns q  m ((8-j:Nat):Int) b=some (b++(([r0,r1,r2,r3,r4,r5,r6,r7]:Li).drop (8-j)).map fun r=>(r+4,3)):=by
  intro j
  induction j with
  | zero =>
   intro m b hm _ _
   obtain ⟨m,rfl⟩:∃q,m=q+1:=⟨m-1,by omega⟩
   show wC.r1 100000 r0 r1 r2 r3 r4 r5 r6 r7 w c on i0 i1 i2 i3 la st gn ns q  (wC.l1 100000 r0 r1 r2 r3 r4 r5 r6 r7 w c on i0 i1 i2 i3 la st gn ns q  m) ((8-0:Nat):Int) b=_
   unfold wC.r1
   refine wq (decide_eq_false (by omega)) ?_
   show some b=some (b++[])
   rw[List.append_nil]
  | succ j ih =>
   intro m b hm hj hl
   obtain ⟨m,rfl⟩:∃q,m=q+1:=⟨m-1,by omega⟩
   have h8:8-(j+1)<([r0,r1,r2,r3,r4,r5,r6,r7]:Li).length:=by show 8-(j+1)<8;omega
   have hri:=hr (8-(j+1))
   have ed:=List.drop_eq_getElem_cons h8
   have eg:([r0,r1,r2,r3,r4,r5,r6,r7]:Li)[8-(j+1)]=([r0,r1,r2,r3,r4,r5,r6,r7]:Li).getD (8-(j+1)) 0:=by rw[List.getD_eq_getElem?_getD,List.getElem?_eq_getElem h8];rfl
   rw[eg] at ed
   rw[ed]
   have ih:=ih m (b++[(([r0,r1,r2,r3,r4,r5,r6,r7]:Li).getD (8-(j+1)) 0+4,3)]) (by omega) (by omega) (by rw[List.length_append];show b.length+1+j<=200;omega)
   rw[show 8-j=8-(j+1)+1 by omega] at ih
   show wC.r1 100000 r0 r1 r2 r3 r4 r5 r6 r7 w c on i0 i1 i2 i3 la st gn ns q  (wC.l1 100000 r0 r1 r2 r3 r4 r5 r6 r7 w c on i0 i1 i2 i3 la st gn ns q  m) ((8-(j+1):Nat):Int) b=_
   unfold wC.r1
   have e1:List.getD ([r0,r1,r2,r3,r4,r5,r6,r7]:Li) (Int.toNat ((8-(j+1):Nat):Int)) 0=([r0,r1,r2,r3,r4,r5,r6,r7]:Li).getD (8-(j+1)) 0:=rfl
   generalize ([r0,r1,r2,r3,r4,r5,r6,r7]:Li)=L at *
   refine wI (decide_eq_true (by omega)) (zp ⟨by omega,by omega⟩ (zp (by show ((b.length:Int)+1)*16<=_;omega) ?_))
   dsimp only
   rw[e1,wT (x:=L.getD (8-(j+1)) 0+4) (by omega) (by omega),kw1 (by omega) (by omega),show ((8-(j+1):Nat):Int)+1=((8-(j+1)+1:Nat):Int) by omega,List.map_cons]
   rw[<-List.append_cons] at ih
   exact ih
 have:=key 8 100000 b (by omega) (Nat.le_refl _) (by omega)
 exact this
theorem H5 {w c r0 r1 r2 r3 r4 r5 r6 r7 on i0 i1 i2 i3 la st gn ns:Int} {q  : Li} (b:List (Int×Int)) (hb:b.length<=100) :
  wC.l0 100000 i0 i1 i2 i3 w c r0 r1 r2 r3 r4 r5 r6 r7 on la st gn ns q  100000 0 b=some (b++([i0,i1,i2,i3]:Li).map fun r=>(r,5)):=by
 have key:∀(j m:Nat) (b:List (Int×Int)),j<m->j<=4->b.length+j<=200->wC.l0 100000 i0 i1 i2 i3 w c r0 r1 r2 r3 r4 r5 r6 r7 on la st gn ns q  m ((4-j:Nat):Int) b=some (b++(([i0,i1,i2,i3]:Li).drop (4-j)).map fun r=>(r,5)):=by
  intro j
  induction j with
  | zero =>
   intro m b hm _ _
   obtain ⟨m,rfl⟩:∃q,m=q+1:=⟨m-1,by omega⟩
   show wC.r0 100000 i0 i1 i2 i3 w c r0 r1 r2 r3 r4 r5 r6 r7 on la st gn ns q  (wC.l0 100000 i0 i1 i2 i3 w c r0 r1 r2 r3 r4 r5 r6 r7 on la st gn ns q  m) ((4-0:Nat):Int) b=_
   unfold wC.r0
   refine wq (decide_eq_false (by omega)) ?_
   show some b=some (b++[])
   rw[List.append_nil]
  | succ j ih =>
   intro m b hm hj hl
   obtain ⟨m,rfl⟩:∃q,m=q+1:=⟨m-1,by omega⟩
   have h8:4-(j+1)<([i0,i1,i2,i3]:Li).length:=by show 4-(j+1)<4;omega
   have ed:=List.drop_eq_getElem_cons h8
   have eg:([i0,i1,i2,i3]:Li)[4-(j+1)]=([i0,i1,i2,i3]:Li).getD (4-(j+1)) 0:=by rw[List.getD_eq_getElem?_getD,List.getElem?_eq_getElem h8];rfl
   rw[eg] at ed
   rw[ed]
   have ih:=ih m (b++[(([i0,i1,i2,i3]:Li).getD (4-(j+1)) 0,5)]) (by omega) (by omega) (by rw[List.length_append];show b.length+1+j<=200;omega)
   rw[show 4-j=4-(j+1)+1 by omega] at ih
   show wC.r0 100000 i0 i1 i2 i3 w c r0 r1 r2 r3 r4 r5 r6 r7 on la st gn ns q  (wC.l0 100000 i0 i1 i2 i3 w c r0 r1 r2 r3 r4 r5 r6 r7 on la st gn ns q  m) ((4-(j+1):Nat):Int) b=_
   unfold wC.r0
   have e1:List.getD ([i0,i1,i2,i3]:Li) (Int.toNat ((4-(j+1):Nat):Int)) 0=([i0,i1,i2,i3]:Li).getD (4-(j+1)) 0:=rfl
   generalize ([i0,i1,i2,i3]:Li)=L at *
   refine wI (decide_eq_true (by omega)) (zp ⟨by omega,by omega⟩ (zp (by show ((b.length:Int)+1)*16<=_;omega) ?_))
   dsimp only
   rw[e1,kw1 (by omega) (by omega),show ((4-(j+1):Nat):Int)+1=((4-(j+1)+1:Nat):Int) by omega,List.map_cons]
   rw[<-List.append_cons] at ih
   exact ih
 have:=key 4 100000 b (by omega) (Nat.le_refl _) (by omega)
 exact this
theorem gR {w c r0 r1 r2 r3 r4 r5 r6 r7 on i0 i1 i2 i3 la st gn ns:Int} {q  : Li} (hr:∀i,-1000<=([r0,r1,r2,r3,r4,r5,r6,r7]:Li).getD i 0/\([r0,r1,r2,r3,r4,r5,r6,r7]:Li).getD i 0<=1000) (hla:-1000<=la/\la<=1000) (hq:q.length<=90000):wC 100000 w c r0 r1 r2 r3 r4 r5 r6 r7 on i0 i1 i2 i3 la st gn ns q  = some (sdl w c r0 r1 r2 r3 r4 r5 r6 r7 on i0 i1 i2 i3 la st gn ns (lst q q.length)):=by
 have hl1:([(w,2),(c,4)]++([r0,r1,r2,r3,r4,r5,r6,r7]:Li).map fun r=>(r+4,(3:Int))).length=10:=by rfl
 unfold wC
 dsimp only
 refine wr (G3 hr [(w,2),(c,4)] (by show 2<=100;decide)) ?_
 unfold sdl
 generalize [(w,2),(c,4)]++([r0,r1,r2,r3,r4,r5,r6,r7]:Li).map (fun r=>(r+4,(3:Int)))=A at *
 refine zp (by rw[hl1];show ((10:Int)+1)*16<=70368744177664;decide) ?_
 have hl2:(A++[(on,(1:Int))]).length=11:=by rw[List.length_append,hl1];rfl
 generalize A++[(on,(1:Int))]=B at *
 refine wr (x:=B++(if on=1 then ([i0,i1,i2,i3]:Li).map (fun r=>(r,(5:Int))) else [])) ?_ ?_
 ·by_cases e:on=1
  ·rw[if_pos e]
   exact wI (by rw[e];rfl) (wr (H5 B (by omega)) rfl)
  ·rw[if_neg e,List.append_nil]
   exact wq (beq_eq_false_iff_ne.2 e) rfl
 ·have hl3:(B++(if on=1 then ([i0,i1,i2,i3]:Li).map (fun r=>(r,(5:Int))) else [])).length<=15:=by
   rw[List.length_append,hl2];split<;>simp
  generalize B++(if on=1 then ([i0,i1,i2,i3]:Li).map (fun r=>(r,(5:Int))) else [])=C at *
  refine zp (by show ((C.length:Int)+1)*16<=_;omega) ?_
  have hl4:(C++[(st,(2:Int))]).length<=16:=by rw[List.length_append];show C.length+1<=16;omega
  generalize C++[(st,(2:Int))]=E at *
  refine wr (x:=E++(if 0<st then [(la-16,(6:Int))] else [])) ?_ ?_
  ·by_cases e:0<st
   ·rw[if_pos e]
    refine wI (decide_eq_true e) (zp (by show ((E.length:Int)+1)*16<=_;omega) ?_)
    rw[wT (x:=la-16) (by omega) (by omega)]
   ·rw[if_neg e,List.append_nil]
    exact wq (decide_eq_false e) rfl
  ·have hl5:(E++(if 0<st then [(la-16,(6:Int))] else [])).length<=17:=by
    rw[List.length_append];split<;>simp<;>omega
   generalize E++(if 0<st then [(la-16,(6:Int))] else [])=G at *
   refine wr ((ZK q hq).1) (zp (by show ((G.length:Int)+3)*16<=_;omega) rfl)
theorem Hf {w c r0 r1 r2 r3 r4 r5 r6 r7 on i0 i1 i2 i3 la st gn ns:Int} {q  : Li} (hq:q.length<=90000):zi 100000 w c r0 r1 r2 r3 r4 r5 r6 r7 on i0 i1 i2 i3 la st gn ns q  = some (nzc q q.length:Int):=by
 refine wr (x:=(nzc q q.length:Int)) ?_ rfl
 have key:∀(j m:Nat),j<m->j<=q.length->zi.l0 100000 (q.length:Int) w c r0 r1 r2 r3 r4 r5 r6 r7 on i0 i1 i2 i3 la st gn ns q m (nzc q (q.length-j):Int) ((q.length-j:Nat):Int)=some (nzc q q.length:Int):=by
  intro j
  induction j with
  | zero =>
   intro m hm _
   obtain ⟨m,rfl⟩:∃q,m=q+1:=⟨m-1,by omega⟩
   rw[Nat.sub_zero]
   show zi.r0 100000 (q.length:Int) w c r0 r1 r2 r3 r4 r5 r6 r7 on i0 i1 i2 i3 la st gn ns q (zi.l0 100000 (q.length:Int) w c r0 r1 r2 r3 r4 r5 r6 r7 on i0 i1 i2 i3 la st gn ns q m) (nzc q q.length:Int) (q.length:Int)=_
   unfold zi.r0
   exact wq (decide_eq_false (by omega)) rfl
  | succ j ih =>
   intro m hm hj
   obtain ⟨m,rfl⟩:∃q,m=q+1:=⟨m-1,by omega⟩
   have ih:=ih m (by omega) (by omega)
   rw[show q.length-j=q.length-(j+1)+1 by omega] at ih
   have hil:q.length-(j+1)<q.length:=by omega
   have hle:=Q6 q (q.length-(j+1))
   generalize q.length-(j+1)=i at ih hil hle ⊢
   show zi.r0 100000 (q.length:Int) w c r0 r1 r2 r3 r4 r5 r6 r7 on i0 i1 i2 i3 la st gn ns q (zi.l0 100000 (q.length:Int) w c r0 r1 r2 r3 r4 r5 r6 r7 on i0 i1 i2 i3 la st gn ns q m) (nzc q i:Int) (i:Int)=_
   unfold zi.r0
   have e1:Kd.nth (.int .i64) q (Int.toNat (i:Int))=q.getD i 0:=rfl
   refine wI (decide_eq_true (by omega)) (wr (x:=(nzc q (i+1):Int)) ?_ ?_)
   ·refine zp ⟨by omega,by omega,by omega⟩ ?_
    rw[e1]
    show _=some (((if q.getD i 0=0 then nzc q i else nzc q i+1:Nat)):Int)
    by_cases e:q.getD i 0=0
    ·rw[if_pos e];exact wq (by rw[e];rfl) rfl
    ·rw[if_neg e]
     refine wI (by rw[bne_iff_ne];exact e) ?_
     rw[kw1 (by omega) (by omega)];rfl
   ·dsimp only
    rw[kw1 (by omega) (by omega)]
    exact ih
 have:=key q.length 100000 (by omega) (Nat.le_refl _)
 rw[Nat.sub_self] at this
 exact this
theorem HI {w c r0 r1 r2 r3 r4 r5 r6 r7 on i0 i1 i2 i3 la st gn ns:Int} {q  : Li} (hq:q.length<=90000):jM 100000 w c r0 r1 r2 r3 r4 r5 r6 r7 on i0 i1 i2 i3 la st gn ns q  = some (q.take (lst q q.length)):=by
 have:=Jq q q.length
 refine wr (ZK q hq).2 (zp ⟨by omega,by omega⟩ rfl)
theorem Ht {w c r0 r1 r2 r3 r4 r5 r6 r7 on i0 i1 i2 i3 la st gn ns:Int} {q  : Li} {L:List (Int×Int)} (hL:L.length<=90000) (hb:∀x∈L,0<=x.2/\x.2<=32) {v:Int} (hv:-1000000<=v/\v<=1000000):wX.l0 100000 L (L.length:Int) w c r0 r1 r2 r3 r4 r5 r6 r7 on i0 i1 i2 i3 la st gn ns q  100000 v 0=some (v-wsm L L.length):=by
 have key:∀(j m:Nat),j<m->j<=L.length->wX.l0 100000 L (L.length:Int) w c r0 r1 r2 r3 r4 r5 r6 r7 on i0 i1 i2 i3 la st gn ns q  m (v-wsm L (L.length-j)) ((L.length-j:Nat):Int)=some (v-wsm L L.length):=by
  intro j
  induction j with
  | zero =>
   intro m hm _
   obtain ⟨m,rfl⟩:∃q,m=q+1:=⟨m-1,by omega⟩
   rw[Nat.sub_zero]
   show wX.r0 100000 L (L.length:Int) w c r0 r1 r2 r3 r4 r5 r6 r7 on i0 i1 i2 i3 la st gn ns q  (wX.l0 100000 L (L.length:Int) w c r0 r1 r2 r3 r4 r5 r6 r7 on i0 i1 i2 i3 la st gn ns q  m) (v-wsm L L.length) (L.length:Int)=_
   unfold wX.r0
   exact wq (decide_eq_false (by omega)) rfl
  | succ j ih =>
   intro m hm hj
   obtain ⟨m,rfl⟩:∃q,m=q+1:=⟨m-1,by omega⟩
   have ih:=ih m (by omega) (by omega)
   rw[show L.length-j=L.length-(j+1)+1 by omega] at ih
   have hil:L.length-(j+1)<L.length:=by omega
   have hle:=Xn hb (L.length-(j+1)+1) hil
   have hle0:=Xn hb (L.length-(j+1)) (by omega)
   generalize L.length-(j+1)=i at ih hil hle hle0 ⊢
   show wX.r0 100000 L (L.length:Int) w c r0 r1 r2 r3 r4 r5 r6 r7 on i0 i1 i2 i3 la st gn ns q  (wX.l0 100000 L (L.length:Int) w c r0 r1 r2 r3 r4 r5 r6 r7 on i0 i1 i2 i3 la st gn ns q  m) (v-wsm L i) (i:Int)=_
   unfold wX.r0
   have e1:(Kd.nth (.pair (.int .i64) (.int .i64)) L (Int.toNat (i:Int))).2=(L.getD i (0,0)).2:=rfl
   have e2:wsm L (i+1)=wsm L i+(L.getD i (0,0)).2:=rfl
   refine wI (decide_eq_true (by omega)) (zp ⟨by omega,by omega⟩ ?_)
   dsimp only
   rw[e1,wT (x:=v-wsm L i-(L.getD i (0,0)).2) (by omega) (by omega),kw1 (by omega) (by omega),show v-wsm L i-(L.getD i (0,0)).2=v-wsm L (i+1) by omega]
   exact ih
 have:=key L.length 100000 (by omega) (Nat.le_refl _)
 rw[Nat.sub_self] at this
 have e0:wsm L 0=0:=rfl
 rw[e0,Int.sub_zero] at this
 exact this
theorem gI {p0 p1 p2 p3 p4 p5 p6 p7 p8 p9 w c r0 r1 r2 r3 r4 r5 r6 r7 on i0 i1 i2 i3 la st gn ns:Int} {q  : Li} (hr:∀i,-1000<=([r0,r1,r2,r3,r4,r5,r6,r7]:Li).getD i 0/\([r0,r1,r2,r3,r4,r5,r6,r7]:Li).getD i 0<=1000) (hla:-1000<=la/\la<=1000) (hq:Stp q) (hp:0<=p9/\p9<=1000):wX 100000 p0 p1 p2 p3 p4 p5 p6 p7 p8 p9 w c r0 r1 r2 r3 r4 r5 r6 r7 on i0 i1 i2 i3 la st gn ns q  = some (8*p9-sdw on st-(cod (q.take (lst q q.length))).length):=by
 have hql:=hq.1
 have hw:=XQ w c r0 r1 r2 r3 r4 r5 r6 r7 on i0 i1 i2 i3 la st gn ns (lst q q.length)
 have hs:=gR (w:=w) (c:=c) (on:=on) (i0:=i0) (i1:=i1) (i2:=i2) (i3:=i3) (st:=st) (gn:=gn) (ns:=ns) (q:=q) hr hla (by omega)
 have hst:=Zq hq (lst q q.length)
 have hcl:=Qz hst
 have hsr:0<=sdw on st/\sdw on st<=100:=by unfold sdw;split<;>split<;>omega
 unfold wX
 dsimp only
 refine wr hs ?_
 rw[wT (x:=8*p9) (by omega) (by omega)]
 refine wr (Ht hw.2.1 hw.2.2 (by omega)) (wr (HI (by omega)) (wr (V8 hst) ?_))
 dsimp only
 rw[hw.1,wT (by omega) (by omega)]

theorem YZ {w c r0 r1 r2 r3 r4 r5 r6 r7 on i0 i1 i2 i3 la st gn ns:Int} {q z:Li} (hr:∀i,-1000<=([r0,r1,r2,r3,r4,r5,r6,r7]:Li).getD i 0/\([r0,r1,r2,r3,r4,r5,r6,r7]:Li).getD i 0<=1000) (b:List (Int×Int)) (hb:b.length<=100) :
  wv.l1 100000 r0 r1 r2 r3 r4 r5 r6 r7 w c on i0 i1 i2 i3 la st gn ns q z 100000 0 b=some (b++([r0,r1,r2,r3,r4,r5,r6,r7]:Li).map fun r=>(r+4,3)):=by
 have key:∀(j m:Nat) (b:List (Int×Int)),j<m->j<=8->b.length+j<=200->wv.l1 100000 r0 r1 r2 r3 r4 r5 r6 r7 w c on i0 i1 i2 i3 la st gn ns q z m ((8-j:Nat):Int) b=some (b++(([r0,r1,r2,r3,r4,r5,r6,r7]:Li).drop (8-j)).map fun r=>(r+4,3)):=by
  intro j
  induction j with
  | zero =>
   intro m b hm _ _
   obtain ⟨m,rfl⟩:∃q,m=q+1:=⟨m-1,by omega⟩
   show wv.r1 100000 r0 r1 r2 r3 r4 r5 r6 r7 w c on i0 i1 i2 i3 la st gn ns q z (wv.l1 100000 r0 r1 r2 r3 r4 r5 r6 r7 w c on i0 i1 i2 i3 la st gn ns q z m) ((8-0:Nat):Int) b=_
   unfold wv.r1
   refine wq (decide_eq_false (by omega)) ?_
   show some b=some (b++[])
   rw[List.append_nil]
  | succ j ih =>
   intro m b hm hj hl
   obtain ⟨m,rfl⟩:∃q,m=q+1:=⟨m-1,by omega⟩
   have h8:8-(j+1)<([r0,r1,r2,r3,r4,r5,r6,r7]:Li).length:=by show 8-(j+1)<8;omega
   have hri:=hr (8-(j+1))
   have ed:=List.drop_eq_getElem_cons h8
   have eg:([r0,r1,r2,r3,r4,r5,r6,r7]:Li)[8-(j+1)]=([r0,r1,r2,r3,r4,r5,r6,r7]:Li).getD (8-(j+1)) 0:=by rw[List.getD_eq_getElem?_getD,List.getElem?_eq_getElem h8];rfl
   rw[eg] at ed
   rw[ed]
   have ih:=ih m (b++[(([r0,r1,r2,r3,r4,r5,r6,r7]:Li).getD (8-(j+1)) 0+4,3)]) (by omega) (by omega) (by rw[List.length_append];show b.length+1+j<=200;omega)
   rw[show 8-j=8-(j+1)+1 by omega] at ih
   show wv.r1 100000 r0 r1 r2 r3 r4 r5 r6 r7 w c on i0 i1 i2 i3 la st gn ns q z (wv.l1 100000 r0 r1 r2 r3 r4 r5 r6 r7 w c on i0 i1 i2 i3 la st gn ns q z m) ((8-(j+1):Nat):Int) b=_
   unfold wv.r1
   have e1:List.getD ([r0,r1,r2,r3,r4,r5,r6,r7]:Li) (Int.toNat ((8-(j+1):Nat):Int)) 0=([r0,r1,r2,r3,r4,r5,r6,r7]:Li).getD (8-(j+1)) 0:=rfl
   generalize ([r0,r1,r2,r3,r4,r5,r6,r7]:Li)=L at *
   refine wI (decide_eq_true (by omega)) (zp ⟨by omega,by omega⟩ (zp (by show ((b.length:Int)+1)*16<=_;omega) ?_))
   dsimp only
   rw[e1,wT (x:=L.getD (8-(j+1)) 0+4) (by omega) (by omega),kw1 (by omega) (by omega),show ((8-(j+1):Nat):Int)+1=((8-(j+1)+1:Nat):Int) by omega,List.map_cons]
   rw[<-List.append_cons] at ih
   exact ih
 have:=key 8 100000 b (by omega) (Nat.le_refl _) (by omega)
 exact this
theorem Gk {w c r0 r1 r2 r3 r4 r5 r6 r7 on i0 i1 i2 i3 la st gn ns:Int} {q z:Li} (b:List (Int×Int)) (hb:b.length<=100) :
  wv.l0 100000 i0 i1 i2 i3 w c r0 r1 r2 r3 r4 r5 r6 r7 on la st gn ns q z 100000 0 b=some (b++([i0,i1,i2,i3]:Li).map fun r=>(r,5)):=by
 have key:∀(j m:Nat) (b:List (Int×Int)),j<m->j<=4->b.length+j<=200->wv.l0 100000 i0 i1 i2 i3 w c r0 r1 r2 r3 r4 r5 r6 r7 on la st gn ns q z m ((4-j:Nat):Int) b=some (b++(([i0,i1,i2,i3]:Li).drop (4-j)).map fun r=>(r,5)):=by
  intro j
  induction j with
  | zero =>
   intro m b hm _ _
   obtain ⟨m,rfl⟩:∃q,m=q+1:=⟨m-1,by omega⟩
   show wv.r0 100000 i0 i1 i2 i3 w c r0 r1 r2 r3 r4 r5 r6 r7 on la st gn ns q z (wv.l0 100000 i0 i1 i2 i3 w c r0 r1 r2 r3 r4 r5 r6 r7 on la st gn ns q z m) ((4-0:Nat):Int) b=_
   unfold wv.r0
   refine wq (decide_eq_false (by omega)) ?_
   show some b=some (b++[])
   rw[List.append_nil]
  | succ j ih =>
   intro m b hm hj hl
   obtain ⟨m,rfl⟩:∃q,m=q+1:=⟨m-1,by omega⟩
   have h8:4-(j+1)<([i0,i1,i2,i3]:Li).length:=by show 4-(j+1)<4;omega
   have ed:=List.drop_eq_getElem_cons h8
   have eg:([i0,i1,i2,i3]:Li)[4-(j+1)]=([i0,i1,i2,i3]:Li).getD (4-(j+1)) 0:=by rw[List.getD_eq_getElem?_getD,List.getElem?_eq_getElem h8];rfl
   rw[eg] at ed
   rw[ed]
   have ih:=ih m (b++[(([i0,i1,i2,i3]:Li).getD (4-(j+1)) 0,5)]) (by omega) (by omega) (by rw[List.length_append];show b.length+1+j<=200;omega)
   rw[show 4-j=4-(j+1)+1 by omega] at ih
   show wv.r0 100000 i0 i1 i2 i3 w c r0 r1 r2 r3 r4 r5 r6 r7 on la st gn ns q z (wv.l0 100000 i0 i1 i2 i3 w c r0 r1 r2 r3 r4 r5 r6 r7 on la st gn ns q z m) ((4-(j+1):Nat):Int) b=_
   unfold wv.r0
   have e1:List.getD ([i0,i1,i2,i3]:Li) (Int.toNat ((4-(j+1):Nat):Int)) 0=([i0,i1,i2,i3]:Li).getD (4-(j+1)) 0:=rfl
   generalize ([i0,i1,i2,i3]:Li)=L at *
   refine wI (decide_eq_true (by omega)) (zp ⟨by omega,by omega⟩ (zp (by show ((b.length:Int)+1)*16<=_;omega) ?_))
   dsimp only
   rw[e1,kw1 (by omega) (by omega),show ((4-(j+1):Nat):Int)+1=((4-(j+1)+1:Nat):Int) by omega,List.map_cons]
   rw[<-List.append_cons] at ih
   exact ih
 have:=key 4 100000 b (by omega) (Nat.le_refl _) (by omega)
 exact this
theorem KG {w c r0 r1 r2 r3 r4 r5 r6 r7 on i0 i1 i2 i3 la st gn ns:Int} {q z:Li} (hr:∀i,-1000<=([r0,r1,r2,r3,r4,r5,r6,r7]:Li).getD i 0/\([r0,r1,r2,r3,r4,r5,r6,r7]:Li).getD i 0<=1000) (hla:-1000<=la/\la<=1000) (hq:q.length<=90000):wv 100000 w c r0 r1 r2 r3 r4 r5 r6 r7 on i0 i1 i2 i3 la st gn ns q z=some (sdl w c r0 r1 r2 r3 r4 r5 r6 r7 on i0 i1 i2 i3 la st gn ns (lst q q.length)):=by
 have hl1:([(w,2),(c,4)]++([r0,r1,r2,r3,r4,r5,r6,r7]:Li).map fun r=>(r+4,(3:Int))).length=10:=by rfl
 unfold wv
 dsimp only
 refine wr (YZ hr [(w,2),(c,4)] (by show 2<=100;decide)) ?_
 unfold sdl
 generalize [(w,2),(c,4)]++([r0,r1,r2,r3,r4,r5,r6,r7]:Li).map (fun r=>(r+4,(3:Int)))=A at *
 refine zp (by rw[hl1];show ((10:Int)+1)*16<=70368744177664;decide) ?_
 have hl2:(A++[(on,(1:Int))]).length=11:=by rw[List.length_append,hl1];rfl
 generalize A++[(on,(1:Int))]=B at *
 refine wr (x:=B++(if on=1 then ([i0,i1,i2,i3]:Li).map (fun r=>(r,(5:Int))) else [])) ?_ ?_
 ·by_cases e:on=1
  ·rw[if_pos e]
   exact wI (by rw[e];rfl) (wr (Gk B (by omega)) rfl)
  ·rw[if_neg e,List.append_nil]
   exact wq (beq_eq_false_iff_ne.2 e) rfl
 ·have hl3:(B++(if on=1 then ([i0,i1,i2,i3]:Li).map (fun r=>(r,(5:Int))) else [])).length<=15:=by
   rw[List.length_append,hl2];split<;>simp
  generalize B++(if on=1 then ([i0,i1,i2,i3]:Li).map (fun r=>(r,(5:Int))) else [])=C at *
  refine zp (by show ((C.length:Int)+1)*16<=_;omega) ?_
  have hl4:(C++[(st,(2:Int))]).length<=16:=by rw[List.length_append];show C.length+1<=16;omega
  generalize C++[(st,(2:Int))]=E at *
  refine wr (x:=E++(if 0<st then [(la-16,(6:Int))] else [])) ?_ ?_
  ·by_cases e:0<st
   ·rw[if_pos e]
    refine wI (decide_eq_true e) (zp (by show ((E.length:Int)+1)*16<=_;omega) ?_)
    rw[wT (x:=la-16) (by omega) (by omega)]
   ·rw[if_neg e,List.append_nil]
    exact wq (decide_eq_false e) rfl
  ·have hl5:(E++(if 0<st then [(la-16,(6:Int))] else [])).length<=17:=by
    rw[List.length_append];split<;>simp<;>omega
   generalize E++(if 0<st then [(la-16,(6:Int))] else [])=G at *
   refine wr ((ZK q hq).2) (zp (by show ((G.length:Int)+3)*16<=_;omega) rfl)
theorem Ul {w c r0 r1 r2 r3 r4 r5 r6 r7 on i0 i1 i2 i3 la st gn ns:Int} {q z:Li} (hq:q.length<=90000):w7 100000 w c r0 r1 r2 r3 r4 r5 r6 r7 on i0 i1 i2 i3 la st gn ns q z=some (nzc q q.length:Int):=by
 refine wr (x:=(nzc q q.length:Int)) ?_ rfl
 have key:∀(j m:Nat),j<m->j<=q.length->w7.l0 100000 q (q.length:Int) w c r0 r1 r2 r3 r4 r5 r6 r7 on i0 i1 i2 i3 la st gn ns z m (nzc q (q.length-j):Int) ((q.length-j:Nat):Int)=some (nzc q q.length:Int):=by
  intro j
  induction j with
  | zero =>
   intro m hm _
   obtain ⟨m,rfl⟩:∃q,m=q+1:=⟨m-1,by omega⟩
   rw[Nat.sub_zero]
   show w7.r0 100000 q (q.length:Int) w c r0 r1 r2 r3 r4 r5 r6 r7 on i0 i1 i2 i3 la st gn ns z (w7.l0 100000 q (q.length:Int) w c r0 r1 r2 r3 r4 r5 r6 r7 on i0 i1 i2 i3 la st gn ns z m) (nzc q q.length:Int) (q.length:Int)=_
   unfold w7.r0
   exact wq (decide_eq_false (by omega)) rfl
  | succ j ih =>
   intro m hm hj
   obtain ⟨m,rfl⟩:∃q,m=q+1:=⟨m-1,by omega⟩
   have ih:=ih m (by omega) (by omega)
   rw[show q.length-j=q.length-(j+1)+1 by omega] at ih
   have hil:q.length-(j+1)<q.length:=by omega
   have hle:=Q6 q (q.length-(j+1))
   generalize q.length-(j+1)=i at ih hil hle ⊢
   show w7.r0 100000 q (q.length:Int) w c r0 r1 r2 r3 r4 r5 r6 r7 on i0 i1 i2 i3 la st gn ns z (w7.l0 100000 q (q.length:Int) w c r0 r1 r2 r3 r4 r5 r6 r7 on i0 i1 i2 i3 la st gn ns z m) (nzc q i:Int) (i:Int)=_
   unfold w7.r0
   have e1:Kd.nth (.int .i64) q (Int.toNat (i:Int))=q.getD i 0:=rfl
   refine wI (decide_eq_true (by omega)) (wr (x:=(nzc q (i+1):Int)) ?_ ?_)
   ·refine zp ⟨by omega,by omega⟩ ?_
    rw[e1]
    show _=some (((if q.getD i 0=0 then nzc q i else nzc q i+1:Nat)):Int)
    by_cases e:q.getD i 0=0
    ·rw[if_pos e];exact wq (by rw[e];rfl) rfl
    ·rw[if_neg e]
     refine wI (by rw[bne_iff_ne];exact e) ?_
     rw[kw1 (by omega) (by omega)];rfl
   ·dsimp only
    rw[kw1 (by omega) (by omega)]
    exact ih
 have:=key q.length 100000 (by omega) (Nat.le_refl _)
 rw[Nat.sub_self] at this
 exact this
theorem KC {w c r0 r1 r2 r3 r4 r5 r6 r7 on i0 i1 i2 i3 la st gn ns:Int} {q z:Li} (hq:q.length<=90000):qH 100000 w c r0 r1 r2 r3 r4 r5 r6 r7 on i0 i1 i2 i3 la st gn ns q z=some (q.take (lst q q.length)):=by
 have:=Jq q q.length
 refine wr (ZK q hq).2 (zp ⟨by omega,by omega⟩ rfl)
theorem Vn {w c r0 r1 r2 r3 r4 r5 r6 r7 on i0 i1 i2 i3 la st gn ns:Int} {q z:Li} {L:List (Int×Int)} (hL:L.length<=90000) (hb:∀x∈L,0<=x.2/\x.2<=32) {v:Int} (hv:-1000000<=v/\v<=1000000):wP.l0 100000 L (L.length:Int) w c r0 r1 r2 r3 r4 r5 r6 r7 on i0 i1 i2 i3 la st gn ns q z 100000 v 0=some (v-wsm L L.length):=by
 have key:∀(j m:Nat),j<m->j<=L.length->wP.l0 100000 L (L.length:Int) w c r0 r1 r2 r3 r4 r5 r6 r7 on i0 i1 i2 i3 la st gn ns q z m (v-wsm L (L.length-j)) ((L.length-j:Nat):Int)=some (v-wsm L L.length):=by
  intro j
  induction j with
  | zero =>
   intro m hm _
   obtain ⟨m,rfl⟩:∃q,m=q+1:=⟨m-1,by omega⟩
   rw[Nat.sub_zero]
   show wP.r0 100000 L (L.length:Int) w c r0 r1 r2 r3 r4 r5 r6 r7 on i0 i1 i2 i3 la st gn ns q z (wP.l0 100000 L (L.length:Int) w c r0 r1 r2 r3 r4 r5 r6 r7 on i0 i1 i2 i3 la st gn ns q z m) (v-wsm L L.length) (L.length:Int)=_
   unfold wP.r0
   exact wq (decide_eq_false (by omega)) rfl
  | succ j ih =>
   intro m hm hj
   obtain ⟨m,rfl⟩:∃q,m=q+1:=⟨m-1,by omega⟩
   have ih:=ih m (by omega) (by omega)
   rw[show L.length-j=L.length-(j+1)+1 by omega] at ih
   have hil:L.length-(j+1)<L.length:=by omega
   have hle:=Xn hb (L.length-(j+1)+1) hil
   have hle0:=Xn hb (L.length-(j+1)) (by omega)
   generalize L.length-(j+1)=i at ih hil hle hle0 ⊢
   show wP.r0 100000 L (L.length:Int) w c r0 r1 r2 r3 r4 r5 r6 r7 on i0 i1 i2 i3 la st gn ns q z (wP.l0 100000 L (L.length:Int) w c r0 r1 r2 r3 r4 r5 r6 r7 on i0 i1 i2 i3 la st gn ns q z m) (v-wsm L i) (i:Int)=_
   unfold wP.r0
   have e1:(Kd.nth (.pair (.int .i64) (.int .i64)) L (Int.toNat (i:Int))).2=(L.getD i (0,0)).2:=rfl
   have e2:wsm L (i+1)=wsm L i+(L.getD i (0,0)).2:=rfl
   refine wI (decide_eq_true (by omega)) (zp ⟨by omega,by omega⟩ ?_)
   dsimp only
   rw[e1,wT (x:=v-wsm L i-(L.getD i (0,0)).2) (by omega) (by omega),kw1 (by omega) (by omega),show v-wsm L i-(L.getD i (0,0)).2=v-wsm L (i+1) by omega]
   exact ih
 have:=key L.length 100000 (by omega) (Nat.le_refl _)
 rw[Nat.sub_self] at this
 have e0:wsm L 0=0:=rfl
 rw[e0,Int.sub_zero] at this
 exact this
theorem VQ {p0 p1 p2 p3 p4 p5 p6 p7 p8 p9 w c r0 r1 r2 r3 r4 r5 r6 r7 on i0 i1 i2 i3 la st gn ns:Int} {q z:Li} (hr:∀i,-1000<=([r0,r1,r2,r3,r4,r5,r6,r7]:Li).getD i 0/\([r0,r1,r2,r3,r4,r5,r6,r7]:Li).getD i 0<=1000) (hla:-1000<=la/\la<=1000) (hq:Stp q) (hp:0<=p9/\p9<=1000):wP 100000 p0 p1 p2 p3 p4 p5 p6 p7 p8 p9 w c r0 r1 r2 r3 r4 r5 r6 r7 on i0 i1 i2 i3 la st gn ns q z=some (8*p9-sdw on st-(cod (q.take (lst q q.length))).length):=by
 have hql:=hq.1
 have hw:=XQ w c r0 r1 r2 r3 r4 r5 r6 r7 on i0 i1 i2 i3 la st gn ns (lst q q.length)
 have hs:=KG (w:=w) (c:=c) (on:=on) (i0:=i0) (i1:=i1) (i2:=i2) (i3:=i3) (st:=st) (gn:=gn) (ns:=ns) (q:=q) (z:=z) hr hla (by omega)
 have hst:=Zq hq (lst q q.length)
 have hcl:=Qz hst
 have hsr:0<=sdw on st/\sdw on st<=100:=by unfold sdw;split<;>split<;>omega
 unfold wP
 dsimp only
 refine wr hs ?_
 rw[wT (x:=8*p9) (by omega) (by omega)]
 refine wr (Vn hw.2.1 hw.2.2 (by omega)) (wr (KC (by omega)) (wr (V8 hst) ?_))
 dsimp only
 rw[hw.1,wT (by omega) (by omega)]
end Go.Fo
