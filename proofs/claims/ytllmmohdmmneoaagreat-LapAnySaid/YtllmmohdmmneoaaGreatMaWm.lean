/- Frames are packed,exactly. -/
import Derived.Test.YtllmmohdmmneoaaGreatMaWl
namespace Go.Fo
set_option maxRecDepth 6000
def Fd1 (x:Int×Int):Prop:=0<=x.2/\x.2<32/\0<=x.1/\x.1<2^x.2.toNat
theorem HU {L:List (Int×Int)} (h:∀x∈L,Fd1 x):Fd L:=fun i hi=>by
 have e:L.getD i (0,0)=L[i]:=by rw[List.getD_eq_getElem?_getD,List.getElem?_eq_getElem hi];rfl
 rw[e];exact h _ (List.getElem_mem hi)
theorem yC {a b k:Int} (h0:0<=k) (h1:k<32) (h2:0<=a) (e:(2:Int)^k.toNat=b) (h3:a<b):Fd1 (a,k):=⟨h0,h1,h2,by show a<2^k.toNat;rw[e];exact h3⟩
theorem ZN {l:Li} {x:Int} (h:x∈l):∃i,i<l.length/\l.getD i 0=x:=by
 obtain ⟨i,hi,e⟩:=List.getElem_of_mem h
 exact ⟨i,hi,by rw[List.getD_eq_getElem?_getD,List.getElem?_eq_getElem hi];exact e⟩
theorem Hm {p0 p1 p2 p3 p4 p5 p6 p7 p8 p9 w c r0 r1 r2 r3 r4 r5 r6 r7 on i0 i1 i2 i3 la st gn ns:Int} {q z:Li} (hl:LapF p0 p1 p2 p3 p4 p5 p6 p7 p8 p9) (h:Fit p0 p1 p2 p3 p4 p5 p6 p7 p8 p9 w c r0 r1 r2 r3 r4 r5 r6 r7 on i0 i1 i2 i3 la st gn ns q z) {l:Nat} (hll:l<128):∀x∈sdl w c r0 r1 r2 r3 r4 r5 r6 r7 on i0 i1 i2 i3 la st gn ns l,Fd1 x:=by
 obtain ⟨k,_,_,_,x,_,_,hR⟩:=h.kp
 have hg:=hR.2.1;have hg2:=hR.2.2.1;have hn:=hR.2.2.2.2.1;have hn2:=hR.2.2.2.2.2.1
 have hw:=h.w0;have hc:=h.c0;have hpp:=h.pp
 intro x hx
 unfold sdl at hx
 rcases List.mem_append.1 hx with hx|hx
 ·rcases List.mem_append.1 hx with hx|hx
  ·rcases List.mem_append.1 hx with hx|hx
   ·rcases List.mem_append.1 hx with hx|hx
    ·rcases List.mem_append.1 hx with hx|hx
     ·rcases List.mem_append.1 hx with hx|hx
      ·rcases List.mem_cons.1 hx with rfl|hx
       ·exact yC (b:=4) (by decide) (by decide) hw.1 (by decide) (by omega)
       ·rw[List.mem_singleton.1 hx]
        exact yC (b:=16) (by decide) (by decide) hc.1 (by decide) (by omega)
      ·obtain ⟨r,hr,rfl⟩:=List.mem_map.1 hx
       obtain ⟨i,hi,he⟩:=ZN hr
       have hi:i<8:=hi
       have:=h.rr i hi
       rw[he] at this
       exact yC (b:=8) (by decide) (by decide) (by omega) (by decide) (by omega)
     ·rw[List.mem_singleton.1 hx]
      have:=h.oo
      exact yC (b:=2) (by decide) (by decide) (by omega) (by decide) (by omega)
    ·split at hx
     ·obtain ⟨r,hr,rfl⟩:=List.mem_map.1 hx
      obtain ⟨i,hi,he⟩:=ZN hr
      have hi:i<4:=hi
      have:=h.ii i hi
      have ho:=h.oo
      rw[he] at this
      exact yC (b:=32) (by decide) (by decide) (by omega) (by decide) (by omega)
     ·cases hx
   ·rw[List.mem_singleton.1 hx]
    exact yC (b:=4) (by decide) (by decide) (by omega) (by decide) (by omega)
  ·split at hx
   ·rw[List.mem_singleton.1 hx]
    exact yC (b:=64) (by decide) (by decide) (by omega) (by decide) (by omega)
   ·cases hx
 ·rcases List.mem_cons.1 hx with rfl|hx
  ·exact yC (b:=256) (by decide) (by decide) (by omega) (by decide) (by omega)
  ·rcases List.mem_cons.1 hx with rfl|hx
   ·exact yC (b:=8) (by decide) (by decide) (by omega) (by decide) (by omega)
   ·rw[List.mem_singleton.1 hx]
    exact yC (b:=128) (by decide) (by decide) (by omega) (by decide) (by omega)
def fld (w c r0 r1 r2 r3 r4 r5 r6 r7 on i0 i1 i2 i3 la st gn ns:Int) (q z:Li):List (Int×Int):=sdl w c r0 r1 r2 r3 r4 r5 r6 r7 on i0 i1 i2 i3 la st gn ns (lst q q.length)++z.map fun b=>(b,(1:Int))
theorem Vl {A B:List (Int×Int)} {i:Nat} (h:i<A.length):(A++B).getD i (0,0)=A.getD i (0,0):=by
 rw[List.getD_eq_getElem?_getD,List.getD_eq_getElem?_getD,List.getElem?_append_left h]
theorem gl {w c r0 r1 r2 r3 r4 r5 r6 r7 on i0 i1 i2 i3 la st gn ns:Int} {q z:Li} {i:Nat} (h:i<z.length):(fld w c r0 r1 r2 r3 r4 r5 r6 r7 on i0 i1 i2 i3 la st gn ns q z).getD ((sdl w c r0 r1 r2 r3 r4 r5 r6 r7 on i0 i1 i2 i3 la st gn ns (lst q q.length)).length+i) (0,0)=(z.getD i 0,1):=by
 unfold fld
 rw[List.getD_eq_getElem?_getD,List.getElem?_append_right (by omega),Nat.add_sub_cancel_left,List.getElem?_map,List.getD_eq_getElem?_getD,List.getElem?_eq_getElem h];rfl
theorem Mk {A B:List (Int×Int)} {i:Nat} (h:i<=A.length):fy (A++B) i=fy A i:=by
 induction i with
 | zero=>rfl
 | succ i ih=>show fy (A++B) i+_=fy A i+_;rw[ih (by omega),Vl (by omega)]
theorem gL {L:List (Int×Int)} (hb:∀x∈L,0<=x.2/\x.2<=32) {i:Nat} (h:i<=L.length):(fy L i:Int)=wsm L i:=by
 induction i with
 | zero=>rfl
 | succ i ih =>
  have ih:=ih (by omega)
  have hx:=hb (L.getD i (0,0)) (by rw[List.getD_eq_getElem?_getD,List.getElem?_eq_getElem (by omega)];exact List.getElem_mem (by omega))
  show ((fy L i+(L.getD i (0,0)).2.toNat:Nat):Int)=wsm L i+(L.getD i (0,0)).2
  omega
theorem Mo {w c r0 r1 r2 r3 r4 r5 r6 r7 on i0 i1 i2 i3 la st gn ns:Int} {q z:Li} {i:Nat} (h:i<=z.length):(fy (fld w c r0 r1 r2 r3 r4 r5 r6 r7 on i0 i1 i2 i3 la st gn ns q z) ((sdl w c r0 r1 r2 r3 r4 r5 r6 r7 on i0 i1 i2 i3 la st gn ns (lst q q.length)).length+i):Int)=sdw on st+i:=by
 have hw:=XQ w c r0 r1 r2 r3 r4 r5 r6 r7 on i0 i1 i2 i3 la st gn ns (lst q q.length)
 induction i with
 | zero =>
  rw[Nat.add_zero]
  unfold fld
  rw[Mk (Nat.le_refl _),gL hw.2.2 (Nat.le_refl _),hw.1];omega
 | succ i ih =>
  have ih:=ih (by omega)
  show ((fy (fld w c r0 r1 r2 r3 r4 r5 r6 r7 on i0 i1 i2 i3 la st gn ns q z) ((sdl w c r0 r1 r2 r3 r4 r5 r6 r7 on i0 i1 i2 i3 la st gn ns (lst q q.length)).length+i)+((fld w c r0 r1 r2 r3 r4 r5 r6 r7 on i0 i1 i2 i3 la st gn ns q z).getD ((sdl w c r0 r1 r2 r3 r4 r5 r6 r7 on i0 i1 i2 i3 la st gn ns (lst q q.length)).length+i) (0,0)).2.toNat:Nat):Int)=_
  rw[gl (by omega)]
  show ((fy (fld w c r0 r1 r2 r3 r4 r5 r6 r7 on i0 i1 i2 i3 la st gn ns q z) ((sdl w c r0 r1 r2 r3 r4 r5 r6 r7 on i0 i1 i2 i3 la st gn ns (lst q q.length)).length+i)+1:Nat):Int)=_
  omega
def frg (n:Nat) (w c r0 r1 r2 r3 r4 r5 r6 r7 on i0 i1 i2 i3 la st gn ns:Int) (q z:Li):Nat->Int:=frt (fg n (fld w c r0 r1 r2 r3 r4 r5 r6 r7 on i0 i1 i2 i3 la st gn ns q z) (fld w c r0 r1 r2 r3 r4 r5 r6 r7 on i0 i1 i2 i3 la st gn ns q z).length) (cod (q.take (lst q q.length))) (cod (q.take (lst q q.length))).length
theorem XV {p0 p1 p2 p3 p4 p5 p6 p7 p8 p9 w c r0 r1 r2 r3 r4 r5 r6 r7 on i0 i1 i2 i3 la st gn ns:Int} {q z:Li} (h:Fit p0 p1 p2 p3 p4 p5 p6 p7 p8 p9 w c r0 r1 r2 r3 r4 r5 r6 r7 on i0 i1 i2 i3 la st gn ns q z):Stp q:=by
 obtain ⟨k,_,_,_,x,_,_,hR⟩:=h.kp;exact hR.1
theorem hZ {p0 p1 p2 p3 p4 p5 p6 p7 p8 p9 w c r0 r1 r2 r3 r4 r5 r6 r7 on i0 i1 i2 i3 la st gn ns:Int} {q z:Li} (h:Fit p0 p1 p2 p3 p4 p5 p6 p7 p8 p9 w c r0 r1 r2 r3 r4 r5 r6 r7 on i0 i1 i2 i3 la st gn ns q z):Vg z:=by
 obtain ⟨k,_,_,_,x,_,_,hR⟩:=h.kp;exact hR.2.2.2.1
theorem VI {p0 p1 p2 p3 p4 p5 p6 p7 p8 p9 w c r0 r1 r2 r3 r4 r5 r6 r7 on i0 i1 i2 i3 la st gn ns:Int} {q z:Li} (h:Fit p0 p1 p2 p3 p4 p5 p6 p7 p8 p9 w c r0 r1 r2 r3 r4 r5 r6 r7 on i0 i1 i2 i3 la st gn ns q z):((cod (q.take (lst q q.length))).length:Int)+sdw on st+z.length<=8*p9/\(z.length:Int)<=nzc q q.length:=by
 have h1:=h.rm;have h2:=h.zl
 unfold imin at h2
 split at h2<;>omega
theorem He {p0 p1 p2 p3 p4 p5 p6 p7 p8 p9 w c r0 r1 r2 r3 r4 r5 r6 r7 on i0 i1 i2 i3 la st gn ns:Int} {q z:Li} (hl:LapF p0 p1 p2 p3 p4 p5 p6 p7 p8 p9) (h:Fit p0 p1 p2 p3 p4 p5 p6 p7 p8 p9 w c r0 r1 r2 r3 r4 r5 r6 r7 on i0 i1 i2 i3 la st gn ns q z):Fd (fld w c r0 r1 r2 r3 r4 r5 r6 r7 on i0 i1 i2 i3 la st gn ns q z):=HU (fun x hx=>by
 have hq:=(XV h).1
 have hlt:=Jq q q.length
 unfold fld at hx
 rcases List.mem_append.1 hx with hx|hx
 ·exact Hm hl h (by omega) x hx
 ·obtain ⟨r,hr,rfl⟩:=List.mem_map.1 hx
  obtain ⟨i,hi,he⟩:=ZN hr
  have:=hZ h i hi
  rw[he] at this
  exact yC (b:=2) (by decide) (by decide) (by omega) (by decide) (by omega))
theorem Hq {p0 p1 p2 p3 p4 p5 p6 p7 p8 p9 w c r0 r1 r2 r3 r4 r5 r6 r7 on i0 i1 i2 i3 la st gn ns:Int} {q z:Li} (hl:LapF p0 p1 p2 p3 p4 p5 p6 p7 p8 p9) (hm:kj 100000 p0 p1 p2 p3 p4 p5 p6 p7 p8 p9=some 0) (h:Fit p0 p1 p2 p3 p4 p5 p6 p7 p8 p9 w c r0 r1 r2 r3 r4 r5 r6 r7 on i0 i1 i2 i3 la st gn ns q z) (hf:qd 100000 p0 p1 p2 p3 p4 p5 p6 p7 p8 p9 w c r0 r1 r2 r3 r4 r5 r6 r7 on i0 i1 i2 i3 la st gn ns q z=some true):wL 100000 p0 p1 p2 p3 p4 p5 p6 p7 p8 p9 w c r0 r1 r2 r3 r4 r5 r6 r7 on i0 i1 i2 i3 la st gn ns q z=some (pf p9.toNat (frg p9.toNat w c r0 r1 r2 r3 r4 r5 r6 r7 on i0 i1 i2 i3 la st gn ns q z),0):=by
 have hb0:=hl.by0;have hb1:=hl.by1
 have hS:=XV h
 have hql:=hS.1
 have hro:=VI h
 have hst:=Zq hS (lst q q.length)
 have hcl:=Qz hst
 have hcb:=Ha hst
 have hF:=He hl h
 have hw:=XQ w c r0 r1 r2 r3 r4 r5 r6 r7 on i0 i1 i2 i3 la st gn ns (lst q q.length)
 have hsr:0<=sdw on st/\sdw on st<=100:=by unfold sdw;split<;>split<;>omega
 have hpp:=h.pp
 have hside:=KG (w:=w) (c:=c) (on:=on) (i0:=i0) (i1:=i1) (i2:=i2) (i3:=i3) (la:=la) (st:=st) (gn:=gn) (ns:=ns) (q:=q) (z:=z) (Uh (L:=[r0,r1,r2,r3,r4,r5,r6,r7]) rfl h.rr) (by omega) (by omega)
 have hlen:(fld w c r0 r1 r2 r3 r4 r5 r6 r7 on i0 i1 i2 i3 la st gn ns q z).length=(sdl w c r0 r1 r2 r3 r4 r5 r6 r7 on i0 i1 i2 i3 la st gn ns (lst q q.length)).length+z.length:=by unfold fld;rw[List.length_append,List.length_map]
 have hn:((p9.toNat:Nat):Int)=p9:=by omega
 have hyz:∀i,i<=z.length->(fy (fld w c r0 r1 r2 r3 r4 r5 r6 r7 on i0 i1 i2 i3 la st gn ns q z) ((sdl w c r0 r1 r2 r3 r4 r5 r6 r7 on i0 i1 i2 i3 la st gn ns (lst q q.length)).length+i):Int)=sdw on st+i:=fun i hi=>Mo hi
 have hyt:=hyz z.length (Nat.le_refl _)
 have hy0:=hyz 0 (Nat.zero_le _)
 rw[Nat.add_zero] at hy0
 have hyall:∀i,i<=(fld w c r0 r1 r2 r3 r4 r5 r6 r7 on i0 i1 i2 i3 la st gn ns q z).length->fy (fld w c r0 r1 r2 r3 r4 r5 r6 r7 on i0 i1 i2 i3 la st gn ns q z) i<=8*p9.toNat:=fun i hi=>by
  have:=GU (fld w c r0 r1 r2 r3 r4 r5 r6 r7 on i0 i1 i2 i3 la st gn ns q z) hi
  rw[hlen] at this
  omega
 have hzl:z.length<=120:=by have:=Q6 q q.length;omega
 -- the side
 have k2:∀(j m:Nat),j<m->j<=(sdl w c r0 r1 r2 r3 r4 r5 r6 r7 on i0 i1 i2 i3 la st gn ns (lst q q.length)).length->wL.l2 100000 (sdl w c r0 r1 r2 r3 r4 r5 r6 r7 on i0 i1 i2 i3 la st gn ns (lst q q.length)) ((sdl w c r0 r1 r2 r3 r4 r5 r6 r7 on i0 i1 i2 i3 la st gn ns (lst q q.length)).length:Int) w c r0 r1 r2 r3 r4 r5 r6 r7 on i0 i1 i2 i3 la st gn ns q z m (((sdl w c r0 r1 r2 r3 r4 r5 r6 r7 on i0 i1 i2 i3 la st gn ns (lst q q.length)).length-j:Nat):Int) (fy (fld w c r0 r1 r2 r3 r4 r5 r6 r7 on i0 i1 i2 i3 la st gn ns q z) ((sdl w c r0 r1 r2 r3 r4 r5 r6 r7 on i0 i1 i2 i3 la st gn ns (lst q q.length)).length-j):Int) (pf p9.toNat (fg p9.toNat (fld w c r0 r1 r2 r3 r4 r5 r6 r7 on i0 i1 i2 i3 la st gn ns q z) ((sdl w c r0 r1 r2 r3 r4 r5 r6 r7 on i0 i1 i2 i3 la st gn ns (lst q q.length)).length-j)))=some ((fy (fld w c r0 r1 r2 r3 r4 r5 r6 r7 on i0 i1 i2 i3 la st gn ns q z) (sdl w c r0 r1 r2 r3 r4 r5 r6 r7 on i0 i1 i2 i3 la st gn ns (lst q q.length)).length:Int),pf p9.toNat (fg p9.toNat (fld w c r0 r1 r2 r3 r4 r5 r6 r7 on i0 i1 i2 i3 la st gn ns q z) (sdl w c r0 r1 r2 r3 r4 r5 r6 r7 on i0 i1 i2 i3 la st gn ns (lst q q.length)).length)):=by
  have hA:∀i,i<(sdl w c r0 r1 r2 r3 r4 r5 r6 r7 on i0 i1 i2 i3 la st gn ns (lst q q.length)).length->(fld w c r0 r1 r2 r3 r4 r5 r6 r7 on i0 i1 i2 i3 la st gn ns q z).getD i (0,0)=(sdl w c r0 r1 r2 r3 r4 r5 r6 r7 on i0 i1 i2 i3 la st gn ns (lst q q.length)).getD i (0,0):=fun i hi=>Vl hi
  have hle:=hw.2.1
  generalize sdl w c r0 r1 r2 r3 r4 r5 r6 r7 on i0 i1 i2 i3 la st gn ns (lst q q.length)=L at *
  intro j
  induction j with
  | zero =>
   intro m hm _
   obtain ⟨m,rfl⟩:∃q,m=q+1:=⟨m-1,by omega⟩
   rw[Nat.sub_zero]
   show wL.r2 100000 L (L.length:Int) w c r0 r1 r2 r3 r4 r5 r6 r7 on i0 i1 i2 i3 la st gn ns q z (wL.l2 100000 L (L.length:Int) w c r0 r1 r2 r3 r4 r5 r6 r7 on i0 i1 i2 i3 la st gn ns q z m) (L.length:Int) _ _=_
   unfold wL.r2
   exact wq (decide_eq_false (by omega)) rfl
  | succ j ih =>
   intro m hm hj
   obtain ⟨m,rfl⟩:∃q,m=q+1:=⟨m-1,by omega⟩
   have ih:=ih m (by omega) (by omega)
   rw[show L.length-j=L.length-(j+1)+1 by omega] at ih
   have hil:L.length-(j+1)<L.length:=by omega
   generalize L.length-(j+1)=i at ih hil ⊢
   show wL.r2 100000 L (L.length:Int) w c r0 r1 r2 r3 r4 r5 r6 r7 on i0 i1 i2 i3 la st gn ns q z (wL.l2 100000 L (L.length:Int) w c r0 r1 r2 r3 r4 r5 r6 r7 on i0 i1 i2 i3 la st gn ns q z m) (i:Int) _ _=_
   unfold wL.r2
   have hs:=XX (n:=p9.toNat) (by omega) hF (i:=i) (by omega) (hyall _ (by omega))
   have e1:Kd.nth (.pair (.int .i64) (.int .i64)) L (Int.toNat (i:Int))=L.getD i (0,0):=rfl
   rw[hA i hil] at hs
   refine wI (decide_eq_true (by omega)) (zp ⟨by omega,by omega⟩ ?_)
   dsimp only
   rw[e1]
   refine wr hs ?_
   dsimp only
   rw[kw1 (by omega) (by omega)]
   exact ih
 have k2:=k2 _ 100000 (by have:=hw.2.1;omega) (Nat.le_refl _)
 rw[Nat.sub_self] at k2
 -- the rests
 have k1:∀(j m:Nat),j<m->j<=z.length->wL.l1 100000 z (z.length:Int) w c r0 r1 r2 r3 r4 r5 r6 r7 on i0 i1 i2 i3 la st gn ns q m ((z.length-j:Nat):Int) (fy (fld w c r0 r1 r2 r3 r4 r5 r6 r7 on i0 i1 i2 i3 la st gn ns q z) ((sdl w c r0 r1 r2 r3 r4 r5 r6 r7 on i0 i1 i2 i3 la st gn ns (lst q q.length)).length+(z.length-j)):Int) (pf p9.toNat (fg p9.toNat (fld w c r0 r1 r2 r3 r4 r5 r6 r7 on i0 i1 i2 i3 la st gn ns q z) ((sdl w c r0 r1 r2 r3 r4 r5 r6 r7 on i0 i1 i2 i3 la st gn ns (lst q q.length)).length+(z.length-j))))=some ((fy (fld w c r0 r1 r2 r3 r4 r5 r6 r7 on i0 i1 i2 i3 la st gn ns q z) (fld w c r0 r1 r2 r3 r4 r5 r6 r7 on i0 i1 i2 i3 la st gn ns q z).length:Int),pf p9.toNat (fg p9.toNat (fld w c r0 r1 r2 r3 r4 r5 r6 r7 on i0 i1 i2 i3 la st gn ns q z) (fld w c r0 r1 r2 r3 r4 r5 r6 r7 on i0 i1 i2 i3 la st gn ns q z).length)):=by
  have hA:∀i,i<z.length->(fld w c r0 r1 r2 r3 r4 r5 r6 r7 on i0 i1 i2 i3 la st gn ns q z).getD ((sdl w c r0 r1 r2 r3 r4 r5 r6 r7 on i0 i1 i2 i3 la st gn ns (lst q q.length)).length+i) (0,0)=(z.getD i 0,1):=fun i hi=>gl hi
  generalize (sdl w c r0 r1 r2 r3 r4 r5 r6 r7 on i0 i1 i2 i3 la st gn ns (lst q q.length)).length=s at *
  intro j
  induction j with
  | zero =>
   intro m hm _
   obtain ⟨m,rfl⟩:∃q,m=q+1:=⟨m-1,by omega⟩
   rw[Nat.sub_zero,<-hlen]
   show wL.r1 100000 z (z.length:Int) w c r0 r1 r2 r3 r4 r5 r6 r7 on i0 i1 i2 i3 la st gn ns q (wL.l1 100000 z (z.length:Int) w c r0 r1 r2 r3 r4 r5 r6 r7 on i0 i1 i2 i3 la st gn ns q m) (z.length:Int) _ _=_
   unfold wL.r1
   exact wq (decide_eq_false (by omega)) rfl
  | succ j ih =>
   intro m hm hj
   obtain ⟨m,rfl⟩:∃q,m=q+1:=⟨m-1,by omega⟩
   have ih:=ih m (by omega) (by omega)
   rw[show z.length-j=z.length-(j+1)+1 by omega] at ih
   have hil:z.length-(j+1)<z.length:=by omega
   generalize z.length-(j+1)=i at ih hil ⊢
   show wL.r1 100000 z (z.length:Int) w c r0 r1 r2 r3 r4 r5 r6 r7 on i0 i1 i2 i3 la st gn ns q (wL.l1 100000 z (z.length:Int) w c r0 r1 r2 r3 r4 r5 r6 r7 on i0 i1 i2 i3 la st gn ns q m) (i:Int) _ _=_
   unfold wL.r1
   have hs:=XX (n:=p9.toNat) (by omega) hF (i:=s+i) (by omega) (hyall _ (by omega))
   have e1:Kd.nth (.int .i64) z (Int.toNat (i:Int))=z.getD i 0:=rfl
   rw[hA i hil] at hs
   refine wI (decide_eq_true (by omega)) (zp ⟨by omega,by omega⟩ ?_)
   dsimp only
   rw[e1]
   refine wr hs ?_
   dsimp only
   rw[kw1 (by omega) (by omega)]
   exact ih
 have k1:=k1 z.length 100000 (by omega) (Nat.le_refl _)
 rw[Nat.sub_self,Nat.add_zero] at k1
 -- the bits from the front
 have hyl:fy (fld w c r0 r1 r2 r3 r4 r5 r6 r7 on i0 i1 i2 i3 la st gn ns q z) (fld w c r0 r1 r2 r3 r4 r5 r6 r7 on i0 i1 i2 i3 la st gn ns q z).length+(cod (q.take (lst q q.length))).length<=8*p9.toNat:=by rw[hlen];omega
 have hg:=gj (n:=p9.toNat) (L:=fld w c r0 r1 r2 r3 r4 r5 r6 r7 on i0 i1 i2 i3 la st gn ns q z) (fld w c r0 r1 r2 r3 r4 r5 r6 r7 on i0 i1 i2 i3 la st gn ns q z).length (by omega)
 have k0:∀(j m:Nat),j<m->j<=(cod (q.take (lst q q.length))).length->wL.l0 100000 ((cod (q.take (lst q q.length))).length:Int) (fy (fld w c r0 r1 r2 r3 r4 r5 r6 r7 on i0 i1 i2 i3 la st gn ns q z) (fld w c r0 r1 r2 r3 r4 r5 r6 r7 on i0 i1 i2 i3 la st gn ns q z).length:Int) (pbl (cod (q.take (lst q q.length)))) m (((cod (q.take (lst q q.length))).length-j:Nat):Int) (((cod (q.take (lst q q.length))).length-j:Nat):Int) (pf p9.toNat (frt (fg p9.toNat (fld w c r0 r1 r2 r3 r4 r5 r6 r7 on i0 i1 i2 i3 la st gn ns q z) (fld w c r0 r1 r2 r3 r4 r5 r6 r7 on i0 i1 i2 i3 la st gn ns q z).length) (cod (q.take (lst q q.length))) ((cod (q.take (lst q q.length))).length-j)))=some (((cod (q.take (lst q q.length))).length:Int),pf p9.toNat (frg p9.toNat w c r0 r1 r2 r3 r4 r5 r6 r7 on i0 i1 i2 i3 la st gn ns q z)):=by
  unfold frg
  generalize fg p9.toNat (fld w c r0 r1 r2 r3 r4 r5 r6 r7 on i0 i1 i2 i3 la st gn ns q z) (fld w c r0 r1 r2 r3 r4 r5 r6 r7 on i0 i1 i2 i3 la st gn ns q z).length=g at *
  generalize fy (fld w c r0 r1 r2 r3 r4 r5 r6 r7 on i0 i1 i2 i3 la st gn ns q z) (fld w c r0 r1 r2 r3 r4 r5 r6 r7 on i0 i1 i2 i3 la st gn ns q z).length=y at *
  generalize cod (q.take (lst q q.length))=C at *
  intro j
  induction j with
  | zero =>
   intro m hm _
   obtain ⟨m,rfl⟩:∃q,m=q+1:=⟨m-1,by omega⟩
   rw[Nat.sub_zero]
   show wL.r0 100000 (C.length:Int) (y:Int) (pbl C) (wL.l0 100000 (C.length:Int) (y:Int) (pbl C) m) (C.length:Int) _ _=_
   unfold wL.r0
   exact wq (decide_eq_false (by omega)) rfl
  | succ j ih =>
   intro m hm hj
   obtain ⟨m,rfl⟩:∃q,m=q+1:=⟨m-1,by omega⟩
   have ih:=ih m (by omega) (by omega)
   rw[show C.length-j=C.length-(j+1)+1 by omega] at ih
   have hil:C.length-(j+1)<C.length:=by omega
   generalize C.length-(j+1)=i at ih hil ⊢
   show wL.r0 100000 (C.length:Int) (y:Int) (pbl C) (wL.l0 100000 (C.length:Int) (y:Int) (pbl C) m) (i:Int) (i:Int) _=_
   unfold wL.r0
   have hbit:=X9 hcb i
   have heb:kE 100000 (i:Int) 0 0 (pbl C)=some (C.getD i 0):=by
    have:=VZ (n:=(C.length+7)/8) (i:=i) (X9 hcb) (by omega) (by omega) 0 0
    unfold eb at this
    rw[if_pos (by omega)] at this
    exact this
   have hbit:C.getD i 0=0\/C.getD i 0=1:=hbit
   refine wI (decide_eq_true (by omega)) (wr heb ?_)
   rw[Vd (by omega) (by omega)]
   have hp:=g6 (n:=p9.toNat) (x:=i) (y:=y) (v:=C.getD i 0) (Hv hg.1 hcb i) (by omega) hbit (by omega) (by rw[gX,if_neg (by omega)];exact hg.2 i (by omega))
   refine wr hp ?_
   dsimp only
   rw[kw1 (by omega) (by omega)]
   exact ih
 have k0:=k0 _ 100000 (by omega) (Nat.le_refl _)
 rw[Nat.sub_self] at k0
 refine wr hm (wq rfl (wr hf (wq rfl ?_)))
 have hnew:vB 100000 p9=some (pf p9.toNat (fun _=>0)):=by
  refine wq (decide_eq_false (by omega)) (wq (decide_eq_false (by omega)) (zp ⟨by omega,Int.le_refl _,by omega⟩ ?_))
  rw[GJ]
 refine wr hnew (wr hside (wr k2 (wr k1 (wr rfl (wr (KC (by omega)) ?_)))))
 obtain ⟨s1,s2,s3⟩:=QH hst
 refine wr s1 ?_
 dsimp only[rep]
 have he:=gx s2 (by omega)
 refine wr he ?_
 have hc:(pal CS.new (qsy (q.take (lst q q.length)) (q.take (lst q q.length)).length)).fin=cod (q.take (lst q q.length)):=rfl
 rw[hc]
 have hcl0:2<=(cod (q.take (lst q q.length))).length:=by unfold cod;rw[Qv];omega
 dsimp only
 refine wr (zp (by rw[Yy];omega) rfl) ?_
 refine wr (Ua (n:=((cod (q.take (lst q q.length))).length+7)/8) (by omega) (by omega) (lg (cod (q.take (lst q q.length))))) (wr rfl (wr k0 ?_))
 dsimp only
 exact wr (wr (KE (n:=p9.toNat) (by omega) (by omega) _) rfl) rfl
theorem Gx {p0 p1 p2 p3 p4 p5 p6 p7 p8 p9:Int} (hl:LapF p0 p1 p2 p3 p4 p5 p6 p7 p8 p9) (hm:kj 100000 p0 p1 p2 p3 p4 p5 p6 p7 p8 p9=some 0) (w c r0 r1 r2 r3 r4 r5 r6 r7 on i0 i1 i2 i3 la st gn ns:Int) (q z:Li) (hq:q.length<=200) (hz:z.length<=90000):Ok (fun r=>r.2=0->Fit p0 p1 p2 p3 p4 p5 p6 p7 p8 p9 w c r0 r1 r2 r3 r4 r5 r6 r7 on i0 i1 i2 i3 la st gn ns q z/\qd 100000 p0 p1 p2 p3 p4 p5 p6 p7 p8 p9 w c r0 r1 r2 r3 r4 r5 r6 r7 on i0 i1 i2 i3 la st gn ns q z=some true/\r.1=pf p9.toNat (frg p9.toNat w c r0 r1 r2 r3 r4 r5 r6 r7 on i0 i1 i2 i3 la st gn ns q z)) (wL 100000 p0 p1 p2 p3 p4 p5 p6 p7 p8 p9 w c r0 r1 r2 r3 r4 r5 r6 r7 on i0 i1 i2 i3 la st gn ns q z):=by
 have hb0:=hl.by0;have hb1:=hl.by1
 obtain ⟨b,h1,h2⟩:=GZ (p0:=p0) (p1:=p1) (p2:=p2) (p3:=p3) (p4:=p4) (p5:=p5) (p6:=p6) (p7:=p7) (p8:=p8) (p9:=p9) w c r0 r1 r2 r3 r4 r5 r6 r7 on i0 i1 i2 i3 la st gn ns q z (by omega) hq hz
 cases b with
 | true=>exact ⟨_,Hq hl hm (h2 rfl) h1,fun _=>⟨h2 rfl,h1,rfl⟩⟩
 | false=>exact ⟨_,wr hm (wq rfl (wr h1 (wI rfl rfl))),fun h=>by cases h⟩
end Go.Fo
