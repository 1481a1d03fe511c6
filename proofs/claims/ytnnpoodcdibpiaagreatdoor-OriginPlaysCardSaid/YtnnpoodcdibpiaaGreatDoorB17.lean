/-
  A frame that is being coded, in memory.
-/
import Derived.Test.YtnnpoodcdibpiaaGreatDoorB13
import Derived.Test.YtnnpoodcdibpiaaGreatDoorB16
import Derived.Deep.MidRow
namespace Go.Proofs.YtnnpoodcdibpiaaGreatDoor
open Go.RowKit
set_option maxRecDepth 100000
set_option maxHeartbeats 8000000
def codV(K:Bool)(Q:Int)(fl al bl:List Value)(bk g:Nat):Array Value:=
 (.int .i64 Q :: .bool K :: (fl++(al++(bl++[.pointer (some ⟨bk,0,none⟩),.pointer (some ⟨g,0,none⟩)])))).toArray
def Dim.nOf(d:Dim)(pl:Nat):Nat:=if pl=0 then d.nY else d.nC
structure FrIn(w:World)(d:Dim)(fl:List Value)(f:Pix):Prop where
 len:fl.length=9
 pl:∀p,p<3->∃A c,fl[3*p]?=some (.int .i64 (d.wOf p:Int))/\fl[3*p+1]?=some (.int .i64 (d.hOf p:Int))/\fl[3*p+2]?=some (.slice A (d.nOf p) c)/\BytesIn w A (d.nOf p) c (f.get p)/\d.nOf p<=c
theorem FrIn.quiet{w w':World}{d:Dim}{fl:List Value}{f:Pix}(h:FrIn w d fl f)(hm:Mod (fun _=>False) w w'):FrIn w' d fl f:=
 ⟨h.len,fun p hp=>by
  obtain⟨A,c,h1,h2,h3,h4,h5⟩:=h.pl p hp;exact⟨A,c,h1,h2,h3,h4.quiet hm,h5⟩⟩
theorem Dim.Ok.nOf{d:Dim}(h:d.Ok)(p:Nat):sidesB (d.wOf p) (d.hOf p)=true/\d.nOf p=d.wOf p*d.hOf p:=by
 unfold Dim.wOf Dim.hOf Dim.nOf;split
 ·exact⟨h.sides,h.ny⟩
 ·exact⟨h.half,h.nc⟩
theorem FrameAt.frIn{w:World}{d:Dim}(hd:d.Ok){gy gu gv:Nat}{f:Pix}(h:FrameAt w d gy gu gv f):FrIn w d (frameV d gy gu gv) f:=by
 refine⟨rfl,fun p hp=>?_⟩;have h3:p=0\/p=1\/p=2:=by omega
 rcases h3 with rfl|rfl|rfl
 ·exact⟨_,_,rfl,rfl,rfl,blkIn h.by_ h.ly hd.nyle,Nat.le_refl _⟩
 ·exact⟨_,_,rfl,rfl,rfl,blkIn h.bu h.lu hd.ncle,Nat.le_refl _⟩
 ·exact⟨_,_,rfl,rfl,rfl,blkIn h.bv h.lv hd.ncle,Nat.le_refl _⟩
structure Old(w0:World)(d:Dim)(K:Bool)(Q:Int)(fl:List Value)(fr:Pix)(al:List Value)(ahd:Pix):Prop where
 env:EnvP w0
 ok:d.Ok
 q:0<=Q/\Q<=31
 frm:FrIn w0 d fl fr
 alen:al.length=9
 ahd:K=false->FrIn w0 d al ahd
def gOf(gy gu gv pl:Nat):Nat:=if pl=0 then gy else if pl=1 then gu else gv
structure CW(w0 w:World)(cb bk g:Nat)(v:Value)(K:Bool)(Q:Int)(d:Dim)(fl al:List Value)(gy gu gv:Nat)(f:Pix)(s:Es):Prop where
 mod:Mod (fun _=>False) w0 w
 eb:EbAt w bk g v s
 cod:Blk w cb 291 (codV K Q fl al (frameV d gy gu gv) bk g)
 fa:FrameAt w d gy gu gv f
 nc:w0.heap.size<=cb
 nb:w0.heap.size<=bk
 ng:w0.heap.size<=g
 ny:w0.heap.size<=gy
 nu:w0.heap.size<=gu
 nv:w0.heap.size<=gv
 no:∀j,v.ownBlock=some j->w0.heap.size<=j/\j≠gy/\j≠gu/\j≠gv
section
variable {w0 w w' : World} {cb bk g : Nat} {v v' : Value} {K : Bool} {Q : Int} {d : Dim} {fl al : List Value} {gy gu gv : Nat} {f : Pix} {s s' : Es}
theorem CW.quiet(h:CW w0 w cb bk g v K Q d fl al gy gu gv f s)(hm:Mod (fun _=>False) w w'):CW w0 w' cb bk g v K Q d fl al gy gu gv f s:=
 ⟨h.mod.trans hm,h.eb.quiet hm,h.cod.keep hm (fun h=>h),h.fa.quiet hm,h.nc,h.nb,h.ng,h.ny,h.nu,h.nv,h.no⟩
theorem CW.puts{e:Ending}(h:CW w0 w cb bk g v K Q d fl al gy gu gv f s)(hp:EbPost w bk g v s' e w'):∃v',e=.returned (.int .i64 0)/\CW w0 w' cb bk g v' K Q d fl al gy gu gv f s':=by
 obtain⟨v',rfl,hE,hF,hM⟩:=hp;have hbg:∀ {k:Nat} {cs:Array Value},Blk w k 5 cs->g≠k/\bk≠k:=fun hb=>⟨h.eb.enc.blk.ne_ hb (by decide),h.eb.bk_.ne_ hb (by decide)⟩
 have hy:=hbg h.fa.by_;have hu:=hbg h.fa.bu;have hv:=hbg h.fa.bv;have q1:=h.fa.by_.lt;have q2:=h.fa.bu.lt;have q3:=h.fa.bv.lt;have hcg:cb≠g:=h.cod.ne_ h.eb.enc.blk (by decide);have hcb:cb≠bk:=h.cod.ne_ h.eb.bk_ (by decide)
 have hco:¬v.ownBlock=some cb:=fun e=>by
  obtain⟨_,cs,hb⟩:=own_blk h.eb.enc.own e;exact h.cod.ne_ hb (by decide) rfl
 refine⟨v',rfl,h.mod.into hM (fun j e=>.inr ?_),hE,h.cod.keep hM ?_,h.fa.mod hM ?_ ?_ ?_,h.nc,h.nb,h.ng,h.ny,h.nu,h.nv,fun j e=>?_⟩
 ·rcases e with rfl|rfl|e
  ·exact h.ng
  ·exact h.nb
  ·exact(h.no j e).1
 ·rintro(e|e|e)
  ·exact hcg e
  ·exact hcb e
  ·exact hco e
 ·rintro(e|e|e)
  ·exact hy.1 e.symm
  ·exact hy.2 e.symm
  ·exact(h.no gy e).2.1 rfl
 ·rintro(e|e|e)
  ·exact hu.1 e.symm
  ·exact hu.2 e.symm
  ·exact(h.no gu e).2.2.1 rfl
 ·rintro(e|e|e)
  ·exact hv.1 e.symm
  ·exact hv.2 e.symm
  ·exact(h.no gv e).2.2.2 rfl
 ·rcases hF j e with h1|h1
  ·exact h.no j h1
  ·have:=h.mod.size;exact⟨by omega,by omega,by omega,by omega⟩
theorem CW.lay{l:List UInt8}{pl:Nat}(hpl:pl<3)(h:CW w0 w cb bk g v K Q d fl al gy gu gv f s)(hb:Blk w' (gOf gy gu gv pl) 5 (u8s l).toArray)(hl:l.length=d.nOf pl)(hm:Mod (·=gOf gy gu gv pl) w w'):
  CW w0 w' cb bk g v K Q d fl al gy gu gv (f.set pl l) s:=by
 have hbg:∀ {k:Nat} {cs:Array Value},Blk w k 5 cs->¬g=k/\¬bk=k/\¬cb=k:=fun hb=>⟨h.eb.enc.blk.ne_ hb (by decide),h.eb.bk_.ne_ hb (by decide),h.cod.ne_ hb (by decide)⟩
 have hy:=hbg h.fa.by_;have hu:=hbg h.fa.bu;have hv:=hbg h.fa.bv;have z1:=h.fa.yu;have z2:=h.fa.yv;have z3:=h.fa.uv;have hE:∀ {k:Nat},(k=gy\/k=gu\/k=gv)->Mod (·=k) w w'->¬g=k->¬bk=k->EbAt w' bk g v s:=fun hk hm h1 h2=>
  ⟨h.eb.bk_.keep hm h2,h.eb.len,h.eb.ok,h.eb.enc.blk.keep hm h1,own_mod h.eb.enc.own hm (fun j e e2=>by have:=h.no j e;omega),h.eb.enc.four,h.eb.enc.lo,h.eb.enc.hi⟩
 have h3:pl=0\/pl=1\/pl=2:=by omega
 rcases h3 with rfl|rfl|rfl
 ·exact⟨h.mod.into hm (fun j e=>.inr (e▸h.ny)),hE (.inl rfl) hm hy.1 hy.2.1,h.cod.keep hm hy.2.2,⟨hb,h.fa.bu.keep hm (fun e=>z1 e.symm),h.fa.bv.keep hm (fun e=>z2 e.symm),hl,h.fa.lu,h.fa.lv,z1,z2,z3⟩,h.nc,h.nb,h.ng,h.ny,h.nu,h.nv,h.no⟩
 ·exact⟨h.mod.into hm (fun j e=>.inr (e▸h.nu)),hE (.inr (.inl rfl)) hm hu.1 hu.2.1,h.cod.keep hm hu.2.2,⟨h.fa.by_.keep hm (fun e=>z1 e),hb,h.fa.bv.keep hm (fun e=>z3 e.symm),h.fa.ly,hl,h.fa.lv,z1,z2,z3⟩,h.nc,h.nb,h.ng,h.ny,h.nu,h.nv,h.no⟩
 ·exact⟨h.mod.into hm (fun j e=>.inr (e▸h.nv)),hE (.inr (.inr rfl)) hm hv.1 hv.2.1,h.cod.keep hm hv.2.2,⟨h.fa.by_.keep hm (fun e=>z2 e),h.fa.bu.keep hm (fun e=>z3 e),hb,h.fa.ly,h.fa.lu,hl,z1,z2,z3⟩,h.nc,h.nb,h.ng,h.ny,h.nu,h.nv,h.no⟩
theorem codV_fr{k:Nat}{bl:List Value}(hl:fl.length=9)(hk:k<9):(codV K Q fl al bl bk g)[2+k]?=fl[k]?:=by
 unfold codV;rw [List.getElem?_toArray,show 2+k=k+1+1 by omega,List.getElem?_cons_succ,List.getElem?_cons_succ,List.getElem?_append_left (by omega)]
theorem codV_ah{k:Nat}{bl:List Value}(hl:fl.length=9)(ha:al.length=9)(hk:k<9):(codV K Q fl al bl bk g)[11+k]?=al[k]?:=by
 unfold codV;rw [List.getElem?_toArray,show 11+k=9+k+1+1 by omega,List.getElem?_cons_succ,List.getElem?_cons_succ,List.getElem?_append_right (by omega),hl,show 9+k-9=k by omega,List.getElem?_append_left (by omega)]
theorem codV_bl{k:Nat}{bl:List Value}(hl:fl.length=9)(ha:al.length=9)(hb:bl.length=9)(hk:k<9):(codV K Q fl al bl bk g)[20+k]?=bl[k]?:=by
 unfold codV;rw [List.getElem?_toArray,show 20+k=9+(9+k)+1+1 by omega,List.getElem?_cons_succ,List.getElem?_cons_succ,List.getElem?_append_right (by omega),hl,show 9+(9+k)-9=9+k by omega,List.getElem?_append_right (by omega),ha,show 9+k-9=k by omega,List.getElem?_append_left (by omega)]
theorem codV_29{bl:List Value}(hl:fl.length=9)(ha:al.length=9)(hb:bl.length=9):(codV K Q fl al bl bk g)[29]?=some (.pointer (some ⟨bk,0,none⟩))/\(codV K Q fl al bl bk g)[30]?=some (.pointer (some ⟨g,0,none⟩)):=by
 match fl,hl with
 | [_,_,_,_,_,_,_,_,_],_=>
  match al,ha with
  | [_,_,_,_,_,_,_,_,_],_=>
   match bl,hb with
   | [_,_,_,_,_,_,_,_,_],_=>exact⟨rfl,rfl⟩
end
theorem CW.frame{w0 w:World}{cb bk g:Nat}{v:Value}{K:Bool}{Q:Int}{d:Dim}{fl al:List Value}{gy gu gv:Nat}{f:Pix}{s:Es}{fr ahd:Pix}(ho:Old w0 d K Q fl fr al ahd)(h:CW w0 w cb bk g v K Q d fl al gy gu gv f s)(p:Nat)(hp:p<3)(o:Nat)(ho2:2+p*3=o):
  ∃A c,w.cell? ⟨cb,o,none⟩=some (.int .i64 (d.wOf p:Int))/\w.cell? ⟨cb,o+1,none⟩=some (.int .i64 (d.hOf p:Int))/\w.cell? ⟨cb,o+2,none⟩=some (.slice A (d.nOf p) c)/\BytesIn w A (d.nOf p) c (fr.get p):=by
 obtain⟨A,c,h1,h2,h3,h4,_⟩:=ho.frm.pl p hp;have hl:=ho.frm.len;obtain rfl:2+3*p=o:=by omega
 exact⟨A,c,by rw [h.cod.cell,codV_fr hl (by omega),h1],by rw [h.cod.cell,Nat.add_assoc,codV_fr hl (by omega),h2],by rw [h.cod.cell,Nat.add_assoc,codV_fr hl (by omega),h3],h4.quiet h.mod⟩
theorem CW.ahead{w0 w:World}{cb bk g:Nat}{v:Value}{Q:Int}{d:Dim}{fl al:List Value}{gy gu gv:Nat}{f:Pix}{s:Es}{fr ahd:Pix}(ho:Old w0 d false Q fl fr al ahd)(h:CW w0 w cb bk g v false Q d fl al gy gu gv f s)(p:Nat)(hp:p<3)(o:Nat)(ho2:11+p*3=o):
  ∃A c,w.cell? ⟨cb,o,none⟩=some (.int .i64 (d.wOf p:Int))/\w.cell? ⟨cb,o+1,none⟩=some (.int .i64 (d.hOf p:Int))/\w.cell? ⟨cb,o+2,none⟩=some (.slice A (d.nOf p) c)/\BytesIn w A (d.nOf p) c (ahd.get p):=by
 obtain⟨A,c,h1,h2,h3,h4,_⟩:=(ho.ahd rfl).pl p hp;have hl:=ho.frm.len;obtain rfl:11+3*p=o:=by omega
 have ha:=ho.alen;exact⟨A,c,by rw [h.cod.cell,codV_ah hl ha (by omega),h1],by rw [h.cod.cell,Nat.add_assoc,codV_ah hl ha (by omega),h2],by rw [h.cod.cell,Nat.add_assoc,codV_ah hl ha (by omega),h3],h4.quiet h.mod⟩
theorem CW.built{w0 w:World}{cb bk g:Nat}{v:Value}{K:Bool}{Q:Int}{d:Dim}{fl al:List Value}{gy gu gv:Nat}{f:Pix}{s:Es}{fr ahd:Pix}(ho:Old w0 d K Q fl fr al ahd)(h:CW w0 w cb bk g v K Q d fl al gy gu gv f s)(p:Nat)(hp:p<3)(o:Nat)(ho2:20+p*3=o):
  w.cell? ⟨cb,o,none⟩=some (.int .i64 (d.wOf p:Int))/\w.cell? ⟨cb,o+1,none⟩=some (.int .i64 (d.hOf p:Int))/\w.cell? ⟨cb,o+2,none⟩=some (.slice (some ⟨gOf gy gu gv p,0,none⟩) (d.nOf p) (d.nOf p))/\Blk w (gOf gy gu gv p) 5 (u8s (f.get p)).toArray/\(f.get p).length=d.nOf p:=by
 have hl:=ho.frm.len;obtain rfl:20+3*p=o:=by omega
 have ha:=ho.alen;have h3:p=0\/p=1\/p=2:=by omega
 rcases h3 with rfl|rfl|rfl
 ·exact⟨by rw [h.cod.cell,codV_bl hl ha rfl (by omega)];rfl,by rw [h.cod.cell,Nat.add_assoc,codV_bl hl ha rfl (by omega)];rfl,by rw [h.cod.cell,Nat.add_assoc,codV_bl hl ha rfl (by omega)];rfl,h.fa.by_,h.fa.ly⟩
 ·exact⟨by rw [h.cod.cell,codV_bl hl ha rfl (by omega)];rfl,by rw [h.cod.cell,Nat.add_assoc,codV_bl hl ha rfl (by omega)];rfl,by rw [h.cod.cell,Nat.add_assoc,codV_bl hl ha rfl (by omega)];rfl,h.fa.bu,h.fa.lu⟩
 ·exact⟨by rw [h.cod.cell,codV_bl hl ha rfl (by omega)];rfl,by rw [h.cod.cell,Nat.add_assoc,codV_bl hl ha rfl (by omega)];rfl,by rw [h.cod.cell,Nat.add_assoc,codV_bl hl ha rfl (by omega)];rfl,h.fa.bv,h.fa.lv⟩
def egof(kind:Nat)(W H:Nat)(pix apix:List UInt8)(x y pl:Nat)(vx vy:Int)(b:List UInt8)(s:Es):List UInt8 × Es:=
 if kind=2 then(guessL W pix x y (chMode W pix x y b),elow 0 (chMode W pix x y b) 2 0 0 s)else(smoved W H apix x y pl vx vy,s)
def elev(b gs:List UInt8)(Q:Int):List Int:=coarseL (fwdL (restL b gs)) Q
def ebuilt(gs:List UInt8)(lv:List Int)(Q:Int):List UInt8:=(buildL gs lv Q).getD []
def eblkS(d:Dim)(fr ahd:Pix)(kind:Nat)(Q:Int)(pl x y:Nat)(vx vy:Int)(f:Pix)(s:Es):Pix × Es:=
 let b:=sqL (d.wOf pl) (fr.get pl) x y 8
 let a:=egof kind (d.wOf pl) (d.hOf pl) (f.get pl) (ahd.get pl) x y pl vx vy b s
 if kind=0 then(f.set pl (layTo (d.wOf pl) x y a.1 (f.get pl) 8),s)
 else(f.set pl (layTo (d.wOf pl) x y (ebuilt a.1 (elev b a.1 Q) Q) (f.get pl) 8),eblk (if 0<pl then 4 else 2) (elev b a.1 Q) a.2)
theorem restL_within(a b:List UInt8):Within 255 (restL a b):=fun i=>by have:=restL_abs a b i;omega
theorem allB_of_within{m:Int}{l:List Int}(hs:sideOf l.length≠0)(h:Within m l):allB m l=true:=allB_yes hs (fun j _=>by have:=h j;unfold inB;simpa using this)
theorem step_le{q x y:Int}(hq:0<=q/\q<=31)(hx:0<=x/\x<=7)(hy:0<=y/\y<=7):1<=stepOf q x y/\stepOf q x y<=1008:=by
 have h:stepOk q x y=true:=by unfold stepOk;rw [decide_eq_true_eq];omega
 obtain⟨_,h1,h2,_⟩:=step_bd q x y h;exact⟨h1,h2⟩
theorem coarse_mem{l:List Int}(hl:l.length=64)(q:Int)(i:Nat)(hi:i<64):(coarseL l q).getD i 0=levelOf (l.getD i 0) (stepOf q ((i % 8:Nat):Int) ((i/8:Nat):Int)):=by
 unfold coarseL coarseAt;rw [List.getD_eq_getElem?_getD,List.getElem?_map,List.getElem?_range (by omega),hl];rfl
theorem coarse_within{l:List Int}(hl:l.length=64){q:Int}(hq:0<=q/\q<=31){M:Int}(h0:0<=M)(h:Within M l):Within (M+336) (coarseL l q):=by
 intro i;by_cases hi:i<64
 ·rw [coarse_mem hl q i hi];exact level_bd _ _ (step_le hq ⟨by omega,by omega⟩ ⟨by omega,by omega⟩) M h0 (h i)
 ·rw [List.getD_eq_getElem?_getD,List.getElem?_eq_none (by simp [coarseL];omega)];show -(M+336)<=0/\0<=M+336;omega
theorem level_mul(v s:Int)(hs:1<=s/\s<=1008)(M:Int)(hv:-M<=v/\v<=M)(h0:0<=M):-(M+336)<=levelOf v s*s/\levelOf v s*s<=M+336:=by
 obtain⟨h1,h2⟩:=hs;obtain⟨h3,h4⟩:=hv;have t0:0<=s/3/\s/3<=336:=by omega
 unfold levelOf;generalize s/3=t at *;split
 ·have a:0<=(-v+t)/s:=Int.ediv_nonneg (by omega) (by omega);have b:(-v+t)/s*s <= -v+t:=Int.ediv_mul_le _ (by omega);have c:0<=(-v+t)/s*s:=Int.mul_nonneg a (by omega);rw [Int.neg_mul];omega
 ·have a:0<=(v+t)/s:=Int.ediv_nonneg (by omega) (by omega);have b:(v+t)/s*s<=v+t:=Int.ediv_mul_le _ (by omega);have c:0<=(v+t)/s*s:=Int.mul_nonneg a (by omega);omega
theorem elev_length{b gs:List UInt8}(hb:b.length=64)(Q:Int):(elev b gs Q).length=64:=by
 have h1:(restL b gs).length=64:=by rw [restL_length];exact hb
 have h2:=fwdL_length _ h1;simp [elev,coarseL,h2]
theorem fwd_rest{b gs:List UInt8}(hb:b.length=64):(fwdL (restL b gs)).length=64/\Within 16320 (fwdL (restL b gs)):=by
 have h1:(restL b gs).length=64:=by rw [restL_length];exact hb
 exact⟨fwdL_length _ h1,fwdL_within (M:=255) h1 (by omega) (restL_within b gs)⟩
theorem coarse_some{l:List Int}(hl:l.length=64){q:Int}(hq:0<=q/\q<=31)(h:Within 16320 l):qCoarse l q=some (coarseL l q):=by
 unfold qCoarse;refine if_pos ⟨allB_of_within (by rw [hl];decide) (fun i=>by have:=h i;omega),hq,fun i hi=>?_⟩;have hw:=coarse_within hl hq (by omega) h i;have e:coarseAt l q i=(coarseL l q).getD i 0:=by
  unfold coarseL;rw [List.getD_eq_getElem?_getD,List.getElem?_map,List.getElem?_range hi];rfl
 rw [e];unfold inB;rw [decide_eq_true_eq];omega
theorem elev_within{b gs:List UInt8}(hb:b.length=64){Q:Int}(hq:0<=Q/\Q<=31):Within 16656 (elev b gs Q):=by
 have h:=coarse_within (fwd_rest (gs:=gs) hb).1 hq (M:=16320) (by omega) (fwd_rest hb).2;intro i;have:=h i;unfold elev;omega
theorem elev_all{b gs:List UInt8}(hb:b.length=64){Q:Int}(hq:0<=Q/\Q<=31):allB 1048576 (elev b gs Q)=true:=
 allB_of_within (by rw [elev_length hb];decide) (fun i=>by have:=elev_within (gs:=gs) hb hq i;omega)
theorem ebuilt_some{b gs:List UInt8}(hb:b.length=64)(hg:gs.length=64){Q:Int}(hq:0<=Q/\Q<=31):buildL gs (elev b gs Q) Q=some (ebuilt gs (elev b gs Q) Q):=by
 have hl:=elev_length (gs:=gs) hb Q;have h1:=elev_within (gs:=gs) hb hq;have hs:qFine (elev b gs Q) Q=some (fineL (elev b gs Q) Q):=by
  unfold qFine;refine if_pos ⟨allB_of_within (by rw [hl];decide) (fun i=>by have:=h1 i;omega),hq,fun i hi=>?_⟩;unfold fineAt;rw [hl]at hi ⊢;have hb2:=fwd_rest (gs:=gs) hb;have hm:(elev b gs Q).getD i 0=levelOf ((fwdL (restL b gs)).getD i 0) (stepOf Q ((i % 8:Nat):Int) ((i/8:Nat):Int)):=coarse_mem hb2.1 Q i hi;rw [show sideOf 64=8 from rfl,hm];have:=level_mul _ _ (step_le hq (x:=((i % 8:Nat):Int)) (y:=((i/8:Nat):Int)) ⟨by omega,by omega⟩ ⟨by omega,by omega⟩) 16320 (hb2.2 i) (by omega);unfold inB;rw [decide_eq_true_eq];omega
 unfold ebuilt buildL;rw [if_pos ⟨hg,hl⟩,hs];rfl
theorem ebuilt_length{b gs:List UInt8}(hb:b.length=64)(hg:gs.length=64){Q:Int}(hq:0<=Q/\Q<=31):(ebuilt gs (elev b gs Q) Q).length=64:=(buildL_length (ebuilt_some hb hg hq)).trans hg
section
variable {P : Program} {ops : Array Oper} {md : Region.Mode} {B : Array Nat} {loud pure_ : List Nat} {S : World → Prop} {Q : Exit → Act → World → Prop}
def Behind(B:Array Nat)(pure_:List Nat)(j:Nat):Prop:=∃p∈pure_,(B.getD j 0).testBit p=false
def wpZ(P:Program)(md:Region.Mode)(ops:Array Oper)(B:Array Nat)(loud pure_:List Nat)(S:World->Prop)(Q:Exit->Act->World->Prop):Nat->Array Bool->Act->World->Prop
 | 0,listed,a,w=>Region.ready md ops listed=[]/\Q .normal a w
 | f+1,listed,a,w=>(Region.ready md ops listed=[]->Q .normal a w)/\∀i∈Region.ready md ops listed,
   if i∈loud then wpOp P ops Q i (fun a' w'=>(Behind B pure_ i->S w')/\wpZ P md ops B loud pure_ S Q f (listed.setIfInBounds i true) a' w') a w
   else stOp P ops w i (fun a'=>wpZ P md ops B loud pure_ S Q f (listed.setIfInBounds i true) a' w) a
theorem wpZ_any:∀(f:Nat)(listed:Array Bool)(a:Act)(w:World),wpZ P md ops B loud pure_ S Q f listed a w->wpAny P md ops Q f listed a w
 | 0,_,_,_,h=>h
 | f+1,listed,a,w,h=>⟨h.1,fun i hi=>by
   have h2:=h.2 i hi;split at h2
   ·exact wpOp_mono (fun a' w' h'=>wpZ_any f _ a' w' h'.2) h2
   ·exact wpOp_of_stOp (fun a' h'=>wpZ_any f _ a' w h') h2⟩
theorem wpZ_still(hB:waitB md ops B=true)(hsel:∀(j:Nat) (o:Oper) cs b,ops[j]?=some o->o.op≠.select cs b){i:Nat}{oi:Oper}{v:Value}(hi:ops[i]?=some oi)(hil:i ∉ loud){w:World}:
  ∀(f:Nat) (listed:Array Bool) (a:Act),(∀j∈loud,(B.getD j 0).testBit i=true\/listed.getD j true=true)->Closed md ops listed ->
   (∀j oj,ops[j]?=some oj->j≠i->listed.getD j true=false->(∀e∈oj.after,Region.binds md e=true->e.on≠i)->oi.apart ops oj=true) ->
   i∈Region.ready md ops listed->YieldsAt P ops w oi v a ->
   wpZ P md ops B loud pure_ S Q f (listed.setIfInBounds i true) (a.put oi.dst v) w->wpZ P md ops B loud pure_ S Q (f+1) listed a w:=by
 intro f
 induction f with
 | zero=>
  intro listed a _ hc hfree hr hy H;refine⟨fun h=>(by rw [h]at hr;cases hr),fun j hj=>?_⟩;obtain rfl:=ready_set_nil H.1 hj;rw [if_neg hil];exact hy.stOp hi H
 | succ f ih=>
  intro listed a hw hc hfree hr hy H;refine⟨fun h=>(by rw [h]at hr;cases hr),fun j hj=>?_⟩;by_cases hji:j=i
  ·subst hji;rw [if_neg hil];exact hy.stOp hi H
  ·obtain⟨hjun,oj,hoj,hall⟩:=mem_ready.1 hj
   have hjl:j ∉ loud:=fun hjl=>by
    rcases hw j hjl with h|h
    ·have h2:=waits_listed hB hc j j (Nat.le_refl _) oj hoj hall i (Array.getElem?_eq_some_iff.1 hi).1 h;rw [getD_both (mem_ready.1 hr).1]at h2;cases h2
    ·rw [hjun]at h;cases h
   have h1:=H.2 j (ready_mono hj hji);rw [if_neg hjl]at h1 ⊢
   refine stOp_mono (fun a' h3=>ih (listed.setIfInBounds j true) a' (fun k hk=>(hw k hk).imp id getD_keep) (hc.set hj) (free_set hfree hjun) (ready_mono hr (Ne.symm hji)) h3.1 ?_)
    (stOp_put hoj (hfree j oj hoj hji hjun (not_waiting hr hall)) (fun cs b=>hsel i oi cs b hi) (fun cs b=>hsel j oj cs b hoj) hy h1)
   rw [Array.setIfInBounds_comm _ _ hji];exact h3.2
theorem wpZ_if(hB:waitB md ops B=true)(hsel:∀(j:Nat) (o:Oper) cs b,ops[j]?=some o->o.op≠.select cs b){i:Nat}{oi:Oper}{v:Value}(hi:ops[i]?=some oi)(hil:i ∉ loud)(hip:i∈pure_)
  (hQ:∀c a w d u,Q (.panic c) (a.put d u) w->Q (.panic c) a w):
  ∀(f:Nat) (listed:Array Bool) (a:Act) (w:World),S w->Closed md ops listed ->
   (∀j oj,ops[j]?=some oj->j≠i->listed.getD j true=false->(∀e∈oj.after,Region.binds md e=true->e.on≠i)->oi.apart ops oj=true) ->
   i∈Region.ready md ops listed->YieldsIf P ops S oi v a ->
   wpZ P md ops B loud pure_ S Q f (listed.setIfInBounds i true) (a.put oi.dst v) w->wpZ P md ops B loud pure_ S Q (f+1) listed a w:=by
 have here:∀ {K:Act->Prop} {a:Act} {w:World},S w->YieldsIf P ops S oi v a->K (a.put oi.dst v)->stOp P ops w i K a:=fun {K a w} hS hy h=>by
  unfold stOp;simp only [hi];rcases hy with⟨hw,hv⟩|⟨hw,rfl⟩
  ·simp only [hw,if_true,Oper.still,hv w hS,Oper.stillUpon];exact⟨trivial,h⟩
  ·simp only [hw,Bool.false_eq_true,if_false];exact h
 intro f
 induction f with
 | zero=>
  intro listed a w hS hc hfree hr hy H;refine⟨fun h=>(by rw [h]at hr;cases hr),fun j hj=>?_⟩;obtain rfl:=ready_set_nil H.1 hj;rw [if_neg hil];exact here hS hy H
 | succ f ih=>
  intro listed a w hS hc hfree hr hy H;refine⟨fun h=>(by rw [h]at hr;cases hr),fun j hj=>?_⟩;by_cases hji:j=i
  ·subst hji;rw [if_neg hil];exact here hS hy H
  ·obtain⟨hjun,oj,hoj,hall⟩:=mem_ready.1 hj;have h1:=H.2 j (ready_mono hj hji);split
   ·rename_i hjl;rw [if_pos hjl]at h1
    have hbh:Behind B pure_ j:=⟨i,hip,by
     cases ht:(B.getD j 0).testBit i with
     | false=>rfl
     | true=>
      have h2:=waits_listed hB hc j j (Nat.le_refl _) oj hoj hall i (Array.getElem?_eq_some_iff.1 hi).1 ht;rw [getD_both (mem_ready.1 hr).1]at h2;cases h2⟩
    refine wpOp_mono (fun a' w' h3=>⟨h3.2.1,ih (listed.setIfInBounds j true) a' w' (h3.2.1 hbh) (hc.set hj) (free_set hfree hjun) (ready_mono hr (Ne.symm hji)) h3.1 ?_⟩)
     (wpOp_putIf hoj (hfree j oj hoj hji hjun (not_waiting hr hall)) (fun cs b=>hsel i oi cs b hi) (fun cs b=>hsel j oj cs b hoj) (fun c a w h=>hQ c a w _ _ h) hy h1)
    rw [Array.setIfInBounds_comm _ _ hji];exact h3.2.2
   ·rename_i hjl;rw [if_neg hjl]at h1
    refine stOp_mono (fun a' h3=>ih (listed.setIfInBounds j true) a' w hS (hc.set hj) (free_set hfree hjun) (ready_mono hr (Ne.symm hji)) h3.1 ?_)
     (stOp_putIf hoj (hfree j oj hoj hji hjun (not_waiting hr hall)) (fun cs b=>hsel i oi cs b hi) (fun cs b=>hsel j oj cs b hoj) hy h1)
    rw [Array.setIfInBounds_comm _ _ hji];exact h3.2
def wpPlanT(P:Program)(ops:Array Oper)(B:Array Nat)(loud pure_:List Nat)(S:World->Prop)(Q:Exit->Act->World->Prop):List Nat->Act->World->Prop
 | [],a,w=>Q .normal a w
 | i :: is,a,w=>if loud.contains i then wpOp P ops Q i (fun a' w'=>(Behind B pure_ i->S w')/\wpPlanT P ops B loud pure_ S Q is a' w') a w
  else if pure_.contains i then ∃o v,ops[i]?=some o/\YieldsIf P ops S o v a/\wpPlanT P ops B loud pure_ S Q is (a.put o.dst v) w
  else stOp P ops w i (fun a'=>wpPlanT P ops B loud pure_ S Q is a' w) a
def tillB(B:Array Nat)(loud pure_:List Nat):List Nat->Bool
 | []=>true
 | i :: is=>(!loud.contains i || !(is.any fun k=>pure_.contains k) || pure_.any fun p=>!(B.getD i 0).testBit p)&&tillB B loud pure_ is
theorem wpZ_plan(hB:waitB md ops B=true)(hs:Region.noSelect ops=true)(hQ:∀c a w d u,Q (.panic c) (a.put d u) w->Q (.panic c) a w):
  ∀(is:List Nat) (listed:Array Bool) (a:Act) (w:World),((is.any fun k=>pure_.contains k)=true->S w)->Closed md ops listed->tillB B loud pure_ is=true->planOk md ops loud pure_ B is listed=true->wpPlanT P ops B loud pure_ S Q is a w->wpZ P md ops B loud pure_ S Q is.length listed a w
 | [],listed,a,w,_,hc,_,hp,h=>⟨by simpa [planOk]using hp,h⟩
 | i :: is,listed,a,w,hS,hc,ht,hp,h=>by
  simp only [planOk,Bool.and_eq_true]at hp;obtain⟨h1,h2⟩:=hp;rw [tillB,Bool.and_eq_true]at ht;obtain⟨ht1,ht2⟩:=ht;have hS':(is.any fun k=>pure_.contains k)=true->S w:=fun h=>hS (by rw [List.any_cons,h,Bool.or_true]);unfold wpPlanT at h;by_cases hl:loud.contains i=true
  ·rw [if_pos hl,decide_eq_true_eq]at h1;rw [if_pos hl]at h;have hr:i∈Region.ready md ops listed:=by rw [h1];simp
   refine⟨fun h0=>(by rw [h0]at hr;cases hr),fun j hj=>?_⟩;rw [h1]at hj;obtain rfl:j=i:=by simpa using hj
   rw [if_pos (by simpa using hl)]
   have hnext:∀w',(Behind B pure_ j->S w')->(is.any fun k=>pure_.contains k)=true->S w':=fun w' hb ha=>hb (by
    rw [hl,ha]at ht1;simp only [Bool.not_true,Bool.false_or,List.any_eq_true,Bool.not_eq_true']at ht1;obtain⟨p,hp,hq⟩:=ht1;exact⟨p,hp,hq⟩)
   exact wpOp_mono (fun a' w' h'=>⟨h'.1,wpZ_plan hB hs hQ is _ a' w' (hnext w' h'.1) (hc.set hr) ht2 h2 h'.2⟩) h
  ·rw [if_neg hl]at h1 h;simp only [Bool.and_eq_true,Bool.or_eq_true,List.all_eq_true]at h1;obtain⟨⟨hr,hf⟩,hw⟩:=h1;have hr':i∈Region.ready md ops listed:=by simpa using hr
   have hil:i ∉ loud:=by simpa using hl
   by_cases hpu:pure_.contains i=true
   ·rw [if_pos hpu]at h;obtain⟨o,v,ho,hy,hk⟩:=h;exact wpZ_if hB (Region.noSelect_spec hs) ho hil (by simpa using hpu) hQ is.length listed a w (hS (by rw [List.any_cons,hpu,Bool.true_or])) hc (Region.free_spec ho hf) hr' hy (wpZ_plan hB hs hQ is _ _ w hS' (hc.set hr') ht2 h2 hk)
   ·rw [if_neg hpu]at h;have hw':=hw.resolve_left hpu;obtain⟨_,o,ho,_⟩:=mem_ready.1 hr';obtain⟨v,hy,hk⟩:=yieldsAt_of_stOp ho h;exact wpZ_still hB (Region.noSelect_spec hs) ho hil is.length listed a (fun j hj=>by simpa using hw' j hj) hc (Region.free_spec ho hf) hr' hy (wpZ_plan hB hs hQ is _ _ w hS' (hc.set hr') ht2 h2 hk)
theorem wp_region_planT0{id:Nat}{a:Act}{w:World}(loud pure_ is:List Nat)(S:World->Prop)(hm:P.follows .mixedOrders=true)(hB:(planB ops loud pure_ is&&tillB (Region.before ops) loud pure_ is)=true)
  (hQ:∀c a w d u,Q (.panic c) (a.put d u) w->Q (.panic c) a w)(hS:S w.drew)(h:wpPlanT P ops (Region.before ops) loud pure_ S Q is a w.drew):(Code.region id ops true).wp P Q a w:=by
 simp only [planB,Bool.and_eq_true,decide_eq_true_eq]at hB;obtain⟨⟨⟨⟨hs,hw⟩,hl⟩,hp⟩,ht⟩:=hB;refine wp_region_any hm ?_;have:=wpZ_any _ _ _ _ (wpZ_plan (md:=.any) hw hs hQ is _ a w.drew (fun _=>hS) (fun j oj _ hl=>by rw [getD_replicate_false]at hl;cases hl) ht hp h);rw [hl]at this;exact this
theorem planT0_still{i:Nat}{is:List Nat}{o:Oper}{a:Act}{w:World}(hl:(loud.contains i || pure_.contains i)=false)(ho:ops[i]?=some o)
  (h:∀K:Act->Prop,(∀a',wpPlanT P ops B loud pure_ S Q is a' w->K a')->if Region.wanted o (yielded ops a.tmps)then o.still P a w K else K (a.put o.dst undef)):wpPlanT P ops B loud pure_ S Q (i :: is) a w:=by
 rw [Bool.or_eq_false_iff]at hl;unfold wpPlanT;rw [if_neg (by simpa using hl.1),if_neg (by simpa using hl.2)];unfold stOp;simp only [ho];exact h _ (fun a' h'=>h')
theorem planT0_pure{i:Nat}{is:List Nat}{o:Oper}{a:Act}{w:World}{v:Value}(hl:(!loud.contains i&&pure_.contains i)=true)(ho:ops[i]?=some o)(hg:Region.wanted o (yielded ops a.tmps)=true)
  (hr:∀w,S w->(execOp a.eval o).run P w=.ok (.value v) w)(h:wpPlanT P ops B loud pure_ S Q is (a.put o.dst v) w):wpPlanT P ops B loud pure_ S Q (i :: is) a w:=by
 rw [Bool.and_eq_true,Bool.not_eq_true']at hl;unfold wpPlanT;rw [if_neg (by simpa using hl.1),if_pos hl.2];exact⟨o,v,ho,.inl ⟨hg,hr⟩,h⟩
theorem planT0_loud{i:Nat}{is:List Nat}{o:Oper}{a:Act}{w:World}(hl:loud.contains i=true)(ho:ops[i]?=some o)
  (h:∀K:Act->World->Prop,(∀a w,(Behind B pure_ i->S w)->wpPlanT P ops B loud pure_ S Q is a w->K a w)->if Region.wanted o (yielded ops a.tmps)=true then Oper.wp P o a w K Q else K (a.put o.dst undef) w):wpPlanT P ops B loud pure_ S Q (i :: is) a w:=by
 unfold wpPlanT;rw [if_pos hl];exact wpOp_step ho (fun K hK=>h K (fun a w h1 h2=>hK a w ⟨h1,h2⟩))
theorem planT0_done{a:Act}{w:World}(h:Q .normal a w):wpPlanT P ops B loud pure_ S Q [] a w:=h
structure PlanH(P:Program)(ops:Array Oper)(loud pure_:List Nat)(S:World->Prop)(Q:Exit->Act->World->Prop)(is:List Nat)(a:Act)(w:World):Prop where
 out:wpPlanT P ops (Region.before ops) loud pure_ S Q is a w
theorem wp_region_planT{id:Nat}{a:Act}{w:World}(loud pure_ is:List Nat)(S:World->Prop)(hm:P.follows .mixedOrders=true)(hB:(planB ops loud pure_ is&&tillB (Region.before ops) loud pure_ is)=true)
  (hQ:∀c a w d u,Q (.panic c) (a.put d u) w->Q (.panic c) a w)(hS:S w.drew)(h:PlanH P ops loud pure_ S Q is a w.drew):(Code.region id ops true).wp P Q a w:=
 wp_region_planT0 loud pure_ is S hm hB hQ hS h.out
theorem planT_still{i:Nat}{is:List Nat}{o:Oper}{a:Act}{w:World}(hl:(loud.contains i || pure_.contains i)=false)(ho:ops[i]?=some o)
  (h:∀K:Act->Prop,(∀a',PlanH P ops loud pure_ S Q is a' w->K a')->if Region.wanted o (yielded ops a.tmps)then o.still P a w K else K (a.put o.dst undef)):PlanH P ops loud pure_ S Q (i :: is) a w:=
 ⟨planT0_still hl ho (fun K hK=>h K (fun a' h'=>hK a' h'.out))⟩
theorem planT_pure{i:Nat}{is:List Nat}{o:Oper}{a:Act}{w:World}{v:Value}(hl:(!loud.contains i&&pure_.contains i)=true)(ho:ops[i]?=some o)(hg:Region.wanted o (yielded ops a.tmps)=true)
  (hr:∀w,S w->(execOp a.eval o).run P w=.ok (.value v) w)(h:PlanH P ops loud pure_ S Q is (a.put o.dst v) w):PlanH P ops loud pure_ S Q (i :: is) a w:=
 ⟨planT0_pure hl ho hg hr h.out⟩
theorem planT_read{i:Nat}{is:List Nat}{o:Oper}{a:Act}{w:World}{v:Value}(hl:(!loud.contains i&&pure_.contains i)=true)(ho:ops[i]?=some o)(hg:Region.wanted o (yielded ops a.tmps)=true)
  (hr:∀w,S w->(execOp a.eval o).run P w=.ok (.value v) w)(h:∀K:Act->Prop,(∀a',PlanH P ops loud pure_ S Q is a' w->K a')->K (a.put o.dst v)):PlanH P ops loud pure_ S Q (i :: is) a w:=
 planT_pure hl ho hg hr (h _ (fun _ h=>h))
theorem planT_loud{i:Nat}{is:List Nat}{o:Oper}{a:Act}{w:World}(hl:loud.contains i=true)(ho:ops[i]?=some o)
  (h:∀K:Act->World->Prop,(∀a w,S w->PlanH P ops loud pure_ S Q is a w->K a w)->if Region.wanted o (yielded ops a.tmps)=true then Oper.wp P o a w K Q else K (a.put o.dst undef) w):PlanH P ops loud pure_ S Q (i :: is) a w:=
 ⟨planT0_loud hl ho (fun K hK=>h K (fun a w h1 h2=>hK a w (fun _=>h1) h2.out))⟩
theorem planT_last{i:Nat}{is:List Nat}{o:Oper}{a:Act}{w:World}(hl:(loud.contains i&&pure_.all fun p=>((Region.before ops).getD i 0).testBit p)=true)(ho:ops[i]?=some o)
  (h:∀K:Act->World->Prop,(∀a w,PlanH P ops loud pure_ S Q is a w->K a w)->if Region.wanted o (yielded ops a.tmps)=true then Oper.wp P o a w K Q else K (a.put o.dst undef) w):PlanH P ops loud pure_ S Q (i :: is) a w:=by
 rw [Bool.and_eq_true,List.all_eq_true]at hl;exact⟨planT0_loud hl.1 ho (fun K hK=>h K (fun a w h2=>hK a w (fun⟨p,hp,hq⟩=>by rw [hl.2 p hp]at hq;cases hq) h2.out))⟩
theorem planT_done{a:Act}{w:World}(h:Q .normal a w):PlanH P ops loud pure_ S Q [] a w:=⟨planT0_done h⟩
end
section
variable {P : Program} {ops : Array Oper} {loud pure_ : List Nat} {S : World → Prop} {Q : Exit → Act → World → Prop}
theorem run_loadVar_one(w:World)(a:Addr)(ty:TypeId)(v:Value)(d:TypeDesc)(hc:w.cell? a=some v)(hu:P.underlying ty=some d)(hd:d.isRow=false):(loadVar ty a).run P w=.ok v w:=by
 have hagg:(isAgg ty).run P w=.ok false w:=by
  unfold isAgg;rw [Sem.run_bind,run_underlying hu w];cases d<;>simp_all
 simp only [loadVar,Sem.run_bind,hagg,Result.andThen_ok,Bool.false_eq_true,if_false];rw [run_load,hc]
end
theorem Blk.range{w:World}{g:Nat}{t:TypeId}{C:Array Value}(h:Blk w g t C)(o:Nat)(cs:List Value)(hc:(C.extract o (o+cs.length)).toList=cs):w.rangeAt g o cs:=by
 have:=World.rangeAt_of_block h o cs.length;rwa [hc]at this
section
variable {P : Program} {ops : Array Oper} {loud pure_ : List Nat} {S : World → Prop} {Q : Exit → Act → World → Prop}
theorem planT_load{i:Nat}{is:List Nat}{op:Oper}{a:Act}{w:World}(hl:(!loud.contains i&&pure_.contains i)=true)(ho:ops[i]?=some op)(ty:TypeId)(x:Operand)(hop:op.op=.load ty x)(hg:Region.wanted op (yielded ops a.tmps)=true)
  (b o:Nat)(hx:a.eval x=.pointer (some ⟨b,o,none⟩))(cs:List Value)(d:TypeDesc)(hS:∀w,S w->w.rangeAt b o cs)
  (hu:P.underlying ty=some d)(hd:d.isRow=true)(hi:(P.info? ty).map (·.size)=some cs.length)
  (h:∀K:Act->Prop,(∀a',PlanH P ops loud pure_ S Q is a' w->K a')->K (a.put op.dst (.agg cs.toArray))):PlanH P ops loud pure_ S Q (i :: is) a w:=
 planT_read hl ho hg (fun w' hS'=>by
  unfold execOp;simp only [hop,hx,Instr.loadAt,Instr.sureAddr,Sem.run_bind,Sem.run_pure,Result.andThen_ok,run_loadVar_mid w' b o ty cs d (hS w' hS') hu hd hi]) h
theorem planT_one{i:Nat}{is:List Nat}{op:Oper}{a:Act}{w:World}(hl:(!loud.contains i&&pure_.contains i)=true)(ho:ops[i]?=some op)(ty:TypeId)(x:Operand)(hop:op.op=.load ty x)(hg:Region.wanted op (yielded ops a.tmps)=true)
  (b o:Nat)(hx:a.eval x=.pointer (some ⟨b,o,none⟩))(v:Value)(d:TypeDesc)(hS:∀w,S w->w.cell? ⟨b,o,none⟩=some v)
  (hu:P.underlying ty=some d)(hd:d.isRow=false)
  (h:∀K:Act->Prop,(∀a',PlanH P ops loud pure_ S Q is a' w->K a')->K (a.put op.dst v)):PlanH P ops loud pure_ S Q (i :: is) a w:=
 planT_read hl ho hg (fun w' hS'=>by
  unfold execOp;simp only [hop,hx,Instr.loadAt,Instr.sureAddr,Sem.run_bind,Sem.run_pure,Result.andThen_ok,run_loadVar_one w' _ ty v d (hS w' hS') hu hd]) h
theorem planT_idx{i:Nat}{is:List Nat}{op:Oper}{a:Act}{w:World}(hl:(!loud.contains i&&pure_.contains i)=true)(ho:ops[i]?=some op)(t:TypeId)(x ix:Operand)(hop:op.op=.indexAddr t x ix)(hg:Region.wanted op (yielded ops a.tmps)=true)
  (X I v:Value)(hx:a.eval x=X)(hi:a.eval ix=I)(hr:∀w,(Instr.indexAt t X I).run P w=.ok v w)
  (h:∀K:Act->Prop,(∀a',PlanH P ops loud pure_ S Q is a' w->K a')->K (a.put op.dst v)):PlanH P ops loud pure_ S Q (i :: is) a w:=
 planT_read hl ho hg (fun w' _=>by
  unfold execOp;simp only [hop,hx,hi,hr w',Sem.run_bind,Sem.run_pure,Result.andThen_ok]) h
end
end Go.Proofs.YtnnpoodcdibpiaaGreatDoor
