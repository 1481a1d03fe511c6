/-
  ladder.Make in plain Lean: which clips and ladders are made, and what is known of each rung.
-/
import Derived.Test.YthednemlahioeaaGreatDoorM21
namespace Go.Proofs.YthednemlahioeaaGreatDoor
open Go.RowKit
open Ya renaming zero→YL,Nv→Qm,Ox→VS
open Bool renaming and_eq_true→ZT
open Nat renaming pow_succ→XF,mul_assoc→Tf,mul_comm→YA,mul_le_mul→Yt,le_refl→ZY,add_mul→Y5,one_mul→Ym
open List renaming getElem?_eq_getElem→ZP,range→Zz,range_succ→Y9
open IntWalk renaming wrap64_in→ZA,i64_in→Z4
open Lib renaming hid→Z7
open And renaming intro→Z9
open World renaming cell?_of_block→ZV,ownsRow_nil→Yl,block_lt_of_cell?→Y8,cell?_alloc_lt→Yn
open UInt8 renaming ofNat→Zl,toNat_lt→ZN,toNat_ofNat'→Yq
open Value renaming slice→Xi
open Ending renaming returned→Zq
open Go.Proofs.Tryz
set_option maxRecDepth 100000
set_option maxHeartbeats 8000000
def QK(fs:List Ya)(G:Int)(rs:List Rg):Bool:=Pj fs&&Us (fs.getD 0 YL).W0 (fs.getD 0 YL).H0 G rs
def Vy(fs:List Ya):Yz:=sS (fs.getD 0 YL).W0 (fs.getD 0 YL).H0
def Tz(fs:List Ya)(G:Int)(r:Rg):Lx:=
 ⟨r,G,(Vy fs).Xu r.down.toNat,Nt ((Vy fs).Xu r.down.toNat) G.toNat r.tg.toNat r.q.toNat (fs.map fun f=>Tu (Vy fs) f.ZJ r.down.toNat)⟩
theorem aaD{f:Ya}(h:f.Nv=true):(1<=f.W0/\f.W0<=4096/\f.W0 % 16=0)/\(1<=f.H0/\f.H0<=4096/\f.H0 % 16=0):=by
 unfold Qm Ye at h;rw [decide_eq_true_eq]at h;obtain⟨r0,_,_,e1,e2,_⟩:=h;unfold X8 Rm at r0;simp only [ZT,decide_eq_true_eq]at r0;omega
theorem acx{f:Ya}(h:f.Nv=true):(sS f.W0 f.H0).Ok/\((sS f.W0 f.H0).W:Int)=f.W0/\((sS f.W0 f.H0).H:Int)=f.H0:=by
 obtain⟨⟨a1,a2,a3⟩,b1,b2,b3⟩:=aaD h;refine⟨⟨?_,?_,?_,?_,?_,rfl,rfl⟩,?_,?_⟩
 ·show Yx f.W0.toNat f.H0.toNat=true;unfold Yx;simp;omega
 ·show f.W0.toNat % 16=0;omega
 ·show f.H0.toNat % 16=0;omega
 ·show f.W0.toNat=2*(f.W0.toNat/2);omega
 ·show f.H0.toNat=2*(f.H0.toNat/2);omega
 ·show((f.W0.toNat:Nat):Int)=f.W0;omega
 ·show((f.H0.toNat:Nat):Int)=f.H0;omega
theorem J2{fs:List Ya}(h:Pj fs=true):(Vy fs).Ok/\((Vy fs).W:Int)=(fs.getD 0 YL).W0/\((Vy fs).H:Int)=(fs.getD 0 YL).H0/\(1<=fs.length/\fs.length<=1024)/\∀i,i<fs.length->(fs.getD i YL).UG (Vy fs)=true:=by
 unfold Pj at h;rw [ZT,decide_eq_true_eq]at h;obtain⟨hl,hc⟩:=h;have h0:=Az hc (show 0<fs.length by omega);unfold VS at h0;rw [ZT]at h0;obtain⟨d1,d2,d3⟩:=acx h0.1;refine⟨d1,d2,d3,hl,fun i hi=>?_⟩;have hi2:=Az hc hi;unfold VS Qm at hi2;simp only [ZT,decide_eq_true_eq]at hi2;unfold Ya.UG;rw [hi2.1];unfold Vy;rw [d2,d3,decide_eq_true hi2.2.1,decide_eq_true hi2.2.2];rfl
theorem adG(d0:Yz)(n:Nat)(h:d0.Ok)(a b:Nat)(ha:d0.W=a*2 ^ n)(hb:d0.H=b*2 ^ n)(akK:a % 16=0)(iB:b % 16=0):
  (∀m,m<=n->(d0.Xu m).Ok)/\(∀m,m<n->(d0.Xu m).W % 32=0/\(d0.Xu m).H % 32=0):=by
 have h2:d0.W2=d0.W/2/\d0.H2=d0.H/2:=by have:=h.w2;have:=h.h2;omega
 have key:∀m,m<n->(d0.Xu m).W % 32=0/\(d0.Xu m).H % 32=0:=fun m hm=>by
  obtain⟨e1,e2,_,_⟩:=Yz.Fh d0 m h2;obtain⟨k,rfl⟩:∃k,n=m+(k+1):=⟨n-m-1,Z8⟩
  have f1:d0.W/2 ^ m=a*2 ^ k*2:=by
   rw [ha,Nat.pow_add,XF,<-Tf,YA a,Tf,Nat.mul_div_cancel_left _ (Nat.pow_pos Z8),<-Tf]
  have f2:d0.H/2 ^ m=b*2 ^ k*2:=by
   rw [hb,Nat.pow_add,XF,<-Tf,YA b,Tf,Nat.mul_div_cancel_left _ (Nat.pow_pos Z8),<-Tf]
  have g1:a*2 ^ k % 16=0:=by rw [Nat.mul_mod,akK];simp
  have g2:b*2 ^ k % 16=0:=by rw [Nat.mul_mod,iB];simp
  rw [e1,e2,f1,f2];omega
 refine⟨fun m=>?_,key⟩
 induction m with
 | zero=>exact fun _=>h
 | succ m ih=>exact fun hm=>(ih Z8).down (key m Z8).1 (key m Z8).2
theorem Eh{fs:List Ya}{G:Int}{r:Rg}(hc:Pj fs=true)(h:Yb (fs.getD 0 YL).W0 (fs.getD 0 YL).H0 G r=true)(hW:(fs.getD 0 YL).W0<=64)(hH:(fs.getD 0 YL).H0<=64):
  ∃(dn q tg g:Nat),r.down=(dn:Int)/\r.q=(q:Int)/\r.tg=(tg:Int)/\G=(g:Int)/\dn<=3/\q<=31/\tg<=1048576/\(1<=g/\g<=64)/\(∀m,m<=dn->((Vy fs).Xu m).Ok)/\(∀m,m<dn->((Vy fs).Xu m).W % 32=0/\((Vy fs).Xu m).H % 32=0) /\
   seqRight (((Vy fs).Xu dn).W:Int) (((Vy fs).Xu dn).H:Int) (g:Int)=true/\((Vy fs).Xu dn).W<=64/\((Vy fs).Xu dn).H<=64:=by
 obtain⟨hd,w0,h0,_,_⟩:=J2 hc;obtain⟨nm,dn,q,tg⟩:=r;unfold Yb at h;dsimp only at h;simp only [ZT,decide_eq_true_eq]at h;obtain⟨_,ha,hs,m1,m2⟩:=h;unfold Yv at ha;rw [decide_eq_true_eq]at ha;dsimp only at ha;have RQ:=hs;unfold seqRight at RQ;rw [decide_eq_true_eq]at RQ;obtain⟨n,rfl⟩:∃n:Nat,dn=(n:Int):=⟨dn.toNat,Z8⟩
 have h2:(Vy fs).W2=(Vy fs).W/2/\(Vy fs).H2=(Vy fs).H/2:=by have:=hd.w2;have:=hd.h2;omega
 obtain⟨e1,e2⟩:=KJ (Vy fs) h2 n;rw [<-w0]at hs RQ m1;rw [<-h0]at hs RQ m2;rw [e1,e2]at hs RQ;rw [e1]at m1;rw [e2]at m2;have m1':(Vy fs).W=((Vy fs).Xu n).W*2 ^ n:=by
  have:(n:Int).toNat=n:=rfl;rw [this]at m1
  exact_mod_cast m1.symm
 have m2':(Vy fs).H=((Vy fs).Xu n).H*2 ^ n:=by
  have:(n:Int).toNat=n:=rfl;rw [this]at m2
  exact_mod_cast m2.symm
 obtain⟨k1,k2⟩:=adG (Vy fs) n hd ((Vy fs).Xu n).W ((Vy fs).Xu n).H m1' m2' Z8 Z8;have p1:((Vy fs).Xu n).W*1<=((Vy fs).Xu n).W*2 ^ n:=Yt (ZY _) (Nat.pow_pos Z8);have p2:((Vy fs).Xu n).H*1<=((Vy fs).Xu n).H*2 ^ n:=Yt (ZY _) (Nat.pow_pos Z8);refine⟨n,q.toNat,tg.toNat,G.toNat,rfl,show q=((q.toNat:Nat):Int)by omega,show tg=((tg.toNat:Nat):Int)by omega,Z8,Z8,Z8,Z8,Z8,k1,k2,?_,Z8,Z8⟩;rw [show((G.toNat:Nat):Int)=G by omega];exact hs
theorem Gs{W H G:Int}{rs:List Rg}(h:Us W H G rs=true){i:Nat}(hi:i<rs.length):Yb W H G (rs.getD i Rg.zero)=true:=by
 unfold Us at h;rw [ZT]at h;have h2:=h.2;unfold Mm at h2;rw [List.all_eq_true]at h2;have h3:=h2 i (List.mem_range.2 hi);rw [ZT]at h3;exact h3.1
def FM(B:Nat)(v:Value)(k:Nat):Prop:=B<=k/\v.ownBlock≠some k
theorem BC{w w':World}{B:Nat}{e:TypeId}{v v':Value}{l:List Lx}{x:Lx}{xs cells:List Value}(hc:WB 8 (Ny w (FM B v)) l xs)(h1:w'.ownsRow B e 8 v' (l.length+1) (xs++cells))(hm:Mod (fun j=>v.ownBlock=some j) w w')
  (hg:∀k,v'.ownBlock=some k->v.ownBlock=some k\/w.heap.size<=k)(hx:Ny w (FM B v) x cells)(hl:cells.length=8):Yr w' B e 8 (Ny w' (FM B v')) v' (l++[x]):=by
 have zz:∀k,FM B v k->k<w.heap.size->¬v.ownBlock=some k:=fun k hk _=>hk.2;have r9:∀k,FM B v k->k<w.heap.size->FM B v' k:=fun k hk hl=>⟨hk.1,fun e=>(hg k e).elim hk.2 Z8⟩
 exact Yr.push h1 (hc.mono (fun _ _ _ k=>k.turn hm zz r9)) (hx.turn hm zz r9) hl
theorem take_one{rs:List Rg}{i:Nat}(h:i<rs.length)(f:Rg->Lx):(rs.take (i+1)).map f=(rs.take i).map f++[f (rs.getD i Rg.zero)]:=by
 rw [List.take_add_one,List.map_append,ZP h,List.getD_eq_getElem?_getD,ZP h];rfl
theorem zu(w:World)(n:Nat)(h1:1<=n)(h2:n<=4096):Calls prog 219 #[↑n] w fun e w'=>e=.returned (.bool true)/\w=w':=by
 have d1:=Zb (1<=(n:Int));have d2:=Zb ((n:Int)<=4096);go_enter func219,ntmps219;go_wp2_with fail;go_ret;exact⟨rfl,rfl⟩
theorem Ur(w:World)(W H:Nat)(A:Option Addr)(n c:Nat)(h:Yx W H=true)(hn:n=W*H):Calls prog 158 #[.agg #[↑W,↑H,.slice A n c]] w fun e w'=>e=.returned (.bool true)/\Mod ↑ZW w w':=by
 obtain⟨ha,h1,h2,h3,h4,h5⟩:=YB h;rw [<-hn]at ha h5;have e1:wrap64 ((W:Int)*(H:Int))=(n:Int):=by
  rw [show(W:Int)*(H:Int)=(n:Int)by rw [hn];simp];exact ZA _ ⟨Z8,Z8⟩
 have HE:=Z7 e1;clear hn e1;go_enter func158,ntmps158;go_wp2_with fail;refine YH (zu _ W h1 h2) ?_;go_wp2_with fail;refine YH (zu _ H h3 h4) ?_;have e1:=HE.out;go_wp2_with fail;go_ret;exact⟨rfl,(Mod.refl _ _).alloc _⟩
theorem ajk(w:World)(v:Int)(m:Nat)(h:1<=m)(hm:m<=4096):Calls prog 220 #[↑v,↑m] w fun e w'=>e=.returned ↑(Uj v m:Nat)/\w=w':=by
 unfold Uj;by_cases h1:v<0
 ·have d1:decide (v<0)=true:=decide_eq_true h1;rw [if_pos h1];clear h1;go_enter func220,ntmps220;go_wp2_with fail;go_ret;exact⟨rfl,rfl⟩
 ·rw [if_neg h1];have d1:decide (v<0)=false:=decide_eq_false h1;by_cases h2:(m:Int)-1<v
  ·rw [if_pos h2];have d2:=Zb ((m:Int)<=v);have e1:Hid (((m-1:Nat):Int)=(m:Int)-1):=by show _=_;omega
   clear h1 h2;go_enter func220,ntmps220;go_wp2_with fail;go_ret;exact⟨by rw [e1.out];rfl,rfl⟩
  ·rw [if_neg h2];have d2:=Za ((m:Int)<=v);have e1:Hid (((v.toNat:Nat):Int)=v):=by show _=_;omega
   clear h1 h2;go_enter func220,ntmps220;go_wp2_with fail;go_ret;exact⟨by rw [e1.out];rfl,rfl⟩
theorem aaO(w:World)(v:Int)(m:Nat)(h:1<=m)(hm:m<=4096)(n:Nat):Calls prog 220 #[↑v,↑m] (w.drewN n) fun e w'=>e=.returned ↑(Uj v m:Nat)/\w'=w.drewN n:=(ajk _ v m h hm).mono fun _ _ ⟨a,b⟩=>⟨a,b.symm⟩
theorem ML(w:World)(x i:Int)(hx:-1048576<=x/\x<=1048576)(hi:0<=i/\i<=64):Calls prog 305 #[↑x,↑i] w fun e w'=>e=.returned (.int .i64 (x+i))/\w=w':=by
 obtain⟨h1,h2⟩:=hx;obtain⟨h3,h4⟩:=hi;have d1:=Za (4611686018427387904<x);go_enter func305,ntmps305;go_wp2_with fail;go_ret;exact⟨rfl,rfl⟩
theorem fAt(w:World)(W H:Nat)(A:Option Addr)(n c:Nat)(ZJ:List UInt8)(h:Yx W H=true)(hn:n=W*H)(YZ:BytesIn w A n c ZJ)(x y:Int):
  Calls prog 160 #[.agg #[↑W,↑H,.slice A n c],↑x,↑y] w fun e w'=>e=.returned (.int .u8 ((TB W H ZJ x y).toNat:Int))/\Mod ↑ZW w w':=by
 obtain⟨ha,h1,h2,h3,h4,h5⟩:=YB h;have ah:=BG W H x y h;have hb0:ZI (w.alloc (.cells #[↑W,↑H,.slice A n c] 56)) w.heap.size 56 #[↑W,↑H,.slice A n c]:=ZI.new _ _ _;have m0:Mod ↑ZW w (w.alloc (.cells #[↑W,↑H,.slice A n c] 56)):=(Mod.refl _ _).alloc _;have R1:=Ur (w.alloc (.cells #[↑W,↑H,.slice A n c] 56)) W H A n c h hn;rw [<-hn]at ah ha h5;obtain⟨b,off,hA,hb,hcell⟩:=YZ.place Z8;subst hA;obtain⟨k,hk⟩:=ZL (Uj y H*W+Uj x W);rw [<-hk]at ah;have M9:=hcell k ah;have HP:Hid ((TB W H ZJ x y).toNat=(ZJ.getD k 0).toNat):=by show _=_;rw [hk];rfl
 have s0:(Uj y H:Int)*(W:Int)=((Uj y H*W:Nat):Int):=Ze;have s1:IntKind.i64.wrap ((Uj y H:Int)*(W:Int))=(Uj y H:Int)*(W:Int):=by
  rw [s0];exact Z4 _ ⟨Z8,Z8⟩
 have s2:IntKind.i64.wrap ((Uj y H:Int)*(W:Int)+(Uj x W:Int))=(k:Int):=by
  rw [s0,show((Uj y H*W:Nat):Int)+(Uj x W:Int)=(k:Int)by omega];exact Z4 _ ⟨Z8,Z8⟩
 clear s0;have HS:=Z5 s1 s2;have HH:=Z5 hb0 (Z9 m0 (Z9 M9 hn));clear hcell hk s1 s2 hb0 m0 M9 hn YZ;go_enter func160,ntmps160;go_wp2_with fail;refine R1.mono ?_;clear R1;rintro e w1 ⟨rfl,Y6⟩;have hb1:=HH.out.1.keep Y6 (fun h=>h);have c0:w1.cell? ↑w.heap.size=some ↑W:=hb1.cell 0;have c1:w1.cell? ⟨w.heap.size,1,none⟩=some ↑H:=hb1.cell 1;have c2:w1.cell? ⟨w.heap.size,2,none⟩=some (.slice (some ⟨b,off,none⟩) n c):=hb1.cell 2;have M1:=HH.out.2.1.trans Y6;have k1:w1.cell? ⟨b,off+k,none⟩=some (.int .u8 ((ZJ.getD k 0).toNat:Int)):=(ZV (M1.block b hb (fun h=>h))).trans HH.out.2.2.1;have HM:=Z7 M1;clear hb1 Y6 M1;have p1:(0:Int)<=(k:Int):=Z8;have p2:(k:Int)<(n:Int):=Z8;generalize (ZJ.getD k 0).toNat=px at *;go_upto_region 4 with(fail)
 obtain⟨s1,s2⟩:=HS.out;go_quiet ((go_at_call 220;exact Calls.quiet_of_same (aaO _ _ _ WL WL _)))
 clear s1 s2;go_wp2_with fail;go_ret;exact⟨by rw [HP.out];rfl,HM.out.drewN _⟩
theorem Kh(w:World)(v:Int):Calls prog 316 #[↑v] w fun e w'=>e=.returned (.int .u8 ((XM v:Nat):Int))/\w=w':=by
 unfold XM;by_cases h1:v<0
 ·rw [if_pos h1];go_enter func316,ntmps316;go_wp2_with fail;go_ret;exact⟨rfl,rfl⟩
 ·rw [if_neg h1];by_cases h2:255<v
  ·rw [if_pos h2];go_enter func316,ntmps316;go_wp2_with fail;go_ret;exact⟨rfl,rfl⟩
  ·rw [if_neg h2];have e3:v % 256=((v.toNat:Nat):Int):=Z8;have e4:v=((v.toNat:Nat):Int):=Z8;generalize v.toNat=n at *;subst e4;clear e3;go_enter func316,ntmps316;go_wp2_with fail;go_ret;exact⟨rfl,rfl⟩
theorem adM(g:List UInt8)(r:List Int):Hg g r=(Zz g.length).map fun i=>Zl (Qs g r i):=by
 unfold Hg oV;refine List.map_congr_left fun i hi=>?_;rw [if_pos (List.mem_range.1 hi)]
def UT(g:List UInt8)(r:List Int)(k:Nat):List UInt8:=(Zz k).map fun i=>Zl (Qs g r i)
theorem Kq(g:List UInt8)(r:List Int)(k:Nat):UT g r (k+1)=UT g r k++[Zl (Qs g r k)]:=by simp [UT,Y9]
def adU(w:World)(g:List UInt8)(r:List Int)(v i:Value)(wr:World):Prop:=
 ∃k:Nat,k<=g.length/\i=↑k/\Bytes wr w.heap.size v (UT g r k)/\Mod ↑ZW w wr
theorem wE(v:Int)(h:255<=v):XM v=255:=by unfold XM;rw [Xb];split<;>omega
theorem wF(v:Int)(h:v<=0):XM v=0:=by unfold XM;split;rfl;rw [Xb];omega
theorem afd(x:Nat)(y:Int)(hx:x<256):XM ((x:Int)+min (max y (-255)) 255)=XM ((x:Int)+min (max y (-300)) 300):=by
 by_cases h1:y < -255
 ·rw [wF _ Z8,wF _ Z8]
 ·by_cases h2:255<y
  ·rw [wE _ Z8,wE _ Z8]
  ·rw [show min (max y (-255)) 255=y by omega,show min (max y (-300)) 300=y by omega]
theorem ac1(w:World)(A:Option Addr)(n c:Nat)(g:List UInt8)(A2:Option Addr)(c2:Nat)(r:List Int)(YZ:BytesIn w A n c g)(Vr:IntsIn w A2 n c2 r)(JD:0<n)(hn:n<=1048576):
  Calls prog 246 #[.slice A n c,.slice A2 n c2] w fun e w'=>∃v,e=.returned v/\Bytes w' w.heap.size v (Hg g r)/\Mod ↑ZW w w':=by
 obtain⟨i0,hi0,hz0,hz1,hz2⟩:=info_parts Pf;obtain rfl:g.length=n:=YZ.1;obtain⟨b,off,rfl,hb,hc⟩:=YZ.place JD;obtain⟨b2,Iq,rfl,hb2,hc2⟩:=Vr.place JD;have HC:=Z5 hc hc2;clear hc hc2 YZ Vr;go_enter func246,ntmps246;go_wp2_with fail;go_loopw [5,6] (adU w g r) (fun _ i _=>g.length-(intOf i).toNat)
 case atStart=>exact⟨0,Z8,rfl,Yl _ _ _ _,Mod.refl _ _⟩
 case round=>
  obtain⟨k,hk,rfl,hrow,hM⟩:=hrel;by_cases hlt:k<g.length
  ·have M9:wr.cell? ⟨b,off+k,none⟩=some (.int .u8 ((g.getD k 0).toNat:Int)):=(ZV (hM.block b hb (fun h=>h))).trans (HC.out.1 k hlt);have Lm:wr.cell? ⟨b2,Iq+k,none⟩=some (.int .i64 (r.getD k 0)):=(ZV (hM.block b2 hb2 (fun h=>h))).trans (HC.out.2 k hlt);have hx:(g.getD k 0).toNat<256:=ZN _;have Og:Hid (Qs g r k=XM (((g.getD k 0).toNat:Int)+min (max (r.getD k 0) (-300)) 300)):=afd _ _ hx;generalize (g.getD k 0).toNat=x at *;generalize r.getD k 0=y at *;have i1:(0:Int)<=(k:Int):=Z8;have i2:(k:Int)<(g.length:Int):=Z8;obtain⟨A5,c5,hv5⟩:=ZG hrow;subst hv5;have hlk:(UT g r k).length=k:=by simp [UT]
   have Br:=Y8 _ _ M9;have zO:=Y8 _ _ Lm;have hrow':wr.ownsRow w.heap.size 5 1 (.slice A5 k c5) k (Yw (UT g r k)):=by
    unfold Bytes at hrow;rwa [hlk]at hrow
   have HB:=Z5 hrow' hM;rw [hlk];clear hlk hrow hrow' hM;obtain⟨z,hz,hz2'⟩:∃z,z=min (max y (-300)) 300 /\ -300<=z/\z<=300:=⟨_,rfl,Z8,Z8⟩
   rw [<-hz]at Og;have y1:IntKind.i64.wrap ((x:Int)+z)=(x:Int)+z:=Z4 _ ⟨Z8,Z8⟩;have q1:k+1<=maxLen:=by unfold maxLen;omega
   have q2:(k+1)*1<=140737488355328:=Z8;have q3:∀o,w.heap.size<=((wr.drew).alloc o).heap.size:=fun o=>by have:=HB.out.2.size;simp;omega
   have q4:¬(Xi A5 k c5).ownBlock=some b:=fun e=>by have:=(HB.out.1.lt b e).1;omega
   have q5:¬(Xi A5 k c5).ownBlock=some b2:=fun e=>by have:=(HB.out.1.lt b2 e).1;omega
   have HX:=Z5 q1 (Z9 q2 (Z9 (q3 (.cells #[.int .u8 ((XM ((x:Int)+z):Nat):Int)] 5)) (Z9 q4 q5)));clear q1 q2 q3 q4 q5;have hy:y < -300\/300<y\/(-300<=y/\y<=300):=Z8;have hy':y < -300\/(¬y < -300/\300<y)\/(¬y < -300/\¬300<y):=Z8;clear hy;rcases hy' with hy|⟨Bt,sM⟩|⟨Bt,sM⟩
   ·have ez:(x:Int) + -300=(x:Int)+z:=Z8;have y2:IntKind.i64.wrap (IntKind.i64.wrap (x:Int) + -300)=(x:Int)+z:=by rw [Z4 (x:Int) ⟨Z8,Z8⟩,ez];exact y1
    have HV:Hid (XM ((x:Int)+z)=Qs g r k):=Og.out.symm;have jH:=PO ((x:Int)+z);clear ez hz y1 Og;go_upto_region 7 with(fail)
    have ka:((wr.drew).alloc (.cells #[.int .u8 ((XM ((x:Int)+z):Nat):Int)] 5)).cell? ⟨b,off+k,none⟩=some (.int .u8 (x:Int))/\((wr.drew).alloc (.cells #[.int .u8 ((XM ((x:Int)+z):Nat):Int)] 5)).cell? ⟨b2,Iq+k,none⟩=some ↑y:=⟨(Yn _ _ _ Br).trans M9,(Yn _ _ _ zO).trans Lm⟩
    go_region_held3 (fun w'=>w'.cell? ⟨b,off+k,none⟩=some (.int .u8 (x:Int))/\w'.cell? ⟨b2,Iq+k,none⟩=some ↑y) (first|exact⟨M9,Lm⟩|exact ka|exact kb) (first
     | (go_at_call 316;refine(Kh _ _).mono ?_;rintro e w3 ⟨rfl,rfl⟩)
     | (refine TE _ (by rfl) _ _ _ (by rfl) w.heap.size 5 i0 _ 1 1 underlying54 hi0 hz0 hz1 hz2 rfl (by omega) (.slice A5 k c5) k (Yw (UT g r k)) (by rfl) (XT HB.out.1 (((Mod.refl (fun _=>False) wr).drew).alloc _) (fun _ _ h=>h)) (some ↑wr.heap.size) 1 1 [.int .u8 ((XM ((x:Int)+z):Nat):Int)] (by rfl) (Src.new wr.drew 5 [.int .u8 ((XM ((x:Int)+z):Nat):Int)]) (fun h=>by cases h) (fun u hu=>by rw [List.mem_singleton.1 hu];rfl) HX.out.1 HX.out.2.1 HX.out.2.2.1 ?_;intro v4 w4 Ws hg4 Dm;have Ma:Mod (fun j=>(Xi A5 k c5).ownBlock=some j) wr w4:=(((Mod.refl _ _).drew).alloc _).grown hg4 (fun j hj=>.inl hj);have kb:w4.cell? ⟨b,off+k,none⟩=some (.int .u8 (x:Int))/\w4.cell? ⟨b2,Iq+k,none⟩=some ↑y:=⟨(ZV (Ma.block b Br HX.out.2.2.2.1)).trans M9,(ZV (Ma.block b2 zO HX.out.2.2.2.2)).trans Lm⟩;have HO:=Z5 Ws Ma;clear Ws hg4 Dm Ma))
    go_wp2_with fail;go_roundw
    case rel=>
     obtain⟨Ws,Ma⟩:=HO.out;refine⟨k+1,Z8,Zr,?_,HB.out.2.into Ma (fun i e=>.inr (HB.out.1.lt i e).1)⟩;have e8:Yw (UT g r (k+1))=Yw (UT g r k)++[.int .u8 ((XM ((x:Int)+z):Nat):Int)]:=by
      have e9:(Zl (Qs g r k)).toNat=XM ((x:Int)+z):=by rw [<-HV.out,Yq];omega
      rw [Kq];simp [Yw,e9]
     unfold Bytes;rw [e8,show(UT g r (k+1)).length=k+1 by simp [UT]];exact Ws
    case measure=>exact YD
   ·have ez:(x:Int)+300=(x:Int)+z:=Z8;have y2:IntKind.i64.wrap (IntKind.i64.wrap (x:Int)+300)=(x:Int)+z:=by rw [Z4 (x:Int) ⟨Z8,Z8⟩,ez];exact y1
    have HV:Hid (XM ((x:Int)+z)=Qs g r k):=Og.out.symm;have jH:=PO ((x:Int)+z);clear ez hz y1 Og;go_upto_region 7 with(fail)
    have ka:((wr.drew).alloc (.cells #[.int .u8 ((XM ((x:Int)+z):Nat):Int)] 5)).cell? ⟨b,off+k,none⟩=some (.int .u8 (x:Int))/\((wr.drew).alloc (.cells #[.int .u8 ((XM ((x:Int)+z):Nat):Int)] 5)).cell? ⟨b2,Iq+k,none⟩=some ↑y:=⟨(Yn _ _ _ Br).trans M9,(Yn _ _ _ zO).trans Lm⟩
    go_region_held3 (fun w'=>w'.cell? ⟨b,off+k,none⟩=some (.int .u8 (x:Int))/\w'.cell? ⟨b2,Iq+k,none⟩=some ↑y) (first|exact⟨M9,Lm⟩|exact ka|exact kb) (first
     | (go_at_call 316;refine(Kh _ _).mono ?_;rintro e w3 ⟨rfl,rfl⟩)
     | (refine TE _ (by rfl) _ _ _ (by rfl) w.heap.size 5 i0 _ 1 1 underlying54 hi0 hz0 hz1 hz2 rfl (by omega) (.slice A5 k c5) k (Yw (UT g r k)) (by rfl) (XT HB.out.1 (((Mod.refl (fun _=>False) wr).drew).alloc _) (fun _ _ h=>h)) (some ↑wr.heap.size) 1 1 [.int .u8 ((XM ((x:Int)+z):Nat):Int)] (by rfl) (Src.new wr.drew 5 [.int .u8 ((XM ((x:Int)+z):Nat):Int)]) (fun h=>by cases h) (fun u hu=>by rw [List.mem_singleton.1 hu];rfl) HX.out.1 HX.out.2.1 HX.out.2.2.1 ?_;intro v4 w4 Ws hg4 Dm;have Ma:Mod (fun j=>(Xi A5 k c5).ownBlock=some j) wr w4:=(((Mod.refl _ _).drew).alloc _).grown hg4 (fun j hj=>.inl hj);have kb:w4.cell? ⟨b,off+k,none⟩=some (.int .u8 (x:Int))/\w4.cell? ⟨b2,Iq+k,none⟩=some ↑y:=⟨(ZV (Ma.block b Br HX.out.2.2.2.1)).trans M9,(ZV (Ma.block b2 zO HX.out.2.2.2.2)).trans Lm⟩;have HO:=Z5 Ws Ma;clear Ws hg4 Dm Ma))
    go_wp2_with fail;go_roundw
    case rel=>
     obtain⟨Ws,Ma⟩:=HO.out;refine⟨k+1,Z8,Zr,?_,HB.out.2.into Ma (fun i e=>.inr (HB.out.1.lt i e).1)⟩;have e8:Yw (UT g r (k+1))=Yw (UT g r k)++[.int .u8 ((XM ((x:Int)+z):Nat):Int)]:=by
      have e9:(Zl (Qs g r k)).toNat=XM ((x:Int)+z):=by rw [<-HV.out,Yq];omega
      rw [Kq];simp [Yw,e9]
     unfold Bytes;rw [e8,show(UT g r (k+1)).length=k+1 by simp [UT]];exact Ws
    case measure=>exact YD
   ·have ez:(x:Int)+y=(x:Int)+z:=Z8;have y2:IntKind.i64.wrap (IntKind.i64.wrap (x:Int)+y)=(x:Int)+z:=by rw [Z4 (x:Int) ⟨Z8,Z8⟩,ez];exact y1
    have HV:Hid (XM ((x:Int)+z)=Qs g r k):=Og.out.symm;have jH:=PO ((x:Int)+z);clear ez hz y1 Og;go_upto_region 7 with(fail)
    have ka:((wr.drew).alloc (.cells #[.int .u8 ((XM ((x:Int)+z):Nat):Int)] 5)).cell? ⟨b,off+k,none⟩=some (.int .u8 (x:Int))/\((wr.drew).alloc (.cells #[.int .u8 ((XM ((x:Int)+z):Nat):Int)] 5)).cell? ⟨b2,Iq+k,none⟩=some ↑y:=⟨(Yn _ _ _ Br).trans M9,(Yn _ _ _ zO).trans Lm⟩
    go_region_held3 (fun w'=>w'.cell? ⟨b,off+k,none⟩=some (.int .u8 (x:Int))/\w'.cell? ⟨b2,Iq+k,none⟩=some ↑y) (first|exact⟨M9,Lm⟩|exact ka|exact kb) (first
     | (go_at_call 316;refine(Kh _ _).mono ?_;rintro e w3 ⟨rfl,rfl⟩)
     | (refine TE _ (by rfl) _ _ _ (by rfl) w.heap.size 5 i0 _ 1 1 underlying54 hi0 hz0 hz1 hz2 rfl (by omega) (.slice A5 k c5) k (Yw (UT g r k)) (by rfl) (XT HB.out.1 (((Mod.refl (fun _=>False) wr).drew).alloc _) (fun _ _ h=>h)) (some ↑wr.heap.size) 1 1 [.int .u8 ((XM ((x:Int)+z):Nat):Int)] (by rfl) (Src.new wr.drew 5 [.int .u8 ((XM ((x:Int)+z):Nat):Int)]) (fun h=>by cases h) (fun u hu=>by rw [List.mem_singleton.1 hu];rfl) HX.out.1 HX.out.2.1 HX.out.2.2.1 ?_;intro v4 w4 Ws hg4 Dm;have Ma:Mod (fun j=>(Xi A5 k c5).ownBlock=some j) wr w4:=(((Mod.refl _ _).drew).alloc _).grown hg4 (fun j hj=>.inl hj);have kb:w4.cell? ⟨b,off+k,none⟩=some (.int .u8 (x:Int))/\w4.cell? ⟨b2,Iq+k,none⟩=some ↑y:=⟨(ZV (Ma.block b Br HX.out.2.2.2.1)).trans M9,(ZV (Ma.block b2 zO HX.out.2.2.2.2)).trans Lm⟩;have HO:=Z5 Ws Ma;clear Ws hg4 Dm Ma))
    go_wp2_with fail;go_roundw
    case rel=>
     obtain⟨Ws,Ma⟩:=HO.out;refine⟨k+1,Z8,Zr,?_,HB.out.2.into Ma (fun i e=>.inr (HB.out.1.lt i e).1)⟩;have e8:Yw (UT g r (k+1))=Yw (UT g r k)++[.int .u8 ((XM ((x:Int)+z):Nat):Int)]:=by
      have e9:(Zl (Qs g r k)).toNat=XM ((x:Int)+z):=by rw [<-HV.out,Yq];omega
      rw [Kq];simp [Yw,e9]
     unfold Bytes;rw [e8,show(UT g r (k+1)).length=k+1 by simp [UT]];exact Ws
    case measure=>exact YD
  ·obtain rfl:k=g.length:=Z8;have HB:=Z5 hrow hM;obtain⟨A5,c5,hv5⟩:=ZG hrow;subst hv5;clear hrow hM;go_wp2_with fail;go_ret;refine⟨_,rfl,?_,HB.out.2⟩;rw [adM];exact HB.out.1
def G5(W H:Nat)(ZJ:List UInt8)(x y:Int):Nat:=if x<0 then 128 else if y<0 then 128 else if(W:Int)<=x then 128 else if(H:Int)<=y then 128 else(ZJ.getD (y.toNat*W+x.toNat) 0).toNat
theorem I5(W H:Nat)(ZJ:List UInt8)(x y:Int):G5 W H ZJ x y<256:=by
 unfold G5;repeat(split;· omega)
 exact ZN _
theorem yS(W H:Nat)(ZJ:List UInt8)(x y:Nat)(hx:x<W)(hy:y<H):G5 W H ZJ (x:Int) (y:Int)=(ZJ.getD (y*W+x) 0).toNat:=by
 unfold G5;rw [Xb,Xb,Xb,Xb,Int.toNat_natCast,Int.toNat_natCast]
theorem uh{W H:Nat}(ZJ:List UInt8){x y i:Nat}(hx:x+8<=W)(hy:y+8<=H)(hi:i<8):G5 W H ZJ ((x:Int)+(i:Int)) ((y:Int)-1)=((Va W ZJ x y).getD i 0).toNat:=by
 have e:(Va W ZJ x y).getD i 0=if 0<y then ZJ.getD (y*W+x-W+i) 0 else 128:=by simp [Va,hi]
 rw [e];by_cases h:0<y
 ·obtain⟨z,rfl⟩:∃z,y=z+1:=⟨y-1,Z8⟩
  rw [if_pos h,show((z+1:Nat):Int)-1=((z:Nat):Int)by omega,show(x:Int)+(i:Int)=((x+i:Nat):Int)by omega,yS _ _ _ _ _ Z8 Z8];rw [show(z+1)*W+x-W+i=z*W+(x+i)by rw [Y5,Ym];omega]
 ·rw [if_neg h];unfold G5;rw [Xb,VI];rfl
theorem ui{W H:Nat}(ZJ:List UInt8){x y j:Nat}(hx:x+8<=W)(hy:y+8<=H)(hj:j<8):G5 W H ZJ ((x:Int)-1) ((y:Int)+(j:Int))=((UX W ZJ x y).getD j 0).toNat:=by
 have e:(UX W ZJ x y).getD j 0=if 0<x then ZJ.getD (y*W+x+j*W-1) 0 else 128:=by simp [UX,hj]
 rw [e];by_cases h:0<x
 ·obtain⟨z,rfl⟩:∃z,x=z+1:=⟨x-1,Z8⟩
  rw [if_pos h,show((z+1:Nat):Int)-1=((z:Nat):Int)by omega,show(y:Int)+(j:Int)=((y+j:Nat):Int)by omega,yS _ _ _ _ _ Z8 Z8];rw [show y*W+(z+1)+j*W-1=(y+j)*W+z by rw [Y5];omega]
 ·rw [if_neg h];unfold G5;rw [VI];rfl
theorem ag4{W H:Nat}(ZJ:List UInt8){x y:Nat}(hx:x+8<=W)(hy:y+8<=H):G5 W H ZJ ((x:Int)-1) ((y:Int)-1)=(O4 W ZJ x y).toNat:=by
 unfold O4;by_cases h:0<x/\0<y
 ·obtain⟨z,rfl⟩:∃z,x=z+1:=⟨x-1,Z8⟩
  obtain⟨u,rfl⟩:∃u,y=u+1:=⟨y-1,Z8⟩
  rw [if_pos h,show((z+1:Nat):Int)-1=((z:Nat):Int)by omega,show((u+1:Nat):Int)-1=((u:Nat):Int)by omega,yS _ _ _ _ _ Z8 Z8];rw [show(u+1)*W+(z+1)-W-1=u*W+z by rw [Y5,Ym];omega]
 ·rw [if_neg h];unfold G5;by_cases hz:x=0
  ·rw [VI];rfl
  ·rw [Xb,VI];rfl
theorem ag3{W xn yn m k n:Nat}(hm:m=yn*W)(hk:k=m+xn)(xy:k<n)(hn:n<=16777216):wrap64 (wrap64 ((yn:Int)*(W:Int))+(xn:Int))=(k:Int):=by
 rw [show(yn:Int)*(W:Int)=(m:Int)by rw [hm];simp,ZA (m:Int) ⟨Z8,Z8⟩,show(m:Int)+(xn:Int)=(k:Int)by omega];exact ZA _ ⟨Z8,Z8⟩
theorem gU(w:World)(W H:Nat)(A:Option Addr)(n c:Nat)(ZJ:List UInt8)(h:Yx W H=true)(hn:n=W*H)(YZ:BytesIn w A n c ZJ)(x y:Int):
  Calls prog 373 #[.agg #[↑W,↑H,.slice A n c],↑x,↑y] w fun e w'=>e=.returned ↑(G5 W H ZJ x y:Nat)/\Mod ↑ZW w w':=by
 obtain⟨ha,h1,h2,h3,h4,h5⟩:=YB h;rw [<-hn]at ha h5;have m0:Mod ↑ZW w (w.alloc (.cells #[↑W,↑H,.slice A n c] 56)):=(Mod.refl _ _).alloc _;have hr:G5 W H ZJ x y=G5 W H ZJ x y:=rfl
 conv at hr=>rhs;unfold G5
 have HR:=Z5 hr m0;clear hr m0;by_cases c1:x<0
 ·have d1:decide (x<0)=true:=decide_eq_true c1;have HR:=Z5 (HR.out.1.trans (if_pos c1)) HR.out.2;clear c1 h YZ hn;go_enter func373,ntmps373;go_wp2_with fail;go_ret;exact⟨by rw [HR.out.1];rfl,HR.out.2⟩
 have d1:decide (x<0)=false:=decide_eq_false c1;have HR:=Z5 (HR.out.1.trans (if_neg c1)) HR.out.2;by_cases c2:y<0
 ·have d2:decide (y<0)=true:=decide_eq_true c2;have HR:=Z5 (HR.out.1.trans (if_pos c2)) HR.out.2;clear c1 c2 h YZ hn;go_enter func373,ntmps373;go_wp2_with fail;go_ret;exact⟨by rw [HR.out.1];rfl,HR.out.2⟩
 have d2:decide (y<0)=false:=decide_eq_false c2;have HR:=Z5 (HR.out.1.trans (if_neg c2)) HR.out.2;by_cases c3:(W:Int)<=x
 ·have d3:decide ((W:Int)<=x)=true:=decide_eq_true c3;have HR:=Z5 (HR.out.1.trans (if_pos c3)) HR.out.2;clear c1 c2 c3 h YZ hn;go_enter func373,ntmps373;go_wp2_with fail;go_ret;exact⟨by rw [HR.out.1];rfl,HR.out.2⟩
 have d3:decide ((W:Int)<=x)=false:=decide_eq_false c3;have HR:=Z5 (HR.out.1.trans (if_neg c3)) HR.out.2;by_cases c4:(H:Int)<=y
 ·have d4:decide ((H:Int)<=y)=true:=decide_eq_true c4;have HR:=Z5 (HR.out.1.trans (if_pos c4)) HR.out.2;clear c1 c2 c3 c4 h YZ hn;go_enter func373,ntmps373;go_wp2_with fail;go_ret;exact⟨by rw [HR.out.1];rfl,HR.out.2⟩
 have d4:decide ((H:Int)<=y)=false:=decide_eq_false c4;have HR:=Z5 (HR.out.1.trans (if_neg c4)) HR.out.2;obtain⟨xn,rfl⟩:=Int.eq_ofNat_of_zero_le (Int.not_lt.1 c1);obtain⟨yn,rfl⟩:=Int.eq_ofNat_of_zero_le (Int.not_lt.1 c2);obtain⟨b,off,hA,hb,hcell⟩:=YZ.place Z8;subst hA;obtain⟨m,hm⟩:=ZL (yn*W);have xy:m+xn<n:=by
  have h6:(yn+1)*W<=H*W:=Nat.mul_le_mul_right W Z8;rw [Y5,Ym,YA H W,<-hn,<-hm]at h6;omega
 have HP:Hid (G5 W H ZJ (xn:Int) (yn:Int)=(ZJ.getD (m+xn) 0).toNat):=by show _=_;rw [hm];exact yS W H ZJ xn yn Z8 Z8
 have k1:(w.alloc (.cells #[↑W,↑H,.slice (some ⟨b,off,none⟩) n c] 56)).cell? ⟨b,off+(m+xn),none⟩=some (.int .u8 ((ZJ.getD (m+xn) 0).toNat:Int)):=(ZV (HR.out.2.block b hb (fun h=>h))).trans (hcell _ xy);obtain⟨k,hk⟩:=ZL (m+xn);rw [<-hk]at k1 HP xy;have n3:=Za (W<=xn);have n4:=Za (H<=yn);have he:=ag3 hm hk xy ha;have p1:(0:Int)<=(k:Int):=Int.natCast_nonneg _;have p2:(k:Int)<(n:Int):=Int.ofNat_lt.2 xy;have x0:(ZJ.getD k 0).toNat<256:=ZN _;generalize (ZJ.getD k 0).toNat=px at *;have HM:=Z5 HR.out.2 hn;clear hm hcell YZ c1 c2 c3 c4 hk hn HR;go_enter func373,ntmps373;go_wp2_with fail;go_ret;exact⟨by rw [HP.out];rfl,HM.out.1⟩
def ajB(w:World)(p:Nat)(cs:Array Value)(ab lf:List UInt8)(s15 s16:Value)(wr:World):Prop:=
 ∃k:Nat,k<=8/\s16=↑k/\s15=↑(rX ab lf k:Nat)/\Sat ↑ZW w wr [⟨p,56,cs⟩] []
theorem adD(w:World)(W H:Nat)(A:Option Addr)(n c:Nat)(ZJ:List UInt8)(h:Yx W H=true)(hn:n=W*H)(YZ:BytesIn w A n c ZJ)(x y m i j:Nat)(hx:x+8<=W)(hy:y+8<=H)(hm:m<4)(hi:i<8)(hj:j<8):
  Calls prog 312 #[.agg #[↑W,↑H,.slice A n c],↑x,↑y,.int .i64 8,↑m,↑i,↑j] w fun e w'=>e=.returned (.int .u8 ((dN m (Va W ZJ x y) (UX W ZJ x y) (O4 W ZJ x y) i j:Nat):Int))/\Mod ↑ZW w w':=by
 obtain⟨_,hW1,hW2,hH1,qi,_⟩:=YB h;have HI:=Z5 h (Z9 hn YZ);clear h hn YZ;have hc:m=0\/m=1\/m=2\/m=3:=Z8;have h0:=(Sat.nil ↑ZW w).alloc 56 #[↑W,↑H,.slice A n c] rfl;have H0:=Z7 h0;clear h0;rcases hc with rfl|rfl|rfl|rfl
 ·go_enter func312,ntmps312;go_wp2_with fail;go_loopw [15,16] (ajB w w.heap.size #[↑W,↑H,.slice A n c] (Va W ZJ x y) (UX W ZJ x y)) (fun _ s _=>8-(intOf s).toNat)
  case atStart=>exact⟨0,Z8,rfl,rfl,H0.out⟩
  case round=>
   clear H0;obtain⟨k,hk,rfl,rfl,HS⟩:=hrel;have Md:=zx (Va W ZJ x y) (UX W ZJ x y) k;by_cases hlt:k<8
   ·have d1:=Zb ((k:Int)<8);have XZ:=HS.drew;have hst:rX (Va W ZJ x y) (UX W ZJ x y) (k+1)=rX (Va W ZJ x y) (UX W ZJ x y) k+(((Va W ZJ x y).getD k 0).toNat+((UX W ZJ x y).getD k 0).toNat):=rfl;rw [<-uh ZJ hx hy hlt,<-ui ZJ hx hy hlt]at hst;have b1:=I5 W H ZJ ((x:Int)+(k:Int)) ((y:Int)-1);have b2:=I5 W H ZJ ((x:Int)-1) ((y:Int)+(k:Int));have e1:IntKind.i64.wrap ((x:Int)+(k:Int))=(x:Int)+(k:Int):=Z4 _ ⟨Z8,Z8⟩;have e2:IntKind.i64.wrap ((y:Int)-1)=(y:Int)-1:=Z4 _ ⟨Z8,Z8⟩;have e3:IntKind.i64.wrap ((x:Int)-1)=(x:Int)-1:=Z4 _ ⟨Z8,Z8⟩;have e4:IntKind.i64.wrap ((y:Int)+(k:Int))=(y:Int)+(k:Int):=Z4 _ ⟨Z8,Z8⟩;obtain⟨z,hz⟩:=ZL (rX (Va W ZJ x y) (UX W ZJ x y) k);rw [<-hz]at Md hst ⊢;have HK:=Z5 HS hst;have HE:=Z5 e1 (Z9 e2 (Z9 e3 e4));clear HS hst hz e1 e2 e3 e4;go_upto_region 7 with(fail)
    obtain⟨e1,e2,e3,e4⟩:=HE.out;go_region_held3 (fun w'=>w'.cell? ↑w.heap.size=some ↑W/\w'.cell? ⟨w.heap.size,1,none⟩=some ↑H/\w'.cell? ⟨w.heap.size,2,none⟩=some (.slice A n c)) (first|exact P5 (XZ.ZX 0 rfl)|exact P5 (HK.out.1.ZX 0 rfl)) (first|(go_at_call 373;refine YX (gU _ W H A n c ZJ HI.out.1 HI.out.2.1 (HI.out.2.2.quiet XZ.mod) _ _) fun w2 Y3=>?_;have XZ:=XZ.quiet Y3;clear Y3))
    have H1:=Z7 XZ;clear XZ e1 e2 e3 e4;generalize G5 W H ZJ ((x:Int)+(k:Int)) ((y:Int)-1)=u at *;generalize G5 W H ZJ ((x:Int)-1) ((y:Int)+(k:Int))=v at *;rw [Z4 ((z:Int)+(u:Int)) ⟨Z8,Z8⟩,Z4 ((z:Int)+(u:Int)+(v:Int)) ⟨Z8,Z8⟩];go_wp2_with fail;go_roundw
    case rel=>
     (repeat apply Exists.intro)
     exact⟨⟨k+1,Z8,Zr,by rw [HK.out.2];go_num,H1.out⟩,rfl⟩
    case measure=>exact YD
   ·obtain rfl:k=8:=Z8;have HK:=Z7 HS;clear HS;obtain⟨z,hz⟩:=ZL (rX (Va W ZJ x y) (UX W ZJ x y) 8);rw [<-hz]at Md ⊢;have HZ:=Z7 hz;clear hz;go_wp2_with fail;go_ret;refine⟨congrArg (fun z=>Zq (.int .u8 z)) ?_,HK.out.mod⟩;show _=((Be (Va W ZJ x y) (UX W ZJ x y):Nat):Int)
    unfold Be;rw [<-HZ.out];omega
 ·have ha:=uh ZJ hx hy hi;have hl:=I5 W H ZJ ((x:Int)+(i:Int)) ((y:Int)-1);have HA:=Z7 ha;clear ha;go_enter func312,ntmps312;go_wp2_with fail;refine YX (gU _ W H A n c ZJ HI.out.1 HI.out.2.1 (HI.out.2.2.quiet H0.out.mod) _ _) fun w2 Y3=>?_;have V4:=Z7 (H0.out.quiet Y3);clear Y3;generalize hg:G5 W H ZJ ((x:Int)+(i:Int)) ((y:Int)-1)=u at *;have HG:=Z7 hg;clear hg;go_wp2_with fail;go_ret;exact⟨by show _=Zq (.int .u8 ((((Va W ZJ x y).getD i 0).toNat:Nat):Int));rw [<-HA.out];rfl,V4.out.mod⟩
 ·have ha:=ui ZJ hx hy hj;have hl:=I5 W H ZJ ((x:Int)-1) ((y:Int)+(j:Int));have HA:=Z7 ha;clear ha;go_enter func312,ntmps312;go_wp2_with fail;refine YX (gU _ W H A n c ZJ HI.out.1 HI.out.2.1 (HI.out.2.2.quiet H0.out.mod) _ _) fun w2 Y3=>?_;have V4:=Z7 (H0.out.quiet Y3);clear Y3;generalize hg:G5 W H ZJ ((x:Int)-1) ((y:Int)+(j:Int))=u at *;have HG:=Z7 hg;clear hg;go_wp2_with fail;go_ret;exact⟨by show _=Zq (.int .u8 ((((UX W ZJ x y).getD j 0).toNat:Nat):Int));rw [<-HA.out];rfl,V4.out.mod⟩
 ·have hst:dN 3 (Va W ZJ x y) (UX W ZJ x y) (O4 W ZJ x y) i j=XM ((((Va W ZJ x y).getD i 0).toNat:Int)+(((UX W ZJ x y).getD j 0).toNat:Int)-((O4 W ZJ x y).toNat:Int)):=rfl;rw [<-uh ZJ hx hy hi,<-ui ZJ hx hy hj,<-ag4 ZJ hx hy]at hst;have b1:=I5 W H ZJ ((x:Int)+(i:Int)) ((y:Int)-1);have b2:=I5 W H ZJ ((x:Int)-1) ((y:Int)+(j:Int));have b3:=I5 W H ZJ ((x:Int)-1) ((y:Int)-1);have e1:IntKind.i64.wrap ((x:Int)+(i:Int))=(x:Int)+(i:Int):=Z4 _ ⟨Z8,Z8⟩;have e2:IntKind.i64.wrap ((y:Int)-1)=(y:Int)-1:=Z4 _ ⟨Z8,Z8⟩;have e3:IntKind.i64.wrap ((x:Int)-1)=(x:Int)-1:=Z4 _ ⟨Z8,Z8⟩;have e4:IntKind.i64.wrap ((y:Int)+(j:Int))=(y:Int)+(j:Int):=Z4 _ ⟨Z8,Z8⟩;have e5:IntKind.i64.wrap ((G5 W H ZJ ((x:Int)+(i:Int)) ((y:Int)-1):Int)+(G5 W H ZJ ((x:Int)-1) ((y:Int)+(j:Int)):Int))=(G5 W H ZJ ((x:Int)+(i:Int)) ((y:Int)-1):Int)+(G5 W H ZJ ((x:Int)-1) ((y:Int)+(j:Int)):Int):=Z4 _ ⟨Z8,Z8⟩;have e6:IntKind.i64.wrap ((G5 W H ZJ ((x:Int)+(i:Int)) ((y:Int)-1):Int)+(G5 W H ZJ ((x:Int)-1) ((y:Int)+(j:Int)):Int)-(G5 W H ZJ ((x:Int)-1) ((y:Int)-1):Int))=(G5 W H ZJ ((x:Int)+(i:Int)) ((y:Int)-1):Int)+(G5 W H ZJ ((x:Int)-1) ((y:Int)+(j:Int)):Int)-(G5 W H ZJ ((x:Int)-1) ((y:Int)-1):Int):=Z4 _ ⟨Z8,Z8⟩;have HK:=Z7 hst;have HE:=Z5 e1 (Z9 e2 (Z9 e3 (Z9 e4 (Z9 e5 e6))));clear hst e1 e2 e3 e4 e5 e6;have XZ:=H0.out.drew;go_enter func312,ntmps312;go_upto_region 13 with(fail)
  obtain⟨e1,e2,e3,e4,e5,e6⟩:=HE.out
  go_region_held3 (fun w'=>w'.cell? ↑w.heap.size=some ↑W/\w'.cell? ⟨w.heap.size,1,none⟩=some ↑H/\w'.cell? ⟨w.heap.size,2,none⟩=some (.slice A n c)) (first|exact P5 (XZ.ZX 0 rfl)|exact P5 (H0.out.ZX 0 rfl)) (first
   | (go_at_call 373;refine YX (gU _ W H A n c ZJ HI.out.1 HI.out.2.1 (HI.out.2.2.quiet XZ.mod) _ _) fun w2 Y3=>?_;have XZ:=XZ.quiet Y3;clear Y3)
   | (go_at_call 316;refine(Kh _ _).mono ?_;rintro e w3 ⟨rfl,rfl⟩))
  have H1:=Z7 XZ;clear XZ e1 e2 e3 e4 e5 e6;go_wp2_with fail;go_ret;exact⟨by rw [HK.out];rfl,H1.out.mod⟩
def VZ(f:Nat->UInt8)(k:Nat):List UInt8:=(Zz k).map f
theorem P7(f:Nat->UInt8)(k:Nat):VZ f (k+1)=VZ f k++[f k]:=by simp [VZ,Y9]
theorem RL(f:Nat->UInt8)(k:Nat):(VZ f k).length=k:=by simp [VZ]
def GrowAt(w wr:World)(p:Nat)(cs:Array Value)(v:Value)(l:List UInt8):Prop:=Bytes wr w.heap.size v l/\ZI wr p 56 cs/\Mod ↑ZW w wr
theorem GrowAt.quiet{w wr w':World}{p:Nat}{cs:Array Value}{v:Value}{l:List UInt8}(h:GrowAt w wr p cs v l)(hm:Mod ↑ZW wr w'):GrowAt w w' p cs v l:=⟨h.1.quiet hm,h.2.1.keep hm (fun h=>h),h.2.2.trans hm⟩
theorem GrowAt.app{w wr w':World}{p:Nat}{cs:Array Value}{v v':Value}{l l':List UInt8}(h:GrowAt w wr p cs v l)(ho:Bytes w' w.heap.size v' l')(hm:Mod (fun j=>v.ownBlock=some j) wr w'):GrowAt w w' p cs v' l':=
 ⟨ho,h.2.1.keep hm (h.1.apart h.2.1 (show 56≠5 by decide)),h.2.2.into hm (fun i e=>.inr (World.ownsRow.lt h.1 i e).1)⟩
def FG1(w:World)(p:Nat)(cs:Array Value)(f:Nat->UInt8)(v13 v14:Value)(wr:World):Prop:=∃j:Nat,j<=8/\v14=↑j/\GrowAt w wr p cs v13 (VZ f (j*8))
def FG2(w:World)(p:Nat)(cs:Array Value)(f:Nat->UInt8)(j:Nat)(v13 v15:Value)(wr:World):Prop:=∃i:Nat,i<=8/\v15=↑i/\GrowAt w wr p cs v13 (VZ f (j*8+i))
theorem ll(w:World)(W H:Nat)(A:Option Addr)(n c:Nat)(ZJ:List UInt8)(h:Yx W H=true)(hn:n=W*H)(YZ:BytesIn w A n c ZJ)(x y m:Nat)(hx:x+8<=W)(hy:y+8<=H)(hm:m<4):
  Calls prog 235 #[.agg #[↑W,↑H,.slice A n c],↑x,↑y,.int .i64 8,↑m] w
   fun e w'=>∃v,e=.returned (.tuple #[v,↑Z0])/\Bytes w' w.heap.size v (TQ W ZJ x y m)/\Mod ↑ZW w w':=by
 obtain⟨_,hW1,hW2,hH1,qi,_⟩:=YB h;have HI:=Z5 h (Z9 hn YZ);clear h YZ hn;have t1:=Za ((x:Int)<0);have t2:=Za ((W:Int)-8<(x:Int));have t3:=Za ((y:Int)<0);have t4:=Za ((H:Int)-8<(y:Int));have t5:=Za ((m:Int)<0);have t6:=Za (3<(m:Int));have h0:=(Sat.nil ↑ZW w).alloc 56 #[↑W,↑H,.slice A n c] rfl;have H0:=Z7 h0;clear h0;go_enter func235,ntmps235;go_wp2_with fail;refine YX (Ur _ W H A n c HI.out.1 HI.out.2.1) fun w1 Y6=>?_;have HS:=H0.out.quiet Y6;obtain⟨pc,pf⟩:=(HS.ZX 0 rfl).both;have qV:Hid (GrowAt w w1 w.heap.size #[↑W,↑H,.slice A n c] ↑Zd (VZ (Ov W ZJ x y m) (0*8))):=⟨Yl _ _ _ _,HS.ZX 0 rfl,HS.mod⟩
 clear Y6 HS H0;go_wp2_with fail;go_loopw [13,14] (FG1 w w.heap.size #[↑W,↑H,.slice A n c] (Ov W ZJ x y m)) (fun _ s _=>8-(intOf s).toNat)
 case atStart=>exact⟨0,Z8,rfl,qV.out⟩
 case round=>
  clear qV pc pf;obtain⟨j,hj,rfl,hG⟩:=hrel;have HG:=Z7 hG;clear hG;by_cases hlt:j<8
  ·have d1:=Zb ((j:Int)<8);go_wp2_with fail;go_loopw [13,15] (FG2 w w.heap.size #[↑W,↑H,.slice A n c] (Ov W ZJ x y m) j) (fun _ s _=>8-(intOf s).toNat)
   case atStart=>exact⟨0,Z8,rfl,HG.out⟩
   case round=>
    clear HG;rename World=>w5
    obtain⟨i,hi,rfl,hG⟩:=hrel;by_cases Pq:i<8
    ·have d2:=Zb ((i:Int)<8);obtain⟨pc,pf⟩:=hG.2.1.both;have Bn:dN m (Va W ZJ x y) (UX W ZJ x y) (O4 W ZJ x y) i j=(Ov W ZJ x y m (j*8+i)).toNat:=by
      rw [wT,show(j*8+i) % 8=i by omega,show(j*8+i)/8=j by omega]
     have HK:=Z5 hG Bn;clear hG Bn;go_wp2_with fail;refine YX (adD _ W H A n c ZJ HI.out.1 HI.out.2.1 (HI.out.2.2.quiet HK.out.1.2.2) x y m i j hx hy hm Pq hlt) fun w6 Xt=>?_;rw [HK.out.2];have HA:=Z5 (HK.out.1.quiet Xt) ((HK.out.1.quiet Xt).2.2.size);clear Xt pc pf;go_wp2_with (at_builtin;have _t:=HA;refine VR _ rfl (.tmp 68) (.tmp 77) rfl w.heap.size _ (VZ (Ov W ZJ x y m) (j*8+i)) (Ov W ZJ x y m (j*8+i)) rfl rfl HA.out.1.1 HA.out.2 (by rw [RL];omega) ?_;intro v7 w7 NK Bi _ _;have HO:=Z7 (HA.out.1.app NK Bi);clear NK Bi)
     go_roundw
     case rel=>exact⟨i+1,Z8,Zr,by rw [<-Nat.add_assoc,P7];exact HO.out⟩
     case measure=>exact YD
    ·obtain rfl:i=8:=Z8;have HK:=Z7 hG;clear hG;go_wp2_with fail;go_roundw
     case rel=>exact⟨j+1,Z8,Zr,by rw [Y5,Ym];exact HK.out⟩
     case measure=>exact YD
  ·obtain rfl:j=8:=Z8;go_wp2_with fail;go_ret2;exact⟨_,rfl,HG.out.1,HG.out.2.2⟩
end Go.Proofs.YthednemlahioeaaGreatDoor
