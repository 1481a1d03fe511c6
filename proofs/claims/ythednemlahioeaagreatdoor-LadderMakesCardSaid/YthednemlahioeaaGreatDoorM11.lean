/-
  lift: the columns of a block transformed.
-/
import Derived.Test.YthednemlahioeaaGreatDoorM10
namespace Go.Proofs.YthednemlahioeaaGreatDoor
open Go.RowKit
open Lib renaming hid→Z7
open List renaming getElem?_toArray→Zo,take→VC,drop→Q6,take_of_length_le→Zt,getElem?_cons_succ→Yi,getElem?_append_left→Zv,getElem?_append_right→ZF,getD_eq_getElem?_getD→Z6,getElem?_map→XN,getElem?_range→WS
open And renaming intro→Z9
open Act renaming eval→Vo,put→TG
open Nat renaming le_refl→ZY,add_assoc→YJ
open Go.Proofs.Tryz
set_option maxRecDepth 100000
set_option maxHeartbeats 8000000
theorem dw(w:World)(g nb:Nat)(l:List Int)(hl:l.length=8)(hM:Within 1099511627776 l)(hb:ZI w g 482 (Y4 l).toArray)(hn:ZI w nb 3 #[.int .i64 8]):
  Calls prog 354 #[↑(ZC g 0),↑(ZC nb 0)] w fun e w'=>e=.returned (.tuple #[])/\ZI w' g 482 (Y4 (Np l)).toArray/\Mod (·=g) w w':=by
 obtain⟨hc,hf⟩:=hn.both;have HB:=Z7 hb;clear hb hn;go_enter func354,ntmps354;go_wp2_with fail;refine(aeL _ g l hl hM HB.out).mono ?_;rintro e w1 ⟨rfl,hb1,Y6⟩;have HF:=Z5 hb1 Y6;clear hb1 Y6;go_wp2_with fail;go_end0
 exact⟨rfl,HF.out⟩
def SA(L:List Int):Nat->List Int
 | 0=>L
 | x+1=>F8 x (Np (Tt x (SA L x))) (SA L x) 8
theorem RF(L:List Int)(x:Nat):(SA L x).length=L.length:=by
 induction x with
 | zero=>rfl
 | succ x ih=>simp [SA,PR,ih]
theorem Fp(L:List Int)(hL:L.length=64)(n y x:Nat)(hn:n<=8)(hx:x<8)(hy:y<8):
  (SA L n).getD (y*8+x) 0=if x<n then(Np (Tt x L)).getD y 0 else L.getD (y*8+x) 0:=by
 induction n generalizing x y with
 | zero=>simp [SA]
 | succ n ih=>
  rw [SA,AL n _ _ (by rw [RF];exact hL) Z8 8 y x Z8 hx hy,ih y x Z8 hx hy];by_cases e:x=n
  ·subst e;rw [if_pos ⟨rfl,hy⟩,VI];congr 2;unfold Tt;apply List.map_congr_left;intro a ha;rw [ih a x Z8 hx (by simpa using ha),Xb]
  ·rw [if_neg (fun h=>e h.1)];by_cases e2:x<n
   ·rw [if_pos e2,VI]
   ·rw [if_neg e2,Xb]
theorem Jy{M:Int}{L:List Int}(hL:L.length=64)(h:Within M L)(h0:0<=M)(n:Nat)(hn:n<=8):Within (8*M) (SA L n):=by
 refine Kj (by rw [RF];exact hL) (fun y hy x hx=>?_) Z8;rw [Fp L hL n y x hn hx hy];split
 ·exact Fu (VO _ _) h0 (OW h h0 x) y
 ·have:=h (y*8+x);omega
def adA(w:World)(r nb:Nat)(L:List Int)(tl:List Value)(v:Value)(wr:World):Prop:=
 ∃x:Nat,x<=8/\v=↑x/\ZI wr r 3 (Y4 (SA L x)++tl).toArray/\ZI wr nb 3 #[.int .i64 8]/\Mod (·=r) w wr
theorem acf(w:World)(r nb cap:Nat)(L:List Int)(tl:List Value)(hL:L.length=64)(hM:Within 34359738368 L)(hne:r≠nb)(hb:ZI w r 3 (Y4 L++tl).toArray)(hn:ZI w nb 3 #[.int .i64 8]):
  Calls prog 357 #[↑(ZZ r 64 cap),.int .i64 8,.func (.func 354) #[] #[↑(ZC nb 0)]] w fun e w'=>e=.returned (.tuple #[])/\ZI w' r 3 (Y4 (SA L 8)++tl).toArray/\ZI w' nb 3 #[.int .i64 8]/\Mod (·=r) w w':=by
 have HB:=Z5 hb hn;have Lr:=hb.lt;have Gn:=hn.lt;clear hb hn;go_enter func357,ntmps357;go_wp2_with fail;go_loopw [11] (adA w r nb L tl) (fun x _=>8-(intOf x).toNat)
 case atStart=>exact⟨0,Z8,rfl,HB.out.1,HB.out.2,Mod.refl _ _⟩
 case round=>
  revert hrel;generalize wr=U3;intro hrel;obtain⟨x,hx,rfl,hb,hn,hm⟩:=hrel;by_cases hlt:x<8
  ·have HW:=Z5 hb (Z9 hn hm);have hsz:=hm.size;clear hb hn hm;go_upto_region 4 with(fail)
   have HI:Hid (ZI (U3.alloc (.cells ↑MR 482)) U3.heap.size 482 (Y4 (Hr (Tt x (SA L x)) 0)).toArray/\ZI (U3.alloc (.cells ↑MR 482)) r 3 (Y4 (SA L x)++tl).toArray/\ZI (U3.alloc (.cells ↑MR 482)) nb 3 #[.int .i64 8]/\Mod (·=r) w (U3.alloc (.cells ↑MR 482))):=⟨ZI.new _ _ _,HW.out.1.alloc _,HW.out.2.1.alloc _,HW.out.2.2.alloc _⟩
   generalize U3.alloc (.cells ↑MR 482)=w1 at *;have hlx:(SA L x).length=64:=by rw [RF];exact hL
   have pW:Hid (Within 1099511627776 (Tt x (SA L x))):=fun i=>by
    have:=OW (Jy hL hM Z8 x Z8) Z8 x i;omega
   generalize lK:SA L x=L' at *;have HL':=Z7 lK;clear lK HW;go_wp2_with fail;go_loopw [15] (rV w r nb U3.heap.size (Tt x L') L' tl) (fun y _=>8-(intOf y).toNat)
   case atStart=>exact⟨0,Z8,rfl,HI.out⟩
   case round=>
    obtain⟨y,hy,rfl,bg,br,bn,hm⟩:=hrel;by_cases mJ:y<8
    ·have c1:=Lb br (y*8+x) Z8;have c2:=bg.cell y;rw [Zo,VX _ _ (by rw [Ht];omega)]at c2;have c3:=bg.frozen;generalize hv:L'.getD (y*8+x) 0=v at *;have HV:=Z7 hv;have HK:=Z5 bg (Z9 br (Z9 bn hm));clear bg br bn hm hv;have j1:(0:Int)<=(y:Int)*8+(x:Int):=Z8;have j2:(y:Int)*8+(x:Int)<64:=Z8;go_wp2_with fail;refine⟨⟨y+1,Z8,Zr,?_,HK.out.2.1.far (p:=⟨U3.heap.size,y,none⟩) (by show ¬r=U3.heap.size;omega) _,HK.out.2.2.1.far (p:=⟨U3.heap.size,y,none⟩) (by show ¬nb=U3.heap.size;omega) _,HK.out.2.2.2.setCell (.inr hsz) _⟩,by simp [intOf];omega⟩;have hb':=HK.out.1.UY y ↑v;rw [MS]at hb';rw [Hr,L6 _ _ _ mJ,HV.out];exact hb'
    ·obtain rfl:y=8:=Z8;rw [Bb _ (VO _ _)]at bg;have Cs:¬nb=U3.heap.size:=Z8;have zL:¬r=U3.heap.size:=Z8;have HK:=Z5 bg (Z9 br (Z9 bn hm));clear bg br bn hm;go_wp2_with fail;refine(dw _ U3.heap.size nb _ (VO _ _) pW.out HK.out.1 HK.out.2.2.1).mono ?_;rintro e w2 ⟨rfl,hb2,Y3⟩;have kV:=HK.out.2.1.keep Y3 zL;have kU:=HK.out.2.2.1.keep Y3 Cs;have sH:=HK.out.2.2.2.FU Y3 (fun k hk e=>by omega);have IV:=Z5 hb2 (Z9 kV (Z9 kU sH));have uA:(Np (Tt x L')).length=8:=by rw [NH _ (VO _ _)]
     generalize hcc:Np (Tt x L')=cc at *;have gI:=Z7 hcc;clear hb2 Y3 kV kU sH HK hcc;go_wp2_with fail;go_loopw [32] (oG w r nb U3.heap.size x cc L' tl) (fun y _=>8-(intOf y).toNat)
     case atStart=>exact⟨0,Z8,rfl,IV.out.1,IV.out.2⟩
     case round=>
      obtain⟨y,hy,rfl,bg,br,bn,hm⟩:=hrel;by_cases mJ:y<8
      ·have hlk:(F8 x cc L' y).length=64:=by rw [PR];exact hlx
       have c1:=Lb br (y*8+x) Z8;have c2:=bg.cell y;rw [Zo,VX _ _ Z8]at c2;have c3:=br.frozen;generalize hv:cc.getD y 0=v at *;have HV:=Z7 hv;have HK:=Z5 bg (Z9 br (Z9 bn hm));clear bg br bn hm hv;have j1:(0:Int)<=(y:Int)*8+(x:Int):=Z8;have j2:(y:Int)*8+(x:Int)<64:=Z8;go_wp2_with fail;refine⟨⟨y+1,Z8,Zr,HK.out.1.far (p:=⟨r,y*8+x,none⟩) (by show ¬U3.heap.size=r;omega) _,?_,HK.out.2.2.1.far (p:=⟨r,y*8+x,none⟩) (by show ¬nb=r;omega) _,HK.out.2.2.2.setCell (.inl rfl) _⟩,by simp [intOf];omega⟩;rw [F8,HV.out];exact tJ HK.out.2.1 (y*8+x) Z8 v
      ·obtain rfl:y=8:=Z8;have HK:=Z5 br (Z9 bn hm);clear bg br bn hm;go_wp2_with fail;refine⟨⟨x+1,Z8,Zr,?_,HK.out.2⟩,by simp [intOf];omega⟩;rw [SA,HL'.out,gI.out];exact HK.out.1
  ·obtain rfl:x=8:=Z8;have HF:=Z5 hb (Z9 hn hm);clear hb hn hm;go_wp2_with fail;go_end0
   exact⟨rfl,HF.out⟩
def UW(L:List Int):Nat->List Int
 | 0=>L
 | y+1=>splice (UW L y) (y*8) (Np (rowOf y (UW L y)))
theorem Vl(L:List Int)(hL:L.length=64)(y:Nat)(hy:y<=8):(UW L y).length=64:=by
 induction y with
 | zero=>exact hL
 | succ y ih=>
  have h:=ih Z8;rw [UW,length_splice _ _ _ (by rw [NH _ (WZ y _ h Z8)];omega),h]
theorem Fs(L:List Int)(hL:L.length=64)(n y x:Nat)(hn:n<=8)(hx:x<8)(hy:y<8):
  (UW L n).getD (y*8+x) 0=if y<n then(Np (rowOf y L)).getD x 0 else L.getD (y*8+x) 0:=by
 induction n generalizing x y with
 | zero=>simp [UW]
 | succ n ih=>
  have hl:=Vl L hL n Z8;have h8:(Np (rowOf n (UW L n))).length=8:=NH _ (WZ n _ hl Z8);rw [UW,NW _ _ _ Z8,h8,ih y x Z8 hx hy];by_cases e:y=n
  ·subst e;rw [VI,VI,show y*8+x-y*8=x by omega];have e1:rowOf y (UW L y)=rowOf y L:=by
    rw [eight _ (WZ y _ hl hy),eight _ (WZ y L hL hy)];simp only [Xj _ _ _ (show 0<8 by omega),Xj _ _ _ (show 1<8 by omega),Xj _ _ _ (show 2<8 by omega),Xj _ _ _ (show 3<8 by omega),Xj _ _ _ (show 4<8 by omega),Xj _ _ _ (show 5<8 by omega),Xj _ _ _ (show 6<8 by omega),Xj _ _ _ (show 7<8 by omega)];have h:=fun x hx=>(ih y x Z8 hx hy).trans Xb;rw [h 0 Z8,h 1 Z8,h 2 Z8,h 3 Z8,h 4 Z8,h 5 Z8,h 6 Z8,h 7 Z8]
   rw [e1]
  ·rw [Xb];by_cases e2:y<n
   ·rw [if_pos e2,VI]
   ·rw [if_neg e2,Xb]
theorem Nn{M:Int}{L:List Int}(hL:L.length=64)(h:Within M L)(h0:0<=M)(n:Nat)(hn:n<=8):Within (8*M) (UW L n):=by
 refine Kj (Vl L hL n hn) (fun y hy x hx=>?_) Z8;rw [Fs L hL n y x hn hx hy];split
 ·exact Fu (WZ y L hL hy) h0 (O6 h h0 y) x
 ·have:=h (y*8+x);omega
def ady(w:World)(r nb:Nat)(L:List Int)(tl:List Value)(v:Value)(wr:World):Prop:=
 ∃y:Nat,y<=8/\v=↑y/\ZI wr r 3 (Y4 (UW L y)++tl).toArray/\ZI wr nb 3 #[.int .i64 8]/\Mod (·=r) w wr
theorem ace(w:World)(r nb cap:Nat)(L:List Int)(tl:List Value)(hL:L.length=64)(KL:64<=cap)(hM:Within 34359738368 L)(hne:r≠nb)(hb:ZI w r 3 (Y4 L++tl).toArray)(hn:ZI w nb 3 #[.int .i64 8]):
  Calls prog 356 #[↑(ZZ r 64 cap),.int .i64 8,.func (.func 354) #[] #[↑(ZC nb 0)]] w fun e w'=>e=.returned (.tuple #[])/\ZI w' r 3 (Y4 (UW L 8)++tl).toArray/\ZI w' nb 3 #[.int .i64 8]/\Mod (·=r) w w':=by
 have HB:=Z5 hb hn;have Lr:=hb.lt;have Gn:=hn.lt;clear hb hn;go_enter func356,ntmps356;go_wp2_with fail;go_loopw [9] (ady w r nb L tl) (fun x _=>8-(intOf x).toNat)
 case atStart=>exact⟨0,Z8,rfl,HB.out.1,HB.out.2,Mod.refl _ _⟩
 case round=>
  revert hrel;generalize wr=U3;intro hrel;obtain⟨y,hy,rfl,hb,hn,hm⟩:=hrel;by_cases hlt:y<8
  ·have HW:=Z5 hb (Z9 hn hm);have hsz:=hm.size;clear hb hn hm;go_upto_region 4 with(fail)
   have HI:Hid (ZI (U3.alloc (.cells ↑MR 482)) U3.heap.size 482 z8.toArray/\ZI (U3.alloc (.cells ↑MR 482)) r 3 (Y4 (UW L y)++tl).toArray/\ZI (U3.alloc (.cells ↑MR 482)) nb 3 #[.int .i64 8]/\Mod (·=r) w (U3.alloc (.cells ↑MR 482))):=⟨ZI.new _ _ _,HW.out.1.alloc _,HW.out.2.1.alloc _,HW.out.2.2.alloc _⟩
   generalize U3.alloc (.cells ↑MR 482)=w1 at *;have hlx:(UW L y).length=64:=Vl L hL y Z8
   have pW:Hid (Within 1099511627776 (rowOf y (UW L y))):=fun i=>by
    have:=O6 (Nn hL hM Z8 y Z8) Z8 y i;omega
   generalize lK:UW L y=L' at *;have HL':=Z7 lK;clear lK HW;have HS:Hid (Src w1 1 (some ⟨r,y*8,none⟩) 8 (Y4 ((L'.drop (y*8)).take 8))):=tL HI.out.2.1 (y*8) 8 Z8;have HN:Hid (8=Nat.min 8 8/\0+8<=z8.length):=⟨ZU,ZU⟩
   have e1:¬cap=y*8:=Z8;have e2:y*8+8-y*8=8:=Z8;have e3:(y:Int)*8+8<=64:=Z8;have e4:(y:Int)*8+8<=(cap:Int):=Z8;have e5:(y:Int)*8<=(y:Int)*8+8:=Z8;have e6:(0:Int)<=(y:Int)*8:=Z8;have e7:IntKind.i64.wrap ((y:Int)*8)=(y:Int)*8:=by rw [IntKind.wrap_i64];omega
   have e8:IntKind.i64.wrap ((y:Int)*8+8)=(y:Int)*8+8:=by rw [IntKind.wrap_i64];omega
   have HT:Hid (((y:Int)*8).toNat=y*8/\((y:Int)*8+8).toNat=y*8+8):=⟨Z8,Z8⟩
   go_region_law (refine Wq rfl (.tmp 13) (.tmp 23) _ _ rfl 3 underlying63 ZR (some ↑U3.heap.size) 8 8 (some ⟨r,y*8,none⟩) 8 (cap-y*8) _ (by simp [Vo,TG]) (by simp [Vo,TG,HT.out.1,HT.out.2,e1]) HS.out U3.heap.size 0 z8 482 HI.out.1 8 HN.out.1 (fun _=>rfl) HN.out.2 (RH _) ?_;intro w2 hb2 Y3;have oU:=Z5 hb2 Y3;clear hb2 Y3)
   obtain⟨hb2,Y3⟩:=oU.out;have Jg:Mod (·=U3.heap.size) w1 w2:=((Mod.refl _ w1).drew).trans Y3;have zL:¬r=U3.heap.size:=Z8;have Cs:¬nb=U3.heap.size:=Z8;have kV:=HI.out.2.1.keep Jg zL;have kU:=HI.out.2.2.1.keep Jg Cs;have sH:=HI.out.2.2.2.FU Jg (fun k hk e=>by omega);have hl8:(rowOf y L').length=8:=WZ y L' hlx hlt;have lU:ZI w2 U3.heap.size 482 (Y4 (rowOf y L')).toArray:=by
    have e:splice z8 0 (VC 8 (Y4 (VC 8 (Q6 (y*8) L'))))=Y4 (rowOf y L'):=by
     rw [Zt (by simp [Y4];omega)];have:(Y4 (rowOf y L')).length=8:=by rw [XR,hl8]
     show VC 0 z8++(Y4 (rowOf y L')++Q6 (0+(Y4 (rowOf y L')).length) z8)=_;rw [this];simp [z8]
    rw [<-e];exact hb2
   have HK:=Z5 lU (Z9 kV (Z9 kU sH));clear hb2 Y3 Jg kV kU sH lU oU HI HS;go_wp2_with fail;refine(dw _ U3.heap.size nb _ hl8 pW.out HK.out.1 HK.out.2.2.1).mono ?_;rintro e w3 ⟨rfl,hb3,X7⟩;have br3:=HK.out.2.1.keep X7 zL;have bn3:=HK.out.2.2.1.keep X7 Cs;have mK:=HK.out.2.2.2.FU X7 (fun k hk e=>by omega);have uA:(Np (rowOf y L')).length=8:=NH _ hl8;generalize hcc:Np (rowOf y L')=cc at *;have gI:=Z7 hcc;have HS:Hid (Src w3 1 (some ↑U3.heap.size) 8 (Y4 ((cc.drop 0).take 8))):=Mt hb3 0 8 Z8;have HF:Hid (y*8+8<=(Y4 L'++tl).length):=by show _<=_;simp [Y4];omega
   have Ey:=Z5 hb3 (Z9 br3 (Z9 bn3 mK));clear hb3 X7 br3 bn3 mK HK hcc;go_upto_region 6 with(fail)
   go_region_law (refine Wq rfl (.tmp 36) (.tmp 38) _ _ rfl 3 underlying63 ZR (some ⟨r,y*8,none⟩) 8 (cap-y*8) (some ↑U3.heap.size) 8 8 _ (by simp [Vo,TG,HT.out.1,HT.out.2]) (by simp [Vo,TG]) HS.out r (y*8) (Y4 L'++tl) 3 Ey.out.2.1 8 HN.out.1 (fun _=>rfl) HF.out (RH _) ?_;intro w4 hb4 Xl;have gN:=Z5 hb4 Xl;clear hb4 Xl)
   go_wp2_with fail;obtain⟨hb4,Xl⟩:=gN.out;have xx:Mod (·=r) w3 w4:=((Mod.refl _ w3).drew).trans Xl;have bn4:=Ey.out.2.2.1.keep xx Z8;refine⟨⟨y+1,Z8,Zr,?_,bn4,Ey.out.2.2.2.trans xx⟩,by simp [intOf];omega⟩;rw [UW,HL'.out,gI.out,<-Ep _ _ _ _ Z8];have e:VC 8 (Y4 (VC 8 (Q6 0 cc)))=Y4 cc:=by
    rw [List.drop_zero,Zt (l:=cc) Z8,Zt (by rw [XR];omega)]
   rw [e]at hb4;exact hb4
  ·obtain rfl:y=8:=Z8;have HF:=Z5 hb (Z9 hn hm);clear hb hn hm;go_wp2_with fail;go_end0
   exact⟨rfl,HF.out⟩
def KF(l:List Int):List Int:=SA (UW l 8) 8
theorem KG(l:List Int)(h:l.length=64):(KF l).length=64:=by unfold KF;rw [RF];exact Vl _ h 8 Z8
theorem aa3{M:Int}{l:List Int}(hl:l.length=64)(h0:0<=M)(h:Within M l):Within (64*M) (KF l):=by
 have h1:=Nn hl h h0 8 Z8;have h2:=Jy (Vl l hl 8 Z8) h1 Z8 8 Z8;intro i;have:=h2 i;unfold KF;omega
def afz(w:World)(l:List Int)(e:Ending)(w':World):Prop:=
 Mod ↑ZW w w'/\((UE 1048576 l=false/\e=.returned (.tuple #[↑Zd,.int .i64 1]))\/∃v,UE 1048576 l=true/\e=.returned (.tuple #[v,↑Z0])/\Zx w' w.heap.size v (KF l))
theorem aa1(w:World)(A:Option Addr)(c:Nat)(l:List Int)(YZ:IntsIn w A 64 c l):Calls prog 298 #[.slice A 64 c] w (afz w l):=by
 have hl:l.length=64:=YZ.1;have OO:=Z7 YZ;clear YZ;go_enter func298,ntmps298;go_wp2_with fail;refine(DN _ 1048576).mono ?_;rintro e w1 ⟨rfl,hb1,Y6⟩;have sK:=Y6.size;have gM:=Z5 hb1 Y6;clear hb1 Y6;go_wp2_with fail;refine(Bz _ A 64 c w.heap.size l 1048576 (OO.out.quiet gM.out.2) Z8 Z8 gM.out.1).mono ?_;rintro e w2 ⟨Y3,⟨h1,rfl⟩|⟨v,h1,rfl,h2⟩⟩
 ·have HF:=Z5 h1 (gM.out.2.trans Y3);clear h1 Y3;go_wp2_with fail;go_ret2;exact⟨HF.out.2.alloc _,.inl ⟨HF.out.1,rfl⟩⟩
 ·obtain⟨r,cap,tl,rfl,KL,hcm,hB,SB,hbr⟩:=D5 h2 Z8;have FW:=Z7 hl;rw [hl]at KL ⊢;clear hl;have Lr:=hbr.lt;have h8:((XL 64:Nat):Int)=8:=rfl;rw [h8];have HF:=Z5 h1 (Z9 (gM.out.2.trans Y3) hbr);have HC:=Z5 hcm SB;clear h1 Y3 hbr h2 h8 hcm SB;go_upto_region 2 with(fail)
  have HK:Hid (ZI (w2.alloc (.cells #[.int .i64 8] 3)) r 3 (Y4 l++tl).toArray/\ZI (w2.alloc (.cells #[.int .i64 8] 3)) w2.heap.size 3 #[.int .i64 8]/\Mod ↑ZW w (w2.alloc (.cells #[.int .i64 8] 3))):=⟨HF.out.2.2.alloc _,ZI.new _ _ _,HF.out.2.1.alloc _⟩
  have hne:r≠w2.heap.size:=Z8;generalize w2.heap.size=nb at *;generalize w2.alloc (.cells #[.int .i64 8] 3)=w3 at *;have cn:=HK.out.2.1.cell 0;have uN:=NB Z8 HF.out.1;have nJ:Within 34359738368 l:=fun i=>by have:=uN i;omega
  have nK:Within 34359738368 (UW l 8):=fun i=>by have:=Nn FW.out uN Z8 8 Z8 i;omega
  have pW:=Z5 nJ nK;clear nJ nK uN;go_wp2_with fail;refine(ace _ r nb cap l tl FW.out Z8 pW.out.1 hne HK.out.1 HK.out.2.1).mono ?_;rintro e w4 ⟨rfl,hb4,eT,Xl⟩;have c4:=eT.cell 0;have pV:=Z5 hb4 (Z9 eT (HK.out.2.2.into Xl (fun i e=>.inr Z8)));clear hb4 eT Xl cn;go_wp2_with fail;refine(acf _ r nb cap (UW l 8) tl (Vl _ FW.out 8 Z8) pW.out.2 hne pV.out.1 pV.out.2.1).mono ?_;rintro e w5 ⟨rfl,Ut,Cr,UR⟩;have HK5:=Z5 Ut (pV.out.2.2.into UR (fun i e=>.inr Z8));clear Ut Cr UR c4;go_wp2_with fail;go_ret2;refine⟨HK5.out.2,.inr ⟨_,HF.out.1,rfl,?_⟩⟩;have hbl:=KG l FW.out;have jL:=FW.out;have:=BJ (B:=w.heap.size) (cap:=cap) (l:=KF l) (tl:=tl) Z8 Z8 HC.out.1 (by have:=HC.out.2;simp only [List.length_append,XR]at this ⊢;omega) HK5.out.1;rwa [hbl]at this
def Li(K:Bool)(Q:Int)(fl al bl:List Value)(bk g:Nat):Array Value:=
 (.int .i64 Q :: .bool K :: (fl++(al++(bl++[.pointer (some ⟨bk,0,none⟩),.pointer (some ⟨g,0,none⟩)])))).toArray
def Yz.FE(d:Yz)(pl:Nat):Nat:=if pl=0 then d.nY else d.nC
structure I4(w:World)(d:Yz)(fl:List Value)(f:Yy):Prop where
 len:fl.length=9
 pl:∀p,p<3->∃A c,fl[3*p]?=some (.int .i64 (d.T9 p:Int))/\fl[3*p+1]?=some (.int .i64 (d.MN p:Int))/\fl[3*p+2]?=some (.slice A (d.FE p) c)/\BytesIn w A (d.FE p) c (f.get p)/\d.FE p<=c
theorem I4.quiet{w w':World}{d:Yz}{fl:List Value}{f:Yy}(h:I4 w d fl f)(hm:Mod ↑ZW w w'):I4 w' d fl f:=
 ⟨h.len,fun p hp=>by
  obtain⟨A,c,h1,h2,h3,h4,h5⟩:=h.pl p hp;exact⟨A,c,h1,h2,h3,h4.quiet hm,h5⟩⟩
theorem Yz.Ok.FE{d:Yz}(h:d.Ok)(p:Nat):Yx (d.T9 p) (d.MN p)=true/\d.FE p=d.T9 p*d.MN p:=by
 unfold Yz.T9 Yz.MN Yz.FE;split
 ·exact⟨h.sides,h.ny⟩
 ·exact⟨h.half,h.nc⟩
theorem WN.gW{w:World}{d:Yz}(hd:d.Ok){gy gu gv:Nat}{f:Yy}(h:WN w d gy gu gv f):I4 w d (YF d gy gu gv) f:=by
 refine⟨rfl,fun p hp=>?_⟩;have h3:p=0\/p=1\/p=2:=Z8;rcases h3 with rfl|rfl|rfl
 ·exact⟨_,_,rfl,rfl,rfl,UF h.Ff h.ly hd.zZ,ZY _⟩
 ·exact⟨_,_,rfl,rfl,rfl,UF h.bu h.lu hd.Lt,ZY _⟩
 ·exact⟨_,_,rfl,rfl,rfl,UF h.bv h.lv hd.Lt,ZY _⟩
structure Old(w0:World)(d:Yz)(K:Bool)(Q:Int)(fl:List Value)(fr:Yy)(al:List Value)(Y7:Yy):Prop where
 env:Kk w0
 ok:d.Ok
 q:0<=Q/\Q<=31
 qd:I4 w0 d fl fr
 EP:al.length=9
 Y7:K=false->I4 w0 d al Y7
def dM(gy gu gv pl:Nat):Nat:=if pl=0 then gy else if pl=1 then gu else gv
structure CW(w0 w:World)(cb bk g:Nat)(v:Value)(K:Bool)(Q:Int)(d:Yz)(fl al:List Value)(gy gu gv:Nat)(f:Yy)(s:Es):Prop where
 mod:Mod ↑ZW w0 w
 eb:Od w bk g v s
 Q4:ZI w cb 258 (Li K Q fl al (YF d gy gu gv) bk g)
 fa:WN w d gy gu gv f
 nc:w0.heap.size<=cb
 nb:w0.heap.size<=bk
 ng:w0.heap.size<=g
 ny:w0.heap.size<=gy
 nu:w0.heap.size<=gu
 nv:w0.heap.size<=gv
 no:∀j,v.ownBlock=some j->w0.heap.size<=j/\j≠gy/\j≠gu/\j≠gv
section
variable {w0 w w' : World} {cb bk g : Nat} {v v' : Value} {K : Bool} {Q : Int} {d : Yz} {fl al : List Value} {gy gu gv : Nat} {f : Yy} {s s' : Es}
theorem CW.quiet(h:CW w0 w cb bk g v K Q d fl al gy gu gv f s)(hm:Mod ↑ZW w w'):CW w0 w' cb bk g v K Q d fl al gy gu gv f s:=
 ⟨h.mod.trans hm,h.eb.quiet hm,h.Q4.keep hm (fun h=>h),h.fa.quiet hm,h.nc,h.nb,h.ng,h.ny,h.nu,h.nv,h.no⟩
theorem CW.puts{e:Ending}(h:CW w0 w cb bk g v K Q d fl al gy gu gv f s)(hp:TJ w bk g v s' e w'):∃v',e=.returned ↑Z0/\CW w0 w' cb bk g v' K Q d fl al gy gu gv f s':=by
 obtain⟨v',rfl,hE,hF,hM⟩:=hp;have hbg:∀ {k:Nat} {cs:Array Value},ZI w k 5 cs->g≠k/\bk≠k:=fun hb=>⟨h.eb.enc.blk.SL hb ZU,h.eb.Ju.SL hb ZU⟩
 have hy:=hbg h.fa.Ff;have hu:=hbg h.fa.bu;have hv:=hbg h.fa.bv;have q1:=h.fa.Ff.lt;have q2:=h.fa.bu.lt;have q3:=h.fa.bv.lt;have hcg:cb≠g:=h.Q4.SL h.eb.enc.blk ZU;have hcb:cb≠bk:=h.Q4.SL h.eb.Ju ZU
 have hco:¬v.ownBlock=some cb:=fun e=>by
  obtain⟨_,cs,hb⟩:=Kc h.eb.enc.own e;exact h.Q4.SL hb ZU rfl
 refine⟨v',rfl,h.mod.into hM (fun j e=>.inr ?_),hE,h.Q4.keep hM ?_,h.fa.mod hM ?_ ?_ ?_,h.nc,h.nb,h.ng,h.ny,h.nu,h.nv,fun j e=>?_⟩
 ·rcases e with rfl|rfl|e
  ·exact h.ng
  ·exact h.nb
  ·exact(h.no j e).1
 ·rintro(e|e|e)
  ·exact hcg e
  ·exact hcb e
  ·exact hco e
 ·rintro(e|e|e)
  ·exact hy.1 e.symm
  ·exact hy.2 e.symm
  ·exact(h.no gy e).2.1 rfl
 ·rintro(e|e|e)
  ·exact hu.1 e.symm
  ·exact hu.2 e.symm
  ·exact(h.no gu e).2.2.1 rfl
 ·rintro(e|e|e)
  ·exact hv.1 e.symm
  ·exact hv.2 e.symm
  ·exact(h.no gv e).2.2.2 rfl
 ·rcases hF j e with h1|h1
  ·exact h.no j h1
  ·have:=h.mod.size;exact⟨Z8,Z8,Z8,Z8⟩
theorem CW.lay{l:List UInt8}{pl:Nat}(hpl:pl<3)(h:CW w0 w cb bk g v K Q d fl al gy gu gv f s)(hb:ZI w' (dM gy gu gv pl) 5 (Yw l).toArray)(hl:l.length=d.FE pl)(hm:Mod (·=dM gy gu gv pl) w w'):
  CW w0 w' cb bk g v K Q d fl al gy gu gv (f.set pl l) s:=by
 have hbg:∀ {k:Nat} {cs:Array Value},ZI w k 5 cs->¬g=k/\¬bk=k/\¬cb=k:=fun hb=>⟨h.eb.enc.blk.SL hb ZU,h.eb.Ju.SL hb ZU,h.Q4.SL hb ZU⟩
 have hy:=hbg h.fa.Ff;have hu:=hbg h.fa.bu;have hv:=hbg h.fa.bv;have z1:=h.fa.yu;have z2:=h.fa.yv;have z3:=h.fa.uv;have hE:∀ {k:Nat},(k=gy\/k=gu\/k=gv)->Mod (·=k) w w'->¬g=k->¬bk=k->Od w' bk g v s:=fun hk hm h1 h2=>
  ⟨h.eb.Ju.keep hm h2,h.eb.len,h.eb.ok,h.eb.enc.blk.keep hm h1,XT h.eb.enc.own hm (fun j e e2=>by have:=h.no j e;omega),h.eb.enc.four,h.eb.enc.lo,h.eb.enc.hi⟩
 have h3:pl=0\/pl=1\/pl=2:=Z8;rcases h3 with rfl|rfl|rfl
 ·exact⟨h.mod.into hm (fun j e=>.inr (e▸h.ny)),hE (.inl rfl) hm hy.1 hy.2.1,h.Q4.keep hm hy.2.2,⟨hb,h.fa.bu.keep hm (fun e=>z1 e.symm),h.fa.bv.keep hm (fun e=>z2 e.symm),hl,h.fa.lu,h.fa.lv,z1,z2,z3⟩,h.nc,h.nb,h.ng,h.ny,h.nu,h.nv,h.no⟩
 ·exact⟨h.mod.into hm (fun j e=>.inr (e▸h.nu)),hE (.inr (.inl rfl)) hm hu.1 hu.2.1,h.Q4.keep hm hu.2.2,⟨h.fa.Ff.keep hm (fun e=>z1 e),hb,h.fa.bv.keep hm (fun e=>z3 e.symm),h.fa.ly,hl,h.fa.lv,z1,z2,z3⟩,h.nc,h.nb,h.ng,h.ny,h.nu,h.nv,h.no⟩
 ·exact⟨h.mod.into hm (fun j e=>.inr (e▸h.nv)),hE (.inr (.inr rfl)) hm hv.1 hv.2.1,h.Q4.keep hm hv.2.2,⟨h.fa.Ff.keep hm (fun e=>z2 e),h.fa.bu.keep hm (fun e=>z3 e),hb,h.fa.ly,h.fa.lu,hl,z1,z2,z3⟩,h.nc,h.nb,h.ng,h.ny,h.nu,h.nv,h.no⟩
theorem yV{k:Nat}{bl:List Value}(hl:fl.length=9)(hk:k<9):(Li K Q fl al bl bk g)[2+k]?=fl[k]?:=by
 unfold Li;rw [Zo,show 2+k=k+1+1 by omega,Yi,Yi,Zv Z8]
theorem yU{k:Nat}{bl:List Value}(hl:fl.length=9)(ha:al.length=9)(hk:k<9):(Li K Q fl al bl bk g)[11+k]?=al[k]?:=by
 unfold Li;rw [Zo,show 11+k=9+k+1+1 by omega,Yi,Yi,ZF Z8,hl,show 9+k-9=k by omega,Zv Z8]
theorem OV{k:Nat}{bl:List Value}(hl:fl.length=9)(ha:al.length=9)(hb:bl.length=9)(hk:k<9):(Li K Q fl al bl bk g)[20+k]?=bl[k]?:=by
 unfold Li;rw [Zo,show 20+k=9+(9+k)+1+1 by omega,Yi,Yi,ZF Z8,hl,show 9+(9+k)-9=9+k by omega,ZF Z8,ha,show 9+k-9=k by omega,Zv Z8]
theorem Qd{bl:List Value}(hl:fl.length=9)(ha:al.length=9)(hb:bl.length=9):(Li K Q fl al bl bk g)[29]?=some (.pointer (some ⟨bk,0,none⟩))/\(Li K Q fl al bl bk g)[30]?=some (.pointer (some ⟨g,0,none⟩)):=by
 match fl,hl with
 | [_,_,_,_,_,_,_,_,_],_=>
  match al,ha with
  | [_,_,_,_,_,_,_,_,_],_=>
   match bl,hb with
   | [_,_,_,_,_,_,_,_,_],_=>exact⟨rfl,rfl⟩
end
theorem CW.frame{w0 w:World}{cb bk g:Nat}{v:Value}{K:Bool}{Q:Int}{d:Yz}{fl al:List Value}{gy gu gv:Nat}{f:Yy}{s:Es}{fr Y7:Yy}(ho:Old w0 d K Q fl fr al Y7)(h:CW w0 w cb bk g v K Q d fl al gy gu gv f s)(p:Nat)(hp:p<3)(o:Nat)(mP:2+p*3=o):
  ∃A c,w.cell? ⟨cb,o,none⟩=some ↑(d.T9 p)/\w.cell? ⟨cb,o+1,none⟩=some ↑(d.MN p)/\w.cell? ⟨cb,o+2,none⟩=some (.slice A (d.FE p) c)/\BytesIn w A (d.FE p) c (fr.get p):=by
 obtain⟨A,c,h1,h2,h3,h4,_⟩:=ho.qd.pl p hp;have hl:=ho.qd.len;obtain rfl:2+3*p=o:=Z8;exact⟨A,c,by rw [h.Q4.cell,yV hl Z8,h1],by rw [h.Q4.cell,YJ,yV hl Z8,h2],by rw [h.Q4.cell,YJ,yV hl Z8,h3],h4.quiet h.mod⟩
theorem CW.ahead{w0 w:World}{cb bk g:Nat}{v:Value}{Q:Int}{d:Yz}{fl al:List Value}{gy gu gv:Nat}{f:Yy}{s:Es}{fr Y7:Yy}(ho:Old w0 d false Q fl fr al Y7)(h:CW w0 w cb bk g v false Q d fl al gy gu gv f s)(p:Nat)(hp:p<3)(o:Nat)(mP:11+p*3=o):
  ∃A c,w.cell? ⟨cb,o,none⟩=some ↑(d.T9 p)/\w.cell? ⟨cb,o+1,none⟩=some ↑(d.MN p)/\w.cell? ⟨cb,o+2,none⟩=some (.slice A (d.FE p) c)/\BytesIn w A (d.FE p) c (Y7.get p):=by
 obtain⟨A,c,h1,h2,h3,h4,_⟩:=(ho.Y7 rfl).pl p hp;have hl:=ho.qd.len;obtain rfl:11+3*p=o:=Z8;have ha:=ho.EP;exact⟨A,c,by rw [h.Q4.cell,yU hl ha Z8,h1],by rw [h.Q4.cell,YJ,yU hl ha Z8,h2],by rw [h.Q4.cell,YJ,yU hl ha Z8,h3],h4.quiet h.mod⟩
theorem CW.built{w0 w:World}{cb bk g:Nat}{v:Value}{K:Bool}{Q:Int}{d:Yz}{fl al:List Value}{gy gu gv:Nat}{f:Yy}{s:Es}{fr Y7:Yy}(ho:Old w0 d K Q fl fr al Y7)(h:CW w0 w cb bk g v K Q d fl al gy gu gv f s)(p:Nat)(hp:p<3)(o:Nat)(mP:20+p*3=o):
  w.cell? ⟨cb,o,none⟩=some ↑(d.T9 p)/\w.cell? ⟨cb,o+1,none⟩=some ↑(d.MN p)/\w.cell? ⟨cb,o+2,none⟩=some ↑(ZZ (dM gy gu gv p) (d.FE p) (d.FE p))/\ZI w (dM gy gu gv p) 5 (Yw (f.get p)).toArray/\(f.get p).length=d.FE p:=by
 have hl:=ho.qd.len;obtain rfl:20+3*p=o:=Z8;have ha:=ho.EP;have h3:p=0\/p=1\/p=2:=Z8;rcases h3 with rfl|rfl|rfl
 ·exact⟨by rw [h.Q4.cell,OV hl ha rfl Z8];rfl,by rw [h.Q4.cell,YJ,OV hl ha rfl Z8];rfl,by rw [h.Q4.cell,YJ,OV hl ha rfl Z8];rfl,h.fa.Ff,h.fa.ly⟩
 ·exact⟨by rw [h.Q4.cell,OV hl ha rfl Z8];rfl,by rw [h.Q4.cell,YJ,OV hl ha rfl Z8];rfl,by rw [h.Q4.cell,YJ,OV hl ha rfl Z8];rfl,h.fa.bu,h.fa.lu⟩
 ·exact⟨by rw [h.Q4.cell,OV hl ha rfl Z8];rfl,by rw [h.Q4.cell,YJ,OV hl ha rfl Z8];rfl,by rw [h.Q4.cell,YJ,OV hl ha rfl Z8];rfl,h.fa.bv,h.fa.lv⟩
def ze(kind:Nat)(W H:Nat)(ZJ ak1:List UInt8)(x y pl:Nat)(vx vy:Int)(b:List UInt8)(s:Es):List UInt8 × Es:=
 if kind=2 then(TQ W ZJ x y (QS W ZJ x y b),Qv 0 (QS W ZJ x y b) 2 0 0 s)else(QE W H ak1 x y pl vx vy,s)
def RA(b gs:List UInt8)(Q:Int):List Int:=V5 (KF (Ve b gs)) Q
def Qu(gs:List UInt8)(lv:List Int)(Q:Int):List UInt8:=(Qq gs lv Q).getD []
def PU(d:Yz)(fr Y7:Yy)(kind:Nat)(Q:Int)(pl x y:Nat)(vx vy:Int)(f:Yy)(s:Es):Yy × Es:=
 let b:=Pv (d.T9 pl) (fr.get pl) x y 8
 let a:=ze kind (d.T9 pl) (d.MN pl) (f.get pl) (Y7.get pl) x y pl vx vy b s
 if kind=0 then(f.set pl (Uw (d.T9 pl) x y a.1 (f.get pl) 8),s)
 else(f.set pl (Uw (d.T9 pl) x y (Qu a.1 (RA b a.1 Q) Q) (f.get pl) 8),Lj (if 0<pl then 4 else 2) (RA b a.1 Q) a.2)
theorem Mj(a b:List UInt8):Within 255 (Ve a b):=fun i=>by have:=BX a b i;omega
theorem Ug{m:Int}{l:List Int}(hs:XL l.length≠0)(h:Within m l):UE m l=true:=MH hs (fun j _=>by have:=h j;unfold Oa;simpa using this)
theorem Ae{q x y:Int}(hq:0<=q/\q<=31)(hx:0<=x/\x<=7)(hy:0<=y/\y<=7):1<=stepOf q x y/\stepOf q x y<=1008:=by
 have h:Wn q x y=true:=by unfold Wn;rw [decide_eq_true_eq];omega
 obtain⟨_,h1,h2,_⟩:=Mw q x y h;exact⟨h1,h2⟩
theorem CV{l:List Int}(hl:l.length=64)(q:Int)(i:Nat)(hi:i<64):(V5 l q).getD i 0=Wl (l.getD i 0) (stepOf q ((i % 8:Nat):Int) ((i/8:Nat):Int)):=by
 unfold V5 Uh;rw [Z6,XN,WS Z8,hl];rfl
theorem Jv{l:List Int}(hl:l.length=64){q:Int}(hq:0<=q/\q<=31){M:Int}(h0:0<=M)(h:Within M l):Within (M+336) (V5 l q):=by
 intro i;by_cases hi:i<64
 ·rw [CV hl q i hi];exact xJ _ _ (Ae hq ⟨Z8,Z8⟩ ⟨Z8,Z8⟩) M h0 (h i)
 ·rw [Z6,List.getElem?_eq_none (by simp [V5];omega)];show -(M+336)<=0/\0<=M+336;omega
theorem acg(v s:Int)(hs:1<=s/\s<=1008)(M:Int)(hv:-M<=v/\v<=M)(h0:0<=M):-(M+336)<=Wl v s*s/\Wl v s*s<=M+336:=by
 obtain⟨h1,h2⟩:=hs;obtain⟨h3,h4⟩:=hv;have t0:0<=s/3/\s/3<=336:=Z8;unfold Wl;generalize s/3=t at *;split
 ·have a:0<=(-v+t)/s:=Int.ediv_nonneg Z8 Z8;have b:(-v+t)/s*s <= -v+t:=Int.ediv_mul_le _ Z8;have c:0<=(-v+t)/s*s:=Int.mul_nonneg a Z8;rw [Int.neg_mul];omega
 ·have a:0<=(v+t)/s:=Int.ediv_nonneg Z8 Z8;have b:(v+t)/s*s<=v+t:=Int.ediv_mul_le _ Z8;have c:0<=(v+t)/s*s:=Int.mul_nonneg a Z8;omega
theorem ND{b gs:List UInt8}(hb:b.length=64)(Q:Int):(RA b gs Q).length=64:=by
 have h1:(Ve b gs).length=64:=by rw [QW];exact hb
 have h2:=KG _ h1;simp [RA,V5,h2]
theorem KH{b gs:List UInt8}(hb:b.length=64):(KF (Ve b gs)).length=64/\Within 16320 (KF (Ve b gs)):=by
 have h1:(Ve b gs).length=64:=by rw [QW];exact hb
 exact⟨KG _ h1,aa3 (M:=255) h1 Z8 (Mj b gs)⟩
theorem aa9{l:List Int}(hl:l.length=64){q:Int}(hq:0<=q/\q<=31)(h:Within 16320 l):NQ l q=some (V5 l q):=by
 unfold NQ;refine if_pos ⟨Ug (by rw [hl];decide) (fun i=>by have:=h i;omega),hq,fun i hi=>?_⟩;have hw:=Jv hl hq Z8 h i;have e:Uh l q i=(V5 l q).getD i 0:=by
  unfold V5;rw [Z6,XN,WS hi];rfl
 rw [e];unfold Oa;rw [decide_eq_true_eq];omega
theorem Kv{b gs:List UInt8}(hb:b.length=64){Q:Int}(hq:0<=Q/\Q<=31):Within 16656 (RA b gs Q):=by
 have h:=Jv (KH (gs:=gs) hb).1 hq (M:=16320) Z8 (KH hb).2;intro i;have:=h i;unfold RA;omega
theorem wM{b gs:List UInt8}(hb:b.length=64){Q:Int}(hq:0<=Q/\Q<=31):UE 1048576 (RA b gs Q)=true:=
 Ug (by rw [ND hb];decide) (fun i=>by have:=Kv (gs:=gs) hb hq i;omega)
theorem Kt{b gs:List UInt8}(hb:b.length=64)(hg:gs.length=64){Q:Int}(hq:0<=Q/\Q<=31):Qq gs (RA b gs Q) Q=some (Qu gs (RA b gs Q) Q):=by
 have hl:=ND (gs:=gs) hb Q;have h1:=Kv (gs:=gs) hb hq;have hs:QV (RA b gs Q) Q=some (S9 (RA b gs Q) Q):=by
  unfold QV;refine if_pos ⟨Ug (by rw [hl];decide) (fun i=>by have:=h1 i;omega),hq,fun i hi=>?_⟩;unfold Qx;rw [hl]at hi ⊢;have hb2:=KH (gs:=gs) hb;have hm:(RA b gs Q).getD i 0=Wl ((KF (Ve b gs)).getD i 0) (stepOf Q ((i % 8:Nat):Int) ((i/8:Nat):Int)):=CV hb2.1 Q i hi;rw [show XL 64=8 from rfl,hm];have:=acg _ _ (Ae hq (x:=((i % 8:Nat):Int)) (y:=((i/8:Nat):Int)) ⟨Z8,Z8⟩ ⟨Z8,Z8⟩) 16320 (hb2.2 i) Z8;unfold Oa;rw [decide_eq_true_eq];omega
 unfold Qu Qq;rw [if_pos ⟨hg,hl⟩,hs];rfl
theorem Jw{b gs:List UInt8}(hb:b.length=64)(hg:gs.length=64){Q:Int}(hq:0<=Q/\Q<=31):(Qu gs (RA b gs Q) Q).length=64:=(aam (Kt hb hg hq)).trans hg
end Go.Proofs.YthednemlahioeaaGreatDoor
