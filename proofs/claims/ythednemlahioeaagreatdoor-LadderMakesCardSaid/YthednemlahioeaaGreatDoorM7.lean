/-
  quant.each with quant.Value: quant.Fine.
-/
import Derived.Test.YthednemlahioeaaGreatDoorM6
namespace Go.Proofs.YthednemlahioeaaGreatDoor
open Go.RowKit
open List renaming range→Zz,replicate→ZM,ext_getElem→YU,all_eq_true→YM,getD_eq_getElem?_getD→Z6,getElem?_eq_getElem→ZP,getElem_mem→Xo,take_of_length_le→Zt
open Bool renaming and_eq_true→ZT
open Lib renaming hid→Z7
open Nat renaming le_refl→ZY,mul_one→XX
open And renaming intro→Z9
open IntWalk renaming i64_in→Z4
open UInt8 renaming toNat_lt→ZN
open Go.Proofs.Tryz
set_option maxRecDepth 100000
set_option maxHeartbeats 8000000
def Qx(l:List Int)(q:Int)(i:Nat):Int:=l.getD i 0*stepOf q ((i % XL l.length:Nat):Int) ((i/XL l.length:Nat):Int)
def S9(l:List Int)(q:Int):List Int:=(Zz l.length).map (Qx l q)
def QV(l:List Int)(q:Int):Option (List Int):=if UE 67108864 l=true/\(0<=q/\q<=31)/\∀i<l.length,Oa 67108864 (Qx l q i)=true then some (S9 l q)else none
def qH(l:List Int)(q:Int)(k:Nat):List Int:=(Zz l.length).map fun i=>if i<k then Qx l q i else 0
theorem ac7(l:List Int)(q:Int):qH l q 0=ZM l.length 0:=by
 unfold qH;apply YU
 ·simp
 ·intro i h1 h2;simp
theorem aew(l:List Int)(q:Int):qH l q l.length=S9 l q:=by
 unfold qH S9;refine List.map_congr_left fun i hi=>?_;rw [if_pos (List.mem_range.1 hi)]
theorem aev(l:List Int)(q:Int)(k:Nat):(qH l q k).set k (Qx l q k)=qH l q (k+1):=by
 unfold qH;apply YU
 ·simp
 ·intro i h1 h2;rw [List.getElem_set];simp only [List.getElem_map,List.getElem_range];by_cases e:k=i
  ·subst e;rw [if_pos rfl,VI]
  ·rw [if_neg e];by_cases e2:i<k
   ·rw [if_pos e2,VI]
   ·rw [if_neg e2,Xb]
theorem abt(l:List Int)(q:Int)(k:Nat):(qH l q k).length=l.length:=by simp [qH]
theorem Jp{n:Nat}(h:XL n≠0):(n=16/\XL n=4)\/(n=64/\XL n=8):=by
 unfold XL at h ⊢;by_cases h1:n=16
 ·left;simp [h1]
 ·rw [if_neg h1]at h ⊢;by_cases h2:n=64
  ·right;simp [h2]
  ·rw [if_neg h2]at h;exact absurd rfl h
theorem CR{m:Int}{l:List Int}(h:UE m l=true):XL l.length≠0/\∀j<l.length,Oa m (l.getD j 0)=true:=by
 unfold UE at h;rw [ZT,decide_eq_true_eq,YM]at h;refine⟨h.1,fun j hj=>?_⟩;rw [Z6,ZP hj];exact h.2 _ (Xo hj)
def CL(w:World)(l:List Int)(q:Int)(e:Ending)(w':World):Prop:=
 Mod ↑ZW w w'/\((QV l q=none/\e=.returned (.tuple #[↑Zd,.int .i64 1]))\/∃v,QV l q=some (S9 l q)/\e=.returned (.tuple #[v,↑Z0])/\Zx w' w.heap.size v (S9 l q))
theorem xN(n:Nat):(madeCells (Value.cells ↑Z0) n).toList=Y4 (ZM n 0):=by
 apply YU
 ·simp [size_madeCells,Y4]
 ·intro i h1 h2;simp [madeCells,Y4,Value.cells,Nat.mod_one]
theorem xI(l:List Int)(k:Nat)(v:Int):Y4 (l.set k v)=(Y4 l).set k ↑v:=by simp [Y4,List.map_set]
theorem nW(v st:Int)(v1:-67108864<=v)(v2:v<=67108864)(s1:1<=st)(s2:st<=1008):-67645734912<=v*st/\v*st<=67645734912:=by
 have a:=Int.mul_le_mul_of_nonneg_right v2 (show 0<=st by omega);have b:=Int.mul_le_mul_of_nonneg_right v1 (show 0<=st by omega);omega
def afB(w4:World)(ob:Nat)(l:List Int)(q:Int)(i:Value)(wr:World):Prop:=
 ∃k:Nat,k<=l.length/\i=↑k/\(∀j<k,Oa 67108864 (Qx l q j)=true)/\(0<k->0<=q/\q<=31)/\ZI wr ob 3 (Y4 (qH l q k)).toArray/\Mod (·=ob) w4 wr
theorem K7(w:World)(q x y:Int)(h:Wn q x y=true)(n:Nat):Calls prog 287 #[↑q,↑x,↑y] (w.drewN n) fun e w'=>e=.returned (.tuple #[.int .i64 (stepOf q x y),↑Z0])/\w'=w.drewN n:=(JF _ q x y h).mono fun _ _ hh=>⟨hh.1,hh.2.symm⟩
theorem JG(w:World)(q x y:Int)(h:Wn q x y=false)(n:Nat):Calls prog 287 #[↑q,↑x,↑y] (w.drewN n) fun e w'=>e=.returned (.tuple #[↑Z0,.int .i64 1])/\w'=w.drewN n:=(aar _ q x y h).mono fun _ _ hh=>⟨hh.1,hh.2.symm⟩
theorem ab6(w:World)(A:Option Addr)(n c:Nat)(l:List Int)(q:Int)(YZ:IntsIn w A n c l)(hn:n<=1048576):
  Calls prog 358 #[.slice A n c,↑q,.func (.func 405) #[] #[]] w (CL w l q):=by
 obtain⟨i0,hi0,hz0,hz1,hz2⟩:=info_parts PY;obtain rfl:l.length=n:=YZ.1;have OO:=Z7 YZ;clear YZ;go_enter func358,ntmps358;go_wp2_with fail;refine(K6 _ 67108864).mono ?_;rintro e w1 ⟨rfl,hb1,m1⟩;obtain⟨bb,N8⟩:=ZL (w.heap.size);rw [<-N8]at hb1 ⊢;have lW:w.heap.size<=bb:=Z8;clear N8;go_wp2_with fail;refine YH (Eb _ A l.length c bb l 67108864 (OO.out.quiet m1) hn Z8 hb1) ?_;cases hall:UE 67108864 l with
 | false=>
  have HQ:Hid (QV l q=none):=if_neg (fun h=>by rw [hall]at h;cases h.1);clear hall hb1;go_wp2_with fail;go_ret2;exact⟨m1,.inl ⟨HQ.out,rfl⟩⟩
 | true=>
  obtain⟨nz,hins⟩:=CR hall;have hsc:=Jp nz;have yL:=Z5 hall hins;clear hall hins;go_wp2_with fail;refine YH (Kg _ l.length Z8) ?_;obtain⟨s,hs⟩:=ZL (XL l.length);rw [<-hs]at nz hsc ⊢;have HS:=Z7 hs;clear hs;have hl0:16<=l.length/\l.length<=64:=Z8;have sI:4<=s/\s<=8:=Z8;have iL:l.length<=8*s/\l.length<=s*s:=by rcases hsc with⟨e1,e2⟩|⟨e1,e2⟩<;>rw [e1,e2]<;>decide
  clear hsc nz;have x1:i0.bytes*l.length<=281474976710656:=by rw [hz2];omega
  have x2:l.length<=maxLen:=by unfold maxLen;omega
  have HX:=Z5 x1 x2;clear x1 x2;go_upto_region 6 with(with_reducible refine wpList_make_full _ rfl (.tmp 24) (.tmp 24) _ rfl w1.heap.size 3 i0 ↑Z0 1 underlying63 hi0 hz0 hz1 _ _ _ _ l.length rfl rfl rfl rfl HX.out.1 HX.out.2 (ZY _) ?_;intro w4 Ws hg4;have HO:=Z5 Ws hg4;clear Ws hg4)
  have m4:Mod ↑ZW w1 w4:=(Mod.refl _ _).grown HO.out.2 (fun k hk=>by cases hk);obtain⟨TY,_⟩:=OH HO.out.1;rw [XX,xN,<-ac7 l q]at TY;obtain⟨ob,Ih⟩:=ZL (w1.heap.size);rw [<-Ih]at TY ⊢;have hbl:=hb1.lt;have iC:¬bb=ob:=Z8;have how:w.heap.size<=ob:=by have:=m1.size;omega
  have hb4:=hb1.keep m4 (fun h=>h);have M4:=m1.trans m4;have Py:=OO.out.quiet M4;have hlen:=OO.out.2.2.2 Z8;clear HO m1 m4 hb1 Ih;obtain⟨b,off,hA,_,hc⟩:=Py.place Z8;subst hA;have akG:b<w.heap.size:=hlen _ rfl;have HC:=Z7 hc;clear hc Py hlen;go_wp2_with fail;go_loopw [28] (afB w4 ob l q) (fun i _=>l.length-(intOf i).toNat)
  case atStart=>exact⟨0,Z8,rfl,(fun j hj=>by omega),(fun h=>by omega),TY,Mod.refl _ _⟩
  case round=>
   clear TY;obtain⟨k,hk,rfl,zK,hqk,TY,hM⟩:=hrel;have tY:=Z5 zK hqk;clear zK hqk;by_cases hlt:k<l.length
   ·have M9:wr.cell? ⟨b,off+k,none⟩=some (.int .i64 (l.getD k 0)):=(World.cell?_of_block (hM.block b (World.block_lt_of_cell? _ _ (HC.out k hlt)) Z8)).trans (HC.out k hlt);have Jj:=yL.out.2 k hlt;have Og:Hid (Qx l q k=l.getD k 0*stepOf q ((k % s:Nat):Int) ((k/s:Nat):Int)):=by show _=_;unfold Qx;rw [HS.out]
    generalize jb:l.getD k 0=v at *;clear jb;unfold Oa at Jj;simp only [decide_eq_true_eq]at Jj;obtain⟨v1,v2⟩:=Jj;have i1:(0:Int)<=(k:Int):=Z8;have i2:(k:Int)<(l.length:Int):=Z8;obtain⟨kx,MB⟩:=ZL (k % s);obtain⟨ky,MC⟩:=ZL (k/s);have iK:kx<s:=by rw [MB];exact Nat.mod_lt _ Z8
    have yz:ky<s:=by rw [MC];exact Nat.div_lt_of_lt_mul Z8
    have t1:((k:Int).tmod (s:Int))=(kx:Int):=by rw [Int.tmod_eq_emod_of_nonneg Z8,MB];exact(Int.natCast_emod k s).symm
    have t2:((k:Int).tdiv (s:Int))=(ky:Int):=by rw [Int.tdiv_eq_ediv_of_nonneg Z8,MC];exact(Int.natCast_ediv k s).symm
    have t3:((k:Int) % (s:Int))=(kx:Int):=by rw [MB];exact(Int.natCast_emod k s).symm
    have t4:((k:Int)/(s:Int))=(ky:Int):=by rw [MC];exact(Int.natCast_ediv k s).symm
    have hs0:((s:Int) == 0)=false:=beq_eq_false_iff_ne.2 Z8;rw [<-MB,<-MC]at Og;have HT:=Z5 t1 (Z9 t2 (Z9 t3 t4));clear MB MC t1 t2 t3 t4;by_cases hq:0<=q/\q<=31
    ·have O1:Wn q (kx:Int) (ky:Int)=true:=by unfold Wn;rw [decide_eq_true_eq];omega
     go_upto_region 9 with(fail)
     obtain⟨t1,t2,t3,t4⟩:=HT.out;go_quiet ((go_at_call 287;exact Calls.quiet_of_same (K7 _ q kx ky O1 _)))
     clear t1 t2 t3 t4;have LG:=Mw q kx ky O1;obtain⟨_,st1,st2,_⟩:=LG;obtain⟨st,hst⟩:=ZL (stepOf q kx ky);rw [<-hst]at st1 st2 Og ⊢;clear hst O1 HT M9;have J6:=nW v st v1 v2 st1 st2;have Dx:=TY.drewN nq;have RZ:=hM.drewN nq;have Ut:=(hb4.keep hM iC).drewN nq;generalize wr.drewN nq=w5 at *;clear TY hM;go_wp2_with fail;refine YH (abm _ v st Z8 Z8) ?_;obtain⟨pr,aD⟩:=ZL (v*st);rw [<-aD]at J6 Og ⊢;clear aD;have jM:w5.cell? ⟨ob,k,none⟩=some (.int .i64 ((qH l q k).getD k 0)):=by rw [Dx.cell k];simp [Y4,abt,hlt]
     have aj:=Dx.frozen k;have Dy:ZI (w5.setCell ⟨ob,k,none⟩ (.int .i64 pr)) ob 3 (Y4 (qH l q (k+1))).toArray:=Dx.put (by rw [<-aev,Og.out,xI];simp);have JA:Mod (·=ob) w4 (w5.setCell ⟨ob,k,none⟩ (.int .i64 pr)):=RZ.setCell (p:=⟨ob,k,none⟩) (.inl rfl) _;have ET:ZI (w5.setCell ⟨ob,k,none⟩ (.int .i64 pr)) bb 3 #[.int .i64 67108864]:=Ut.far iC _;have HB:=Z5 Dy (Z9 JA ET);clear Dx RZ Ut Dy JA ET;generalize (qH l q k).getD k 0=old at *;cases hv:Oa 67108864 pr with
     | true=>
      go_wp2_with fail;refine YH (Ke _ bb 67108864 pr Z8 HB.out.2.2) ?_;rw [hv];have HV:=Z7 hv;clear hv jM aj;go_wp2_with fail;go_roundw
      case rel=>
       refine⟨k+1,Z8,Zr,fun j hj=>?_,fun _=>hq,HB.out.1,HB.out.2.1⟩;by_cases e:j=k
       ·subst e;rw [Og.out];exact HV.out
       ·exact tY.out.1 j Z8
      case measure=>exact YD
     | false=>
      have HQ:Hid (QV l q=none):=if_neg (fun h=>by have:=h.2.2 k hlt;rw [Og.out,hv]at this;cases this);go_wp2_with fail;refine YH (Ke _ bb 67108864 pr Z8 HB.out.2.2) ?_;rw [hv];clear hv jM aj;go_wp2_with fail;go_ret2;exact⟨M4.into HB.out.2.1 (fun i e=>.inr Z8),.inl ⟨HQ.out,rfl⟩⟩
    ·have O1:Wn q (kx:Int) (ky:Int)=false:=by unfold Wn;rw [decide_eq_false_iff_not];omega
     have HQ:Hid (QV l q=none):=if_neg (fun h=>hq h.2.1);go_upto_region 9 with(fail)
     obtain⟨t1,t2,t3,t4⟩:=HT.out;go_quiet ((go_at_call 287;exact Calls.quiet_of_same (JG _ q kx ky O1 _)))
     clear t1 t2 t3 t4;go_wp2_with fail;go_ret2;exact⟨(M4.into hM (fun i e=>.inr Z8)).drewN _,.inl ⟨HQ.out,rfl⟩⟩
   ·obtain rfl:k=l.length:=Z8;have HQ:Hid (QV l q=some (S9 l q)):=if_pos ⟨yL.out.1,tY.out.2 Z8,tY.out.1⟩;have HB:=Z5 TY hM;clear TY hM;go_wp2_with fail;go_ret2;refine⟨M4.into HB.out.2 (fun i e=>.inr Z8),.inr ⟨_,HQ.out,rfl,?_⟩⟩;have TY:=HB.out.1;rw [aew]at TY;have Md:(S9 l q).length=l.length:=by simp [S9]
    unfold Zx;rw [Md];exact⟨by rw [XR,Md,XX],.inr ⟨ob,l.length,_,rfl,how,TY,ZY _,HX.out.2,by simp [XR,Md],by rw [XX];exact Zt (by simp [XR,Md])⟩⟩
theorem ab5(w:World)(A:Option Addr)(n c:Nat)(l:List Int)(q:Int)(YZ:IntsIn w A n c l)(hn:n<=1048576):Calls prog 364 #[.slice A n c,↑q] w (CL w l q):=by
 go_enter func364,ntmps364;go_wp2_with fail;refine(ab6 _ A n c l q YZ hn).mono ?_;rintro e w1 ⟨hm,⟨h1,rfl⟩|⟨v,h1,rfl,h2⟩⟩
 ·have HQ:=Z7 h1;clear h1;go_wp2_with fail;go_ret2;exact⟨hm,.inl ⟨HQ.out,rfl⟩⟩
 ·have HQ:=Z5 h1 h2;obtain⟨A1,c1,hv⟩:=ZG h2;subst hv;clear h1 h2;go_wp2_with fail;go_ret2;exact⟨hm,.inr ⟨_,HQ.out.1,rfl,HQ.out.2⟩⟩
def Fe(l:List Int):List Int:=QL (Ry l 8) 8
theorem G7(l:List Int)(h:l.length=64):(Fe l).length=64:=QY _ (by rw [Si];exact h) 8 Z8
theorem NB{m:Int}{l:List Int}(h0:0<=m)(h:UE m l=true):Within m l:=by
 unfold UE at h;rw [ZT,YM]at h;intro i;by_cases hi:i<l.length
 ·have:=h.2 _ (Xo hi);rw [Z6,ZP hi];unfold Oa at this;simpa using this
 ·rw [Z6,List.getElem?_eq_none Z8];show -m<=0/\0<=m;omega
theorem D5{w:World}{B:Nat}{v:Value}{l:List Int}(h:Zx w B v l)(h0:0<l.length):∃r cap tl,v=↑(ZZ r l.length cap)/\l.length<=cap/\cap<=maxLen/\B<=r/\(Y4 l++tl).length=cap/\ZI w r 3 (Y4 l++tl).toArray:=by
 rcases h.2 with⟨_,h1⟩|⟨r,cap,cur,hv,hB,hg,hc,hm,hs,ht⟩
 ·omega
 ·refine⟨r,cap,cur.toList.drop (l.length*1),hv,Z8,hm,hB,?_,?_⟩
  ·rw [<-ht,List.take_append_drop];simp;omega
  ·rw [<-ht,List.take_append_drop];exact hg
theorem BJ{w:World}{B r cap:Nat}{l:List Int}{tl:List Value}(hB:B<=r)(hc:l.length<=cap)(hm:cap<=maxLen)(hl:(Y4 l++tl).length=cap)(hb:ZI w r 3 (Y4 l++tl).toArray):Zx w B ↑(ZZ r l.length cap) l:=
 ⟨by rw [XR,XX],.inr ⟨r,cap,_,rfl,hB,hb,hc,hm,by simp only [List.size_toArray];omega,by rw [XX];rw [List.take_append_of_le_length (by rw [XR];omega)];exact Zt (by rw [XR];omega)⟩⟩
def adZ(w:World)(l:List Int)(e:Ending)(w':World):Prop:=
 Mod ↑ZW w w'/\((UE 67108864 l=false/\e=.returned (.tuple #[↑Zd,.int .i64 1]))\/∃v,UE 67108864 l=true/\e=.returned (.tuple #[v,↑Z0])/\Zx w' w.heap.size v (Fe l))
theorem adp(w:World)(A:Option Addr)(c:Nat)(l:List Int)(YZ:IntsIn w A 64 c l):Calls prog 365 #[.slice A 64 c] w (adZ w l):=by
 have hl:l.length=64:=YZ.1;have OO:=Z7 YZ;clear YZ;go_enter func365,ntmps365;go_wp2_with fail;refine(DN _ 67108864).mono ?_;rintro e w1 ⟨rfl,hb1,Y6⟩;have sK:=Y6.size;have gM:=Z5 hb1 Y6;clear hb1 Y6;go_wp2_with fail;refine(Bz _ A 64 c w.heap.size l 67108864 (OO.out.quiet gM.out.2) Z8 Z8 gM.out.1).mono ?_;rintro e w2 ⟨Y3,⟨h1,rfl⟩|⟨v,h1,rfl,h2⟩⟩
 ·have HF:=Z5 h1 (gM.out.2.trans Y3);clear h1 Y3;go_wp2_with fail;go_ret2;exact⟨HF.out.2.alloc _,.inl ⟨HF.out.1,rfl⟩⟩
 ·obtain⟨r,cap,tl,rfl,KL,hcm,hB,SB,hbr⟩:=D5 h2 Z8;have FW:=Z7 hl;rw [hl]at KL ⊢;clear hl;have Lr:=hbr.lt;have h8:((XL 64:Nat):Int)=8:=rfl;rw [h8];have HF:=Z5 h1 (Z9 (gM.out.2.trans Y3) hbr);have HC:=Z5 hcm SB;clear h1 Y3 hbr h2 h8 hcm SB;go_upto_region 2 with(fail)
  have HK:Hid (ZI (w2.alloc (.cells #[.int .i64 8] 3)) r 3 (Y4 l++tl).toArray/\ZI (w2.alloc (.cells #[.int .i64 8] 3)) w2.heap.size 3 #[.int .i64 8]/\Mod ↑ZW w (w2.alloc (.cells #[.int .i64 8] 3))):=⟨HF.out.2.2.alloc _,ZI.new _ _ _,HF.out.2.1.alloc _⟩
  have hne:r≠w2.heap.size:=Z8;generalize w2.heap.size=nb at *;generalize w2.alloc (.cells #[.int .i64 8] 3)=w3 at *;have cn:=HK.out.2.1.cell 0;have uN:=NB Z8 HF.out.1;have nJ:Within 34359738368 l:=fun i=>by have:=uN i;omega
  have nK:Within 34359738368 (Ry l 8):=fun i=>by have:=Hl FW.out uN Z8 8 Z8 i;omega
  have pW:=Z5 nJ nK;clear nJ nK uN;go_wp2_with fail;refine(ado _ r nb cap l tl FW.out pW.out.1 hne HK.out.1 HK.out.2.1).mono ?_;rintro e w4 ⟨rfl,hb4,eT,Xl⟩;have c4:=eT.cell 0;have pV:=Z5 hb4 (Z9 eT (HK.out.2.2.into Xl (fun i e=>.inr Z8)));clear hb4 eT Xl cn;go_wp2_with fail;refine(adn _ r nb cap (Ry l 8) tl (by rw [Si];exact FW.out) Z8 pW.out.2 hne pV.out.1 pV.out.2.1).mono ?_;rintro e w5 ⟨rfl,Ut,Cr,UR⟩;have HK5:=Z5 Ut (pV.out.2.2.into UR (fun i e=>.inr Z8));clear Ut Cr UR c4;go_wp2_with fail;go_ret2;refine⟨HK5.out.2,.inr ⟨_,HF.out.1,rfl,?_⟩⟩;have hbl:=G7 l FW.out;have jL:=FW.out;have:=BJ (B:=w.heap.size) (cap:=cap) (l:=Fe l) (tl:=tl) Z8 Z8 HC.out.1 (by have:=HC.out.2;simp only [List.length_append,XR]at this ⊢;omega) HK5.out.1;rwa [hbl]at this
def Qq(g:List UInt8)(l:List Int)(q:Int):Option (List UInt8):=if g.length=64/\l.length=64 then(QV l q).map (fun v=>Hg g (Fe v))else none
theorem BP{l v:List Int}{q:Int}(h:QV l q=some v)(hl:l.length=64):v.length=64/\UE 67108864 v=true:=by
 unfold QV at h;split at h
 ·rename_i hc;injection h with h;subst h;have h1:(S9 l q).length=64:=by simp [S9,hl]
  refine⟨h1,MH (by rw [h1];decide) (fun j hj=>?_)⟩;have:=hc.2.2 j Z8;rw [h1]at hj;have e:(S9 l q).getD j 0=Qx l q j:=by simp [S9,Z6,hl,hj]
  rw [e];exact this
 ·cases h
def Al(w:World)(g:List UInt8)(l:List Int)(q:Int)(e:Ending)(w':World):Prop:=
 Mod ↑ZW w w'/\((Qq g l q=none/\e=.returned (.tuple #[↑Zd,.int .i64 1]))\/∃v bs,Qq g l q=some bs/\e=.returned (.tuple #[v,↑Z0])/\Bytes w' w.heap.size v bs)
theorem adJ(w:World)(A:Option Addr)(n c:Nat)(g:List UInt8)(A2:Option Addr)(n2 c2:Nat)(l:List Int)(q:Int)(hg:BytesIn w A n c g)(hl:IntsIn w A2 n2 c2 l)(hn:n<=1048576)(yC:n2<=1048576):
  Calls prog 302 #[.slice A n c,.slice A2 n2 c2,↑q] w (Al w g l q):=by
 obtain rfl:g.length=n:=hg.1;obtain rfl:l.length=n2:=hl.1;by_cases h1:g.length=64
 ·by_cases h2:l.length=64
  ·have HG:=Z7 hg;have HL:=Z7 hl;have pQ:Hid (Qq g l q=(QV l q).map (fun v=>Hg g (Fe v))):=if_pos ⟨h1,h2⟩;rw [h1]at HG ⊢;rw [h2]at HL ⊢;clear hg hl;have HH:=Z5 h1 h2;clear h1 h2;go_enter func302,ntmps302;go_wp2_with fail;refine(ab5 _ A2 64 c2 l q HL.out Z8).mono ?_;rintro e w1 ⟨Y6,⟨hq,rfl⟩|⟨v,hq,rfl,hv⟩⟩
   ·have HQ:=Z5 hq Y6;clear hq Y6;go_wp2_with fail;go_ret2;exact⟨HQ.out.2,.inl ⟨by rw [pQ.out,HQ.out.1];rfl,rfl⟩⟩
   ·obtain⟨Md,Ia⟩:=BP hq HH.out.2;obtain⟨A3,c3,hv3⟩:=ZG hv;subst hv3;rw [Md];have Nq:=hv.RU;rw [Md]at Nq;have HV:=Z5 hq (Z9 Y6 (Z9 Nq Ia));clear hq Y6 hv Nq Ia;go_wp2_with fail;refine(adp _ A3 c3 _ HV.out.2.2.1).mono ?_;rintro e w2 ⟨Y3,⟨h1,rfl⟩|⟨v2,h1,rfl,h2⟩⟩
    ·exact absurd h1 (by rw [HV.out.2.2.2];decide)
    ·have hbl:=G7 _ Md;obtain⟨A4,c4,hv4⟩:=ZG h2;subst hv4;rw [hbl];have Py:=h2.RU;rw [hbl]at Py;have gL:=Z5 Py (HV.out.2.1.trans Y3);clear h1 h2 Py Y3;go_wp2_with fail;refine(afc _ A 64 c g A4 c4 _ (HG.out.quiet gL.out.2) gL.out.1 Z8 Z8).mono ?_;rintro e w3 ⟨v3,rfl,hb3,X7⟩;obtain⟨A5,c5,hv5⟩:=ZG hb3;subst hv5;have HV3:=Z5 hb3 (gL.out.2.trans X7);have hsz:=gL.out.2.size;clear hb3 X7;go_wp2_with fail;go_ret2;exact⟨HV3.out.2,.inr ⟨_,_,by rw [pQ.out,HV.out.1];rfl,rfl,xX HV3.out.1 hsz⟩⟩
  ·have hz:((l.length:Int) != 64)=true:=by simp;omega
   have pQ:Hid (Qq g l q=none):=if_neg (fun h=>h2 h.2);rw [h1];clear hg hl h1;go_enter func302,ntmps302;go_wp2_with fail;go_ret2;exact⟨Mod.refl _ _,.inl ⟨pQ.out,rfl⟩⟩
 ·have hz:((g.length:Int) != 64)=true:=by simp;omega
  have pQ:Hid (Qq g l q=none):=if_neg (fun h=>h1 h.1);clear hg hl;go_enter func302,ntmps302;go_wp2_with fail;go_ret2;exact⟨Mod.refl _ _,.inl ⟨pQ.out,rfl⟩⟩
def Uw(W x y:Nat)(l ZJ:List UInt8):Nat->List UInt8
 | 0=>ZJ
 | j+1=>splice (Uw W x y l ZJ j) ((y+j)*W+x) ((l.drop (j*8)).take 8)
theorem uP{W H x y j:Nat}(hx:x+8<=W)(hy:y+8<=H)(hj:j<8):(y+j)*W+x+8<=W*H:=by
 have h1:(y+j+1)*W<=H*W:=Nat.mul_le_mul_right W Z8;rw [Nat.add_mul,Nat.one_mul,Nat.mul_comm H W]at h1;omega
theorem zU{l:List UInt8}(hl:l.length=64){j:Nat}(hj:j<8):((l.drop (j*8)).take 8).length=8:=by simp;omega
theorem QU{W H x y:Nat}{l ZJ:List UInt8}(hx:x+8<=W)(hy:y+8<=H)(hp:ZJ.length=W*H)(hl:l.length=64):∀j,j<=8->(Uw W x y l ZJ j).length=W*H:=by
 intro j
 induction j with
 | zero=>intro _;exact hp
 | succ j ih=>
  intro h;show(splice _ _ _).length=_;rw [length_splice _ _ _ (by rw [zU hl Z8,ih Z8];exact uP hx hy Z8),ih Z8]
theorem Eu(L c:List UInt8)(a:Nat):splice (Yw L) a (Yw c)=Yw (splice L a c):=by
 simp only [splice,Yw,List.map_append,List.map_take,List.map_drop,List.length_map]
theorem abE{w:World}{g:Nat}{l:List Int}(hb:ZI w g 3 (Y4 l).toArray)(hl:l.length=64):IntsIn w (some ↑g) 64 64 l:=
 ⟨hl,(fun h=>by cases h),by have:=Mt hb 0 64 Z8;rwa [List.drop_zero,Zt Z8]at this,fun _ ad e=>by injection e with e;subst e;exact hb.lt⟩
theorem aam{a bs:List UInt8}{b:List Int}{q:Int}(h:Qq a b q=some bs):bs.length=a.length:=by
 unfold Qq at h;split at h
 ·simp only [Option.map_eq_some_iff]at h;obtain⟨v,_,rfl⟩:=h;exact I8 _ _ _
 ·cases h
def Hz(K:Bool)(N Q W H G:Int):Bool:=seqRight W H G&&decide (0<=Q/\Q<=31/\0<=N/\N<G)&&(K == (N == 0))
theorem aaG(w:World)(K:Bool)(N Q W H G:Int)(h:Hz K N Q W H G=true):Calls prog 210 #[.agg #[.bool K,↑N,↑Q],.agg #[↑W,↑H,↑G]] w fun e w'=>e=.returned (.bool true)/\Mod ↑ZW w w':=by
 unfold Hz at h;simp only [ZT,decide_eq_true_eq]at h;obtain⟨⟨hr,a1,a2,a3,a4⟩,hk⟩:=h;have hb2:ZI (w.alloc (.cells #[.bool K,↑N,↑Q] 195)) w.heap.size 195 #[.bool K,↑N,↑Q]:=ZI.new _ _ _;have hb3:ZI ((w.alloc (.cells #[.bool K,↑N,↑Q] 195)).alloc (.cells #[↑W,↑H,↑G] 40)) (w.alloc (.cells #[.bool K,↑N,↑Q] 195)).heap.size 40 #[↑W,↑H,↑G]:=ZI.new _ _ _;replace hb2:=hb2.alloc (.cells #[↑W,↑H,↑G] 40);have M:Mod ↑ZW w ((w.alloc (.cells #[.bool K,↑N,↑Q] 195)).alloc (.cells #[↑W,↑H,↑G] 40)):=((Mod.refl _ _).alloc _).alloc _;have e1:(w.alloc (.cells #[.bool K,↑N,↑Q] 195)).heap.size=w.heap.size+1:=Ze;rw [e1]at hb3;clear e1;go_enter func210,ntmps210;go_wp2_with fail;generalize (w.alloc (.cells #[.bool K,↑N,↑Q] 195)).alloc (.cells #[↑W,↑H,↑G] 40)=w1 at *;refine YX (Pe _ W H G hr) fun w2 m2=>?_;have M2:=M.trans m2;obtain⟨hc2,hf2⟩:=(hb2.keep m2 (fun h=>h)).both;obtain⟨hc3,hf3⟩:=(hb3.keep m2 (fun h=>h)).both;clear hb2 hb3 M m2 hr;go_wp2_with fail;go_ret;exact⟨Ze,M2⟩
def Sl:List Value:=↑yh
def Yy.get(f:Yy)(pl:Nat):List UInt8:=if pl=0 then f.Y else if pl=1 then f.U else f.V
def Yy.set(f:Yy)(pl:Nat)(l:List UInt8):Yy:=if pl=0 then⟨l,f.U,f.V⟩else if pl=1 then⟨f.Y,l,f.V⟩else⟨f.Y,f.U,l⟩
def Yz.T9(d:Yz)(pl:Nat):Nat:=if pl=0 then d.W else d.W2
def Yz.MN(d:Yz)(pl:Nat):Nat:=if pl=0 then d.H else d.H2
structure Ids(P:Nat->Prop)(K:Bool)(bk g rb fr dg gy gu gv ay au av:Nat):Prop where
 pg:¬P g
 pb:¬P bk
 py:¬P gy
 pu:¬P gu
 pv:¬P gv
 nd:[g,bk,rb,fr,gy,gu,gv].Nodup
 na:K=false->[g,bk,rb,gy,gu,gv,dg,ay,au,av].Nodup
def RS(bk g gy gu gv:Nat)(j:Nat):Prop:=j=g\/j=bk\/j=gy\/j=gu\/j=gv
def U5(i:Nat):Nat:=if i<4 then 0 else i-3
def QO(x i:Nat):Nat:=if 4<=i then x/2 else if i % 2=1 then x+8 else x
def QP(y i:Nat):Nat:=if 4<=i then y/2 else if 2<=i then y+8 else y
theorem tu{d:Yz}(hd:d.Ok){x y i:Nat}(hi:i<6)(hx:x+16<=d.W)(hy:y+16<=d.H):U5 i<3/\QO x i+8<=d.T9 (U5 i)/\QP y i+8<=d.MN (U5 i):=by
 have:=hd.w2;have:=hd.h2;have h6:i=0\/i=1\/i=2\/i=3\/i=4\/i=5:=Z8;rcases h6 with rfl|rfl|rfl|rfl|rfl|rfl<;>simp [U5,QO,QP,Yz.T9,Yz.MN]<;>omega
def Ll(W H G q tg nu:Int)(fr:List Value):Array Value:=(↑W :: ↑H :: ↑G :: ↑q :: ↑tg :: ↑nu :: fr).toArray
theorem agO(w:World)(g:Nat)(W H G q tg nu:Int)(fr:List Value)(h:ZI w g 250 (Ll W H G q tg nu fr)):Calls prog 98 #[↑(ZC g 0)] w fun e w'=>e=.returned (.tuple #[])/\ZI w' g 250 (Ll W H G q tg 0 fr)/\Mod (·=g) w w':=by
 have c:w.cell? ⟨g,5,none⟩=some ↑nu:=h.cell 5;have f:=h.frozen 5;have l:=h.lt;have H1:=Z7 h;clear h;go_enter func98,ntmps98;go_wp2_with fail;go_end0
 exact⟨rfl,H1.out.put (i:=5) (u:=↑Z0) rfl,(Mod.refl (fun j=>j=g) w).setCell (p:=⟨g,5,none⟩) (.inl rfl) _⟩
theorem akc{a b c a' b' c':Int}(h1:a=a')(h2:b=b')(h3:c=c'):Ending.returned (.tuple #[↑a,↑b,↑c])=Ending.returned (.tuple #[↑a',↑b',↑c']):=by rw [h1,h2,h3]
def Iw:Array Value:=#[↑Z0,↑Z0,↑Z0,↑Z0,.int .i64 8,↑Z0,↑Z0,↑Z0,.int .i64 8,↑Z0,.int .i64 8,.int .i64 8,.int .i64 1,↑Z0,↑Z0,.int .i64 2,↑Z0,↑Z0]
structure Kk(w:World):Prop where
 cells:∀i,i<18->w.cell? ⟨5,i,none⟩=Iw[i]?
 lt:5<w.heap.size
theorem Kk.keep{S:Nat->Prop}{w w':World}(h:Kk w)(hm:Mod S w w')(h0:¬S 5):Kk w':=
 ⟨fun i hi=>(World.cell?_of_block (hm.block 5 h.lt h0)).trans (h.cells i hi),Nat.lt_of_lt_of_le h.lt hm.size⟩
theorem Kk.quiet{w w':World}(h:Kk w)(hm:Mod ↑ZW w w'):Kk w':=h.keep hm (fun h=>h)
theorem dA(w:World)(he:Kk w)(i sx sy:Nat)(hi:i<6)(hx:sx<=256)(hy:sy<=256):
  Calls prog 284 #[↑i,↑sx,↑sy] w fun e w'=>e=.returned (.tuple #[↑(U5 i),↑(QO (16*sx) i),↑(QP (16*sy) i)])/\Mod ↑ZW w w':=by
 have hc:=he.cells;clear he;have h6:i=0\/i=1\/i=2\/i=3\/i=4\/i=5:=Z8;rcases h6 with rfl|rfl|rfl|rfl|rfl|rfl
 all_goals
  have c0:=hc 0 Z8;have c1:=hc 1 Z8;have c2:=hc 2 Z8;have c3:=hc 3 Z8;have c4:=hc 4 Z8;have c5:=hc 5 Z8;have c6:=hc 6 Z8;have c7:=hc 7 Z8;have c8:=hc 8 Z8;have c9:=hc 9 Z8;have c10:=hc 10 Z8;have c11:=hc 11 Z8;have c12:=hc 12 Z8;have c13:=hc 13 Z8;have c14:=hc 14 Z8;have c15:=hc 15 Z8;have c16:=hc 16 Z8;have c17:=hc 17 Z8;simp only [Iw]at c0 c1 c2 c3 c4 c5 c6 c7 c8 c9 c10 c11 c12 c13 c14 c15 c16 c17;clear hc;go_enter func284,ntmps284;go_upto_region 4 with(fail)
  clear c0 c1 c2 c3 c4 c5 c6 c7 c8 c9 c10 c11 c12 c13 c14 c15 c16 c17;go_quiet (fail)
  go_wp2_with fail
  go_ret3
  refine⟨akc ?_ ?_ ?_,((Mod.refl _ _).alloc _).drewN _⟩<;>simp only [U5,QO,QP]<;>(try simp)<;>(try omega)
def aj2(w:World)(p gq W x y:Nat)(pv:Array Value)(A:Option Addr)(c:Nat)(ZJ l:List UInt8)(v12:Value)(wr:World):Prop:=
 ∃k:Nat,k<=8/\v12=↑k/\BytesIn wr A 64 c l/\Sat (·=gq) w wr [⟨p,56,pv⟩,⟨gq,5,(Yw (Uw W x y l ZJ k)).toArray⟩] []
theorem ajn(w:World)(W H n gq:Nat)(ZJ:List UInt8)(Il:Yx W H=true)(hn:n=W*H)(hq:ZI w gq 5 (Yw ZJ).toArray)(hql:ZJ.length=n)(x y:Nat)(hx:x+8<=W)(hy:y+8<=H)
  (A:Option Addr)(c:Nat)(l:List UInt8)(YZ:BytesIn w A 64 c l)(hc:64<=c)(hA:∀ad,A=some ad->ad.block≠gq):
  Calls prog 295 #[.agg #[↑W,↑H,↑(ZZ gq n n)],↑x,↑y,.slice A 64 c] w fun e w'=>e=.returned (.tuple #[])/\ZI w' gq 5 (Yw (Uw W x y l ZJ 8)).toArray/\Mod (·=gq) w w':=by
 obtain⟨ai,_,hW,_,hH,_⟩:=YB Il;rw [<-hn]at ai;have jL:l.length=64:=YZ.1;have M8:=(Sat.bP hq).alloc 56 #[↑W,↑H,↑(ZZ gq n n)] rfl;have xh:=YZ.quiet ((Mod.refl ↑ZW w).alloc (.cells #[↑W,↑H,↑(ZZ gq n n)] 56));have H0:=Z5 M8 (Z9 xh (Z9 hn (Z9 hql (Z9 hA jL))));obtain⟨b,off,rfl,_⟩:=YZ.place Z8;clear M8 xh hn hql hA jL Il hq YZ;go_enter func295,ntmps295;go_wp2_with fail;go_loopw [12] (aj2 w w.heap.size gq W x y #[↑W,↑H,↑(ZZ gq n n)] (some ⟨b,off,none⟩) c ZJ l) (fun s _=>8-(intOf s).toNat)
 case atStart=>exact⟨0,Z8,rfl,H0.out.2.1,H0.out.1⟩
 case round=>
  obtain⟨k,hk,rfl,YZ,HS⟩:=hrel;rename World=>wr
  by_cases hlt:k<8
  ·have d1:=Zb ((k:Int)<8);have JW:=HS.drew;have pb:=JW.ZX 0 rfl;have N9:=JW.ZX 1 rfl;dsimp only at pb N9;obtain⟨pc,pf⟩:=pb.both;obtain⟨m,hm⟩:=ZL ((y+k)*W);have iO:m+x+8<=n:=by rw [hm,H0.out.2.2.1];exact uP hx hy hlt
   obtain⟨row,hrow⟩:=ZL (m+x);obtain⟨k8,hk8⟩:=ZL (k*8);have eR:IntKind.i64.wrap (IntKind.i64.wrap (IntKind.i64.wrap ((y:Int)+(k:Int))*(W:Int))+(x:Int))=(row:Int):=by
    rw [Z4 ((y:Int)+(k:Int)) ⟨Z8,Z8⟩,show((y:Int)+(k:Int))*(W:Int)=(m:Int)by rw [hm];push_cast;rfl,Z4 (m:Int) ⟨Z8,Z8⟩,Z4 _ ⟨Z8,Z8⟩,hrow]
    push_cast
    rfl
   have e2:IntKind.i64.wrap ((k:Int)*8)=(k8:Int):=by rw [Z4 _ ⟨Z8,Z8⟩];omega
   have e3:IntKind.i64.wrap (IntKind.i64.wrap ((k:Int)+1)*8)=(k8:Int)+8:=by rw [Z4 ((k:Int)+1) ⟨Z8,Z8⟩,Z4 _ ⟨Z8,Z8⟩];omega
   have iW:row+8<=n:=Z8;have q1:(0:Int)<=(row:Int):=Z8;have q2:(row:Int)<=(n:Int):=Z8;have q4:¬n=row:=Z8;have q5:(0:Int)<=(k8:Int):=Z8;have q6:(k8:Int)<=(k8:Int)+8:=Z8;have q7:(k8:Int)+8<=(c:Int):=Z8;have q8:¬c=k8:=Z8;have Ji:=((YZ.quiet ((Mod.refl ↑ZW wr).drew)).part (lo:=k8) (m:=8) Z8)
   have aiH:(Uw W x y l ZJ k).length=n:=(QU hx hy (H0.out.2.2.2.1.trans H0.out.2.2.1) H0.out.2.2.2.2.2 k Z8).trans H0.out.2.2.1.symm;have qw:row+8<=(Yw (Uw W x y l ZJ k)).length:=by rw [YG,aiH];omega
   have hlr:=zU H0.out.2.2.2.2.2 hlt;rw [<-hk8]at hlr;have HY:=Z5 Ji (Z9 N9 (Z9 qw hlr));have HK:=Z5 JW (Z9 (YZ.quiet ((Mod.refl ↑ZW wr).drew)) (Z9 hrow (Z9 hk8 hm)));clear Ji N9 aiH qw hlr HS JW YZ hrow hk8 hm pb;go_upto_region 4 with(fail)
   refine YK [18] [] [0,1,2,3,4,5,6,7,8,9,10,11,12,13,14,15,16,17,18] ZR ZR Xc ?_;iterate 18 (refine Yd ?_)
   refine XJ rfl rfl (fun K hK=>?_);refine Wq rfl (.tmp 25) (.tmp 32) _ _ rfl 5 underlying54 ZR (some ⟨gq,row,none⟩) (n-row) (n-row) (some ⟨b,off+k8,none⟩) 8 (c-k8) _ (by simp [Act.eval]) (by simp [Act.eval];omega) HY.out.1 gq row _ 5 HY.out.2.1 8 (Nat.min_eq_left (by omega:8<=n-row)).symm (fun _=>rfl) HY.out.2.2.1 (Pg _) ?_;intro w5 Ut UR;have GH:=Z5 Ut UR;clear Ut UR;refine hK _ _ ?_;clear hK K;refine XD ?_;go_wp2_with fail;go_roundw
   case rel=>
    have Ut:=GH.out.1;have UR:=GH.out.2;rw [Zt (by rw [YG,HY.out.2.2.2];exact ZY _),Eu]at Ut;have mJ:Uw W x y l ZJ (k+1)=splice (Uw W x y l ZJ k) row (List.take 8 (List.drop k8 l)):=by
     show splice _ _ _=_;rw [HK.out.2.2.1,HK.out.2.2.2.1,HK.out.2.2.2.2]
    refine⟨k+1,Z8,Zr,HK.out.2.1.mod UR (by intro _ ad e;exact H0.out.2.2.2.2.1 ad e),?_⟩;rw [mJ];exact Sat.turn UR HK.out.1 Ut (.there .here)
   case measure=>exact YD
  ·obtain rfl:k=8:=Z8;have HK:=Z7 HS;clear HS;go_wp2_with fail;go_end0
   exact⟨rfl,HK.out.ZX 1 rfl,HK.out.mod⟩
theorem fK(w:World)(v:Int)(hv:-1073741824<=v/\v<=1073741824):Calls prog 389 #[↑v] w fun e w'=>e=.returned ↑(v.natAbs:Nat)/\w=w':=by
 obtain⟨Gr,hv2⟩:=hv;have hw:IntKind.i64.wrap (-v) = -v:=Z4 _ ⟨Z8,Z8⟩;have e1:max v (-v)=((v.natAbs:Nat):Int):=Z8;have HE:=Z7 e1;clear e1;by_cases h:v<0
 ·have e2:max v (-v) = -v:=Z8;go_enter func389,ntmps389;go_wp2_with fail;go_ret;exact⟨by rw [<-HE.out,e2];rfl,rfl⟩
 ·have e2:max v (-v)=v:=Z8;go_enter func389,ntmps389;go_wp2_with fail;go_ret;exact⟨by rw [<-HE.out,e2];rfl,rfl⟩
def UZ(a b:List UInt8):Nat->Nat
 | 0=>0
 | k+1=>UZ a b k+(((a.getD k 0).toNat:Int)-((b.getD k 0).toNat:Int)).natAbs
theorem Ot(a b:List UInt8)(k:Nat):UZ a b k<=k*255:=by
 induction k with
 | zero=>exact ZY _
 | succ k ih=>
  have hx:(a.getD k 0).toNat<256:=ZN _;have hy:(b.getD k 0).toNat<256:=ZN _;unfold UZ;omega
def ahv(a b:List UInt8)(n:Nat)(w:World)(v3 v7:Value)(wr:World):Prop:=∃k:Nat,k<=n/\v7=↑k/\v3=↑(UZ a b k:Nat)/\w=wr
theorem nU(w:World)(A:Option Addr)(n c:Nat)(a:List UInt8)(A2:Option Addr)(c2:Nat)(b:List UInt8)(YZ:BytesIn w A n c a)(Vr:BytesIn w A2 n c2 b)(JD:0<n)(hn:n<=4096):
  Calls prog 344 #[.slice A n c,.slice A2 n c2] w fun e w'=>e=.returned ↑(UZ a b n:Nat)/\w=w':=by
 obtain⟨ba,oa,rfl,oZ,Bl⟩:=YZ.place JD;obtain⟨bb,om,rfl,N8,hcb⟩:=Vr.place JD;have HC:=Z5 Bl hcb;clear Bl hcb YZ Vr;go_enter func344,ntmps344;go_wp2_with fail;go_loopw [5,10] (ahv a b n w) (fun _ i _=>n-(intOf i).toNat)
 case atStart=>exact⟨0,Z8,rfl,rfl,rfl⟩
 case round=>
  obtain⟨k,hk,rfl,rfl,rfl⟩:=hrel;by_cases hlt:k<n
  ·have M9:=HC.out.1 k hlt;have Lm:=HC.out.2 k hlt;have hx:(a.getD k 0).toNat<256:=ZN _;have hy:(b.getD k 0).toNat<256:=ZN _;have Md:=Ot a b k;have HF:Hid (UZ a b (k+1)=UZ a b k+(((a.getD k 0).toNat:Int)-((b.getD k 0).toNat:Int)).natAbs):=rfl;generalize (a.getD k 0).toNat=x at *;generalize (b.getD k 0).toNat=y at *;generalize UZ a b k=s at *;have i1:(0:Int)<=(k:Int):=Z8;have i2:(k:Int)<(n:Int):=Z8;go_wp2_with fail;refine YH (fK _ _ ⟨Z8,Z8⟩) ?_;obtain⟨z,hz⟩:=ZL (((x:Int)-(y:Int)).natAbs);have hz8:z<256:=Z8;rw [<-hz];rw [<-hz]at HF;have HZ:=Z7 hz;clear hz;go_wp2_with fail;go_roundw
   case rel=>exact⟨k+1,Z8,Zr,by rw [HF.out];go_num,rfl⟩
   case measure=>exact YD
  ·obtain rfl:k=n:=Z8;go_wp2_with fail;go_ret;exact⟨rfl,rfl⟩
end Go.Proofs.YthednemlahioeaaGreatDoor
