/-
  lift.Back of eight times eight; decoder.Build.
-/
import Derived.Test.YtnnpoodcdibpiaaGreatDoorB9
import Derived.OrdersHeld
namespace Go.Proofs.YtnnpoodcdibpiaaGreatDoor
open Go.RowKit
set_option maxRecDepth 100000
set_option maxHeartbeats 8000000
def backL(l:List Int):List Int:=rowsK (colsK l 8) 8
theorem backL_length(l:List Int)(h:l.length=64):(backL l).length=64:=rowsK_length _ (by rw [colsK_length];exact h) 8 (by omega)
theorem allB_within{m:Int}{l:List Int}(h0:0<=m)(h:allB m l=true):Within m l:=by
 unfold allB at h;rw [Bool.and_eq_true,List.all_eq_true]at h;intro i;by_cases hi:i<l.length
 ·have:=h.2 _ (List.getElem_mem hi);rw [List.getD_eq_getElem?_getD,List.getElem?_eq_getElem hi];unfold inB at this;simpa using this
 ·rw [List.getD_eq_getElem?_getD,List.getElem?_eq_none (by omega)];show -m<=0/\0<=m;omega
theorem own_open{w:World}{B:Nat}{v:Value}{l:List Int}(h:IntsOwn w B v l)(h0:0<l.length):∃r cap tl,v=.slice (some ⟨r,0,none⟩) l.length cap/\l.length<=cap/\cap<=maxLen/\B<=r/\(i64s l++tl).length=cap/\Blk w r 3 (i64s l++tl).toArray:=by
 rcases h.2 with⟨_,h1⟩|⟨r,cap,cur,hv,hB,hg,hc,hm,hs,ht⟩
 ·omega
 ·refine⟨r,cap,cur.toList.drop (l.length*1),hv,by omega,hm,hB,?_,?_⟩
  ·rw [<-ht,List.take_append_drop];simp;omega
  ·rw [<-ht,List.take_append_drop];exact hg
theorem own_close{w:World}{B r cap:Nat}{l:List Int}{tl:List Value}(hB:B<=r)(hc:l.length<=cap)(hm:cap<=maxLen)(hl:(i64s l++tl).length=cap)(hb:Blk w r 3 (i64s l++tl).toArray):IntsOwn w B (.slice (some ⟨r,0,none⟩) l.length cap) l:=
 ⟨by rw [i64s_length,Nat.mul_one],.inr ⟨r,cap,_,rfl,hB,hb,hc,hm,by simp only [List.size_toArray];omega,by rw [Nat.mul_one];rw [List.take_append_of_le_length (by rw [i64s_length];omega)];exact List.take_of_length_le (by rw [i64s_length];omega)⟩⟩
def BackPost(w:World)(l:List Int)(e:Ending)(w':World):Prop:=
 Mod (fun _=>False) w w'/\((allB 67108864 l=false/\e=.returned (.tuple #[.slice none 0 0,.int .i64 1]))\/∃v,allB 67108864 l=true/\e=.returned (.tuple #[v,.int .i64 0])/\IntsOwn w' w.heap.size v (backL l))
theorem liftBack(w:World)(A:Option Addr)(c:Nat)(l:List Int)(hin:IntsIn w A 64 c l):Calls Tryz.prog 366 #[.slice A 64 c] w (BackPost w l):=by
 have hl:l.length=64:=hin.1;have HIN:=Lib.hid hin;clear hin;go_enter Tryz.func366,Tryz.ntmps366;go_wp2_with fail;refine(liftWithin _ 67108864).mono ?_;rintro e w1 ⟨rfl,hb1,hm1⟩;have hw1:=hm1.size;have HW1:=Lib.hid (And.intro hb1 hm1);clear hb1 hm1;go_wp2_with fail;refine(liftBlock _ A 64 c w.heap.size l 67108864 (HIN.out.quiet HW1.out.2) (by omega) (by omega) HW1.out.1).mono ?_;rintro e w2 ⟨hm2,⟨h1,rfl⟩|⟨v,h1,rfl,h2⟩⟩
 ·have HF:=Lib.hid (And.intro h1 (HW1.out.2.trans hm2));clear h1 hm2;go_wp2_with fail;go_ret2;exact⟨HF.out.2.alloc _,.inl ⟨HF.out.1,rfl⟩⟩
 ·obtain⟨r,cap,tl,rfl,hcap,hcm,hB,hcl,hbr⟩:=own_open h2 (by omega);have HLE:=Lib.hid hl;rw [hl]at hcap ⊢;clear hl;have hrl:=hbr.lt;have h8:((sideOf 64:Nat):Int)=8:=rfl;rw [h8];have HF:=Lib.hid (And.intro h1 (And.intro (HW1.out.2.trans hm2) hbr));have HC:=Lib.hid (And.intro hcm hcl);clear h1 hm2 hbr h2 h8 hcm hcl;go_upto_region 2 with(fail)
  have HK:Hid (Blk (w2.alloc (.cells #[.int .i64 8] 3)) r 3 (i64s l++tl).toArray/\Blk (w2.alloc (.cells #[.int .i64 8] 3)) w2.heap.size 3 #[.int .i64 8]/\Mod (fun _=>False) w (w2.alloc (.cells #[.int .i64 8] 3))):=⟨HF.out.2.2.alloc _,Blk.new _ _ _,HF.out.2.1.alloc _⟩
  have hne:r≠w2.heap.size:=by omega
  generalize w2.heap.size=nb at *;generalize w2.alloc (.cells #[.int .i64 8] 3)=w3 at *;have cn:=HK.out.2.1.cell 0;have hw67:=allB_within (by omega) HF.out.1;have hwi:Within 34359738368 l:=fun i=>by have:=hw67 i;omega
  have hwi2:Within 34359738368 (colsK l 8):=fun i=>by have:=colsK_within HLE.out hw67 (by omega) 8 (by omega) i;omega
  have HWI:=Lib.hid (And.intro hwi hwi2);clear hwi hwi2 hw67;go_wp2_with fail;refine(liftCols _ r nb cap l tl HLE.out HWI.out.1 hne HK.out.1 HK.out.2.1).mono ?_;rintro e w4 ⟨rfl,hb4,hn4,hm4⟩;have c4:=hn4.cell 0;have HK4:=Lib.hid (And.intro hb4 (And.intro hn4 (HK.out.2.2.into hm4 (fun i e=>.inr (by omega)))));clear hb4 hn4 hm4 cn;go_wp2_with fail;refine(liftRows _ r nb cap (colsK l 8) tl (by rw [colsK_length];exact HLE.out) (by omega) HWI.out.2 hne HK4.out.1 HK4.out.2.1).mono ?_;rintro e w5 ⟨rfl,hb5,hn5,hm5⟩;have HK5:=Lib.hid (And.intro hb5 (HK4.out.2.2.into hm5 (fun i e=>.inr (by omega))));clear hb5 hn5 hm5 c4;go_wp2_with fail;go_ret2;refine⟨HK5.out.2,.inr ⟨_,HF.out.1,rfl,?_⟩⟩;have hbl:=backL_length l HLE.out;have hll:=HLE.out;have:=own_close (B:=w.heap.size) (cap:=cap) (l:=backL l) (tl:=tl) (by omega) (by omega) HC.out.1 (by have:=HC.out.2;simp only [List.length_append,i64s_length]at this ⊢;omega) HK5.out.1;rwa [hbl]at this
def buildL(g:List UInt8)(l:List Int)(q:Int):Option (List UInt8):=if g.length=64/\l.length=64 then(qFine l q).map (fun v=>clipL g (backL v))else none
theorem qFine_all{l v:List Int}{q:Int}(h:qFine l q=some v)(hl:l.length=64):v.length=64/\allB 67108864 v=true:=by
 unfold qFine at h;split at h
 ·rename_i hc;injection h with h;subst h;have h1:(fineL l q).length=64:=by simp [fineL,hl]
  refine⟨h1,allB_yes (by rw [h1];decide) (fun j hj=>?_)⟩;have:=hc.2.2 j (by omega);rw [h1]at hj;have e:(fineL l q).getD j 0=fineAt l q j:=by simp [fineL,List.getD_eq_getElem?_getD,hl,hj]
  rw [e];exact this
 ·cases h
def BuildPost(w:World)(g:List UInt8)(l:List Int)(q:Int)(e:Ending)(w':World):Prop:=
 Mod (fun _=>False) w w'/\((buildL g l q=none/\e=.returned (.tuple #[.slice none 0 0,.int .i64 1]))\/∃v bs,buildL g l q=some bs/\e=.returned (.tuple #[v,.int .i64 0])/\Bytes w' w.heap.size v bs)
theorem decBuild(w:World)(A:Option Addr)(n c:Nat)(g:List UInt8)(A2:Option Addr)(n2 c2:Nat)(l:List Int)(q:Int)(hg:BytesIn w A n c g)(hl:IntsIn w A2 n2 c2 l)(hn:n<=1048576)(hn2:n2<=1048576):
  Calls Tryz.prog 317 #[.slice A n c,.slice A2 n2 c2,.int .i64 q] w (BuildPost w g l q):=by
 obtain rfl:g.length=n:=hg.1;obtain rfl:l.length=n2:=hl.1;by_cases h1:g.length=64
 ·by_cases h2:l.length=64
  ·have HG:=Lib.hid hg;have HL:=Lib.hid hl;have HBD:Hid (buildL g l q=(qFine l q).map (fun v=>clipL g (backL v))):=if_pos ⟨h1,h2⟩;rw [h1]at HG ⊢;rw [h2]at HL ⊢;clear hg hl;have HH:=Lib.hid (And.intro h1 h2);clear h1 h2;go_enter Tryz.func317,Tryz.ntmps317;go_wp2_with fail;refine(quantFine _ A2 64 c2 l q HL.out (by omega)).mono ?_;rintro e w1 ⟨hm1,⟨hq,rfl⟩|⟨v,hq,rfl,hv⟩⟩
   ·have HQ:=Lib.hid (And.intro hq hm1);clear hq hm1;go_wp2_with fail;go_ret2;exact⟨HQ.out.2,.inl ⟨by rw [HBD.out,HQ.out.1];rfl,rfl⟩⟩
   ·obtain⟨hfl,hfa⟩:=qFine_all hq HH.out.2;obtain⟨A3,c3,hv3⟩:=own_shape hv;subst hv3;rw [hfl];have hin3:=hv.in_;rw [hfl]at hin3;have HV:=Lib.hid (And.intro hq (And.intro hm1 (And.intro hin3 hfa)));clear hq hm1 hv hin3 hfa;go_wp2_with fail;refine(liftBack _ A3 c3 _ HV.out.2.2.1).mono ?_;rintro e w2 ⟨hm2,⟨h1,rfl⟩|⟨v2,h1,rfl,h2⟩⟩
    ·exact absurd h1 (by rw [HV.out.2.2.2];decide)
    ·have hbl:=backL_length _ hfl;obtain⟨A4,c4,hv4⟩:=own_shape h2;subst hv4;rw [hbl];have hin4:=h2.in_;rw [hbl]at hin4;have HV2:=Lib.hid (And.intro hin4 (HV.out.2.1.trans hm2));clear h1 h2 hin4 hm2;go_wp2_with fail;refine(clipAll _ A 64 c g A4 c4 _ (HG.out.quiet HV2.out.2) HV2.out.1 (by omega) (by omega)).mono ?_;rintro e w3 ⟨v3,rfl,hb3,hm3⟩;obtain⟨A5,c5,hv5⟩:=own_shape hb3;subst hv5;have HV3:=Lib.hid (And.intro hb3 (HV2.out.2.trans hm3));have hsz:=HV2.out.2.size;clear hb3 hm3;go_wp2_with fail;go_ret2;exact⟨HV3.out.2,.inr ⟨_,_,by rw [HBD.out,HV.out.1];rfl,rfl,own_base HV3.out.1 hsz⟩⟩
  ·have hz:((l.length:Int) != 64)=true:=by simp;omega
   have HBD:Hid (buildL g l q=none):=if_neg (fun h=>h2 h.2);rw [h1];clear hg hl h1;go_enter Tryz.func317,Tryz.ntmps317;go_wp2_with fail;go_ret2;exact⟨Mod.refl _ _,.inl ⟨HBD.out,rfl⟩⟩
 ·have hz:((g.length:Int) != 64)=true:=by simp;omega
  have HBD:Hid (buildL g l q=none):=if_neg (fun h=>h1 h.1);clear hg hl;go_enter Tryz.func317,Tryz.ntmps317;go_wp2_with fail;go_ret2;exact⟨Mod.refl _ _,.inl ⟨HBD.out,rfl⟩⟩
def layTo(W x y:Nat)(l pix:List UInt8):Nat->List UInt8
 | 0=>pix
 | j+1=>splice (layTo W x y l pix j) ((y+j)*W+x) ((l.drop (j*8)).take 8)
theorem lay_in{W H x y j:Nat}(hx:x+8<=W)(hy:y+8<=H)(hj:j<8):(y+j)*W+x+8<=W*H:=by
 have h1:(y+j+1)*W<=H*W:=Nat.mul_le_mul_right W (by omega);rw [Nat.add_mul,Nat.one_mul,Nat.mul_comm H W]at h1;omega
theorem lay_row{l:List UInt8}(hl:l.length=64){j:Nat}(hj:j<8):((l.drop (j*8)).take 8).length=8:=by simp;omega
theorem layTo_length{W H x y:Nat}{l pix:List UInt8}(hx:x+8<=W)(hy:y+8<=H)(hp:pix.length=W*H)(hl:l.length=64):∀j,j<=8->(layTo W x y l pix j).length=W*H:=by
 intro j
 induction j with
 | zero=>intro _;exact hp
 | succ j ih=>
  intro h;show(splice _ _ _).length=_;rw [length_splice _ _ _ (by rw [lay_row hl (by omega),ih (by omega)];exact lay_in hx hy (by omega)),ih (by omega)]
theorem u8s_splice(L c:List UInt8)(a:Nat):splice (u8s L) a (u8s c)=u8s (splice L a c):=by
 simp only [splice,u8s,List.map_append,List.map_take,List.map_drop,List.length_map]
theorem intsIn_blk{w:World}{g:Nat}{l:List Int}(hb:Blk w g 3 (i64s l).toArray)(hl:l.length=64):IntsIn w (some ⟨g,0,none⟩) 64 64 l:=
 ⟨hl,(fun h=>by cases h),by have:=src_blk hb 0 64 (by omega);rwa [List.drop_zero,List.take_of_length_le (by omega)]at this,fun _ ad e=>by injection e with e;subst e;exact hb.lt⟩
theorem buildL_length{a bs:List UInt8}{b:List Int}{q:Int}(h:buildL a b q=some bs):bs.length=a.length:=by
 unfold buildL at h;split at h
 ·simp only [Option.map_eq_some_iff]at h;obtain⟨v,_,rfl⟩:=h;exact cpL_length _ _ _
 ·cases h
def hdrFits(K:Bool)(N Q W H G:Int):Bool:=seqRight W H G&&decide (0<=Q/\Q<=31/\0<=N/\N<G)&&(K == (N == 0))
theorem synFits_yes(w:World)(K:Bool)(N Q W H G:Int)(h:hdrFits K N Q W H G=true):Calls Tryz.prog 241 #[.agg #[.bool K,.int .i64 N,.int .i64 Q],.agg #[.int .i64 W,.int .i64 H,.int .i64 G]] w fun e w'=>e=.returned (.bool true)/\Mod (fun _=>False) w w':=by
 unfold hdrFits at h;simp only [Bool.and_eq_true,decide_eq_true_eq]at h;obtain⟨⟨hr,a1,a2,a3,a4⟩,hk⟩:=h;have hb2:Blk (w.alloc (.cells #[.bool K,.int .i64 N,.int .i64 Q] 237)) w.heap.size 237 #[.bool K,.int .i64 N,.int .i64 Q]:=Blk.new _ _ _;have hb3:Blk ((w.alloc (.cells #[.bool K,.int .i64 N,.int .i64 Q] 237)).alloc (.cells #[.int .i64 W,.int .i64 H,.int .i64 G] 70)) (w.alloc (.cells #[.bool K,.int .i64 N,.int .i64 Q] 237)).heap.size 70 #[.int .i64 W,.int .i64 H,.int .i64 G]:=Blk.new _ _ _;replace hb2:=hb2.alloc (.cells #[.int .i64 W,.int .i64 H,.int .i64 G] 70);have M:Mod (fun _=>False) w ((w.alloc (.cells #[.bool K,.int .i64 N,.int .i64 Q] 237)).alloc (.cells #[.int .i64 W,.int .i64 H,.int .i64 G] 70)):=((Mod.refl _ _).alloc _).alloc _;have e1:(w.alloc (.cells #[.bool K,.int .i64 N,.int .i64 Q] 237)).heap.size=w.heap.size+1:=by simp
 rw [e1]at hb3;clear e1;go_enter Tryz.func241,Tryz.ntmps241;go_wp2_with fail;generalize (w.alloc (.cells #[.bool K,.int .i64 N,.int .i64 Q] 237)).alloc (.cells #[.int .i64 W,.int .i64 H,.int .i64 G] 70)=w1 at *;refine(synRight_yes _ W H G hr).mono ?_;rintro e w2 ⟨rfl,m2⟩;have M2:=M.trans m2;obtain⟨hc2,hf2⟩:=(hb2.keep m2 (fun h=>h)).both;obtain⟨hc3,hf3⟩:=(hb3.keep m2 (fun h=>h)).both;clear hb2 hb3 M m2 hr;go_wp2_with fail;go_ret;exact⟨by simp,M2⟩
def noFrame:List Value:=[.int .i64 0,.int .i64 0,.slice none 0 0,.int .i64 0,.int .i64 0,.slice none 0 0,.int .i64 0,.int .i64 0,.slice none 0 0]
def Pix.get(f:Pix)(pl:Nat):List UInt8:=if pl=0 then f.Y else if pl=1 then f.U else f.V
def Pix.set(f:Pix)(pl:Nat)(l:List UInt8):Pix:=if pl=0 then⟨l,f.U,f.V⟩else if pl=1 then⟨f.Y,l,f.V⟩else⟨f.Y,f.U,l⟩
def Dim.wOf(d:Dim)(pl:Nat):Nat:=if pl=0 then d.W else d.W2
def Dim.hOf(d:Dim)(pl:Nat):Nat:=if pl=0 then d.H else d.H2
structure Ids(P:Nat->Prop)(K:Bool)(bk g rb fr dg gy gu gv ay au av:Nat):Prop where
 pg:¬P g
 pb:¬P bk
 py:¬P gy
 pu:¬P gu
 pv:¬P gv
 nd:[g,bk,rb,fr,gy,gu,gv].Nodup
 na:K=false->[g,bk,rb,gy,gu,gv,dg,ay,au,av].Nodup
def pcP(i:Nat):Nat:=if i<4 then 0 else i-3
def pcX(x i:Nat):Nat:=if 4<=i then x/2 else if i % 2=1 then x+8 else x
def pcY(y i:Nat):Nat:=if 4<=i then y/2 else if 2<=i then y+8 else y
theorem pc_in{d:Dim}(hd:d.Ok){x y i:Nat}(hi:i<6)(hx:x+16<=d.W)(hy:y+16<=d.H):pcP i<3/\pcX x i+8<=d.wOf (pcP i)/\pcY y i+8<=d.hOf (pcP i):=by
 have:=hd.w2;have:=hd.h2;have h6:i=0\/i=1\/i=2\/i=3\/i=4\/i=5:=by omega
 rcases h6 with rfl|rfl|rfl|rfl|rfl|rfl<;>simp [pcP,pcX,pcY,Dim.wOf,Dim.hOf]<;>omega
def encV(W H G q tg nu:Int)(fr:List Value):Array Value:=(.int .i64 W :: .int .i64 H :: .int .i64 G :: .int .i64 q :: .int .i64 tg :: .int .i64 nu :: fr).toArray
theorem encEnd(w:World)(g:Nat)(W H G q tg nu:Int)(fr:List Value)(h:Blk w g 283 (encV W H G q tg nu fr)):Calls Tryz.prog 125 #[.pointer (some ⟨g,0,none⟩)] w fun e w'=>e=.returned (.tuple #[])/\Blk w' g 283 (encV W H G q tg 0 fr)/\Mod (·=g) w w':=by
 have c:w.cell? ⟨g,5,none⟩=some (.int .i64 nu):=h.cell 5;have f:=h.frozen 5;have l:=h.lt;have H1:=Lib.hid h;clear h;go_enter Tryz.func125,Tryz.ntmps125;go_wp2_with fail;go_end0
 exact⟨rfl,H1.out.put (i:=5) (u:=.int .i64 0) rfl,(Mod.refl (fun j=>j=g) w).setCell (p:=⟨g,5,none⟩) (.inl rfl) _⟩
theorem tup3{a b c a' b' c':Int}(h1:a=a')(h2:b=b')(h3:c=c'):Ending.returned (.tuple #[.int .i64 a,.int .i64 b,.int .i64 c])=Ending.returned (.tuple #[.int .i64 a',.int .i64 b',.int .i64 c']):=by rw [h1,h2,h3]
def placesV:Array Value:=#[.int .i64 0,.int .i64 0,.int .i64 0,.int .i64 0,.int .i64 8,.int .i64 0,.int .i64 0,.int .i64 0,.int .i64 8,.int .i64 0,.int .i64 8,.int .i64 8,.int .i64 1,.int .i64 0,.int .i64 0,.int .i64 2,.int .i64 0,.int .i64 0]
structure EnvP(w:World):Prop where
 cells:∀i,i<18->w.cell? ⟨6,i,none⟩=placesV[i]?
 lt:6<w.heap.size
theorem EnvP.keep{S:Nat->Prop}{w w':World}(h:EnvP w)(hm:Mod S w w')(h0:¬S 6):EnvP w':=
 ⟨fun i hi=>(World.cell?_of_block (hm.block 6 h.lt h0)).trans (h.cells i hi),Nat.lt_of_lt_of_le h.lt hm.size⟩
theorem EnvP.quiet{w w':World}(h:EnvP w)(hm:Mod (fun _=>False) w w'):EnvP w':=h.keep hm (fun h=>h)
theorem eSpot(w:World)(he:EnvP w)(i sx sy:Nat)(hi:i<6)(hx:sx<=256)(hy:sy<=256):
  Calls Tryz.prog 299 #[.int .i64 (i:Int),.int .i64 (sx:Int),.int .i64 (sy:Int)] w fun e w'=>e=.returned (.tuple #[.int .i64 (pcP i:Int),.int .i64 (pcX (16*sx) i:Int),.int .i64 (pcY (16*sy) i:Int)])/\Mod (fun _=>False) w w':=by
 have hc:=he.cells;clear he;have h6:i=0\/i=1\/i=2\/i=3\/i=4\/i=5:=by omega
 rcases h6 with rfl|rfl|rfl|rfl|rfl|rfl
 all_goals
  have c0:=hc 0 (by omega);have c1:=hc 1 (by omega);have c2:=hc 2 (by omega);have c3:=hc 3 (by omega);have c4:=hc 4 (by omega);have c5:=hc 5 (by omega);have c6:=hc 6 (by omega);have c7:=hc 7 (by omega);have c8:=hc 8 (by omega);have c9:=hc 9 (by omega);have c10:=hc 10 (by omega);have c11:=hc 11 (by omega);have c12:=hc 12 (by omega);have c13:=hc 13 (by omega);have c14:=hc 14 (by omega);have c15:=hc 15 (by omega);have c16:=hc 16 (by omega);have c17:=hc 17 (by omega);simp only [placesV]at c0 c1 c2 c3 c4 c5 c6 c7 c8 c9 c10 c11 c12 c13 c14 c15 c16 c17;clear hc;go_enter Tryz.func299,Tryz.ntmps299;go_upto_region 4 with(fail)
  clear c0 c1 c2 c3 c4 c5 c6 c7 c8 c9 c10 c11 c12 c13 c14 c15 c16 c17;go_quiet (fail)
  go_wp2_with fail
  go_ret3
  refine⟨tup3 ?_ ?_ ?_,((Mod.refl _ _).alloc _).drewN _⟩<;>simp only [pcP,pcX,pcY]<;>(try simp)<;>(try omega)
def ElRel(w:World)(p gq W x y:Nat)(pv:Array Value)(A:Option Addr)(c:Nat)(pix l:List UInt8)(v12:Value)(wr:World):Prop:=
 ∃k:Nat,k<=8/\v12=.int .i64 (k:Int)/\BytesIn wr A 64 c l/\Sat (·=gq) w wr [⟨p,108,pv⟩,⟨gq,5,(u8s (layTo W x y l pix k)).toArray⟩] []
theorem eLay(w:World)(W H n gq:Nat)(pix:List UInt8)(hsd:sidesB W H=true)(hn:n=W*H)(hq:Blk w gq 5 (u8s pix).toArray)(hql:pix.length=n)(x y:Nat)(hx:x+8<=W)(hy:y+8<=H)
  (A:Option Addr)(c:Nat)(l:List UInt8)(hin:BytesIn w A 64 c l)(hc:64<=c)(hA:∀ad,A=some ad->ad.block≠gq):
  Calls Tryz.prog 310 #[.agg #[.int .i64 (W:Int),.int .i64 (H:Int),.slice (some ⟨gq,0,none⟩) n n],.int .i64 (x:Int),.int .i64 (y:Int),.slice A 64 c] w fun e w'=>e=.returned (.tuple #[])/\Blk w' gq 5 (u8s (layTo W x y l pix 8)).toArray/\Mod (·=gq) w w':=by
 obtain⟨hnle,_,hW,_,hH,_⟩:=area_le hsd;rw [<-hn]at hnle;have hll:l.length=64:=hin.1;have HS0:=(Sat.own1 hq).alloc 108 #[.int .i64 (W:Int),.int .i64 (H:Int),.slice (some ⟨gq,0,none⟩) n n] rfl;have hin0:=hin.quiet ((Mod.refl (fun _=>False) w).alloc (.cells #[.int .i64 (W:Int),.int .i64 (H:Int),.slice (some ⟨gq,0,none⟩) n n] 108));have H0:=Lib.hid (And.intro HS0 (And.intro hin0 (And.intro hn (And.intro hql (And.intro hA hll)))));obtain⟨b,off,rfl,_⟩:=hin.place (by omega);clear HS0 hin0 hn hql hA hll hsd hq hin;go_enter Tryz.func310,Tryz.ntmps310;go_wp2_with fail;go_loopw [12] (ElRel w w.heap.size gq W x y #[.int .i64 (W:Int),.int .i64 (H:Int),.slice (some ⟨gq,0,none⟩) n n] (some ⟨b,off,none⟩) c pix l) (fun s _=>8-(intOf s).toNat)
 case atStart=>exact⟨0,by omega,rfl,H0.out.2.1,H0.out.1⟩
 case round=>
  obtain⟨k,hk,rfl,hin,HS⟩:=hrel;rename World=>wr
  by_cases hlt:k<8
  ·have d1:decide ((k:Int)<8)=true:=decide_eq_true (by omega);have HSd:=HS.drew;have pb:=HSd.own_ 0 rfl;have hdst:=HSd.own_ 1 rfl;dsimp only at pb hdst;obtain⟨pc,pf⟩:=pb.both;obtain⟨m,hm⟩:∃m,m=(y+k)*W:=⟨_,rfl⟩
   have hmn:m+x+8<=n:=by rw [hm,H0.out.2.2.1];exact lay_in hx hy hlt
   obtain⟨row,hrow⟩:∃row,row=m+x:=⟨_,rfl⟩
   obtain⟨k8,hk8⟩:∃k8,k8=k*8:=⟨_,rfl⟩
   have eR:IntKind.i64.wrap (IntKind.i64.wrap (IntKind.i64.wrap ((y:Int)+(k:Int))*(W:Int))+(x:Int))=(row:Int):=by
    rw [IntWalk.i64_in ((y:Int)+(k:Int)) ⟨by omega,by omega⟩,show((y:Int)+(k:Int))*(W:Int)=(m:Int)by rw [hm];push_cast;rfl,IntWalk.i64_in (m:Int) ⟨by omega,by omega⟩,IntWalk.i64_in _ ⟨by omega,by omega⟩,hrow]
    push_cast
    rfl
   have e2:IntKind.i64.wrap ((k:Int)*8)=(k8:Int):=by rw [IntWalk.i64_in _ ⟨by omega,by omega⟩];omega
   have e3:IntKind.i64.wrap (IntKind.i64.wrap ((k:Int)+1)*8)=(k8:Int)+8:=by rw [IntWalk.i64_in ((k:Int)+1) ⟨by omega,by omega⟩,IntWalk.i64_in _ ⟨by omega,by omega⟩];omega
   have hr8:row+8<=n:=by omega
   have q1:(0:Int)<=(row:Int):=by omega
   have q2:(row:Int)<=(n:Int):=by omega
   have q4:¬n=row:=by omega
   have q5:(0:Int)<=(k8:Int):=by omega
   have q6:(k8:Int)<=(k8:Int)+8:=by omega
   have q7:(k8:Int)+8<=(c:Int):=by omega
   have q8:¬c=k8:=by omega
   have hsrc:=((hin.quiet ((Mod.refl (fun _=>False) wr).drew)).part (lo:=k8) (m:=8) (by omega))
   have hll2:(layTo W x y l pix k).length=n:=(layTo_length hx hy (H0.out.2.2.2.1.trans H0.out.2.2.1) H0.out.2.2.2.2.2 k (by omega)).trans H0.out.2.2.1.symm;have hfit:row+8<=(u8s (layTo W x y l pix k)).length:=by rw [u8s_length,hll2];omega
   have hlr:=lay_row H0.out.2.2.2.2.2 hlt;rw [<-hk8]at hlr;have HY:=Lib.hid (And.intro hsrc (And.intro hdst (And.intro hfit hlr)));have HK:=Lib.hid (And.intro HSd (And.intro (hin.quiet ((Mod.refl (fun _=>False) wr).drew)) (And.intro hrow (And.intro hk8 hm))));clear hsrc hdst hll2 hfit hlr HS HSd hin hrow hk8 hm pb;go_upto_region 4 with(fail)
   refine wp_region_plan [18] [] [0,1,2,3,4,5,6,7,8,9,10,11,12,13,14,15,16,17,18] (by kernel_rfl) (by kernel_rfl) (fun _ _ _ d _ h=>by cases d<;>exact h) ?_;iterate 18 (refine plan_still rfl rfl (fun K hK=>?_);go_simp;refine hK _ ?_;clear hK K)
   refine plan_loud rfl rfl (fun K hK=>?_);refine step_copy_blk rfl (.tmp 25) (.tmp 32) _ _ rfl 5 Tryz.underlying22 (by kernel_rfl) (some ⟨gq,row,none⟩) (n-row) (n-row) (some ⟨b,off+k8,none⟩) 8 (c-k8) _ (by simp [Act.eval]) (by simp [Act.eval];omega) HY.out.1 gq row _ 5 HY.out.2.1 8 (Nat.min_eq_left (by omega:8<=n-row)).symm (fun _=>rfl) HY.out.2.2.1 (u8s_one _) ?_;intro w5 hb5 hm5;have HB5:=Lib.hid (And.intro hb5 hm5);clear hb5 hm5;refine hK _ _ ?_;clear hK K;refine plan_done ?_;go_wp2_with fail;go_roundw
   case rel=>
    have hb5:=HB5.out.1;have hm5:=HB5.out.2;rw [List.take_of_length_le (by rw [u8s_length,HY.out.2.2.2];exact Nat.le_refl _),u8s_splice]at hb5;have hly:layTo W x y l pix (k+1)=splice (layTo W x y l pix k) row (List.take 8 (List.drop k8 l)):=by
     show splice _ _ _=_;rw [HK.out.2.2.1,HK.out.2.2.2.1,HK.out.2.2.2.2]
    refine⟨k+1,by omega,by go_num,HK.out.2.1.mod hm5 (by intro _ ad e;exact H0.out.2.2.2.2.1 ad e),?_⟩;rw [hly];exact Sat.turn hm5 HK.out.1 hb5 (.there .here)
   case measure=>simp [intOf];omega
  ·obtain rfl:k=8:=by omega
   have HK:=Lib.hid HS;clear HS;go_wp2_with fail;go_end0
   exact⟨rfl,HK.out.own_ 1 rfl,HK.out.mod⟩
theorem mSize(w:World)(v:Int)(hv:-1073741824<=v/\v<=1073741824):Calls Tryz.prog 381 #[.int .i64 v] w fun e w'=>e=.returned (.int .i64 ((v.natAbs:Nat):Int))/\w=w':=by
 obtain⟨hv1,hv2⟩:=hv;have hw:IntKind.i64.wrap (-v) = -v:=IntWalk.i64_in _ ⟨by omega,by omega⟩;have e1:max v (-v)=((v.natAbs:Nat):Int):=by omega
 have HE:=Lib.hid e1;clear e1;by_cases h:v<0
 ·have e2:max v (-v) = -v:=by omega
  go_enter Tryz.func381,Tryz.ntmps381;go_wp2_with fail;go_ret;exact⟨by rw [<-HE.out,e2];rfl,rfl⟩
 ·have e2:max v (-v)=v:=by omega
  go_enter Tryz.func381,Tryz.ntmps381;go_wp2_with fail;go_ret;exact⟨by rw [<-HE.out,e2];rfl,rfl⟩
def farTo(a b:List UInt8):Nat->Nat
 | 0=>0
 | k+1=>farTo a b k+(((a.getD k 0).toNat:Int)-((b.getD k 0).toNat:Int)).natAbs
theorem farTo_le(a b:List UInt8)(k:Nat):farTo a b k<=k*255:=by
 induction k with
 | zero=>exact Nat.le_refl _
 | succ k ih=>
  have hx:(a.getD k 0).toNat<256:=UInt8.toNat_lt _;have hy:(b.getD k 0).toNat<256:=UInt8.toNat_lt _;unfold farTo;omega
def FarRel(a b:List UInt8)(n:Nat)(w:World)(v3 v7:Value)(wr:World):Prop:=∃k:Nat,k<=n/\v7=.int .i64 (k:Int)/\v3=.int .i64 ((farTo a b k:Nat):Int)/\w=wr
theorem mApart(w:World)(A:Option Addr)(n c:Nat)(a:List UInt8)(A2:Option Addr)(c2:Nat)(b:List UInt8)(hin:BytesIn w A n c a)(hin2:BytesIn w A2 n c2 b)(hn0:0<n)(hn:n<=4096):
  Calls Tryz.prog 345 #[.slice A n c,.slice A2 n c2] w fun e w'=>e=.returned (.int .i64 ((farTo a b n:Nat):Int))/\w=w':=by
 obtain⟨ba,oa,rfl,hba,hca⟩:=hin.place hn0;obtain⟨bb,ob2,rfl,hbb,hcb⟩:=hin2.place hn0;have HC:=Lib.hid (And.intro hca hcb);clear hca hcb hin hin2;go_enter Tryz.func345,Tryz.ntmps345;go_wp2_with fail;go_loopw [5,10] (FarRel a b n w) (fun _ i _=>n-(intOf i).toNat)
 case atStart=>exact⟨0,by omega,rfl,rfl,rfl⟩
 case round=>
  obtain⟨k,hk,rfl,rfl,rfl⟩:=hrel;by_cases hlt:k<n
  ·have hck:=HC.out.1 k hlt;have hck2:=HC.out.2 k hlt;have hx:(a.getD k 0).toNat<256:=UInt8.toNat_lt _;have hy:(b.getD k 0).toNat<256:=UInt8.toNat_lt _;have hfl:=farTo_le a b k;have HF:Hid (farTo a b (k+1)=farTo a b k+(((a.getD k 0).toNat:Int)-((b.getD k 0).toNat:Int)).natAbs):=rfl;generalize (a.getD k 0).toNat=x at *;generalize (b.getD k 0).toNat=y at *;generalize farTo a b k=s at *;have i1:(0:Int)<=(k:Int):=by omega
   have i2:(k:Int)<(n:Int):=by omega
   go_wp2_with fail;refine(mSize _ _ ⟨by omega,by omega⟩).mono ?_;rintro e w5 ⟨rfl,rfl⟩;obtain⟨z,hz⟩:∃z,z=((x:Int)-(y:Int)).natAbs:=⟨_,rfl⟩
   have hz8:z<256:=by omega
   rw [<-hz];rw [<-hz]at HF;have HZ:=Lib.hid hz;clear hz;go_wp2_with fail;go_roundw
   case rel=>exact⟨k+1,by omega,by go_num,by rw [HF.out];go_num,rfl⟩
   case measure=>simp [intOf];omega
  ·obtain rfl:k=n:=by omega
   go_wp2_with fail;go_ret;exact⟨rfl,rfl⟩
section
variable {P : Program} {ops : Array Oper} {md : Region.Mode} {loud pure_ : List Nat} {S : World → Prop} {Q : Exit → Act → World → Prop}
def wpY(P:Program)(md:Region.Mode)(ops:Array Oper)(loud:List Nat)(S:World->Prop)(Q:Exit->Act->World->Prop):Nat->Array Bool->Act->World->Prop
 | 0,listed,a,w=>Region.ready md ops listed=[]/\Q .normal a w
 | f+1,listed,a,w=>(Region.ready md ops listed=[]->Q .normal a w)/\∀i∈Region.ready md ops listed,
   if i∈loud then wpOp P ops Q i (fun a' w'=>S w'/\wpY P md ops loud S Q f (listed.setIfInBounds i true) a' w') a w
   else stOp P ops w i (fun a'=>wpY P md ops loud S Q f (listed.setIfInBounds i true) a' w) a
theorem wpY_any:∀(f:Nat)(listed:Array Bool)(a:Act)(w:World),wpY P md ops loud S Q f listed a w->wpAny P md ops Q f listed a w
 | 0,_,_,_,h=>h
 | f+1,listed,a,w,h=>⟨h.1,fun i hi=>by
   have h2:=h.2 i hi;split at h2
   ·exact wpOp_mono (fun a' w' h'=>wpY_any f _ a' w' h'.2) h2
   ·exact wpOp_of_stOp (fun a' h'=>wpY_any f _ a' w h') h2⟩
theorem wpY_still{B:Array Nat}(hB:waitB md ops B=true)(hsel:∀(j:Nat) (o:Oper) cs b,ops[j]?=some o->o.op≠.select cs b){i:Nat}{oi:Oper}{v:Value}(hi:ops[i]?=some oi)(hil:i ∉ loud){w:World}:
  ∀(f:Nat) (listed:Array Bool) (a:Act),(∀j∈loud,(B.getD j 0).testBit i=true\/listed.getD j true=true)->Closed md ops listed ->
   (∀j oj,ops[j]?=some oj->j≠i->listed.getD j true=false->(∀e∈oj.after,Region.binds md e=true->e.on≠i)->oi.apart ops oj=true) ->
   i∈Region.ready md ops listed->YieldsAt P ops w oi v a ->
   wpY P md ops loud S Q f (listed.setIfInBounds i true) (a.put oi.dst v) w->wpY P md ops loud S Q (f+1) listed a w:=by
 intro f
 induction f with
 | zero=>
  intro listed a _ hc hfree hr hy H;refine⟨fun h=>(by rw [h]at hr;cases hr),fun j hj=>?_⟩;obtain rfl:=ready_set_nil H.1 hj;rw [if_neg hil];exact hy.stOp hi H
 | succ f ih=>
  intro listed a hw hc hfree hr hy H;refine⟨fun h=>(by rw [h]at hr;cases hr),fun j hj=>?_⟩;by_cases hji:j=i
  ·subst hji;rw [if_neg hil];exact hy.stOp hi H
  ·obtain⟨hjun,oj,hoj,hall⟩:=mem_ready.1 hj
   have hjl:j ∉ loud:=fun hjl=>by
    rcases hw j hjl with h|h
    ·have h2:=waits_listed hB hc j j (Nat.le_refl _) oj hoj hall i (Array.getElem?_eq_some_iff.1 hi).1 h;rw [getD_both (mem_ready.1 hr).1]at h2;cases h2
    ·rw [hjun]at h;cases h
   have h1:=H.2 j (ready_mono hj hji);rw [if_neg hjl]at h1 ⊢
   refine stOp_mono (fun a' h3=>ih (listed.setIfInBounds j true) a' (fun k hk=>(hw k hk).imp id getD_keep) (hc.set hj) (free_set hfree hjun) (ready_mono hr (Ne.symm hji)) h3.1 ?_)
    (stOp_put hoj (hfree j oj hoj hji hjun (not_waiting hr hall)) (fun cs b=>hsel i oi cs b hi) (fun cs b=>hsel j oj cs b hoj) hy h1)
   rw [Array.setIfInBounds_comm _ _ hji];exact h3.2
theorem stOp_putIf{j:Nat}{oi oj:Oper}{v:Value}{w:World}(hj:ops[j]?=some oj)(hap:oi.apart ops oj=true)
  (hsi:∀cs b,oi.op≠.select cs b)(hsj:∀cs b,oj.op≠.select cs b){K:Act->Prop}{a:Act}
  (hy:YieldsIf P ops S oi v a)(h:stOp P ops w j K (a.put oi.dst v)):
  stOp P ops w j (fun a'=>YieldsIf P ops S oi v a'/\K (a'.put oi.dst v)) a:=by
 obtain⟨h1,h2,h3⟩:=Oper.apart_spec hap;have keep:∀u,YieldsIf P ops S oi v (a.put oj.dst u):=fun u=>hy.of_same (execOp_put oi hsi a oj.dst u h3) (wanted_put oi a oj.dst u h3);unfold stOp at *;simp only [hj]at *;rw [wanted_put oj a oi.dst v h1]at h;split
 ·rename_i hw;simp only [hw,if_true]at h;unfold Oper.still at *;rw [execOp_put oj hsj a oi.dst v h1]at h;generalize (execOp a.eval oj).run P w=r at *;cases r with
  | ok n w'=>
   cases n<;>simp only [Oper.stillUpon]at h ⊢
   case value u=>exact⟨h.1,keep u,by rw [<-Act.put_comm a v u h2];exact h.2⟩
   case skip=>exact⟨h.1,keep _,by rw [<-Act.put_comm a v undef h2];exact h.2⟩
   case enter f args=>obtain⟨hw',u,hc,hn⟩:=h;exact⟨hw',u,hc,keep u,by rw [<-Act.put_comm a v u h2];exact hn⟩
  | halt x w'=>simp only [Oper.stillUpon]at h
 ·rename_i hw;simp only [hw]at h;exact⟨keep _,by rw [<-Act.put_comm a v undef h2];exact h⟩
theorem wpY_if(hsel:∀(j:Nat) (o:Oper) cs b,ops[j]?=some o->o.op≠.select cs b){i:Nat}{oi:Oper}{v:Value}(hi:ops[i]?=some oi)(hil:i ∉ loud)
  (hQ:∀c a w d u,Q (.panic c) (a.put d u) w->Q (.panic c) a w):
  ∀(f:Nat) (listed:Array Bool) (a:Act) (w:World),S w ->
   (∀j oj,ops[j]?=some oj->j≠i->listed.getD j true=false->(∀e∈oj.after,Region.binds md e=true->e.on≠i)->oi.apart ops oj=true) ->
   i∈Region.ready md ops listed->YieldsIf P ops S oi v a ->
   wpY P md ops loud S Q f (listed.setIfInBounds i true) (a.put oi.dst v) w->wpY P md ops loud S Q (f+1) listed a w:=by
 have here:∀ {K:Act->Prop} {a:Act} {w:World},S w->YieldsIf P ops S oi v a->K (a.put oi.dst v)->stOp P ops w i K a:=fun {K a w} hS hy h=>by
  unfold stOp;simp only [hi];rcases hy with⟨hw,hv⟩|⟨hw,rfl⟩
  ·simp only [hw,if_true,Oper.still,hv w hS,Oper.stillUpon];exact⟨trivial,h⟩
  ·simp only [hw,Bool.false_eq_true,if_false];exact h
 intro f
 induction f with
 | zero=>
  intro listed a w hS hfree hr hy H;refine⟨fun h=>(by rw [h]at hr;cases hr),fun j hj=>?_⟩;obtain rfl:=ready_set_nil H.1 hj;rw [if_neg hil];exact here hS hy H
 | succ f ih=>
  intro listed a w hS hfree hr hy H;refine⟨fun h=>(by rw [h]at hr;cases hr),fun j hj=>?_⟩;by_cases hji:j=i
  ·subst hji;rw [if_neg hil];exact here hS hy H
  ·obtain⟨hjun,oj,hoj,hall⟩:=mem_ready.1 hj;have h1:=H.2 j (ready_mono hj hji);split
   ·rename_i hjl;rw [if_pos hjl]at h1
    refine wpOp_mono (fun a' w' h3=>⟨h3.2.1,ih (listed.setIfInBounds j true) a' w' h3.2.1 (free_set hfree hjun) (ready_mono hr (Ne.symm hji)) h3.1 ?_⟩)
     (wpOp_putIf hoj (hfree j oj hoj hji hjun (not_waiting hr hall)) (fun cs b=>hsel i oi cs b hi) (fun cs b=>hsel j oj cs b hoj) (fun c a w h=>hQ c a w _ _ h) hy h1)
    rw [Array.setIfInBounds_comm _ _ hji];exact h3.2.2
   ·rename_i hjl;rw [if_neg hjl]at h1
    refine stOp_mono (fun a' h3=>ih (listed.setIfInBounds j true) a' w hS (free_set hfree hjun) (ready_mono hr (Ne.symm hji)) h3.1 ?_)
     (stOp_putIf hoj (hfree j oj hoj hji hjun (not_waiting hr hall)) (fun cs b=>hsel i oi cs b hi) (fun cs b=>hsel j oj cs b hoj) hy h1)
    rw [Array.setIfInBounds_comm _ _ hji];exact h3.2
def wpPlanS(P:Program)(ops:Array Oper)(loud pure_:List Nat)(S:World->Prop)(Q:Exit->Act->World->Prop):List Nat->Act->World->Prop
 | [],a,w=>Q .normal a w
 | i :: is,a,w=>if loud.contains i then wpOp P ops Q i (fun a' w'=>S w'/\wpPlanS P ops loud pure_ S Q is a' w') a w
  else if pure_.contains i then ∃o v,ops[i]?=some o/\YieldsIf P ops S o v a/\wpPlanS P ops loud pure_ S Q is (a.put o.dst v) w
  else stOp P ops w i (fun a'=>wpPlanS P ops loud pure_ S Q is a' w) a
theorem wpY_plan{B:Array Nat}(hB:waitB md ops B=true)(hs:Region.noSelect ops=true)(hQ:∀c a w d u,Q (.panic c) (a.put d u) w->Q (.panic c) a w):
  ∀(is:List Nat) (listed:Array Bool) (a:Act) (w:World),S w->Closed md ops listed->planOk md ops loud pure_ B is listed=true->wpPlanS P ops loud pure_ S Q is a w->wpY P md ops loud S Q is.length listed a w
 | [],listed,a,w,_,hc,hp,h=>⟨by simpa [planOk]using hp,h⟩
 | i :: is,listed,a,w,hS,hc,hp,h=>by
  simp only [planOk,Bool.and_eq_true]at hp;obtain⟨h1,h2⟩:=hp;unfold wpPlanS at h;by_cases hl:loud.contains i=true
  ·rw [if_pos hl,decide_eq_true_eq]at h1;rw [if_pos hl]at h;have hr:i∈Region.ready md ops listed:=by rw [h1];simp
   refine⟨fun h0=>(by rw [h0]at hr;cases hr),fun j hj=>?_⟩;rw [h1]at hj;obtain rfl:j=i:=by simpa using hj
   rw [if_pos (by simpa using hl)];exact wpOp_mono (fun a' w' h'=>⟨h'.1,wpY_plan hB hs hQ is _ a' w' h'.1 (hc.set hr) h2 h'.2⟩) h
  ·rw [if_neg hl]at h1 h;simp only [Bool.and_eq_true,Bool.or_eq_true,List.all_eq_true]at h1;obtain⟨⟨hr,hf⟩,hw⟩:=h1;have hr':i∈Region.ready md ops listed:=by simpa using hr
   have hil:i ∉ loud:=by simpa using hl
   by_cases hpu:pure_.contains i=true
   ·rw [if_pos hpu]at h;obtain⟨o,v,ho,hy,hk⟩:=h;exact wpY_if (Region.noSelect_spec hs) ho hil hQ is.length listed a w hS (Region.free_spec ho hf) hr' hy (wpY_plan hB hs hQ is _ _ w hS (hc.set hr') h2 hk)
   ·rw [if_neg hpu]at h;have hw':=hw.resolve_left hpu;obtain⟨_,o,ho,_⟩:=mem_ready.1 hr';obtain⟨v,hy,hk⟩:=yieldsAt_of_stOp ho h;exact wpY_still hB (Region.noSelect_spec hs) ho hil is.length listed a (fun j hj=>by simpa using hw' j hj) hc (Region.free_spec ho hf) hr' hy (wpY_plan hB hs hQ is _ _ w hS (hc.set hr') h2 hk)
theorem wp_region_planS0{id:Nat}{a:Act}{w:World}(loud pure_ is:List Nat)(S:World->Prop)(hm:P.follows .mixedOrders=true)(hB:planB ops loud pure_ is=true)
  (hQ:∀c a w d u,Q (.panic c) (a.put d u) w->Q (.panic c) a w)(hS:S w.drew)(h:wpPlanS P ops loud pure_ S Q is a w.drew):(Code.region id ops true).wp P Q a w:=by
 simp only [planB,Bool.and_eq_true,decide_eq_true_eq]at hB;obtain⟨⟨⟨hs,hw⟩,hl⟩,hp⟩:=hB;refine wp_region_any hm ?_;have:=wpY_any _ _ _ _ (wpY_plan (md:=.any) hw hs hQ is _ a w.drew hS (fun j oj _ hl=>by rw [getD_replicate_false]at hl;cases hl) hp h);rw [hl]at this;exact this
theorem planS0_still{i:Nat}{is:List Nat}{o:Oper}{a:Act}{w:World}(hl:(loud.contains i || pure_.contains i)=false)(ho:ops[i]?=some o)
  (h:∀K:Act->Prop,(∀a',wpPlanS P ops loud pure_ S Q is a' w->K a')->if Region.wanted o (yielded ops a.tmps)then o.still P a w K else K (a.put o.dst undef)):wpPlanS P ops loud pure_ S Q (i :: is) a w:=by
 rw [Bool.or_eq_false_iff]at hl;unfold wpPlanS;rw [if_neg (by simpa using hl.1),if_neg (by simpa using hl.2)];unfold stOp;simp only [ho];exact h _ (fun a' h'=>h')
theorem planS0_pure{i:Nat}{is:List Nat}{o:Oper}{a:Act}{w:World}{v:Value}(hl:(!loud.contains i&&pure_.contains i)=true)(ho:ops[i]?=some o)(hg:Region.wanted o (yielded ops a.tmps)=true)
  (hr:∀w,S w->(execOp a.eval o).run P w=.ok (.value v) w)(h:wpPlanS P ops loud pure_ S Q is (a.put o.dst v) w):wpPlanS P ops loud pure_ S Q (i :: is) a w:=by
 rw [Bool.and_eq_true,Bool.not_eq_true']at hl;unfold wpPlanS;rw [if_neg (by simpa using hl.1),if_pos hl.2];exact⟨o,v,ho,.inl ⟨hg,hr⟩,h⟩
theorem planS0_loud{i:Nat}{is:List Nat}{o:Oper}{a:Act}{w:World}(hl:loud.contains i=true)(ho:ops[i]?=some o)
  (h:∀K:Act->World->Prop,(∀a w,S w->wpPlanS P ops loud pure_ S Q is a w->K a w)->if Region.wanted o (yielded ops a.tmps)=true then Oper.wp P o a w K Q else K (a.put o.dst undef) w):wpPlanS P ops loud pure_ S Q (i :: is) a w:=by
 unfold wpPlanS;rw [if_pos hl];exact wpOp_step ho (fun K hK=>h K (fun a w h1 h2=>hK a w ⟨h1,h2⟩))
theorem planS0_done{a:Act}{w:World}(h:Q .normal a w):wpPlanS P ops loud pure_ S Q [] a w:=h
structure PlanG(P:Program)(ops:Array Oper)(loud pure_:List Nat)(S:World->Prop)(Q:Exit->Act->World->Prop)(is:List Nat)(a:Act)(w:World):Prop where
 out:wpPlanS P ops loud pure_ S Q is a w
theorem wp_region_planS{id:Nat}{a:Act}{w:World}(loud pure_ is:List Nat)(S:World->Prop)(hm:P.follows .mixedOrders=true)(hB:planB ops loud pure_ is=true)
  (hQ:∀c a w d u,Q (.panic c) (a.put d u) w->Q (.panic c) a w)(hS:S w.drew)(h:PlanG P ops loud pure_ S Q is a w.drew):(Code.region id ops true).wp P Q a w:=
 wp_region_planS0 loud pure_ is S hm hB hQ hS h.out
theorem planS_still{i:Nat}{is:List Nat}{o:Oper}{a:Act}{w:World}(hl:(loud.contains i || pure_.contains i)=false)(ho:ops[i]?=some o)
  (h:∀K:Act->Prop,(∀a',PlanG P ops loud pure_ S Q is a' w->K a')->if Region.wanted o (yielded ops a.tmps)then o.still P a w K else K (a.put o.dst undef)):PlanG P ops loud pure_ S Q (i :: is) a w:=
 ⟨planS0_still hl ho (fun K hK=>h K (fun a' h'=>hK a' h'.out))⟩
theorem planS_pure{i:Nat}{is:List Nat}{o:Oper}{a:Act}{w:World}{v:Value}(hl:(!loud.contains i&&pure_.contains i)=true)(ho:ops[i]?=some o)(hg:Region.wanted o (yielded ops a.tmps)=true)
  (hr:∀w,S w->(execOp a.eval o).run P w=.ok (.value v) w)(h:PlanG P ops loud pure_ S Q is (a.put o.dst v) w):PlanG P ops loud pure_ S Q (i :: is) a w:=
 ⟨planS0_pure hl ho hg hr h.out⟩
theorem planS_loud{i:Nat}{is:List Nat}{o:Oper}{a:Act}{w:World}(hl:loud.contains i=true)(ho:ops[i]?=some o)
  (h:∀K:Act->World->Prop,(∀a w,S w->PlanG P ops loud pure_ S Q is a w->K a w)->if Region.wanted o (yielded ops a.tmps)=true then Oper.wp P o a w K Q else K (a.put o.dst undef) w):PlanG P ops loud pure_ S Q (i :: is) a w:=
 ⟨planS0_loud hl ho (fun K hK=>h K (fun a w h1 h2=>hK a w h1 h2.out))⟩
theorem planS_done{a:Act}{w:World}(h:Q .normal a w):PlanG P ops loud pure_ S Q [] a w:=⟨planS0_done h⟩
end
end Go.Proofs.YtnnpoodcdibpiaaGreatDoor
