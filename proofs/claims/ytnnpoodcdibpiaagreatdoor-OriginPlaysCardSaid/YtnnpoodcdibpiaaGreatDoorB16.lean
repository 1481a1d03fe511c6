/-
  lift: the columns of a block transformed.
-/
import Derived.Test.YtnnpoodcdibpiaaGreatDoorB15
namespace Go.Proofs.YtnnpoodcdibpiaaGreatDoor
open Go.RowKit
set_option maxRecDepth 100000
set_option maxHeartbeats 8000000
theorem doFwd(w:World)(g nb:Nat)(l:List Int)(hl:l.length=8)(hM:Within 1099511627776 l)(hb:Blk w g 474 (i64s l).toArray)(hn:Blk w nb 3 #[.int .i64 8]):
  Calls Tryz.prog 355 #[.pointer (some ⟨g,0,none⟩),.pointer (some ⟨nb,0,none⟩)] w fun e w'=>e=.returned (.tuple #[])/\Blk w' g 474 (i64s (fwd8 l)).toArray/\Mod (·=g) w w':=by
 obtain⟨hc,hf⟩:=hn.both;have HB:=Lib.hid hb;clear hb hn;go_enter Tryz.func355,Tryz.ntmps355;go_wp2_with fail;refine(lineFwd _ g l hl hM HB.out).mono ?_;rintro e w1 ⟨rfl,hb1,hm1⟩;have HF:=Lib.hid (And.intro hb1 hm1);clear hb1 hm1;go_wp2_with fail;go_end0
 exact⟨rfl,HF.out⟩
def fcolsK(L:List Int):Nat->List Int
 | 0=>L
 | x+1=>colK x (fwd8 (colOf x (fcolsK L x))) (fcolsK L x) 8
theorem fcolsK_length(L:List Int)(x:Nat):(fcolsK L x).length=L.length:=by
 induction x with
 | zero=>rfl
 | succ x ih=>simp [fcolsK,colK_length,ih]
theorem fcolsK_getD(L:List Int)(hL:L.length=64)(n y x:Nat)(hn:n<=8)(hx:x<8)(hy:y<8):
  (fcolsK L n).getD (y*8+x) 0=if x<n then(fwd8 (colOf x L)).getD y 0 else L.getD (y*8+x) 0:=by
 induction n generalizing x y with
 | zero=>simp [fcolsK]
 | succ n ih=>
  rw [fcolsK,colK_getD n _ _ (by rw [fcolsK_length];exact hL) (by omega) 8 y x (by omega) hx hy,ih y x (by omega) hx hy];by_cases e:x=n
  ·subst e;rw [if_pos ⟨rfl,hy⟩,if_pos (by omega)];congr 2;unfold colOf;apply List.map_congr_left;intro a ha;rw [ih a x (by omega) hx (by simpa using ha),if_neg (by omega)]
  ·rw [if_neg (fun h=>e h.1)];by_cases e2:x<n
   ·rw [if_pos e2,if_pos (by omega)]
   ·rw [if_neg e2,if_neg (by omega)]
theorem fcolsK_within{M:Int}{L:List Int}(hL:L.length=64)(h:Within M L)(h0:0<=M)(n:Nat)(hn:n<=8):Within (8*M) (fcolsK L n):=by
 refine within_of (by rw [fcolsK_length];exact hL) (fun y hy x hx=>?_) (by omega);rw [fcolsK_getD L hL n y x hn hx hy];split
 ·exact fwd8_within (colOf_length _ _) h0 (colOf_within h h0 x) y
 ·have:=h (y*8+x);omega
def fcolsRel(w:World)(r nb:Nat)(L:List Int)(tl:List Value)(v:Value)(wr:World):Prop:=
 ∃x:Nat,x<=8/\v=.int .i64 (x:Int)/\Blk wr r 3 (i64s (fcolsK L x)++tl).toArray/\Blk wr nb 3 #[.int .i64 8]/\Mod (·=r) w wr
theorem liftColsF(w:World)(r nb cap:Nat)(L:List Int)(tl:List Value)(hL:L.length=64)(hM:Within 34359738368 L)(hne:r≠nb)(hb:Blk w r 3 (i64s L++tl).toArray)(hn:Blk w nb 3 #[.int .i64 8]):
  Calls Tryz.prog 358 #[.slice (some ⟨r,0,none⟩) 64 cap,.int .i64 8,.func (.func 355) #[] #[.pointer (some ⟨nb,0,none⟩)]] w fun e w'=>e=.returned (.tuple #[])/\Blk w' r 3 (i64s (fcolsK L 8)++tl).toArray/\Blk w' nb 3 #[.int .i64 8]/\Mod (·=r) w w':=by
 have HB:=Lib.hid (And.intro hb hn);have hrl:=hb.lt;have hnl:=hn.lt;clear hb hn;go_enter Tryz.func358,Tryz.ntmps358;go_wp2_with fail;go_loopw [11] (fcolsRel w r nb L tl) (fun x _=>8-(intOf x).toNat)
 case atStart=>exact⟨0,by omega,rfl,HB.out.1,HB.out.2,Mod.refl _ _⟩
 case round=>
  revert hrel;generalize wr=wr0;intro hrel;obtain⟨x,hx,rfl,hb,hn,hm⟩:=hrel;by_cases hlt:x<8
  ·have HW:=Lib.hid (And.intro hb (And.intro hn hm));have hsz:=hm.size;clear hb hn hm;go_upto_region 4 with(fail)
   have HI:Hid (Blk (wr0.alloc (.cells #[.int .i64 0,.int .i64 0,.int .i64 0,.int .i64 0,.int .i64 0,.int .i64 0,.int .i64 0,.int .i64 0] 474)) wr0.heap.size 474 (i64s (fillK (colOf x (fcolsK L x)) 0)).toArray/\Blk (wr0.alloc (.cells #[.int .i64 0,.int .i64 0,.int .i64 0,.int .i64 0,.int .i64 0,.int .i64 0,.int .i64 0,.int .i64 0] 474)) r 3 (i64s (fcolsK L x)++tl).toArray/\Blk (wr0.alloc (.cells #[.int .i64 0,.int .i64 0,.int .i64 0,.int .i64 0,.int .i64 0,.int .i64 0,.int .i64 0,.int .i64 0] 474)) nb 3 #[.int .i64 8]/\Mod (·=r) w (wr0.alloc (.cells #[.int .i64 0,.int .i64 0,.int .i64 0,.int .i64 0,.int .i64 0,.int .i64 0,.int .i64 0,.int .i64 0] 474))):=⟨Blk.new _ _ _,HW.out.1.alloc _,HW.out.2.1.alloc _,HW.out.2.2.alloc _⟩
   generalize wr0.alloc (.cells #[.int .i64 0,.int .i64 0,.int .i64 0,.int .i64 0,.int .i64 0,.int .i64 0,.int .i64 0,.int .i64 0] 474)=w1 at *;have hlx:(fcolsK L x).length=64:=by rw [fcolsK_length];exact hL
   have HWI:Hid (Within 1099511627776 (colOf x (fcolsK L x))):=fun i=>by
    have:=colOf_within (fcolsK_within hL hM (by omega) x (by omega)) (by omega) x i;omega
   generalize hL':fcolsK L x=L' at *;have HL':=Lib.hid hL';clear hL' HW;go_wp2_with fail;go_loopw [15] (fillRel w r nb wr0.heap.size (colOf x L') L' tl) (fun y _=>8-(intOf y).toNat)
   case atStart=>exact⟨0,by omega,rfl,HI.out⟩
   case round=>
    obtain⟨y,hy,rfl,bg,br,bn,hm⟩:=hrel;by_cases hly:y<8
    ·have c1:=row_cell br (y*8+x) (by omega);have c2:=bg.cell y;rw [List.getElem?_toArray,getD_i64s _ _ (by rw [fillK_length];omega)]at c2;have c3:=bg.frozen;generalize hv:L'.getD (y*8+x) 0=v at *;have HV:=Lib.hid hv;have HK:=Lib.hid (And.intro bg (And.intro br (And.intro bn hm)));clear bg br bn hm hv;have j1:(0:Int)<=(y:Int)*8+(x:Int):=by omega
     have j2:(y:Int)*8+(x:Int)<64:=by omega
     go_wp2_with fail;refine⟨⟨y+1,by omega,by go_num,?_,HK.out.2.1.far (p:=⟨wr0.heap.size,y,none⟩) (by show ¬r=wr0.heap.size;omega) _,HK.out.2.2.1.far (p:=⟨wr0.heap.size,y,none⟩) (by show ¬nb=wr0.heap.size;omega) _,HK.out.2.2.2.setCell (.inr hsz) _⟩,by simp [intOf];omega⟩;have hb':=HK.out.1.set_ y (.int .i64 v);rw [set_i64s]at hb';rw [fillK,colOf_getD _ _ _ hly,HV.out];exact hb'
    ·obtain rfl:y=8:=by omega
     rw [fillK_all _ (colOf_length _ _)]at bg;have hnb2:¬nb=wr0.heap.size:=by omega
     have hrb2:¬r=wr0.heap.size:=by omega
     have HK:=Lib.hid (And.intro bg (And.intro br (And.intro bn hm)));clear bg br bn hm;go_wp2_with fail;refine(doFwd _ wr0.heap.size nb _ (colOf_length _ _) HWI.out HK.out.1 HK.out.2.2.1).mono ?_;rintro e w2 ⟨rfl,hb2,hm2⟩;have br2:=HK.out.2.1.keep hm2 hrb2;have bn2:=HK.out.2.2.1.keep hm2 hnb2;have hmf:=HK.out.2.2.2.then_ hm2 (fun k hk e=>by omega);have HK2:=Lib.hid (And.intro hb2 (And.intro br2 (And.intro bn2 hmf)));have hc8:(fwd8 (colOf x L')).length=8:=by rw [fwd8_length _ (colOf_length _ _)]
     generalize hcc:fwd8 (colOf x L')=cc at *;have HCC:=Lib.hid hcc;clear hb2 hm2 br2 bn2 hmf HK hcc;go_wp2_with fail;go_loopw [32] (putRel w r nb wr0.heap.size x cc L' tl) (fun y _=>8-(intOf y).toNat)
     case atStart=>exact⟨0,by omega,rfl,HK2.out.1,HK2.out.2⟩
     case round=>
      obtain⟨y,hy,rfl,bg,br,bn,hm⟩:=hrel;by_cases hly:y<8
      ·have hlk:(colK x cc L' y).length=64:=by rw [colK_length];exact hlx
       have c1:=row_cell br (y*8+x) (by omega);have c2:=bg.cell y;rw [List.getElem?_toArray,getD_i64s _ _ (by omega)]at c2;have c3:=br.frozen;generalize hv:cc.getD y 0=v at *;have HV:=Lib.hid hv;have HK:=Lib.hid (And.intro bg (And.intro br (And.intro bn hm)));clear bg br bn hm hv;have j1:(0:Int)<=(y:Int)*8+(x:Int):=by omega
       have j2:(y:Int)*8+(x:Int)<64:=by omega
       go_wp2_with fail;refine⟨⟨y+1,by omega,by go_num,HK.out.1.far (p:=⟨r,y*8+x,none⟩) (by show ¬wr0.heap.size=r;omega) _,?_,HK.out.2.2.1.far (p:=⟨r,y*8+x,none⟩) (by show ¬nb=r;omega) _,HK.out.2.2.2.setCell (.inl rfl) _⟩,by simp [intOf];omega⟩;rw [colK,HV.out];exact row_set HK.out.2.1 (y*8+x) (by omega) v
      ·obtain rfl:y=8:=by omega
       have HK:=Lib.hid (And.intro br (And.intro bn hm));clear bg br bn hm;go_wp2_with fail;refine⟨⟨x+1,by omega,by go_num,?_,HK.out.2⟩,by simp [intOf];omega⟩;rw [fcolsK,HL'.out,HCC.out];exact HK.out.1
  ·obtain rfl:x=8:=by omega
   have HF:=Lib.hid (And.intro hb (And.intro hn hm));clear hb hn hm;go_wp2_with fail;go_end0
   exact⟨rfl,HF.out⟩
def frowsK(L:List Int):Nat->List Int
 | 0=>L
 | y+1=>splice (frowsK L y) (y*8) (fwd8 (rowOf y (frowsK L y)))
theorem frowsK_length(L:List Int)(hL:L.length=64)(y:Nat)(hy:y<=8):(frowsK L y).length=64:=by
 induction y with
 | zero=>exact hL
 | succ y ih=>
  have h:=ih (by omega);rw [frowsK,length_splice _ _ _ (by rw [fwd8_length _ (rowOf_length y _ h (by omega))];omega),h]
theorem frowsK_getD(L:List Int)(hL:L.length=64)(n y x:Nat)(hn:n<=8)(hx:x<8)(hy:y<8):
  (frowsK L n).getD (y*8+x) 0=if y<n then(fwd8 (rowOf y L)).getD x 0 else L.getD (y*8+x) 0:=by
 induction n generalizing x y with
 | zero=>simp [frowsK]
 | succ n ih=>
  have hl:=frowsK_length L hL n (by omega);have h8:(fwd8 (rowOf n (frowsK L n))).length=8:=fwd8_length _ (rowOf_length n _ hl (by omega));rw [frowsK,splice_getD _ _ _ (by omega),h8,ih y x (by omega) hx hy];by_cases e:y=n
  ·subst e;rw [if_pos (by omega),if_pos (by omega),show y*8+x-y*8=x by omega];have e1:rowOf y (frowsK L y)=rowOf y L:=by
    rw [eight _ (rowOf_length y _ hl hy),eight _ (rowOf_length y L hL hy)];simp only [rowOf_getD _ _ _ (show 0<8 by omega),rowOf_getD _ _ _ (show 1<8 by omega),rowOf_getD _ _ _ (show 2<8 by omega),rowOf_getD _ _ _ (show 3<8 by omega),rowOf_getD _ _ _ (show 4<8 by omega),rowOf_getD _ _ _ (show 5<8 by omega),rowOf_getD _ _ _ (show 6<8 by omega),rowOf_getD _ _ _ (show 7<8 by omega)];have h:=fun x hx=>(ih y x (by omega) hx hy).trans (if_neg (by omega));rw [h 0 (by omega),h 1 (by omega),h 2 (by omega),h 3 (by omega),h 4 (by omega),h 5 (by omega),h 6 (by omega),h 7 (by omega)]
   rw [e1]
  ·rw [if_neg (by omega)];by_cases e2:y<n
   ·rw [if_pos e2,if_pos (by omega)]
   ·rw [if_neg e2,if_neg (by omega)]
theorem frowsK_within{M:Int}{L:List Int}(hL:L.length=64)(h:Within M L)(h0:0<=M)(n:Nat)(hn:n<=8):Within (8*M) (frowsK L n):=by
 refine within_of (frowsK_length L hL n hn) (fun y hy x hx=>?_) (by omega);rw [frowsK_getD L hL n y x hn hx hy];split
 ·exact fwd8_within (rowOf_length y L hL hy) h0 (rowOf_within h h0 y) x
 ·have:=h (y*8+x);omega
def frowsRel(w:World)(r nb:Nat)(L:List Int)(tl:List Value)(v:Value)(wr:World):Prop:=
 ∃y:Nat,y<=8/\v=.int .i64 (y:Int)/\Blk wr r 3 (i64s (frowsK L y)++tl).toArray/\Blk wr nb 3 #[.int .i64 8]/\Mod (·=r) w wr
theorem liftRowsF(w:World)(r nb cap:Nat)(L:List Int)(tl:List Value)(hL:L.length=64)(hcap:64<=cap)(hM:Within 34359738368 L)(hne:r≠nb)(hb:Blk w r 3 (i64s L++tl).toArray)(hn:Blk w nb 3 #[.int .i64 8]):
  Calls Tryz.prog 357 #[.slice (some ⟨r,0,none⟩) 64 cap,.int .i64 8,.func (.func 355) #[] #[.pointer (some ⟨nb,0,none⟩)]] w fun e w'=>e=.returned (.tuple #[])/\Blk w' r 3 (i64s (frowsK L 8)++tl).toArray/\Blk w' nb 3 #[.int .i64 8]/\Mod (·=r) w w':=by
 have HB:=Lib.hid (And.intro hb hn);have hrl:=hb.lt;have hnl:=hn.lt;clear hb hn;go_enter Tryz.func357,Tryz.ntmps357;go_wp2_with fail;go_loopw [9] (frowsRel w r nb L tl) (fun x _=>8-(intOf x).toNat)
 case atStart=>exact⟨0,by omega,rfl,HB.out.1,HB.out.2,Mod.refl _ _⟩
 case round=>
  revert hrel;generalize wr=wr0;intro hrel;obtain⟨y,hy,rfl,hb,hn,hm⟩:=hrel;by_cases hlt:y<8
  ·have HW:=Lib.hid (And.intro hb (And.intro hn hm));have hsz:=hm.size;clear hb hn hm;go_upto_region 4 with(fail)
   have HI:Hid (Blk (wr0.alloc (.cells #[.int .i64 0,.int .i64 0,.int .i64 0,.int .i64 0,.int .i64 0,.int .i64 0,.int .i64 0,.int .i64 0] 474)) wr0.heap.size 474 z8.toArray/\Blk (wr0.alloc (.cells #[.int .i64 0,.int .i64 0,.int .i64 0,.int .i64 0,.int .i64 0,.int .i64 0,.int .i64 0,.int .i64 0] 474)) r 3 (i64s (frowsK L y)++tl).toArray/\Blk (wr0.alloc (.cells #[.int .i64 0,.int .i64 0,.int .i64 0,.int .i64 0,.int .i64 0,.int .i64 0,.int .i64 0,.int .i64 0] 474)) nb 3 #[.int .i64 8]/\Mod (·=r) w (wr0.alloc (.cells #[.int .i64 0,.int .i64 0,.int .i64 0,.int .i64 0,.int .i64 0,.int .i64 0,.int .i64 0,.int .i64 0] 474))):=⟨Blk.new _ _ _,HW.out.1.alloc _,HW.out.2.1.alloc _,HW.out.2.2.alloc _⟩
   generalize wr0.alloc (.cells #[.int .i64 0,.int .i64 0,.int .i64 0,.int .i64 0,.int .i64 0,.int .i64 0,.int .i64 0,.int .i64 0] 474)=w1 at *;have hlx:(frowsK L y).length=64:=frowsK_length L hL y (by omega)
   have HWI:Hid (Within 1099511627776 (rowOf y (frowsK L y))):=fun i=>by
    have:=rowOf_within (frowsK_within hL hM (by omega) y (by omega)) (by omega) y i;omega
   generalize hL':frowsK L y=L' at *;have HL':=Lib.hid hL';clear hL' HW;have HS:Hid (Src w1 1 (some ⟨r,y*8,none⟩) 8 (i64s ((L'.drop (y*8)).take 8))):=src_row HI.out.2.1 (y*8) 8 (by omega);have HN:Hid (8=Nat.min 8 8/\0+8<=z8.length):=⟨by decide,by decide⟩
   have e1:¬cap=y*8:=by omega
   have e2:y*8+8-y*8=8:=by omega
   have e3:(y:Int)*8+8<=64:=by omega
   have e4:(y:Int)*8+8<=(cap:Int):=by omega
   have e5:(y:Int)*8<=(y:Int)*8+8:=by omega
   have e6:(0:Int)<=(y:Int)*8:=by omega
   have e7:IntKind.i64.wrap ((y:Int)*8)=(y:Int)*8:=by rw [IntKind.wrap_i64];omega
   have e8:IntKind.i64.wrap ((y:Int)*8+8)=(y:Int)*8+8:=by rw [IntKind.wrap_i64];omega
   have HT:Hid (((y:Int)*8).toNat=y*8/\((y:Int)*8+8).toNat=y*8+8):=⟨by omega,by omega⟩
   go_region_law (refine step_copy_blk rfl (.tmp 13) (.tmp 23) _ _ rfl 3 Tryz.underlying23 (by kernel_rfl) (some ⟨wr0.heap.size,0,none⟩) 8 8 (some ⟨r,y*8,none⟩) 8 (cap-y*8) _ (by simp [Act.eval,Act.put]) (by simp [Act.eval,Act.put,HT.out.1,HT.out.2,e1]) HS.out wr0.heap.size 0 z8 474 HI.out.1 8 HN.out.1 (fun _=>rfl) HN.out.2 (i64s_one _) ?_;intro w2 hb2 hm2;have HW2:=Lib.hid (And.intro hb2 hm2);clear hb2 hm2)
   obtain⟨hb2,hm2⟩:=HW2.out;have hm2':Mod (·=wr0.heap.size) w1 w2:=((Mod.refl _ w1).drew).trans hm2;have hrb2:¬r=wr0.heap.size:=by omega
   have hnb2:¬nb=wr0.heap.size:=by omega
   have br2:=HI.out.2.1.keep hm2' hrb2;have bn2:=HI.out.2.2.1.keep hm2' hnb2;have hmf:=HI.out.2.2.2.then_ hm2' (fun k hk e=>by omega);have hl8:(rowOf y L').length=8:=rowOf_length y L' hlx hlt;have hb2':Blk w2 wr0.heap.size 474 (i64s (rowOf y L')).toArray:=by
    have e:splice z8 0 (List.take 8 (i64s (List.take 8 (List.drop (y*8) L'))))=i64s (rowOf y L'):=by
     rw [List.take_of_length_le (by simp [i64s];omega)];have:(i64s (rowOf y L')).length=8:=by rw [i64s_length,hl8]
     show List.take 0 z8++(i64s (rowOf y L')++List.drop (0+(i64s (rowOf y L')).length) z8)=_;rw [this];simp [z8]
    rw [<-e];exact hb2
   have HK:=Lib.hid (And.intro hb2' (And.intro br2 (And.intro bn2 hmf)));clear hb2 hm2 hm2' br2 bn2 hmf hb2' HW2 HI HS;go_wp2_with fail;refine(doFwd _ wr0.heap.size nb _ hl8 HWI.out HK.out.1 HK.out.2.2.1).mono ?_;rintro e w3 ⟨rfl,hb3,hm3⟩;have br3:=HK.out.2.1.keep hm3 hrb2;have bn3:=HK.out.2.2.1.keep hm3 hnb2;have hmf3:=HK.out.2.2.2.then_ hm3 (fun k hk e=>by omega);have hc8:(fwd8 (rowOf y L')).length=8:=fwd8_length _ hl8;generalize hcc:fwd8 (rowOf y L')=cc at *;have HCC:=Lib.hid hcc;have HS:Hid (Src w3 1 (some ⟨wr0.heap.size,0,none⟩) 8 (i64s ((cc.drop 0).take 8))):=src_blk hb3 0 8 (by omega);have HF:Hid (y*8+8<=(i64s L'++tl).length):=by show _<=_;simp [i64s];omega
   have HK3:=Lib.hid (And.intro hb3 (And.intro br3 (And.intro bn3 hmf3)));clear hb3 hm3 br3 bn3 hmf3 HK hcc;go_upto_region 6 with(fail)
   go_region_law (refine step_copy_blk rfl (.tmp 36) (.tmp 38) _ _ rfl 3 Tryz.underlying23 (by kernel_rfl) (some ⟨r,y*8,none⟩) 8 (cap-y*8) (some ⟨wr0.heap.size,0,none⟩) 8 8 _ (by simp [Act.eval,Act.put,HT.out.1,HT.out.2]) (by simp [Act.eval,Act.put]) HS.out r (y*8) (i64s L'++tl) 3 HK3.out.2.1 8 HN.out.1 (fun _=>rfl) HF.out (i64s_one _) ?_;intro w4 hb4 hm4;have HW4:=Lib.hid (And.intro hb4 hm4);clear hb4 hm4)
   go_wp2_with fail;obtain⟨hb4,hm4⟩:=HW4.out;have hm4':Mod (·=r) w3 w4:=((Mod.refl _ w3).drew).trans hm4;have bn4:=HK3.out.2.2.1.keep hm4' (by omega);refine⟨⟨y+1,by omega,by go_num,?_,bn4,HK3.out.2.2.2.trans hm4'⟩,by simp [intOf];omega⟩;rw [frowsK,HL'.out,HCC.out,<-splice_row _ _ _ _ (by omega)];have e:List.take 8 (i64s (List.take 8 (List.drop 0 cc)))=i64s cc:=by
    rw [List.drop_zero,List.take_of_length_le (l:=cc) (by omega),List.take_of_length_le (by rw [i64s_length];omega)]
   rw [e]at hb4;exact hb4
  ·obtain rfl:y=8:=by omega
   have HF:=Lib.hid (And.intro hb (And.intro hn hm));clear hb hn hm;go_wp2_with fail;go_end0
   exact⟨rfl,HF.out⟩
def fwdL(l:List Int):List Int:=fcolsK (frowsK l 8) 8
theorem fwdL_length(l:List Int)(h:l.length=64):(fwdL l).length=64:=by unfold fwdL;rw [fcolsK_length];exact frowsK_length _ h 8 (by omega)
theorem fwdL_within{M:Int}{l:List Int}(hl:l.length=64)(h0:0<=M)(h:Within M l):Within (64*M) (fwdL l):=by
 have h1:=frowsK_within hl h h0 8 (by omega);have h2:=fcolsK_within (frowsK_length l hl 8 (by omega)) h1 (by omega) 8 (by omega);intro i;have:=h2 i;unfold fwdL;omega
def FwdPost(w:World)(l:List Int)(e:Ending)(w':World):Prop:=
 Mod (fun _=>False) w w'/\((allB 1048576 l=false/\e=.returned (.tuple #[.slice none 0 0,.int .i64 1]))\/∃v,allB 1048576 l=true/\e=.returned (.tuple #[v,.int .i64 0])/\IntsOwn w' w.heap.size v (fwdL l))
theorem liftForward(w:World)(A:Option Addr)(c:Nat)(l:List Int)(hin:IntsIn w A 64 c l):Calls Tryz.prog 313 #[.slice A 64 c] w (FwdPost w l):=by
 have hl:l.length=64:=hin.1;have HIN:=Lib.hid hin;clear hin;go_enter Tryz.func313,Tryz.ntmps313;go_wp2_with fail;refine(liftWithin _ 1048576).mono ?_;rintro e w1 ⟨rfl,hb1,hm1⟩;have hw1:=hm1.size;have HW1:=Lib.hid (And.intro hb1 hm1);clear hb1 hm1;go_wp2_with fail;refine(liftBlock _ A 64 c w.heap.size l 1048576 (HIN.out.quiet HW1.out.2) (by omega) (by omega) HW1.out.1).mono ?_;rintro e w2 ⟨hm2,⟨h1,rfl⟩|⟨v,h1,rfl,h2⟩⟩
 ·have HF:=Lib.hid (And.intro h1 (HW1.out.2.trans hm2));clear h1 hm2;go_wp2_with fail;go_ret2;exact⟨HF.out.2.alloc _,.inl ⟨HF.out.1,rfl⟩⟩
 ·obtain⟨r,cap,tl,rfl,hcap,hcm,hB,hcl,hbr⟩:=own_open h2 (by omega);have HLE:=Lib.hid hl;rw [hl]at hcap ⊢;clear hl;have hrl:=hbr.lt;have h8:((sideOf 64:Nat):Int)=8:=rfl;rw [h8];have HF:=Lib.hid (And.intro h1 (And.intro (HW1.out.2.trans hm2) hbr));have HC:=Lib.hid (And.intro hcm hcl);clear h1 hm2 hbr h2 h8 hcm hcl;go_upto_region 2 with(fail)
  have HK:Hid (Blk (w2.alloc (.cells #[.int .i64 8] 3)) r 3 (i64s l++tl).toArray/\Blk (w2.alloc (.cells #[.int .i64 8] 3)) w2.heap.size 3 #[.int .i64 8]/\Mod (fun _=>False) w (w2.alloc (.cells #[.int .i64 8] 3))):=⟨HF.out.2.2.alloc _,Blk.new _ _ _,HF.out.2.1.alloc _⟩
  have hne:r≠w2.heap.size:=by omega
  generalize w2.heap.size=nb at *;generalize w2.alloc (.cells #[.int .i64 8] 3)=w3 at *;have cn:=HK.out.2.1.cell 0;have hw67:=allB_within (by omega) HF.out.1;have hwi:Within 34359738368 l:=fun i=>by have:=hw67 i;omega
  have hwi2:Within 34359738368 (frowsK l 8):=fun i=>by have:=frowsK_within HLE.out hw67 (by omega) 8 (by omega) i;omega
  have HWI:=Lib.hid (And.intro hwi hwi2);clear hwi hwi2 hw67;go_wp2_with fail;refine(liftRowsF _ r nb cap l tl HLE.out (by omega) HWI.out.1 hne HK.out.1 HK.out.2.1).mono ?_;rintro e w4 ⟨rfl,hb4,hn4,hm4⟩;have c4:=hn4.cell 0;have HK4:=Lib.hid (And.intro hb4 (And.intro hn4 (HK.out.2.2.into hm4 (fun i e=>.inr (by omega)))));clear hb4 hn4 hm4 cn;go_wp2_with fail;refine(liftColsF _ r nb cap (frowsK l 8) tl (frowsK_length _ HLE.out 8 (by omega)) HWI.out.2 hne HK4.out.1 HK4.out.2.1).mono ?_;rintro e w5 ⟨rfl,hb5,hn5,hm5⟩;have HK5:=Lib.hid (And.intro hb5 (HK4.out.2.2.into hm5 (fun i e=>.inr (by omega))));clear hb5 hn5 hm5 c4;go_wp2_with fail;go_ret2;refine⟨HK5.out.2,.inr ⟨_,HF.out.1,rfl,?_⟩⟩;have hbl:=fwdL_length l HLE.out;have hll:=HLE.out;have:=own_close (B:=w.heap.size) (cap:=cap) (l:=fwdL l) (tl:=tl) (by omega) (by omega) HC.out.1 (by have:=HC.out.2;simp only [List.length_append,i64s_length]at this ⊢;omega) HK5.out.1;rwa [hbl]at this
end Go.Proofs.YtnnpoodcdibpiaaGreatDoor
