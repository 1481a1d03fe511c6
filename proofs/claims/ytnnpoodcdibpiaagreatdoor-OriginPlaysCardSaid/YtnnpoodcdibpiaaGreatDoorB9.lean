/-
  plane.Whole, plane.Copy, deblock.Frame of right frames.
-/
import Derived.Test.YtnnpoodcdibpiaaGreatDoorB7
import Derived.Test.YtnnpoodcdibpiaaGreatDoorB8
import Derived.Test.YtnnpoodcdibpiaaGreatDoorB6
namespace Go.Proofs.YtnnpoodcdibpiaaGreatDoor
open Go.RowKit
set_option maxRecDepth 100000
set_option maxHeartbeats 8000000
theorem blkIn{w:World}{g n:Nat}{L:List UInt8}(h:Blk w g 5 (u8s L).toArray)(hl:L.length=n)(hn:n<=16777216):BytesIn w (some ⟨g,0,none⟩) n n L:=by
 subst hl;exact(Bytes.of_blk (Nat.zero_le _) h (by unfold maxLen;omega)).in_
theorem Dim.Ok.nyle{d:Dim}(h:d.Ok):d.nY<=16777216:=by rw [h.ny];exact(area_le h.sides).1
theorem Dim.Ok.ncle{d:Dim}(h:d.Ok):d.nC<=16777216:=by rw [h.nc];exact(area_le h.half).1
theorem pWhole(w:World)(d:Dim)(hd:d.Ok)(gy gu gv:Nat):Calls Tryz.prog 118 #[.agg (frameV d gy gu gv).toArray] w fun e w'=>e=.returned (.bool true)/\Mod (fun _=>False) w w':=by
 unfold frameV;have HD:=Lib.hid hd;obtain⟨_,b1,b2,b3,b4,_⟩:=area_le hd.sides;obtain⟨_,b5,b6,b7,b8,_⟩:=area_le hd.half;have m1:((d.W:Int) % 16 == 0)=true:=by have:=hd.w16;simp;omega
 have m2:((d.H:Int) % 16 == 0)=true:=by have:=hd.h16;simp;omega
 have q1:(d.W:Int)/2=(d.W2:Int):=by have:=hd.w2;omega
 have q2:(d.H:Int)/2=(d.H2:Int):=by have:=hd.h2;omega
 have HM:=Lib.hid (And.intro m1 (And.intro m2 (And.intro q1 q2)));clear hd m1 m2 q1 q2;have h0:=(Sat.nil (fun _=>False) w)
 go_enter Tryz.func118,Tryz.ntmps118;go_wp2_with fail;refine(pRight' _ d.W d.H _ d.nY _ HD.out.sides HD.out.ny).mono ?_;rintro e w1 ⟨rfl,hm1⟩;have HS:=Sat.after hm1 (h0.alloc _ _ rfl);clear hm1 h0;obtain⟨pc,pf⟩:=(HS.own_ 0 rfl).both;have H1:=Lib.hid HS;clear HS;go_wp2_with fail;refine(pRight' _ d.W2 d.H2 _ d.nC _ HD.out.half HD.out.nc).mono ?_;rintro e w2 ⟨rfl,hm2⟩;have HS:=H1.out.quiet hm2;clear hm2 pc pf H1;obtain⟨pc,pf⟩:=(HS.own_ 0 rfl).both;have H1:=Lib.hid HS;clear HS;go_wp2_with fail;refine(pRight' _ d.W2 d.H2 _ d.nC _ HD.out.half HD.out.nc).mono ?_;rintro e w3 ⟨rfl,hm3⟩;have HS:=H1.out.quiet hm3;clear hm3 pc pf H1;obtain⟨pc,pf⟩:=(HS.own_ 0 rfl).both;have H1:=Lib.hid HS;clear HS;obtain⟨m1,m2,q1,q2⟩:=HM.out;go_wp2_with fail;go_ret;exact⟨rfl,H1.out.mod⟩
def smPix(q:Nat)(d:Dim)(f:Pix):Pix:=⟨smPlane q d.W d.H f.Y,smPlane q d.W2 d.H2 f.U,smPlane q d.W2 d.H2 f.V⟩
def FramePost(w:World)(d:Dim)(f:Pix)(e:Ending)(w':World):Prop:=∃p,e=.returned (.tuple #[p,.int .i64 0])/\FrameMade w d f p w'/\Mod (fun _=>False) w w'
theorem dPlane'(w:World)(W H:Nat)(A:Option Addr)(n c:Nat)(pix:List UInt8)(q:Nat)(h:sidesB W H=true)(hn:n=W*H)(hin:BytesIn w A n c pix)(hq:q<=31):
  Calls Tryz.prog 248 #[.agg #[.int .i64 (W:Int),.int .i64 (H:Int),.slice A n c],.int .i64 (q:Int)] w
   fun e w'=>∃g,e=.returned (.tuple #[.agg #[.int .i64 (W:Int),.int .i64 (H:Int),.slice (some ⟨g,0,none⟩) n n],.int .i64 0])/\Blk w' g 5 (u8s (smPlane q W H pix)).toArray/\w.heap.size<=g/\Mod (fun _=>False) w w':=by
 subst hn;exact dPlane w W H A _ c pix q h rfl hin hq
theorem dFrame(w:World)(d:Dim)(hd:d.Ok)(gy gu gv:Nat)(f:Pix)(q:Nat)(hq:q<=31)(hf:FrameAt w d gy gu gv f):Calls Tryz.prog 184 #[.agg (frameV d gy gu gv).toArray,.int .i64 (q:Int)] w (FramePost w d (smPix q d f)):=by
 have HC:=pWhole ((w.alloc (.cells (frameV d gy gu gv).toArray 110)).alloc (.cells #[.int .i64 0,.int .i64 0,.slice none 0 0,.int .i64 0,.int .i64 0,.slice none 0 0,.int .i64 0,.int .i64 0,.slice none 0 0] 110)) d hd gy gu gv;unfold frameV at HC ⊢;have HD:=Lib.hid (And.intro hd hf);clear hd hf;have h0:=(Sat.nil (fun _=>False) w)
 go_enter Tryz.func184,Tryz.ntmps184;go_wp2_with fail;refine HC.mono ?_;clear HC;rintro e w1 ⟨rfl,hm1⟩;have HS:=Sat.after hm1 ((h0.alloc _ _ rfl).alloc (g:=w.heap.size+1) _ _ (by simp));clear hm1 h0;have H1:=Lib.hid HS;clear HS;go_wp2_with fail;refine(dKnown _ q hq).mono ?_;rintro e w2 ⟨rfl,rfl⟩;obtain⟨pc,pf⟩:=(H1.out.own_ 1 rfl).both;have hs1:w.heap.size+2<=w1.heap.size:=(H1.out.own_ 0 rfl).lt;have n1:w.heap.size<w1.heap.size:=by omega
 have HS1:=H1.out.alloc 110 #[.int .i64 0,.int .i64 0,.slice none 0 0,.int .i64 0,.int .i64 0,.slice none 0 0,.int .i64 0,.int .i64 0,.slice none 0 0] rfl;obtain⟨ob,hob⟩:∃ob,ob=w1.heap.size:=⟨_,rfl⟩
 rw [<-hob]at HS1;have G1:=Lib.hid HS1;clear HS1;go_wp2_with fail;rw [<-hob];refine(dPlane' _ d.W d.H _ d.nY _ f.Y q HD.out.1.sides HD.out.1.ny (blkIn (HD.out.2.quiet G1.out.mod).by_ HD.out.2.ly HD.out.1.nyle) hq).mono ?_;rintro e w2 ⟨g1,rfl,hb1,hg1,hm1⟩;have HS:=Sat.grew hm1 G1.out hb1 hg1;clear hb1 hm1 pc pf H1 G1 hob n1 hs1;obtain⟨pc,pf⟩:=(HS.own_ 3 rfl).both;obtain⟨oc,of⟩:=(HS.own_ 1 rfl).both;have n1:=HS.apart 1 3 rfl rfl (by omega);have n2:=HS.apart 1 2 rfl rfl (by omega);have n3:=HS.apart 2 3 rfl rfl (by omega);dsimp only at n1 n2 n3;have ol:=(HS.own_ 1 rfl).lt;have pl:=(HS.own_ 3 rfl).lt;have rl:=(HS.own_ 2 rfl).lt;have HS2:=(((HS).put (g:=ob) (i:=0) (u:=.int .i64 (d.W:Int)) (.there (.here rfl))).put (g:=ob) (i:=1) (u:=.int .i64 (d.H:Int)) (.there (.here rfl))).put (g:=ob) (i:=2) (u:=.slice (some ⟨g1,0,none⟩) d.nY d.nY) (.there (.here rfl));have G:=Lib.hid HS2;clear HS HS2;go_wp2_with fail;refine(dPlane' _ d.W2 d.H2 _ d.nC _ f.U q HD.out.1.half HD.out.1.nc (blkIn (HD.out.2.quiet G.out.mod).bu HD.out.2.lu HD.out.1.ncle) hq).mono ?_;rintro e w3 ⟨g2,rfl,hb1,hg2,hm1⟩;have HS:=Sat.grew hm1 G.out hb1 hg2;clear hb1 hm1 pc pf oc of n1 n2 n3 ol pl rl G;obtain⟨pc,pf⟩:=(HS.own_ 4 rfl).both;obtain⟨oc,of⟩:=(HS.own_ 2 rfl).both;have n1:=HS.apart 2 4 rfl rfl (by omega);have n2:=HS.apart 2 3 rfl rfl (by omega);have n3:=HS.apart 3 4 rfl rfl (by omega);dsimp only at n1 n2 n3;have ol:=(HS.own_ 2 rfl).lt;have pl:=(HS.own_ 4 rfl).lt;have rl:=(HS.own_ 3 rfl).lt;have HS2:=(((HS).put (g:=ob) (i:=3) (u:=.int .i64 (d.W2:Int)) (.there (.there (.here rfl)))).put (g:=ob) (i:=4) (u:=.int .i64 (d.H2:Int)) (.there (.there (.here rfl)))).put (g:=ob) (i:=5) (u:=.slice (some ⟨g2,0,none⟩) d.nC d.nC) (.there (.there (.here rfl)));have G:=Lib.hid HS2;clear HS HS2;go_wp2_with fail;refine(dPlane' _ d.W2 d.H2 _ d.nC _ f.V q HD.out.1.half HD.out.1.nc (blkIn (HD.out.2.quiet G.out.mod).bv HD.out.2.lv HD.out.1.ncle) hq).mono ?_;rintro e w4 ⟨g3,rfl,hb1,hg3,hm1⟩;have HS:=Sat.grew hm1 G.out hb1 hg3;clear hb1 hm1 pc pf oc of n1 n2 n3 ol pl rl G;obtain⟨pc,pf⟩:=(HS.own_ 5 rfl).both;have hob3:Blk w4 ob 110 #[.int .i64 (d.W:Int),.int .i64 (d.H:Int),.slice (some ⟨g1,0,none⟩) d.nY d.nY,.int .i64 (d.W2:Int),.int .i64 (d.H2:Int),.slice (some ⟨g2,0,none⟩) d.nC d.nC,.int .i64 0,.int .i64 0,.slice none 0 0]:=HS.own_ 3 rfl;obtain⟨oc,of⟩:=hob3.both;obtain⟨rc,rf⟩:=(HS.own_ 4 rfl).both;have n1:=HS.apart 3 5 rfl rfl (by omega);have n2:=HS.apart 3 4 rfl rfl (by omega);have n3:=HS.apart 4 5 rfl rfl (by omega);dsimp only at n1 n2 n3;have ol:=(HS.own_ 3 rfl).lt;have pl:=(HS.own_ 5 rfl).lt;have rl:=(HS.own_ 4 rfl).lt;have HS2:=(((HS).put (g:=ob) (i:=6) (u:=.int .i64 (d.W2:Int)) (.there (.there (.there (.here rfl))))).put (g:=ob) (i:=7) (u:=.int .i64 (d.H2:Int)) (.there (.there (.there (.here rfl))))).put (g:=ob) (i:=8) (u:=.slice (some ⟨g3,0,none⟩) d.nC d.nC) (.there (.there (.there (.here rfl))));have G:=Lib.hid HS2;clear HS HS2;clear hob3 pc pf;go_wp2_with fail;have HE:=(((((((((G.out).put (g:=w.heap.size+1) (i:=0) (u:=.int .i64 (d.W:Int)) (.there (.there (.there (.there (.here rfl)))))).put (g:=w.heap.size+1) (i:=1) (u:=.int .i64 (d.H:Int)) (.there (.there (.there (.there (.here rfl)))))).put (g:=w.heap.size+1) (i:=2) (u:=.slice (some ⟨g1,0,none⟩) d.nY d.nY) (.there (.there (.there (.there (.here rfl)))))).put (g:=w.heap.size+1) (i:=3) (u:=.int .i64 (d.W2:Int)) (.there (.there (.there (.there (.here rfl)))))).put (g:=w.heap.size+1) (i:=4) (u:=.int .i64 (d.H2:Int)) (.there (.there (.there (.there (.here rfl)))))).put (g:=w.heap.size+1) (i:=5) (u:=.slice (some ⟨g2,0,none⟩) d.nC d.nC) (.there (.there (.there (.there (.here rfl)))))).put (g:=w.heap.size+1) (i:=6) (u:=.int .i64 (d.W2:Int)) (.there (.there (.there (.there (.here rfl)))))).put (g:=w.heap.size+1) (i:=7) (u:=.int .i64 (d.H2:Int)) (.there (.there (.there (.there (.here rfl)))))).put (g:=w.heap.size+1) (i:=8) (u:=.slice (some ⟨g3,0,none⟩) d.nC d.nC) (.there (.there (.there (.there (.here rfl)))));have h1:=HE.own_ 2 rfl;have h2:=HE.own_ 1 rfl;have h3:=HE.own_ 0 rfl;dsimp only at h1 h2 h3;have l1:w.heap.size<=g1:=HE.low 2 rfl;have l2:w.heap.size<=g2:=HE.low 1 rfl;have l3:w.heap.size<=g3:=HE.low 0 rfl;have a12:g2≠g1:=HE.apart 1 2 rfl rfl (by omega);have a13:g3≠g1:=HE.apart 0 2 rfl rfl (by omega);have a23:g3≠g2:=HE.apart 0 1 rfl rfl (by omega);have HM:=HE.mod;clear HE;refine bodyPost_ret (v:=.tuple #[.agg (frameV d g1 g2 g3).toArray,.int .i64 0]) (by simp [results,Tryz.results184,go_sem,rc,frameV]) rfl ⟨_,rfl,⟨g1,g2,g3,rfl,?_,l1,l2,l3⟩,HM⟩;exact⟨h1,h2,h3,smPlane_length.trans HD.out.2.ly,smPlane_length.trans HD.out.2.lu,smPlane_length.trans HD.out.2.lv,a12.symm,a13.symm,a23.symm⟩
theorem guessL_length(W:Nat)(pix:List UInt8)(x y m:Nat):(guessL W pix x y m).length=64:=by simp [guessL]
theorem mvL_length(W H:Nat)(pix:List UInt8)(x y:Int)(n:Nat)(vx vy:Int):(mvL W H pix x y n vx vy).length=n*n:=by simp [mvL]
def smoved(W H:Nat)(pix:List UInt8)(x y pl:Nat)(vx vy:Int):List UInt8:=mvL W H pix x y 8 (if 0<pl then vx/2 else vx) (if 0<pl then vy/2 else vy)
def back8(l:List Int):List Int:=upL 4 (upL 2 (upL 1 l))
theorem back8_length(l:List Int):(back8 l).length=l.length:=by simp [back8,upL,upK_length]
theorem back8_within{M:Int}{l:List Int}(h:Within M l):Within (27*M+13) (back8 l):=by
 have w1:=up_within _ 1 l h 1;have w2:=up_within _ 2 _ w1 2;have w3:=up_within _ 4 _ w2 4;intro i;have:=w3 i;simp only [back8,upL];omega
theorem doBack(w:World)(g nb:Nat)(l:List Int)(hl:l.length=8)(hM:Within 1099511627776 l)(hb:Blk w g 474 (i64s l).toArray)(hn:Blk w nb 3 #[.int .i64 8]):
  Calls Tryz.prog 398 #[.pointer (some ⟨g,0,none⟩),.pointer (some ⟨nb,0,none⟩)] w fun e w'=>e=.returned (.tuple #[])/\Blk w' g 474 (i64s (back8 l)).toArray/\Mod (·=g) w w':=by
 obtain⟨hc,hf⟩:=hn.both;have HB:=Lib.hid hb;clear hb hn;go_enter Tryz.func398,Tryz.ntmps398;go_wp2_with fail;refine(lineBack _ g l hl hM HB.out).mono ?_;rintro e w1 ⟨rfl,hb1,hm1⟩;have HF:=Lib.hid (And.intro hb1 hm1);clear hb1 hm1;go_wp2_with fail;go_end0
 exact⟨rfl,HF.out⟩
def colOf(x:Nat)(L:List Int):List Int:=(List.range 8).map fun y=>L.getD (y*8+x) 0
theorem colOf_length(x:Nat)(L:List Int):(colOf x L).length=8:=by simp [colOf]
theorem colOf_getD(x:Nat)(L:List Int)(y:Nat)(hy:y<8):(colOf x L).getD y 0=L.getD (y*8+x) 0:=by
 simp [colOf,List.getD_eq_getElem?_getD,hy]
theorem colOf_within{M:Int}{L:List Int}(h:Within M L)(h0:0<=M)(x:Nat):Within M (colOf x L):=by
 intro y;by_cases hy:y<8
 ·rw [colOf_getD x L y hy];exact h _
 ·have:(colOf x L).getD y 0=0:=by rw [List.getD_eq_getElem?_getD,List.getElem?_eq_none (by rw [colOf_length];omega)];rfl
  rw [this];omega
def fillK(c:List Int):Nat->List Int
 | 0=>[0,0,0,0,0,0,0,0]
 | y+1=>(fillK c y).set y (c.getD y 0)
theorem fillK_length(c:List Int)(y:Nat):(fillK c y).length=8:=by
 induction y with
 | zero=>rfl
 | succ y ih=>simp [fillK,ih]
theorem eight(c:List Int)(h:c.length=8):c=[c.getD 0 0,c.getD 1 0,c.getD 2 0,c.getD 3 0,c.getD 4 0,c.getD 5 0,c.getD 6 0,c.getD 7 0]:=by
 match c,h with
 | [_,_,_,_,_,_,_,_],_=>rfl
theorem fillK_all(c:List Int)(h:c.length=8):fillK c 8=c:=by
 rw [eight c h];rfl
def colK(x:Nat)(c L:List Int):Nat->List Int
 | 0=>L
 | y+1=>(colK x c L y).set (y*8+x) (c.getD y 0)
theorem colK_length(x:Nat)(c L:List Int)(y:Nat):(colK x c L y).length=L.length:=by
 induction y with
 | zero=>rfl
 | succ y ih=>simp [colK,ih]
def colsK(L:List Int):Nat->List Int
 | 0=>L
 | x+1=>colK x (back8 (colOf x (colsK L x))) (colsK L x) 8
theorem colsK_length(L:List Int)(x:Nat):(colsK L x).length=L.length:=by
 induction x with
 | zero=>rfl
 | succ x ih=>simp [colsK,colK_length,ih]
theorem colK_getD(x:Nat)(c L:List Int)(hL:L.length=64)(hx:x<8)(n y x':Nat)(hn:n<=8)(hx':x'<8)(hy:y<8):
  (colK x c L n).getD (y*8+x') 0=if x'=x/\y<n then c.getD y 0 else L.getD (y*8+x') 0:=by
 induction n with
 | zero=>simp [colK]
 | succ n ih=>
  rw [colK,getD_set,colK_length,ih (by omega)];by_cases e:n*8+x=y*8+x'
  ·obtain⟨rfl,rfl⟩:n=y/\x=x':=by omega
   rw [if_pos ⟨rfl,by omega⟩,if_pos ⟨rfl,by omega⟩]
  ·rw [if_neg (fun h=>e h.1)];by_cases e2:x'=x/\y<n
   ·rw [if_pos e2,if_pos ⟨e2.1,by omega⟩]
   ·rw [if_neg e2,if_neg (fun h=>e2 ⟨h.1,by omega⟩)]
theorem colsK_getD(L:List Int)(hL:L.length=64)(n y x:Nat)(hn:n<=8)(hx:x<8)(hy:y<8):
  (colsK L n).getD (y*8+x) 0=if x<n then(back8 (colOf x L)).getD y 0 else L.getD (y*8+x) 0:=by
 induction n generalizing x y with
 | zero=>simp [colsK]
 | succ n ih=>
  rw [colsK,colK_getD n _ _ (by rw [colsK_length];exact hL) (by omega) 8 y x (by omega) hx hy,ih y x (by omega) hx hy];by_cases e:x=n
  ·subst e;rw [if_pos ⟨rfl,hy⟩,if_pos (by omega)];congr 2;unfold colOf;apply List.map_congr_left;intro a ha;rw [ih a x (by omega) hx (by simpa using ha),if_neg (by omega)]
  ·rw [if_neg (fun h=>e h.1)];by_cases e2:x<n
   ·rw [if_pos e2,if_pos (by omega)]
   ·rw [if_neg e2,if_neg (by omega)]
theorem within_of{M:Int}{L:List Int}(hL:L.length=64)(h:∀y<8,∀x<8,-M<=L.getD (y*8+x) 0/\L.getD (y*8+x) 0<=M)(h0:0<=M):Within M L:=by
 intro i;by_cases hi:i<64
 ·have:=h (i/8) (by omega) (i % 8) (by omega);rwa [show i/8*8+i % 8=i by omega]at this
 ·have:L.getD i 0=0:=by rw [List.getD_eq_getElem?_getD,List.getElem?_eq_none (by omega)];rfl
  rw [this];omega
theorem colsK_within{M:Int}{L:List Int}(hL:L.length=64)(h:Within M L)(h0:0<=M)(n:Nat)(hn:n<=8):Within (27*M+13) (colsK L n):=by
 refine within_of (by rw [colsK_length];exact hL) (fun y hy x hx=>?_) (by omega);rw [colsK_getD L hL n y x hn hx hy];split
 ·exact back8_within (colOf_within h h0 x) y
 ·have:=h (y*8+x);omega
theorem row_cell{w:World}{r:Nat}{t:TypeId}{L:List Int}{tl:List Value}(hb:Blk w r t (i64s L++tl).toArray)(i:Nat)(hi:i<L.length):w.cell? ⟨r,i,none⟩=some (.int .i64 (L.getD i 0)):=by
 rw [hb.cell,List.getElem?_toArray,List.getElem?_append_left (by rw [i64s_length];exact hi)];exact getD_i64s L i hi
theorem row_set{w:World}{r:Nat}{t:TypeId}{L:List Int}{tl:List Value}(hb:Blk w r t (i64s L++tl).toArray)(i:Nat)(hi:i<L.length)(x:Int):Blk (w.setCell ⟨r,i,none⟩ (.int .i64 x)) r t (i64s (L.set i x)++tl).toArray:=by
 have:=hb.set_ i (.int .i64 x);have e:(i64s L++tl).toArray.setIfInBounds i (.int .i64 x)=(i64s (L.set i x)++tl).toArray:=by
  simp only [List.setIfInBounds_toArray,i64s,List.map_set];rw [List.set_append_left _ _ (by simpa using hi)]
 rwa [e]at this
def colsRel(w:World)(r nb:Nat)(L:List Int)(tl:List Value)(v:Value)(wr:World):Prop:=
 ∃x:Nat,x<=8/\v=.int .i64 (x:Int)/\Blk wr r 3 (i64s (colsK L x)++tl).toArray/\Blk wr nb 3 #[.int .i64 8]/\Mod (·=r) w wr
def fillRel(w:World)(r nb g:Nat)(c L:List Int)(tl:List Value)(v:Value)(wi:World):Prop:=
 ∃y:Nat,y<=8/\v=.int .i64 (y:Int)/\Blk wi g 474 (i64s (fillK c y)).toArray/\Blk wi r 3 (i64s L++tl).toArray/\Blk wi nb 3 #[.int .i64 8]/\Mod (·=r) w wi
def putRel(w:World)(r nb g x:Nat)(c L:List Int)(tl:List Value)(v:Value)(wi:World):Prop:=
 ∃y:Nat,y<=8/\v=.int .i64 (y:Int)/\Blk wi g 474 (i64s c).toArray/\Blk wi r 3 (i64s (colK x c L y)++tl).toArray/\Blk wi nb 3 #[.int .i64 8]/\Mod (·=r) w wi
theorem liftCols(w:World)(r nb cap:Nat)(L:List Int)(tl:List Value)(hL:L.length=64)(hM:Within 34359738368 L)(hne:r≠nb)(hb:Blk w r 3 (i64s L++tl).toArray)(hn:Blk w nb 3 #[.int .i64 8]):
  Calls Tryz.prog 358 #[.slice (some ⟨r,0,none⟩) 64 cap,.int .i64 8,.func (.func 398) #[] #[.pointer (some ⟨nb,0,none⟩)]] w fun e w'=>e=.returned (.tuple #[])/\Blk w' r 3 (i64s (colsK L 8)++tl).toArray/\Blk w' nb 3 #[.int .i64 8]/\Mod (·=r) w w':=by
 have HB:=Lib.hid (And.intro hb hn);have hrl:=hb.lt;have hnl:=hn.lt;clear hb hn;go_enter Tryz.func358,Tryz.ntmps358;go_wp2_with fail;go_loopw [11] (colsRel w r nb L tl) (fun x _=>8-(intOf x).toNat)
 case atStart=>exact⟨0,by omega,rfl,HB.out.1,HB.out.2,Mod.refl _ _⟩
 case round=>
  revert hrel;generalize wr=wr0;intro hrel;obtain⟨x,hx,rfl,hb,hn,hm⟩:=hrel;by_cases hlt:x<8
  ·have HW:=Lib.hid (And.intro hb (And.intro hn hm));have hsz:=hm.size;clear hb hn hm;go_upto_region 4 with(fail)
   have HI:Hid (Blk (wr0.alloc (.cells #[.int .i64 0,.int .i64 0,.int .i64 0,.int .i64 0,.int .i64 0,.int .i64 0,.int .i64 0,.int .i64 0] 474)) wr0.heap.size 474 (i64s (fillK (colOf x (colsK L x)) 0)).toArray/\Blk (wr0.alloc (.cells #[.int .i64 0,.int .i64 0,.int .i64 0,.int .i64 0,.int .i64 0,.int .i64 0,.int .i64 0,.int .i64 0] 474)) r 3 (i64s (colsK L x)++tl).toArray/\Blk (wr0.alloc (.cells #[.int .i64 0,.int .i64 0,.int .i64 0,.int .i64 0,.int .i64 0,.int .i64 0,.int .i64 0,.int .i64 0] 474)) nb 3 #[.int .i64 8]/\Mod (·=r) w (wr0.alloc (.cells #[.int .i64 0,.int .i64 0,.int .i64 0,.int .i64 0,.int .i64 0,.int .i64 0,.int .i64 0,.int .i64 0] 474))):=⟨Blk.new _ _ _,HW.out.1.alloc _,HW.out.2.1.alloc _,HW.out.2.2.alloc _⟩
   generalize wr0.alloc (.cells #[.int .i64 0,.int .i64 0,.int .i64 0,.int .i64 0,.int .i64 0,.int .i64 0,.int .i64 0,.int .i64 0] 474)=w1 at *;have hlx:(colsK L x).length=64:=by rw [colsK_length];exact hL
   have HWI:Hid (Within 1099511627776 (colOf x (colsK L x))):=fun i=>by
    have:=colOf_within (colsK_within hL hM (by omega) x (by omega)) (by omega) x i;omega
   generalize hL':colsK L x=L' at *;have HL':=Lib.hid hL';clear hL' HW;go_wp2_with fail;go_loopw [15] (fillRel w r nb wr0.heap.size (colOf x L') L' tl) (fun y _=>8-(intOf y).toNat)
   case atStart=>exact⟨0,by omega,rfl,HI.out⟩
   case round=>
    obtain⟨y,hy,rfl,bg,br,bn,hm⟩:=hrel;by_cases hly:y<8
    ·have c1:=row_cell br (y*8+x) (by omega);have c2:=bg.cell y;rw [List.getElem?_toArray,getD_i64s _ _ (by rw [fillK_length];omega)]at c2;have c3:=bg.frozen;generalize hv:L'.getD (y*8+x) 0=v at *;have HV:=Lib.hid hv;have HK:=Lib.hid (And.intro bg (And.intro br (And.intro bn hm)));clear bg br bn hm hv;have j1:(0:Int)<=(y:Int)*8+(x:Int):=by omega
     have j2:(y:Int)*8+(x:Int)<64:=by omega
     go_wp2_with fail;refine⟨⟨y+1,by omega,by go_num,?_,HK.out.2.1.far (p:=⟨wr0.heap.size,y,none⟩) (by show ¬r=wr0.heap.size;omega) _,HK.out.2.2.1.far (p:=⟨wr0.heap.size,y,none⟩) (by show ¬nb=wr0.heap.size;omega) _,HK.out.2.2.2.setCell (.inr hsz) _⟩,by simp [intOf];omega⟩;have hb':=HK.out.1.set_ y (.int .i64 v);rw [set_i64s]at hb';rw [fillK,colOf_getD _ _ _ hly,HV.out];exact hb'
    ·obtain rfl:y=8:=by omega
     rw [fillK_all _ (colOf_length _ _)]at bg;have hnb2:¬nb=wr0.heap.size:=by omega
     have hrb2:¬r=wr0.heap.size:=by omega
     have HK:=Lib.hid (And.intro bg (And.intro br (And.intro bn hm)));clear bg br bn hm;go_wp2_with fail;refine(doBack _ wr0.heap.size nb _ (colOf_length _ _) HWI.out HK.out.1 HK.out.2.2.1).mono ?_;rintro e w2 ⟨rfl,hb2,hm2⟩;have br2:=HK.out.2.1.keep hm2 hrb2;have bn2:=HK.out.2.2.1.keep hm2 hnb2;have hmf:=HK.out.2.2.2.then_ hm2 (fun k hk e=>by omega);have HK2:=Lib.hid (And.intro hb2 (And.intro br2 (And.intro bn2 hmf)));have hc8:(back8 (colOf x L')).length=8:=by rw [back8_length,colOf_length]
     generalize hcc:back8 (colOf x L')=cc at *;have HCC:=Lib.hid hcc;clear hb2 hm2 br2 bn2 hmf HK hcc;go_wp2_with fail;go_loopw [32] (putRel w r nb wr0.heap.size x cc L' tl) (fun y _=>8-(intOf y).toNat)
     case atStart=>exact⟨0,by omega,rfl,HK2.out.1,HK2.out.2⟩
     case round=>
      obtain⟨y,hy,rfl,bg,br,bn,hm⟩:=hrel;by_cases hly:y<8
      ·have hlk:(colK x cc L' y).length=64:=by rw [colK_length];exact hlx
       have c1:=row_cell br (y*8+x) (by omega);have c2:=bg.cell y;rw [List.getElem?_toArray,getD_i64s _ _ (by omega)]at c2;have c3:=br.frozen;generalize hv:cc.getD y 0=v at *;have HV:=Lib.hid hv;have HK:=Lib.hid (And.intro bg (And.intro br (And.intro bn hm)));clear bg br bn hm hv;have j1:(0:Int)<=(y:Int)*8+(x:Int):=by omega
       have j2:(y:Int)*8+(x:Int)<64:=by omega
       go_wp2_with fail;refine⟨⟨y+1,by omega,by go_num,HK.out.1.far (p:=⟨r,y*8+x,none⟩) (by show ¬wr0.heap.size=r;omega) _,?_,HK.out.2.2.1.far (p:=⟨r,y*8+x,none⟩) (by show ¬nb=r;omega) _,HK.out.2.2.2.setCell (.inl rfl) _⟩,by simp [intOf];omega⟩;rw [colK,HV.out];exact row_set HK.out.2.1 (y*8+x) (by omega) v
      ·obtain rfl:y=8:=by omega
       have HK:=Lib.hid (And.intro br (And.intro bn hm));clear bg br bn hm;go_wp2_with fail;refine⟨⟨x+1,by omega,by go_num,?_,HK.out.2⟩,by simp [intOf];omega⟩;rw [colsK,HL'.out,HCC.out];exact HK.out.1
  ·obtain rfl:x=8:=by omega
   have HF:=Lib.hid (And.intro hb (And.intro hn hm));clear hb hn hm;go_wp2_with fail;go_end0
   exact⟨rfl,HF.out⟩
def z8:List Value:=[.int .i64 0,.int .i64 0,.int .i64 0,.int .i64 0,.int .i64 0,.int .i64 0,.int .i64 0,.int .i64 0]
def rowOf(y:Nat)(L:List Int):List Int:=(L.drop (y*8)).take 8
theorem rowOf_length(y:Nat)(L:List Int)(hL:L.length=64)(hy:y<8):(rowOf y L).length=8:=by simp [rowOf];omega
theorem rowOf_getD(y:Nat)(L:List Int)(x:Nat)(hx:x<8):(rowOf y L).getD x 0=L.getD (y*8+x) 0:=getD_part L (y*8) 8 x hx
theorem rowOf_within{M:Int}{L:List Int}(h:Within M L)(h0:0<=M)(y:Nat):Within M (rowOf y L):=by
 intro x;by_cases hx:x<8
 ·rw [rowOf_getD y L x hx];exact h _
 ·have:(rowOf y L).getD x 0=0:=by rw [List.getD_eq_getElem?_getD,List.getElem?_eq_none (by simp [rowOf];omega)];rfl
  rw [this];omega
def rowsK(L:List Int):Nat->List Int
 | 0=>L
 | y+1=>splice (rowsK L y) (y*8) (back8 (rowOf y (rowsK L y)))
theorem rowsK_length(L:List Int)(hL:L.length=64)(y:Nat)(hy:y<=8):(rowsK L y).length=64:=by
 induction y with
 | zero=>exact hL
 | succ y ih=>
  have h:=ih (by omega);rw [rowsK,length_splice _ _ _ (by rw [back8_length,rowOf_length y _ h (by omega)];omega),h]
theorem splice_getD(L c:List Int)(a:Nat)(ha:a+c.length<=L.length)(i:Nat):(splice L a c).getD i 0=if a<=i/\i<a+c.length then c.getD (i-a) 0 else L.getD i 0:=by
 simp only [splice,List.getD_eq_getElem?_getD];by_cases h1:i<a
 ·rw [List.getElem?_append_left (by simp;omega),List.getElem?_take_of_lt h1,if_neg (by omega)]
 ·rw [List.getElem?_append_right (by simp;omega)];have e:(L.take a).length=a:=by simp;omega
  rw [e];by_cases h2:i-a<c.length
  ·rw [List.getElem?_append_left h2,if_pos (by omega)]
  ·rw [List.getElem?_append_right (by omega),List.getElem?_drop,if_neg (by omega)];congr 2;omega
theorem rowsK_getD(L:List Int)(hL:L.length=64)(n y x:Nat)(hn:n<=8)(hx:x<8)(hy:y<8):
  (rowsK L n).getD (y*8+x) 0=if y<n then(back8 (rowOf y L)).getD x 0 else L.getD (y*8+x) 0:=by
 induction n generalizing x y with
 | zero=>simp [rowsK]
 | succ n ih=>
  have hl:=rowsK_length L hL n (by omega);have h8:(back8 (rowOf n (rowsK L n))).length=8:=by rw [back8_length,rowOf_length n _ hl (by omega)]
  rw [rowsK,splice_getD _ _ _ (by omega),h8,ih y x (by omega) hx hy];by_cases e:y=n
  ·subst e;rw [if_pos (by omega),if_pos (by omega),show y*8+x-y*8=x by omega];have e1:rowOf y (rowsK L y)=rowOf y L:=by
    rw [eight _ (rowOf_length y _ hl hy),eight _ (rowOf_length y L hL hy)];simp only [rowOf_getD _ _ _ (show 0<8 by omega),rowOf_getD _ _ _ (show 1<8 by omega),rowOf_getD _ _ _ (show 2<8 by omega),rowOf_getD _ _ _ (show 3<8 by omega),rowOf_getD _ _ _ (show 4<8 by omega),rowOf_getD _ _ _ (show 5<8 by omega),rowOf_getD _ _ _ (show 6<8 by omega),rowOf_getD _ _ _ (show 7<8 by omega)];have h:=fun x hx=>(ih y x (by omega) hx hy).trans (if_neg (by omega));rw [h 0 (by omega),h 1 (by omega),h 2 (by omega),h 3 (by omega),h 4 (by omega),h 5 (by omega),h 6 (by omega),h 7 (by omega)]
   rw [e1]
  ·rw [if_neg (by omega)];by_cases e2:y<n
   ·rw [if_pos e2,if_pos (by omega)]
   ·rw [if_neg e2,if_neg (by omega)]
theorem rowsK_within{M:Int}{L:List Int}(hL:L.length=64)(h:Within M L)(h0:0<=M)(n:Nat)(hn:n<=8):Within (27*M+13) (rowsK L n):=by
 refine within_of (rowsK_length L hL n hn) (fun y hy x hx=>?_) (by omega);rw [rowsK_getD L hL n y x hn hx hy];split
 ·exact back8_within (rowOf_within h h0 y) x
 ·have:=h (y*8+x);omega
theorem src_row{w:World}{r:Nat}{t:TypeId}{L:List Int}{tl:List Value}(hb:Blk w r t (i64s L++tl).toArray)(a m:Nat)(ham:a+m<=L.length):Src w 1 (some ⟨r,a,none⟩) m (i64s ((L.drop a).take m)):=by
 refine⟨(by simp [i64s];omega),fun e=>(by cases e),fun ad e j u hu=>?_⟩;injection e with e;subst e;have hj:j<m:=by
  rcases Nat.lt_or_ge j m with h|h
  ·exact h
  ·rw [List.getElem?_eq_none (by simp [i64s];omega)]at hu;cases hu
 rw [addr_add',row_cell hb (a+j) (by omega),<-hu,getD_i64s _ _ (by simp;omega),getD_part _ _ _ _ hj]
theorem splice_row(L c:List Int)(tl:List Value)(a:Nat)(ha:a+c.length<=L.length):splice (i64s L++tl) a (i64s c)=i64s (splice L a c)++tl:=by
 simp only [splice,i64s,List.map_append,List.map_take,List.map_drop,List.append_assoc,List.length_map];rw [List.take_append_of_le_length (by simp;omega),List.drop_append_of_le_length (by simp;omega)]
def rowsRel(w:World)(r nb:Nat)(L:List Int)(tl:List Value)(v:Value)(wr:World):Prop:=
 ∃y:Nat,y<=8/\v=.int .i64 (y:Int)/\Blk wr r 3 (i64s (rowsK L y)++tl).toArray/\Blk wr nb 3 #[.int .i64 8]/\Mod (·=r) w wr
theorem liftRows(w:World)(r nb cap:Nat)(L:List Int)(tl:List Value)(hL:L.length=64)(hcap:64<=cap)(hM:Within 34359738368 L)(hne:r≠nb)(hb:Blk w r 3 (i64s L++tl).toArray)(hn:Blk w nb 3 #[.int .i64 8]):
  Calls Tryz.prog 357 #[.slice (some ⟨r,0,none⟩) 64 cap,.int .i64 8,.func (.func 398) #[] #[.pointer (some ⟨nb,0,none⟩)]] w fun e w'=>e=.returned (.tuple #[])/\Blk w' r 3 (i64s (rowsK L 8)++tl).toArray/\Blk w' nb 3 #[.int .i64 8]/\Mod (·=r) w w':=by
 have HB:=Lib.hid (And.intro hb hn);have hrl:=hb.lt;have hnl:=hn.lt;clear hb hn;go_enter Tryz.func357,Tryz.ntmps357;go_wp2_with fail;go_loopw [9] (rowsRel w r nb L tl) (fun x _=>8-(intOf x).toNat)
 case atStart=>exact⟨0,by omega,rfl,HB.out.1,HB.out.2,Mod.refl _ _⟩
 case round=>
  revert hrel;generalize wr=wr0;intro hrel;obtain⟨y,hy,rfl,hb,hn,hm⟩:=hrel;by_cases hlt:y<8
  ·have HW:=Lib.hid (And.intro hb (And.intro hn hm));have hsz:=hm.size;clear hb hn hm;go_upto_region 4 with(fail)
   have HI:Hid (Blk (wr0.alloc (.cells #[.int .i64 0,.int .i64 0,.int .i64 0,.int .i64 0,.int .i64 0,.int .i64 0,.int .i64 0,.int .i64 0] 474)) wr0.heap.size 474 z8.toArray/\Blk (wr0.alloc (.cells #[.int .i64 0,.int .i64 0,.int .i64 0,.int .i64 0,.int .i64 0,.int .i64 0,.int .i64 0,.int .i64 0] 474)) r 3 (i64s (rowsK L y)++tl).toArray/\Blk (wr0.alloc (.cells #[.int .i64 0,.int .i64 0,.int .i64 0,.int .i64 0,.int .i64 0,.int .i64 0,.int .i64 0,.int .i64 0] 474)) nb 3 #[.int .i64 8]/\Mod (·=r) w (wr0.alloc (.cells #[.int .i64 0,.int .i64 0,.int .i64 0,.int .i64 0,.int .i64 0,.int .i64 0,.int .i64 0,.int .i64 0] 474))):=⟨Blk.new _ _ _,HW.out.1.alloc _,HW.out.2.1.alloc _,HW.out.2.2.alloc _⟩
   generalize wr0.alloc (.cells #[.int .i64 0,.int .i64 0,.int .i64 0,.int .i64 0,.int .i64 0,.int .i64 0,.int .i64 0,.int .i64 0] 474)=w1 at *;have hlx:(rowsK L y).length=64:=rowsK_length L hL y (by omega)
   have HWI:Hid (Within 1099511627776 (rowOf y (rowsK L y))):=fun i=>by
    have:=rowOf_within (rowsK_within hL hM (by omega) y (by omega)) (by omega) y i;omega
   generalize hL':rowsK L y=L' at *;have HL':=Lib.hid hL';clear hL' HW;have HS:Hid (Src w1 1 (some ⟨r,y*8,none⟩) 8 (i64s ((L'.drop (y*8)).take 8))):=src_row HI.out.2.1 (y*8) 8 (by omega);have HN:Hid (8=Nat.min 8 8/\0+8<=z8.length):=⟨by decide,by decide⟩
   have e1:¬cap=y*8:=by omega
   have e2:y*8+8-y*8=8:=by omega
   have e3:(y:Int)*8+8<=64:=by omega
   have e4:(y:Int)*8+8<=(cap:Int):=by omega
   have e5:(y:Int)*8<=(y:Int)*8+8:=by omega
   have e6:(0:Int)<=(y:Int)*8:=by omega
   have e7:IntKind.i64.wrap ((y:Int)*8)=(y:Int)*8:=by rw [IntKind.wrap_i64];omega
   have e8:IntKind.i64.wrap ((y:Int)*8+8)=(y:Int)*8+8:=by rw [IntKind.wrap_i64];omega
   have HT:Hid (((y:Int)*8).toNat=y*8/\((y:Int)*8+8).toNat=y*8+8):=⟨by omega,by omega⟩
   go_region_law (refine step_copy_blk rfl (.tmp 13) (.tmp 23) _ _ rfl 3 Tryz.underlying23 (by kernel_rfl) (some ⟨wr0.heap.size,0,none⟩) 8 8 (some ⟨r,y*8,none⟩) 8 (cap-y*8) _ (by simp [Act.eval,Act.put]) (by simp [Act.eval,Act.put,HT.out.1,HT.out.2,e1]) HS.out wr0.heap.size 0 z8 474 HI.out.1 8 HN.out.1 (fun _=>rfl) HN.out.2 (i64s_one _) ?_;intro w2 hb2 hm2;have HW2:=Lib.hid (And.intro hb2 hm2);clear hb2 hm2)
   obtain⟨hb2,hm2⟩:=HW2.out;have hm2':Mod (·=wr0.heap.size) w1 w2:=((Mod.refl _ w1).drew).trans hm2;have hrb2:¬r=wr0.heap.size:=by omega
   have hnb2:¬nb=wr0.heap.size:=by omega
   have br2:=HI.out.2.1.keep hm2' hrb2;have bn2:=HI.out.2.2.1.keep hm2' hnb2;have hmf:=HI.out.2.2.2.then_ hm2' (fun k hk e=>by omega);have hl8:(rowOf y L').length=8:=rowOf_length y L' hlx hlt;have hb2':Blk w2 wr0.heap.size 474 (i64s (rowOf y L')).toArray:=by
    have e:splice z8 0 (List.take 8 (i64s (List.take 8 (List.drop (y*8) L'))))=i64s (rowOf y L'):=by
     rw [List.take_of_length_le (by simp [i64s];omega)];have:(i64s (rowOf y L')).length=8:=by rw [i64s_length,hl8]
     show List.take 0 z8++(i64s (rowOf y L')++List.drop (0+(i64s (rowOf y L')).length) z8)=_;rw [this];simp [z8]
    rw [<-e];exact hb2
   have HK:=Lib.hid (And.intro hb2' (And.intro br2 (And.intro bn2 hmf)));clear hb2 hm2 hm2' br2 bn2 hmf hb2' HW2 HI HS;go_wp2_with fail;refine(doBack _ wr0.heap.size nb _ hl8 HWI.out HK.out.1 HK.out.2.2.1).mono ?_;rintro e w3 ⟨rfl,hb3,hm3⟩;have br3:=HK.out.2.1.keep hm3 hrb2;have bn3:=HK.out.2.2.1.keep hm3 hnb2;have hmf3:=HK.out.2.2.2.then_ hm3 (fun k hk e=>by omega);have hc8:(back8 (rowOf y L')).length=8:=by rw [back8_length,hl8]
   generalize hcc:back8 (rowOf y L')=cc at *;have HCC:=Lib.hid hcc;have HS:Hid (Src w3 1 (some ⟨wr0.heap.size,0,none⟩) 8 (i64s ((cc.drop 0).take 8))):=src_blk hb3 0 8 (by omega);have HF:Hid (y*8+8<=(i64s L'++tl).length):=by show _<=_;simp [i64s];omega
   have HK3:=Lib.hid (And.intro hb3 (And.intro br3 (And.intro bn3 hmf3)));clear hb3 hm3 br3 bn3 hmf3 HK hcc;go_upto_region 6 with(fail)
   go_region_law (refine step_copy_blk rfl (.tmp 36) (.tmp 38) _ _ rfl 3 Tryz.underlying23 (by kernel_rfl) (some ⟨r,y*8,none⟩) 8 (cap-y*8) (some ⟨wr0.heap.size,0,none⟩) 8 8 _ (by simp [Act.eval,Act.put,HT.out.1,HT.out.2]) (by simp [Act.eval,Act.put]) HS.out r (y*8) (i64s L'++tl) 3 HK3.out.2.1 8 HN.out.1 (fun _=>rfl) HF.out (i64s_one _) ?_;intro w4 hb4 hm4;have HW4:=Lib.hid (And.intro hb4 hm4);clear hb4 hm4)
   go_wp2_with fail;obtain⟨hb4,hm4⟩:=HW4.out;have hm4':Mod (·=r) w3 w4:=((Mod.refl _ w3).drew).trans hm4;have bn4:=HK3.out.2.2.1.keep hm4' (by omega);refine⟨⟨y+1,by omega,by go_num,?_,bn4,HK3.out.2.2.2.trans hm4'⟩,by simp [intOf];omega⟩;rw [rowsK,HL'.out,HCC.out,<-splice_row _ _ _ _ (by omega)];have e:List.take 8 (i64s (List.take 8 (List.drop 0 cc)))=i64s cc:=by
    rw [List.drop_zero,List.take_of_length_le (l:=cc) (by omega),List.take_of_length_le (by rw [i64s_length];omega)]
   rw [e]at hb4;exact hb4
  ·obtain rfl:y=8:=by omega
   have HF:=Lib.hid (And.intro hb (And.intro hn hm));clear hb hn hm;go_wp2_with fail;go_end0
   exact⟨rfl,HF.out⟩
def fineAt(l:List Int)(q:Int)(i:Nat):Int:=l.getD i 0*stepOf q ((i % sideOf l.length:Nat):Int) ((i/sideOf l.length:Nat):Int)
def fineL(l:List Int)(q:Int):List Int:=(List.range l.length).map (fineAt l q)
def qFine(l:List Int)(q:Int):Option (List Int):=if allB 67108864 l=true/\(0<=q/\q<=31)/\∀i<l.length,inB 67108864 (fineAt l q i)=true then some (fineL l q)else none
def pcL(l:List Int)(q:Int)(k:Nat):List Int:=(List.range l.length).map fun i=>if i<k then fineAt l q i else 0
theorem pcL_zero(l:List Int)(q:Int):pcL l q 0=List.replicate l.length 0:=by
 unfold pcL;apply List.ext_getElem
 ·simp
 ·intro i h1 h2;simp
theorem pcL_all(l:List Int)(q:Int):pcL l q l.length=fineL l q:=by
 unfold pcL fineL;refine List.map_congr_left fun i hi=>?_;rw [if_pos (List.mem_range.1 hi)]
theorem pcL_set(l:List Int)(q:Int)(k:Nat):(pcL l q k).set k (fineAt l q k)=pcL l q (k+1):=by
 unfold pcL;apply List.ext_getElem
 ·simp
 ·intro i h1 h2;rw [List.getElem_set];simp only [List.getElem_map,List.getElem_range];by_cases e:k=i
  ·subst e;rw [if_pos rfl,if_pos (by omega)]
  ·rw [if_neg e];by_cases e2:i<k
   ·rw [if_pos e2,if_pos (by omega)]
   ·rw [if_neg e2,if_neg (by omega)]
theorem pcL_length(l:List Int)(q:Int)(k:Nat):(pcL l q k).length=l.length:=by simp [pcL]
theorem side_cases{n:Nat}(h:sideOf n≠0):(n=16/\sideOf n=4)\/(n=64/\sideOf n=8):=by
 unfold sideOf at h ⊢;by_cases h1:n=16
 ·left;simp [h1]
 ·rw [if_neg h1]at h ⊢;by_cases h2:n=64
  ·right;simp [h2]
  ·rw [if_neg h2]at h;exact absurd rfl h
theorem allB_parts{m:Int}{l:List Int}(h:allB m l=true):sideOf l.length≠0/\∀j<l.length,inB m (l.getD j 0)=true:=by
 unfold allB at h;rw [Bool.and_eq_true,decide_eq_true_eq,List.all_eq_true]at h;refine⟨h.1,fun j hj=>?_⟩;rw [List.getD_eq_getElem?_getD,List.getElem?_eq_getElem hj];exact h.2 _ (List.getElem_mem hj)
def FinePost(w:World)(l:List Int)(q:Int)(e:Ending)(w':World):Prop:=
 Mod (fun _=>False) w w'/\((qFine l q=none/\e=.returned (.tuple #[.slice none 0 0,.int .i64 1]))\/∃v,qFine l q=some (fineL l q)/\e=.returned (.tuple #[v,.int .i64 0])/\IntsOwn w' w.heap.size v (fineL l q))
theorem made_int(n:Nat):(madeCells (Value.cells (.int .i64 0)) n).toList=i64s (List.replicate n 0):=by
 apply List.ext_getElem
 ·simp [size_madeCells,i64s]
 ·intro i h1 h2;simp [madeCells,i64s,Value.cells,Nat.mod_one]
theorem i64s_set(l:List Int)(k:Nat)(v:Int):i64s (l.set k v)=(i64s l).set k (.int .i64 v):=by simp [i64s,List.map_set]
theorem mul_bd(v st:Int)(v1:-67108864<=v)(v2:v<=67108864)(s1:1<=st)(s2:st<=1008):-67645734912<=v*st/\v*st<=67645734912:=by
 have a:=Int.mul_le_mul_of_nonneg_right v2 (show 0<=st by omega);have b:=Int.mul_le_mul_of_nonneg_right v1 (show 0<=st by omega);omega
def EachRel(w4:World)(ob:Nat)(l:List Int)(q:Int)(i:Value)(wr:World):Prop:=
 ∃k:Nat,k<=l.length/\i=.int .i64 k/\(∀j<k,inB 67108864 (fineAt l q j)=true)/\(0<k->0<=q/\q<=31)/\Blk wr ob 3 (i64s (pcL l q k)).toArray/\Mod (·=ob) w4 wr
theorem quiet_step_yes(w:World)(q x y:Int)(h:stepOk q x y=true)(n:Nat):Calls Tryz.prog 302 #[.int .i64 q,.int .i64 x,.int .i64 y] (w.drewN n) fun e w'=>e=.returned (.tuple #[.int .i64 (stepOf q x y),.int .i64 0])/\w'=w.drewN n:=(quantStep_yes _ q x y h).mono fun _ _ hh=>⟨hh.1,hh.2.symm⟩
theorem quiet_step_no(w:World)(q x y:Int)(h:stepOk q x y=false)(n:Nat):Calls Tryz.prog 302 #[.int .i64 q,.int .i64 x,.int .i64 y] (w.drewN n) fun e w'=>e=.returned (.tuple #[.int .i64 0,.int .i64 1])/\w'=w.drewN n:=(quantStep_no _ q x y h).mono fun _ _ hh=>⟨hh.1,hh.2.symm⟩
theorem quantEach(w:World)(A:Option Addr)(n c:Nat)(l:List Int)(q:Int)(hin:IntsIn w A n c l)(hn:n<=1048576):
  Calls Tryz.prog 359 #[.slice A n c,.int .i64 q,.func (.func 397) #[] #[]] w (FinePost w l q):=by
 obtain⟨i0,hi0,hz0,hz1,hz2⟩:=info_parts int_info;obtain rfl:l.length=n:=hin.1;have HIN:=Lib.hid hin;clear hin;go_enter Tryz.func359,Tryz.ntmps359;go_wp2_with fail;refine(quantWithin _ 67108864).mono ?_;rintro e w1 ⟨rfl,hb1,m1⟩;obtain⟨bb,hbb⟩:∃bb,bb=w.heap.size:=⟨_,rfl⟩
 rw [<-hbb]at hb1 ⊢;have hbw:w.heap.size<=bb:=by omega
 clear hbb;go_wp2_with fail;refine(quantAll _ A l.length c bb l 67108864 (HIN.out.quiet m1) hn (by omega) hb1).mono ?_;rintro e w2 ⟨rfl,rfl⟩;cases hall:allB 67108864 l with
 | false=>
  have HQ:Hid (qFine l q=none):=if_neg (fun h=>by rw [hall]at h;cases h.1);clear hall hb1;go_wp2_with fail;go_ret2;exact⟨m1,.inl ⟨HQ.out,rfl⟩⟩
 | true=>
  obtain⟨hsn,hins⟩:=allB_parts hall;have hsc:=side_cases hsn;have HALL:=Lib.hid (And.intro hall hins);clear hall hins;go_wp2_with fail;refine(quantSide _ l.length (by omega)).mono ?_;rintro e w3 ⟨rfl,rfl⟩;obtain⟨s,hs⟩:∃s,s=sideOf l.length:=⟨_,rfl⟩
  rw [<-hs]at hsn hsc ⊢;have HS:=Lib.hid hs;clear hs;have hl0:16<=l.length/\l.length<=64:=by omega
  have hs8:4<=s/\s<=8:=by omega
  have hls:l.length<=8*s/\l.length<=s*s:=by rcases hsc with⟨e1,e2⟩|⟨e1,e2⟩<;>rw [e1,e2]<;>decide
  clear hsc hsn;have x1:i0.bytes*l.length<=281474976710656:=by rw [hz2];omega
  have x2:l.length<=maxLen:=by unfold maxLen;omega
  have HX:=Lib.hid (And.intro x1 x2);clear x1 x2;go_upto_region 6 with(with_reducible refine wpList_make_full _ rfl (.tmp 24) (.tmp 24) _ rfl w1.heap.size 3 i0 (.int .i64 0) 1 Tryz.underlying23 hi0 hz0 hz1 _ _ _ _ l.length rfl rfl rfl rfl HX.out.1 HX.out.2 (Nat.le_refl _) ?_;intro w4 hown4 hg4;have HO:=Lib.hid (And.intro hown4 hg4);clear hown4 hg4)
  have m4:Mod (fun _=>False) w1 w4:=(Mod.refl _ _).grown HO.out.2 (fun k hk=>by cases hk);obtain⟨hob,_⟩:=own_whole HO.out.1;rw [Nat.mul_one,made_int,<-pcL_zero l q]at hob;obtain⟨ob,hobe⟩:∃ob,ob=w1.heap.size:=⟨_,rfl⟩
  rw [<-hobe]at hob ⊢;have hbl:=hb1.lt;have hbo:¬bb=ob:=by omega
  have how:w.heap.size<=ob:=by have:=m1.size;omega
  have hb4:=hb1.keep m4 (fun h=>h);have M4:=m1.trans m4;have hin4:=HIN.out.quiet M4;have hlen:=HIN.out.2.2.2 (by omega);clear HO m1 m4 hb1 hobe;obtain⟨b,off,hA,_,hc⟩:=hin4.place (by omega);subst hA;have hbw2:b<w.heap.size:=hlen _ rfl;have HC:=Lib.hid hc;clear hc hin4 hlen;go_wp2_with fail;go_loopw [28] (EachRel w4 ob l q) (fun i _=>l.length-(intOf i).toNat)
  case atStart=>exact⟨0,by omega,rfl,(fun j hj=>by omega),(fun h=>by omega),hob,Mod.refl _ _⟩
  case round=>
   clear hob;obtain⟨k,hk,rfl,hpre,hqk,hob,hM⟩:=hrel;have HPRE:=Lib.hid (And.intro hpre hqk);clear hpre hqk;by_cases hlt:k<l.length
   ·have hck:wr.cell? ⟨b,off+k,none⟩=some (.int .i64 (l.getD k 0)):=(World.cell?_of_block (hM.block b (World.block_lt_of_cell? _ _ (HC.out k hlt)) (by omega))).trans (HC.out k hlt);have hvin:=HALL.out.2 k hlt;have HFA:Hid (fineAt l q k=l.getD k 0*stepOf q ((k % s:Nat):Int) ((k/s:Nat):Int)):=by show _=_;unfold fineAt;rw [HS.out]
    generalize hvv:l.getD k 0=v at *;clear hvv;unfold inB at hvin;simp only [decide_eq_true_eq]at hvin;obtain⟨v1,v2⟩:=hvin;have i1:(0:Int)<=(k:Int):=by omega
    have i2:(k:Int)<(l.length:Int):=by omega
    obtain⟨kx,hkx⟩:∃kx,kx=k % s:=⟨_,rfl⟩
    obtain⟨ky,hky⟩:∃ky,ky=k/s:=⟨_,rfl⟩
    have hks:kx<s:=by rw [hkx];exact Nat.mod_lt _ (by omega)
    have hkd:ky<s:=by rw [hky];exact Nat.div_lt_of_lt_mul (by omega)
    have t1:((k:Int).tmod (s:Int))=(kx:Int):=by rw [Int.tmod_eq_emod_of_nonneg (by omega),hkx];exact(Int.natCast_emod k s).symm
    have t2:((k:Int).tdiv (s:Int))=(ky:Int):=by rw [Int.tdiv_eq_ediv_of_nonneg (by omega),hky];exact(Int.natCast_ediv k s).symm
    have t3:((k:Int) % (s:Int))=(kx:Int):=by rw [hkx];exact(Int.natCast_emod k s).symm
    have t4:((k:Int)/(s:Int))=(ky:Int):=by rw [hky];exact(Int.natCast_ediv k s).symm
    have hs0:((s:Int) == 0)=false:=beq_eq_false_iff_ne.2 (by omega);rw [<-hkx,<-hky]at HFA;have HT:=Lib.hid (And.intro t1 (And.intro t2 (And.intro t3 t4)));clear hkx hky t1 t2 t3 t4;by_cases hq:0<=q/\q<=31
    ·have hok:stepOk q (kx:Int) (ky:Int)=true:=by unfold stepOk;rw [decide_eq_true_eq];omega
     go_upto_region 9 with(fail)
     obtain⟨t1,t2,t3,t4⟩:=HT.out;go_quiet ((go_at_call 302;exact Calls.quiet_of_same (quiet_step_yes _ q kx ky hok _)))
     clear t1 t2 t3 t4;have hbd:=step_bd q kx ky hok;obtain⟨_,st1,st2,_⟩:=hbd;obtain⟨st,hst⟩:∃st,st=stepOf q kx ky:=⟨_,rfl⟩
     rw [<-hst]at st1 st2 HFA ⊢;clear hst hok HT hck;have hpb:=mul_bd v st v1 v2 st1 st2;have hob2:=hob.drewN nq;have hM2:=hM.drewN nq;have hb5:=(hb4.keep hM hbo).drewN nq;generalize wr.drewN nq=w5 at *;clear hob hM;go_wp2_with fail;refine(quantValue _ v st (by omega) (by omega)).mono ?_;rintro e w6 ⟨rfl,rfl⟩;obtain⟨pr,hpr⟩:∃pr,pr=v*st:=⟨_,rfl⟩
     rw [<-hpr]at hpb HFA ⊢;clear hpr;have hoc:w5.cell? ⟨ob,k,none⟩=some (.int .i64 ((pcL l q k).getD k 0)):=by rw [hob2.cell k];simp [i64s,pcL_length,hlt]
     have hof:=hob2.frozen k;have hob3:Blk (w5.setCell ⟨ob,k,none⟩ (.int .i64 pr)) ob 3 (i64s (pcL l q (k+1))).toArray:=hob2.put (by rw [<-pcL_set,HFA.out,i64s_set];simp);have hM3:Mod (·=ob) w4 (w5.setCell ⟨ob,k,none⟩ (.int .i64 pr)):=hM2.setCell (p:=⟨ob,k,none⟩) (.inl rfl) _;have hb6:Blk (w5.setCell ⟨ob,k,none⟩ (.int .i64 pr)) bb 3 #[.int .i64 67108864]:=hb5.far hbo _;have HB:=Lib.hid (And.intro hob3 (And.intro hM3 hb6));clear hob2 hM2 hb5 hob3 hM3 hb6;generalize (pcL l q k).getD k 0=old at *;cases hv:inB 67108864 pr with
     | true=>
      go_wp2_with fail;refine(quantIn _ bb 67108864 pr (by omega) HB.out.2.2).mono ?_;rintro e w7 ⟨rfl,rfl⟩;rw [hv];have HV:=Lib.hid hv;clear hv hoc hof;go_wp2_with fail;go_roundw
      case rel=>
       refine⟨k+1,by omega,by go_num,fun j hj=>?_,fun _=>hq,HB.out.1,HB.out.2.1⟩;by_cases e:j=k
       ·subst e;rw [HFA.out];exact HV.out
       ·exact HPRE.out.1 j (by omega)
      case measure=>simp [intOf];omega
     | false=>
      have HQ:Hid (qFine l q=none):=if_neg (fun h=>by have:=h.2.2 k hlt;rw [HFA.out,hv]at this;cases this);go_wp2_with fail;refine(quantIn _ bb 67108864 pr (by omega) HB.out.2.2).mono ?_;rintro e w7 ⟨rfl,rfl⟩;rw [hv];clear hv hoc hof;go_wp2_with fail;go_ret2;exact⟨M4.into HB.out.2.1 (fun i e=>.inr (by omega)),.inl ⟨HQ.out,rfl⟩⟩
    ·have hok:stepOk q (kx:Int) (ky:Int)=false:=by unfold stepOk;rw [decide_eq_false_iff_not];omega
     have HQ:Hid (qFine l q=none):=if_neg (fun h=>hq h.2.1);go_upto_region 9 with(fail)
     obtain⟨t1,t2,t3,t4⟩:=HT.out;go_quiet ((go_at_call 302;exact Calls.quiet_of_same (quiet_step_no _ q kx ky hok _)))
     clear t1 t2 t3 t4;go_wp2_with fail;go_ret2;exact⟨(M4.into hM (fun i e=>.inr (by omega))).drewN _,.inl ⟨HQ.out,rfl⟩⟩
   ·obtain rfl:k=l.length:=by omega
    have HQ:Hid (qFine l q=some (fineL l q)):=if_pos ⟨HALL.out.1,HPRE.out.2 (by omega),HPRE.out.1⟩;have HB:=Lib.hid (And.intro hob hM);clear hob hM;go_wp2_with fail;go_ret2;refine⟨M4.into HB.out.2 (fun i e=>.inr (by omega)),.inr ⟨_,HQ.out,rfl,?_⟩⟩;have hob:=HB.out.1;rw [pcL_all]at hob;have hfl:(fineL l q).length=l.length:=by simp [fineL]
    unfold IntsOwn;rw [hfl];exact⟨by rw [i64s_length,hfl,Nat.mul_one],.inr ⟨ob,l.length,_,rfl,how,hob,Nat.le_refl _,HX.out.2,by simp [i64s_length,hfl],by rw [Nat.mul_one];exact List.take_of_length_le (by simp [i64s_length,hfl])⟩⟩
theorem quantFine(w:World)(A:Option Addr)(n c:Nat)(l:List Int)(q:Int)(hin:IntsIn w A n c l)(hn:n<=1048576):Calls Tryz.prog 365 #[.slice A n c,.int .i64 q] w (FinePost w l q):=by
 go_enter Tryz.func365,Tryz.ntmps365;go_wp2_with fail;refine(quantEach _ A n c l q hin hn).mono ?_;rintro e w1 ⟨hm,⟨h1,rfl⟩|⟨v,h1,rfl,h2⟩⟩
 ·have HQ:=Lib.hid h1;clear h1;go_wp2_with fail;go_ret2;exact⟨hm,.inl ⟨HQ.out,rfl⟩⟩
 ·have HQ:=Lib.hid (And.intro h1 h2);obtain⟨A1,c1,hv⟩:=own_shape h2;subst hv;clear h1 h2;go_wp2_with fail;go_ret2;exact⟨hm,.inr ⟨_,HQ.out.1,rfl,HQ.out.2⟩⟩
end Go.Proofs.YtnnpoodcdibpiaaGreatDoor
