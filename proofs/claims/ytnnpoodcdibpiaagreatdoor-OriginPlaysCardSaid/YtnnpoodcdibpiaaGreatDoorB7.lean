/-
  deblock: apart, clip, known, Line.
-/
import Derived.Test.YtnnpoodcdibpiaaGreatDoorB5
namespace Go.Proofs.YtnnpoodcdibpiaaGreatDoor
open Go.RowKit
set_option maxRecDepth 100000
set_option maxHeartbeats 8000000
def apartN(a b:Nat):Nat:=max a b-min a b
theorem dApart(w:World)(a b:Nat)(ha:a<256)(hb:b<256):Calls Tryz.prog 368 #[.int .u8 (a:Int),.int .u8 (b:Int)] w fun e w'=>e=.returned (.int .i64 ((apartN a b:Nat):Int))/\w=w':=by
 unfold apartN;by_cases h:a<=b
 ·go_enter Tryz.func368,Tryz.ntmps368;go_wp2_with fail
  all_goals(try go_ret)
  all_goals first|exact⟨congrArg (fun z=>Ending.returned (.int .i64 z)) (by omega),rfl⟩|omega
 ·go_enter Tryz.func368,Tryz.ntmps368;go_wp2_with fail
  all_goals(try go_ret)
  all_goals first|exact⟨congrArg (fun z=>Ending.returned (.int .i64 z)) (by omega),rfl⟩|omega
theorem dClip(w:World)(v:Int)(hv:-9223372036854775808<=v/\v<=9223372036854775807):Calls Tryz.prog 369 #[.int .i64 v] w fun e w'=>e=.returned (.int .u8 ((clipN v:Nat):Int))/\w=w':=by
 unfold clipN;go_enter Tryz.func369,Tryz.ntmps369;go_wp2_with fail
 all_goals
  go_ret;refine⟨congrArg (fun z=>Ending.returned (.int .u8 z)) ?_,rfl⟩
  (repeat' split)<;>omega
theorem dKnown(w:World)(q:Nat)(hq:q<=31):Calls Tryz.prog 247 #[.int .i64 (q:Int)] w fun e w'=>e=.returned (.bool true)/\w=w':=by
 have d1:decide ((q:Int)<=31)=true:=decide_eq_true (by omega);have d2:decide (0<=(q:Int))=true:=decide_eq_true (by omega);go_enter Tryz.func247,Tryz.ntmps247;go_wp2_with fail;go_ret;exact⟨rfl,rfl⟩
theorem ret2_u8{a b a' b':Nat}(h:a=a')(k:b=b'):Ending.returned (.tuple #[.int .u8 (a:Int),.int .u8 (b:Int)])=.returned (.tuple #[.int .u8 (a':Int),.int .u8 (b':Int)]):=by rw [h,k]
def lineM(a b c d s:Int):Int:=min (max ((4*(c-b)+a-d+4)/8) (-s)) s
def lineN(a b c d q:Nat):Nat × Nat:=
 if 4*(q/2)<=apartN b c\/2*(q/2)<=apartN a b\/2*(q/2)<=apartN c d then(b,c)
 else(clipN ((b:Int)+lineM a b c d ((q/2:Nat):Int)),clipN ((c:Int)-lineM a b c d ((q/2:Nat):Int)))
theorem dLine(w:World)(a b c d q:Nat)(ha:a<256)(hb:b<256)(hc:c<256)(hd:d<256)(hq:q<=31):
  Calls Tryz.prog 319 #[.int .u8 (a:Int),.int .u8 (b:Int),.int .u8 (c:Int),.int .u8 (d:Int),.int .i64 (q:Int)] w
   fun e w'=>e=.returned (.tuple #[.int .u8 (((lineN a b c d q).1:Nat):Int),.int .u8 (((lineN a b c d q).2:Nat):Int)])/\w=w':=by
 by_cases h1:4*(q/2)<=apartN b c
 ·have HR:=Lib.hid (show lineN a b c d q=(b,c)from if_pos (.inl h1));have d1:decide (4*((q:Int)/2)<=(apartN b c:Int))=true:=decide_eq_true (by omega);clear h1;go_enter Tryz.func319,Tryz.ntmps319;go_wp2_with fail;refine(dKnown _ q hq).mono ?_;rintro e w1 ⟨rfl,rfl⟩;go_wp2_with fail;refine(dApart _ b c hb hc).mono ?_;rintro e w1 ⟨rfl,rfl⟩;go_wp2_with fail;go_ret2;exact⟨by rw [HR.out];rfl,rfl⟩
 ·have d1:decide (4*((q:Int)/2)<=(apartN b c:Int))=false:=decide_eq_false (by omega);by_cases h2:2*(q/2)<=apartN a b
  ·have HR:=Lib.hid (show lineN a b c d q=(b,c)from if_pos (.inr (.inl h2)));have d2:decide (2*((q:Int)/2)<=(apartN a b:Int))=true:=decide_eq_true (by omega);clear h1 h2;go_enter Tryz.func319,Tryz.ntmps319;go_wp2_with fail;refine(dKnown _ q hq).mono ?_;rintro e w1 ⟨rfl,rfl⟩;go_wp2_with fail;refine(dApart _ b c hb hc).mono ?_;rintro e w1 ⟨rfl,rfl⟩;go_wp2_with fail;refine(dApart _ a b ha hb).mono ?_;rintro e w1 ⟨rfl,rfl⟩;go_wp2_with fail;go_ret2;exact⟨by rw [HR.out];rfl,rfl⟩
  ·have d2:decide (2*((q:Int)/2)<=(apartN a b:Int))=false:=decide_eq_false (by omega);by_cases h3:2*(q/2)<=apartN c d
   ·have HR:=Lib.hid (show lineN a b c d q=(b,c)from if_pos (.inr (.inr h3)));have d3:decide (2*((q:Int)/2)<=(apartN c d:Int))=true:=decide_eq_true (by omega);clear h1 h2 h3;go_enter Tryz.func319,Tryz.ntmps319;go_wp2_with fail;refine(dKnown _ q hq).mono ?_;rintro e w1 ⟨rfl,rfl⟩;go_wp2_with fail;refine(dApart _ b c hb hc).mono ?_;rintro e w1 ⟨rfl,rfl⟩;go_wp2_with fail;refine(dApart _ a b ha hb).mono ?_;rintro e w1 ⟨rfl,rfl⟩;go_wp2_with fail;refine(dApart _ c d hc hd).mono ?_;rintro e w1 ⟨rfl,rfl⟩;go_wp2_with fail;go_ret2;exact⟨by rw [HR.out];rfl,rfl⟩
   ·have HR:=Lib.hid (show lineN a b c d q=_ from if_neg (by omega));have d3:decide (2*((q:Int)/2)<=(apartN c d:Int))=false:=decide_eq_false (by omega);clear h1 h2 h3;go_enter Tryz.func319,Tryz.ntmps319;go_wp2_with fail;refine(dKnown _ q hq).mono ?_;rintro e w1 ⟨rfl,rfl⟩;go_wp2_with fail;refine(dApart _ b c hb hc).mono ?_;rintro e w1 ⟨rfl,rfl⟩;go_wp2_with fail;refine(dApart _ a b ha hb).mono ?_;rintro e w1 ⟨rfl,rfl⟩;go_wp2_with fail;refine(dApart _ c d hc hd).mono ?_;rintro e w1 ⟨rfl,rfl⟩;go_wp2_with fail
    all_goals
     clear d1 d2 d3;refine(dClip _ _ ⟨by omega,by omega⟩).mono ?_;rintro e w1 ⟨rfl,rfl⟩;go_wp2_with fail;refine(dClip _ _ ⟨by omega,by omega⟩).mono ?_;rintro e w1 ⟨rfl,rfl⟩;go_wp2_with fail;go_ret2;refine⟨ret2_u8 ?_ ?_,rfl⟩
     ·rw [HR.out];exact congrArg clipN (by unfold lineM;omega)
     ·rw [HR.out];exact congrArg clipN (by unfold lineM;omega)
def smo(q:Nat)(L:List UInt8)(p s:Nat):List UInt8:=
 (L.set (p-s) (UInt8.ofNat (lineN (L.getD (p-2*s) 0).toNat (L.getD (p-s) 0).toNat (L.getD p 0).toNat (L.getD (p+s) 0).toNat q).1)).set p
  (UInt8.ofNat (lineN (L.getD (p-2*s) 0).toNat (L.getD (p-s) 0).toNat (L.getD p 0).toNat (L.getD (p+s) 0).toNat q).2)
theorem smo_length(q:Nat)(L:List UInt8)(p s:Nat):(smo q L p s).length=L.length:=by simp [smo]
theorem lineN_lt(a b c d q:Nat)(hb:b<256)(hc:c<256):(lineN a b c d q).1<256/\(lineN a b c d q).2<256:=by
 unfold lineN;split
 ·exact⟨hb,hc⟩
 ·exact⟨clipN_lt _,clipN_lt _⟩
theorem u8_cell{w:World}{g:Nat}{t:TypeId}{L:List UInt8}(hb:Blk w g t (u8s L).toArray){i:Nat}(hi:i<L.length):w.cell? ⟨g,i,none⟩=some (.int .u8 ((L.getD i 0).toNat:Int)):=by
 rw [hb.cell,List.getElem?_toArray];simp [u8s,hi]
theorem u8_set(L:List UInt8)(k v:Nat)(hv:v<256):(u8s L).toArray.setIfInBounds k (.int .u8 (v:Int))=(u8s (L.set k (UInt8.ofNat v))).toArray:=by
 rw [u8s_set L k v hv];simp
theorem dSmooth(w:World)(bp bq g n q p s:Nat)(L:List UInt8)(hL:L.length=n)(hq:q<=31)(hs:1<=s)(h1:2*s<=p)(h2:p+s<n)(hn:n<=16777216)
  (hbp:Blk w bp 22 #[.slice (some ⟨g,0,none⟩) n n])(hbq:Blk w bq 3 #[.int .i64 (q:Int)])(hb:Blk w g 5 (u8s L).toArray):
  Calls Tryz.prog 318 #[.int .i64 (p:Int),.int .i64 (s:Int),.pointer (some ⟨bp,0,none⟩),.pointer (some ⟨bq,0,none⟩)] w fun e w'=>e=.returned (.tuple #[])/\Blk w' g 5 (u8s (smo q L p s)).toArray/\Mod (·=g) w w':=by
 obtain⟨p1,hp1⟩:∃p1,p1=p-s:=⟨_,rfl⟩
 obtain⟨p0,hp0⟩:∃p0,p0=p-2*s:=⟨_,rfl⟩
 obtain⟨p3,hp3⟩:∃p3,p3=p+s:=⟨_,rfl⟩
 have hR:smo q L p s=(L.set p1 (UInt8.ofNat (lineN (L.getD p0 0).toNat (L.getD p1 0).toNat (L.getD p 0).toNat (L.getD p3 0).toNat q).1)).set p
  (UInt8.ofNat (lineN (L.getD p0 0).toNat (L.getD p1 0).toNat (L.getD p 0).toNat (L.getD p3 0).toNat q).2):=by rw [hp1,hp0,hp3];rfl
 have k0:=u8_cell hb (i:=p0) (by omega);have k1:=u8_cell hb (i:=p1) (by omega);have k2:=u8_cell hb (i:=p) (by omega);have k3:=u8_cell hb (i:=p3) (by omega);have hlt:=lineN_lt (L.getD p0 0).toNat (L.getD p1 0).toNat (L.getD p 0).toNat (L.getD p3 0).toNat q (UInt8.toNat_lt _) (UInt8.toNat_lt _);have x0:(L.getD p0 0).toNat<256:=UInt8.toNat_lt _;have x1:(L.getD p1 0).toNat<256:=UInt8.toNat_lt _;have x2:(L.getD p 0).toNat<256:=UInt8.toNat_lt _;have x3:(L.getD p3 0).toNat<256:=UInt8.toNat_lt _;obtain⟨v0,hv0⟩:∃v,v=(L.getD p0 0).toNat:=⟨_,rfl⟩
 obtain⟨v1,hv1⟩:∃v,v=(L.getD p1 0).toNat:=⟨_,rfl⟩
 obtain⟨v2,hv2⟩:∃v,v=(L.getD p 0).toNat:=⟨_,rfl⟩
 obtain⟨v3,hv3⟩:∃v,v=(L.getD p3 0).toNat:=⟨_,rfl⟩
 rw [<-hv0,<-hv1,<-hv2,<-hv3]at hR hlt;rw [<-hv0]at k0 x0;rw [<-hv1]at k1 x1;rw [<-hv2]at k2 x2;rw [<-hv3]at k3 x3;have y0:w.cell? ⟨bp,0,none⟩=some (.slice (some ⟨g,0,none⟩) n n):=hbp.cell 0;have y1:w.cell? ⟨bq,0,none⟩=some (.int .i64 (q:Int)):=hbq.cell 0;have e1:IntKind.i64.wrap ((p:Int)-(s:Int))=(p1:Int):=by rw [IntWalk.i64_in _ ⟨by omega,by omega⟩];omega
 have e2:IntKind.i64.wrap (2*(s:Int))=2*(s:Int):=IntWalk.i64_in _ ⟨by omega,by omega⟩;have e3:IntKind.i64.wrap ((p:Int)-2*(s:Int))=(p0:Int):=by rw [IntWalk.i64_in _ ⟨by omega,by omega⟩];omega
 have e4:IntKind.i64.wrap ((p:Int)+(s:Int))=(p3:Int):=by rw [IntWalk.i64_in _ ⟨by omega,by omega⟩];omega
 have i0:(0:Int)<=(p0:Int):=by omega
 have i1:(0:Int)<=(p1:Int):=by omega
 have i2:(0:Int)<=(p:Int):=by omega
 have i3:(0:Int)<=(p3:Int):=by omega
 have j0:(p0:Int)<(n:Int):=by omega
 have j1:(p1:Int)<(n:Int):=by omega
 have j2:(p:Int)<(n:Int):=by omega
 have j3:(p3:Int)<(n:Int):=by omega
 have hne:p1≠p:=by omega
 have fz:=hb.frozen;have gl:=hb.lt;have HE:=Lib.hid (And.intro e1 (And.intro e2 (And.intro e3 e4)));have HH:=Lib.hid (And.intro hR (And.intro hb (And.intro hlt hL)));clear hR hb hlt hL hbp hbq hp0 hp1 hp3 hv0 hv1 hv2 hv3 e1 e2 e3 e4 h1 h2;go_enter Tryz.func318,Tryz.ntmps318;go_wp2_with fail;have e1:=HE.out.1;go_quiet (fail)
 clear e1;go_upto_region 1 with(fail)
 obtain⟨e1,e2,e3,e4⟩:=HE.out;refine wp_region_plan [27,29] [1,25] [0,2,3,4,5,6,7,8,9,10,11,12,13,14,15,16,17,18,19,20,21,22,23,24,26,1,25,27,28,29] (by kernel_rfl) (by kernel_rfl) (fun _ _ _ d _ h=>by cases d<;>exact h) ?_;iterate 21 (refine plan_still rfl rfl (fun K hK=>?_);go_simp;refine hK _ ?_;clear hK K)
 (refine plan_still rfl rfl (fun K hK=>?_);go_simp;refine⟨_,(dLine _ v0 v1 v2 v3 q x0 x1 x2 x3 hq).mono (fun _ _ ⟨h1,h2⟩=>⟨h1,h2.symm⟩),hK _ ?_⟩;clear hK K)
 iterate 3 (refine plan_still rfl rfl (fun K hK=>?_);go_simp;refine hK _ ?_;clear hK K)
 iterate 2 (refine plan_pure rfl rfl rfl (fun _=>rfl) ?_)
 refine plan_loud rfl rfl (fun K hK=>?_);go_simp;refine hK _ _ ?_;clear hK K;refine plan_still rfl rfl (fun K hK=>?_);go_simp;refine hK _ ?_;clear hK K;refine plan_loud rfl rfl (fun K hK=>?_);go_simp;refine hK _ _ ?_;clear hK K;refine plan_done ?_;clear e1 e2 e3 e4;go_wp2_with fail;go_end0
 refine⟨rfl,?_,?_⟩
 ·obtain⟨hR,hb,hlt,hL⟩:=HH.out;rw [hR];have h1:=((hb.drewN (nq+1)).put (i:=p1) (u8_set L p1 _ hlt.1)).put (i:=p) (u8_set (L.set p1 (UInt8.ofNat (lineN v0 v1 v2 v3 q).1)) p _ hlt.2);exact h1
 ·exact(((Mod.refl (·=g) w).drewN _).setCell (p:=⟨g,p1,none⟩) (.inl rfl) _).setCell (p:=⟨g,p,none⟩) (.inl rfl) _
def smRow(q W y:Nat):Nat->Nat->List UInt8->List UInt8
 | 0,_,L=>L
 | f+1,x,L=>if x+1<W then smRow q W y f (x+8) (smo q L (y*W+x) 1)else L
def smRows(q W:Nat):Nat->Nat->List UInt8->List UInt8
 | 0,_,L=>L
 | n+1,y,L=>smRows q W n (y+1) (smRow q W y W 8 L)
def smCol(q W H x:Nat):Nat->Nat->List UInt8->List UInt8
 | 0,_,L=>L
 | f+1,y,L=>if y+1<H then smCol q W H x f (y+8) (smo q L (y*W+x) W)else L
def smCols(q W H:Nat):Nat->Nat->List UInt8->List UInt8
 | 0,_,L=>L
 | n+1,x,L=>smCols q W H n (x+1) (smCol q W H x H 8 L)
def smPlane(q W H:Nat)(L:List UInt8):List UInt8:=smCols q W H W 0 (smRows q W H 0 L)
theorem smRow_done{q W y f x:Nat}{L:List UInt8}(h:¬x+1<W):smRow q W y f x L=L:=by cases f<;>simp [smRow,h]
theorem smCol_done{q W H x f y:Nat}{L:List UInt8}(h:¬y+1<H):smCol q W H x f y L=L:=by cases f<;>simp [smCol,h]
theorem smRow_step{q W y f x:Nat}{L:List UInt8}(h:x+1<W):smRow q W y (f+1) x L=smRow q W y f (x+8) (smo q L (y*W+x) 1):=by simp [smRow,h]
theorem smCol_step{q W H x f y:Nat}{L:List UInt8}(h:y+1<H):smCol q W H x (f+1) y L=smCol q W H x f (y+8) (smo q L (y*W+x) W):=by simp [smCol,h]
theorem smRows_step{q W H y:Nat}{L:List UInt8}(h:y<H):smRows q W (H-y) y L=smRows q W (H-(y+1)) (y+1) (smRow q W y W 8 L):=by rw [show H-y=(H-(y+1))+1 by omega];rfl
theorem smCols_step{q W H x:Nat}{L:List UInt8}(h:x<W):smCols q W H (W-x) x L=smCols q W H (W-(x+1)) (x+1) (smCol q W H x H 8 L):=by rw [show W-x=(W-(x+1))+1 by omega];rfl
theorem smRow_length{q W y:Nat}:∀ {f x:Nat} {L:List UInt8},(smRow q W y f x L).length=L.length
 | 0,_,_=>rfl
 | f+1,x,L=>by unfold smRow;split;rw [smRow_length,smo_length];rfl
theorem smCol_length{q W H x:Nat}:∀ {f y:Nat} {L:List UInt8},(smCol q W H x f y L).length=L.length
 | 0,_,_=>rfl
 | f+1,y,L=>by unfold smCol;split;rw [smCol_length,smo_length];rfl
theorem smRows_length{q W:Nat}:∀ {n y:Nat} {L:List UInt8},(smRows q W n y L).length=L.length
 | 0,_,_=>rfl
 | n+1,y,L=>by unfold smRows;rw [smRows_length,smRow_length]
theorem smCols_length{q W H:Nat}:∀ {n x:Nat} {L:List UInt8},(smCols q W H n x L).length=L.length
 | 0,_,_=>rfl
 | n+1,x,L=>by unfold smCols;rw [smCols_length,smCol_length]
theorem smPlane_length{q W H:Nat}{L:List UInt8}:(smPlane q W H L).length=L.length:=by unfold smPlane;rw [smCols_length,smRows_length]
def dpL(v g res qb pb n W H q:Nat)(A:Option Addr)(c:Nat)(L:List UInt8):List Ent:=
 [⟨v,22,#[.slice (some ⟨g,0,none⟩) n n]⟩,⟨g,5,(u8s L).toArray⟩,⟨res,108,#[.int .i64 0,.int .i64 0,.slice none 0 0]⟩,⟨qb,3,#[.int .i64 (q:Int)]⟩,⟨pb,108,#[.int .i64 (W:Int),.int .i64 (H:Int),.slice A n c]⟩]
def DRows(w:World)(mk:List UInt8->List Ent)(n q W H:Nat)(R:List UInt8)(s31:Value)(wr:World):Prop:=
 ∃y L,y<=H/\s31=.int .i64 (y:Int)/\L.length=n/\smRows q W (H-y) y L=R/\Sat (fun _=>False) w wr (mk L) []
def DRow(w:World)(mk:List UInt8->List Ent)(n q W y:Nat)(R:List UInt8)(s9:Value)(wr:World):Prop:=
 ∃x f L,8<=x/\x<=W+8/\W<=x+f/\s9=.int .i64 (x:Int)/\L.length=n/\smRow q W y f x L=R/\Sat (fun _=>False) w wr (mk L) []
def DCols(w:World)(mk:List UInt8->List Ent)(n q W H:Nat)(R:List UInt8)(s52:Value)(wr:World):Prop:=
 ∃x L,x<=W/\s52=.int .i64 (x:Int)/\L.length=n/\smCols q W H (W-x) x L=R/\Sat (fun _=>False) w wr (mk L) []
def DCol(w:World)(mk:List UInt8->List Ent)(n q W H x:Nat)(R:List UInt8)(s11:Value)(wr:World):Prop:=
 ∃y f L,8<=y/\y<=H+8/\H<=y+f/\s11=.int .i64 (y:Int)/\L.length=n/\smCol q W H x f y L=R/\Sat (fun _=>False) w wr (mk L) []
theorem at_in{y x W H n:Nat}(hn:n=W*H)(hy:y<H)(hx:x<W):y*W+x<n/\y*W+W<=n:=by
 have h1:=Nat.mul_le_mul_right W (show y+1<=H by omega);rw [Nat.add_mul,Nat.one_mul,Nat.mul_comm H W,<-hn]at h1;omega
theorem dPlane(w:World)(W H:Nat)(A:Option Addr)(n c:Nat)(pix:List UInt8)(q:Nat)(h:sidesB W H=true)(hn:n=W*H)(hin:BytesIn w A (W*H) c pix)(hq:q<=31):
  Calls Tryz.prog 248 #[.agg #[.int .i64 (W:Int),.int .i64 (H:Int),.slice A n c],.int .i64 (q:Int)] w
   fun e w'=>∃g,e=.returned (.tuple #[.agg #[.int .i64 (W:Int),.int .i64 (H:Int),.slice (some ⟨g,0,none⟩) n n],.int .i64 0])/\Blk w' g 5 (u8s (smPlane q W H pix)).toArray/\w.heap.size<=g/\Mod (fun _=>False) w w':=by
 obtain⟨ha,hW1,hW2,hH1,hH2,hn1⟩:=area_le h;have hpl:pix.length=n:=by rw [hn];exact hin.1
 rw [<-hn]at ha hn1;have HI:=Lib.hid (And.intro h (And.intro hin (And.intro hn hpl)));clear h hin hn hpl;have h0:=(Sat.nil (fun _=>False) w)
 go_enter Tryz.func248,Tryz.ntmps248;go_wp2_with fail;refine(pRight' _ W H A n c HI.out.1 HI.out.2.2.1).mono ?_;rintro e w1 ⟨rfl,hm1⟩;have HS:=Sat.after hm1 (((h0.alloc _ _ rfl).alloc (g:=w.heap.size+1) _ _ (by simp)).alloc (g:=w.heap.size+2) _ _ (by simp));clear hm1 h0;obtain⟨qc,qf⟩:=(HS.own_ 1 rfl).both;have ql:=(HS.own_ 1 rfl).lt;have HH:=Lib.hid HS;clear HS;go_wp2_with fail;refine(dKnown _ q hq).mono ?_;rintro e w2 ⟨rfl,rfl⟩;clear qc qf ql;have hs1:w.heap.size+3<=w1.heap.size:=(HH.out.own_ 0 rfl).lt;have pc2:w1.cell? ⟨w.heap.size,2,none⟩=some (.slice A n c):=(HH.out.own_ 2 rfl).cell 2;go_upto_region 6 with(refine wpList_mk_u8 _ rfl (.tmp 22) (.tmp 22) rfl n rfl rfl (by omega) ?_;intro w3 hb3 hm3;have HO:=Lib.hid (And.intro hb3 hm3);clear hb3 hm3)
 clear pc2
 have HS3:=(HH.out.quiet HO.out.2).add_own (g:=w1.heap.size) HO.out.1 (.inr (by omega)) (by
  intro e he;have:=(HH.out.blk e he).lt;omega)
 have hs3:w1.heap.size<w3.heap.size:=HO.out.1.lt;have HS4:=HS3.alloc 22 #[.slice (some ⟨w1.heap.size,0,none⟩) n n] rfl;clear HS3;have hc4:=HI.out.2.1.quiet HS4.mod;rw [<-HI.out.2.2.1]at hc4;obtain⟨g,hg⟩:∃g,g=w1.heap.size:=⟨_,rfl⟩
 obtain⟨v,hv⟩:∃v,v=w3.heap.size:=⟨_,rfl⟩
 obtain⟨res,hres⟩:∃res,res=w.heap.size+1+1:=⟨_,rfl⟩
 obtain⟨qb,hqb⟩:∃qb,qb=w.heap.size+1:=⟨_,rfl⟩
 obtain⟨pb,hpb⟩:∃pb,pb=w.heap.size:=⟨_,rfl⟩
 rw [show w.heap.size+2=w.heap.size+1+1 from rfl]at HS4;rw [<-hv,<-hg,<-hres,<-hqb,<-hpb]at HS4;rw [<-hv,<-hg,<-hres,<-hqb,<-hpb];rw [<-hg]at hc4;generalize hw4:w3.alloc (.cells #[.slice (some ⟨g,0,none⟩) n n] 22)=w4 at *;have hpw:w.heap.size<=g:=by omega
 clear hw4 hg hv hres hqb hpb hs1 hs3 HH HO;have v0:w4.cell? ⟨v,0,none⟩=some (.slice (some ⟨g,0,none⟩) n n):=(HS4.own_ 0 rfl).cell 0;have p2:w4.cell? ⟨pb,2,none⟩=some (.slice A n c):=(HS4.own_ 4 rfl).cell 2;have x1:0+n<=(u8s (List.replicate n 0)).length:=by simp [u8s]
 have HF:=Lib.hid (And.intro HS4 (And.intro hc4 x1));clear HS4 hc4 x1;go_upto_region 7 with(refine wpList_copy_blk rfl (.tmp 24) (.tmp 26) _ _ rfl 5 Tryz.underlying22 (by kernel_rfl) (some ⟨g,0,none⟩) n n A n c (u8s pix) rfl rfl HF.out.2.1.2.2.1 g 0 _ 5 (HF.out.1.own_ 1 rfl) n (Nat.min_self _).symm (fun _=>rfl) HF.out.2.2 (u8s_one _) ?_;intro w5 hb5 hm5;have HB5:=Lib.hid (And.intro hb5 hm5);clear hb5 hm5)
 have hg5:Blk w5 g 5 (u8s pix).toArray:=by
  have h:=HB5.out.1;have e:splice (u8s (List.replicate n 0)) 0 ((u8s pix).take n)=u8s pix:=by
   rw [List.take_of_length_le (by rw [u8s_length];have:=HI.out.2.2.2;omega)];unfold splice;rw [List.drop_eq_nil_of_le (by simp [u8s];have:=HI.out.2.2.2;omega)];simp
  rwa [e]at h
 have HS5:=Sat.turn HB5.out.2 HF.out.1 hg5 (.there .here);clear HF HB5 hg5 v0 p2;obtain⟨qc,qf⟩:=(HS5.own_ 3 rfl).both;obtain⟨pc,pf⟩:=(HS5.own_ 4 rfl).both;have H5:=Lib.hid HS5;clear HS5;go_wp2_with fail;go_loopw [31] (DRows w (dpL v g res qb pb n W H q A c) n q W H (smRows q W H 0 pix)) (fun s _=>H-(intOf s).toNat)
 case atStart=>exact⟨0,pix,by omega,rfl,HI.out.2.2.2,rfl,H5.out⟩
 case round=>
  clear H5 qc qf pc pf;obtain⟨y,L,hy,rfl,hL,hR,HS⟩:=hrel;have HY:=Lib.hid (And.intro hL (And.intro hR HS));clear hL hR HS;by_cases hlt:y<H
  ·have d1:decide ((y:Int)<(H:Int))=true:=decide_eq_true (by omega);go_wp2_with fail;go_loopw [9] (DRow w (dpL v g res qb pb n W H q A c) n q W y (smRow q W y W 8 L)) (fun s _=>W+8-(intOf s).toNat)
   case atStart=>exact⟨8,W,L,by omega,by omega,by omega,rfl,HY.out.1,rfl,HY.out.2.2⟩
   case round=>
    rename World=>w6
    obtain⟨x,f,L1,hx1,hx2,hf,rfl,hL1,hR1,HS1⟩:=hrel;obtain⟨pc,pf⟩:=(HS1.own_ 4 rfl).both;have HX:=Lib.hid (And.intro hL1 (And.intro hR1 HS1));clear hL1 hR1 HS1;by_cases hlx:x+1<W
    ·have d2:decide ((x:Int)+1<(W:Int))=true:=decide_eq_true (by omega);obtain⟨m0,hm0⟩:∃m0,m0=y*W:=⟨_,rfl⟩
     obtain⟨b1,b2⟩:=at_in (x:=x) HI.out.2.2.1 hlt (by omega);rw [<-hm0]at b1 b2;have hmw:wrap64 ((y:Int)*(W:Int))=(m0:Int):=by
      rw [show(y:Int)*(W:Int)=(m0:Int)by rw [hm0];simp];exact IntWalk.wrap64_in _ ⟨by omega,by omega⟩
     have HM:=Lib.hid (And.intro hm0 hmw);clear hm0 hmw;go_wp2_with fail;rw [HM.out.2,IntWalk.wrap64_in ((m0:Int)+(x:Int)) ⟨by omega,by omega⟩,show(m0:Int)+(x:Int)=((m0+x:Nat):Int)by omega];refine(dSmooth _ v qb g n q (m0+x) 1 L1 HX.out.1 hq (by omega) (by omega) (by omega) ha (HX.out.2.2.own_ 0 rfl) (HX.out.2.2.own_ 3 rfl) (HX.out.2.2.own_ 1 rfl)).mono ?_;rintro e w7 ⟨rfl,hb7,hm7⟩;have HS7:=Sat.turn hm7 HX.out.2.2 hb7 (.there .here);clear hb7 hm7 pc pf;have H7:=Lib.hid HS7;clear HS7;go_wp2_with fail;go_roundw
     case rel=>
      obtain⟨f',rfl⟩:∃f',f=f'+1:=⟨f-1,by omega⟩
      refine⟨x+8,f',smo q L1 (m0+x) 1,by omega,by omega,by omega,by go_num,by rw [smo_length];exact HX.out.1,?_,H7.out⟩;have:=HX.out.2.1;rw [smRow_step hlx,<-HM.out.1]at this;exact this
     case measure=>simp [intOf];omega
    ·have d2:decide ((x:Int)+1<(W:Int))=false:=decide_eq_false (by omega);go_wp2_with fail;go_roundw
     case rel=>
      have h1:=HX.out.2.1;rw [smRow_done hlx]at h1;refine⟨y+1,L1,by omega,by go_num,HX.out.1,?_,HX.out.2.2⟩;rw [h1,<-smRows_step hlt];exact HY.out.2.1
     case measure=>simp [intOf];omega
  ·obtain rfl:y=H:=by omega
   have hd:=HY.out.2.1;rw [Nat.sub_self]at hd;have hd:L=smRows q W y 0 pix:=hd;subst hd;have H5:=Lib.hid HY.out.2.2;clear HY;obtain⟨pc,pf⟩:=(H5.out.own_ 4 rfl).both;go_wp2_with fail;clear pc pf;go_loopw [52] (DCols w (dpL v g res qb pb n W y q A c) n q W y (smPlane q W y pix)) (fun s _=>W-(intOf s).toNat)
   case atStart=>exact⟨0,_,by omega,rfl,by rw [smRows_length];exact HI.out.2.2.2,rfl,H5.out⟩
   case round=>
    clear H5;rename World=>w8
    obtain⟨x,L,hx,rfl,hL,hR,HS⟩:=hrel;have HY:=Lib.hid (And.intro hL (And.intro hR HS));clear hL hR HS;by_cases hlt:x<W
    ·have d1:decide ((x:Int)<(W:Int))=true:=decide_eq_true (by omega);go_wp2_with fail;go_loopw [11] (DCol w (dpL v g res qb pb n W y q A c) n q W y x (smCol q W y x y 8 L)) (fun s _=>y+8-(intOf s).toNat)
     case atStart=>exact⟨8,y,L,by omega,by omega,by omega,rfl,HY.out.1,rfl,HY.out.2.2⟩
     case round=>
      rename World=>w6
      obtain⟨z,f,L1,hz1,hz2,hf,rfl,hL1,hR1,HS1⟩:=hrel;obtain⟨pc,pf⟩:=(HS1.own_ 4 rfl).both;have HX:=Lib.hid (And.intro hL1 (And.intro hR1 HS1));clear hL1 hR1 HS1;by_cases hlz:z+1<y
      ·have d2:decide ((z:Int)+1<(y:Int))=true:=decide_eq_true (by omega);obtain⟨m0,hm0⟩:∃m0,m0=z*W:=⟨_,rfl⟩
       obtain⟨b1,b2⟩:=at_in (x:=x) HI.out.2.2.1 hlz hlt;rw [Nat.add_mul,Nat.one_mul,<-hm0]at b1 b2;have b3:8*W<=m0:=by rw [hm0];exact Nat.mul_le_mul_right W hz1
       have hmw:wrap64 ((z:Int)*(W:Int))=(m0:Int):=by
        rw [show(z:Int)*(W:Int)=(m0:Int)by rw [hm0];simp];exact IntWalk.wrap64_in _ ⟨by omega,by omega⟩
       have HM:=Lib.hid (And.intro hm0 hmw);clear hm0 hmw;go_wp2_with fail;rw [HM.out.2,IntWalk.wrap64_in ((m0:Int)+(x:Int)) ⟨by omega,by omega⟩,show(m0:Int)+(x:Int)=((m0+x:Nat):Int)by omega];refine(dSmooth _ v qb g n q (m0+x) W L1 HX.out.1 hq (by omega) (by omega) (by omega) ha (HX.out.2.2.own_ 0 rfl) (HX.out.2.2.own_ 3 rfl) (HX.out.2.2.own_ 1 rfl)).mono ?_;rintro e w7 ⟨rfl,hb7,hm7⟩;have HS7:=Sat.turn hm7 HX.out.2.2 hb7 (.there .here);clear hb7 hm7 pc pf;have H7:=Lib.hid HS7;clear HS7;go_wp2_with fail;go_roundw
       case rel=>
        obtain⟨f',rfl⟩:∃f',f=f'+1:=⟨f-1,by omega⟩
        refine⟨z+8,f',smo q L1 (m0+x) W,by omega,by omega,by omega,by go_num,by rw [smo_length];exact HX.out.1,?_,H7.out⟩;have:=HX.out.2.1;rw [smCol_step hlz,<-HM.out.1]at this;exact this
       case measure=>simp [intOf];omega
      ·have d2:decide ((z:Int)+1<(y:Int))=false:=decide_eq_false (by omega);go_wp2_with fail;go_roundw
       case rel=>
        have h1:=HX.out.2.1;rw [smCol_done hlz]at h1;refine⟨x+1,L1,by omega,by go_num,HX.out.1,?_,HX.out.2.2⟩;rw [h1,<-smCols_step hlt];exact HY.out.2.1
       case measure=>simp [intOf];omega
    ·obtain rfl:x=W:=by omega
     have hd:=HY.out.2.1;rw [Nat.sub_self]at hd;have hd:L=smPlane q x y pix:=hd;subst hd;obtain⟨pc,pf⟩:=(HY.out.2.2.own_ 4 rfl).both;obtain⟨rc,rf⟩:=(HY.out.2.2.own_ 2 rfl).both;have v0:w8.cell? ⟨v,0,none⟩=some (.slice (some ⟨g,0,none⟩) n n):=(HY.out.2.2.own_ 0 rfl).cell 0;have n1:=HY.out.2.2.apart 0 2 rfl rfl (by omega);have n2:=HY.out.2.2.apart 2 4 rfl rfl (by omega);have n3:=HY.out.2.2.apart 1 2 rfl rfl (by omega);dsimp only at n1 n2 n3;have rl:=(HY.out.2.2.own_ 2 rfl).lt;go_wp2_with fail;have HE:=((HY.out.2.2.put (g:=res) (i:=0) (u:=.int .i64 (x:Int)) (.there (.there (.here rfl)))).put (g:=res) (i:=1) (u:=.int .i64 (y:Int)) (.there (.there (.here rfl)))).put (g:=res) (i:=2) (u:=.slice (some ⟨g,0,none⟩) n n) (.there (.there (.here rfl)));refine bodyPost_ret (v:=.tuple #[.agg #[.int .i64 (x:Int),.int .i64 (y:Int),.slice (some ⟨g,0,none⟩) n n],.int .i64 0]) (by simp [results,Tryz.results248,go_sem,rc]) rfl ⟨g,rfl,HE.own_ 1 rfl,hpw,HE.mod⟩
end Go.Proofs.YtnnpoodcdibpiaaGreatDoor
