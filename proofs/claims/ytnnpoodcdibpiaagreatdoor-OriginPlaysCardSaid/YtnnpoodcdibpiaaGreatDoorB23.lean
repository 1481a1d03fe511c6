/-
  encoder: a frame is coded.
-/
import Derived.Test.YtnnpoodcdibpiaaGreatDoorB19
import Derived.Test.YtnnpoodcdibpiaaGreatDoorB22
import Derived.Laws.RangeAny
import Derived.LoopTactic
namespace Go.Proofs.YtnnpoodcdibpiaaGreatDoor
open Go.RowKit
set_option maxRecDepth 100000
set_option maxHeartbeats 8000000
def erow(d:Dim)(fr ahd:Pix)(K:Bool)(Q:Int)(sy:Nat):Nat->Pix × Es->Pix × Es
 | 0,a=>a
 | n+1,a=>esquareS d fr ahd K Q n sy (erow d fr ahd K Q sy n a).1 (erow d fr ahd K Q sy n a).2
def erows(d:Dim)(fr ahd:Pix)(K:Bool)(Q:Int):Nat->Pix × Es->Pix × Es
 | 0,a=>a
 | n+1,a=>erow d fr ahd K Q n (d.W/16) (erows d fr ahd K Q n a)
def es0:Es:=⟨fillB 16,[0,0,0,0],4294967295⟩
def ecode(d:Dim)(fr ahd:Pix)(K:Bool)(Q:Int):Pix × Es:=erows d fr ahd K Q (d.H/16) (blankPix d 0,es0)
def eframe(d:Dim)(fr ahd:Pix)(nu q:Nat):List UInt8 × Pix:=
 (hdrB (nu == 0) nu q++(ecode d fr ahd (nu == 0) (q:Int)).2.code,smPix q d (ecode d fr ahd (nu == 0) (q:Int)).1)
theorem erow_len{d:Dim}{fr ahd:Pix}{K:Bool}{Q:Int}(hq:0<=Q/\Q<=31)(sy n:Nat)(a:Pix × Es):a.2.code.length<=(erow d fr ahd K Q sy n a).2.code.length/\(erow d fr ahd K Q sy n a).2.code.length<=a.2.code.length+n*16500:=by
 induction n with
 | zero=>exact⟨Nat.le_refl _,by simp [erow]⟩
 | succ n ih=>
  have:=esquareS_len (d:=d) (fr:=fr) (ahd:=ahd) (K:=K) hq n sy (erow d fr ahd K Q sy n a).1 (erow d fr ahd K Q sy n a).2;unfold erow;rw [Nat.add_mul];omega
theorem erows_len{d:Dim}{fr ahd:Pix}{K:Bool}{Q:Int}(hq:0<=Q/\Q<=31)(n:Nat)(a:Pix × Es):a.2.code.length<=(erows d fr ahd K Q n a).2.code.length/\(erows d fr ahd K Q n a).2.code.length<=a.2.code.length+n*(d.W/16*16500):=by
 induction n with
 | zero=>exact⟨Nat.le_refl _,by simp [erows]⟩
 | succ n ih=>
  have:=erow_len (d:=d) (fr:=fr) (ahd:=ahd) (K:=K) hq n (d.W/16) (erows d fr ahd K Q n a);unfold erows;rw [Nat.add_mul];omega
def flV(d:Dim)(A0 A1 A2:Option Addr)(c0 c1 c2:Nat):List Value:=
 [.int .i64 (d.W:Int),.int .i64 (d.H:Int),.slice A0 d.nY c0,.int .i64 (d.W2:Int),.int .i64 (d.H2:Int),.slice A1 d.nC c1,.int .i64 (d.W2:Int),.int .i64 (d.H2:Int),.slice A2 d.nC c2]
theorem pBlankE(w:World)(d:Dim)(hd:d.Ok):Calls Tryz.prog 35 #[.int .i64 (d.W:Int),.int .i64 (d.H:Int),.int .u8 0] w (BlankPost w d 0):=pBlank w d hd 0
theorem fr_lay9{w:World}{p:Nat}{x0 x1 x2 x3 x4 x5 x6 x7 x8:Value}(h:Blk w p 110 #[x0,x1,x2,x3,x4,x5,x6,x7,x8])(a b c d e f g i j:Value):
  Blk (((((((((w.setCell ⟨p,0,none⟩ a).setCell ⟨p,1,none⟩ b).setCell ⟨p,2,none⟩ c).setCell ⟨p,3,none⟩ d).setCell ⟨p,4,none⟩ e).setCell ⟨p,5,none⟩ f).setCell ⟨p,6,none⟩ g).setCell ⟨p,7,none⟩ i).setCell ⟨p,8,none⟩ j) p 110 #[a,b,c,d,e,f,g,i,j] /\
  Mod (·=p) w (((((((((w.setCell ⟨p,0,none⟩ a).setCell ⟨p,1,none⟩ b).setCell ⟨p,2,none⟩ c).setCell ⟨p,3,none⟩ d).setCell ⟨p,4,none⟩ e).setCell ⟨p,5,none⟩ f).setCell ⟨p,6,none⟩ g).setCell ⟨p,7,none⟩ i).setCell ⟨p,8,none⟩ j):=by
 refine⟨?_,(((((((((Mod.refl (·=p) w).setCell (.inl rfl) a).setCell (.inl rfl) b).setCell (.inl rfl) c).setCell (.inl rfl) d).setCell (.inl rfl) e).setCell (.inl rfl) f).setCell (.inl rfl) g).setCell (.inl rfl) i).setCell (.inl rfl) j⟩;have z:=((((((((h.set_ 0 a).set_ 1 b).set_ 2 c).set_ 3 d).set_ 4 e).set_ 5 f).set_ 6 g).set_ 7 i).set_ 8 j;rwa [show(((((((((#[x0,x1,x2,x3,x4,x5,x6,x7,x8].setIfInBounds 0 a).setIfInBounds 1 b).setIfInBounds 2 c).setIfInBounds 3 d).setIfInBounds 4 e).setIfInBounds 5 f).setIfInBounds 6 g).setIfInBounds 7 i).setIfInBounds 8 j)=#[a,b,c,d,e,f,g,i,j]by simp]at z
structure Tri(w:World)(g fb bb:Nat)(E F B:Array Value):Prop where
 x:Blk w g 283 E
 f:Blk w fb 110 F
 b:Blk w bb 110 B
section
variable {w w' : World} {g fb bb : Nat} {E F B : Array Value}
theorem Tri.quiet(h:Tri w g fb bb E F B)(hm:Mod (fun _=>False) w w'):Tri w' g fb bb E F B:=⟨h.x.keep hm (fun h=>h),h.f.keep hm (fun h=>h),h.b.keep hm (fun h=>h)⟩
theorem Tri.drew(h:Tri w g fb bb E F B):Tri w.drew g fb bb E F B:=h.quiet ((Mod.refl _ w).drew)
theorem Tri.alloc(h:Tri w g fb bb E F B)(o:Obj):Tri (w.alloc o) g fb bb E F B:=h.quiet ((Mod.refl _ w).alloc o)
theorem Tri.far{q:Nat}(h:Tri w g fb bb E F B)(i:Nat)(v:Value)(h1:g≠q)(h2:fb≠q)(h3:bb≠q):Tri (w.setCell ⟨q,i,none⟩ v) g fb bb E F B:=⟨h.x.far h1 _,h.f.far h2 _,h.b.far h3 _⟩
end
def EFrC1(w3:World)(bb:Nat)(K:Bool)(Q:Int)(d:Dim)(fl al:List Value)(gy gu gv:Nat)(v11:Value)(wr:World):Prop:=
 ∃cb bk g2 v,v11=.pointer (some ⟨cb,0,none⟩)/\CW w3 wr cb bk g2 v K Q d fl al gy gu gv (blankPix d 0) es0/\Blk wr bb 110 (frameV d gy gu gv).toArray
def EFrPost(w:World)(g:Nat)(G q tg nu:Nat)(d:Dim)(r:List UInt8 × Pix)(e:Ending)(w':World):Prop:=
 ∃v p ay au av,e=.returned (.tuple #[v,p,.int .i64 0])/\Bytes w' w.heap.size v r.1/\FrameMade w d r.2 p w' /\
  Blk w' g 283 (encV (d.W:Int) (d.H:Int) (G:Int) ((newQ q tg G r.1.length:Nat):Int) (tg:Int) ((newN nu G:Nat):Int) (frameV d ay au av)) /\
  FrameAt w' d ay au av r.2/\(w.heap.size<=ay/\w.heap.size<=au/\w.heap.size<=av)/\(∀j,v.ownBlock=some j->j≠ay/\j≠au/\j≠av)/\Mod (·=g) w w'
theorem fill_ok:∀i,i<592->chanceOk ((fillB 16).getD i 0)=true:=by
 intro i hi;have:fillB 16=List.replicate 592 1024:=by
  show List.replicate 592 1024++List.replicate 0 0=_;rw [List.replicate_zero,List.append_nil]
 rw [this,List.getD_eq_getElem?_getD,List.getElem?_replicate,if_pos hi];rfl
theorem efr_c1{w3 w5 w7 w9:World}{cb bk g2 gy gu gv bb:Nat}{v:Value}{K:Bool}{Q:Int}{d:Dim}{fl al:List Value}(h35:Mod (fun _=>False) w3 w5)(h57:Mod (fun _=>False) w5 w7)(h79:Mod (·=cb) w7 w9)
  {Z:Array Value}(hz:Blk w7 cb 291 Z)(h9:Blk w9 cb 291 (codV K Q fl al (frameV d gy gu gv) bk g2))(lcb:w5.heap.size<=cb)(hbk:Blk w7 bk 361 (u16s (fillB 16)).toArray)(lbk:w5.heap.size<=bk)
  (hea:EAt w7 g2 v [0,0,0,0] 4294967295)(lg2:w5.heap.size<=g2)(lv2:∀j,v.ownBlock=some j->w5.heap.size<=j)(hfa:FrameAt w5 d gy gu gv (blankPix d 0))(l1:w3.heap.size<=gy)(l2:w3.heap.size<=gu)(l3:w3.heap.size<=gv)
  (hbb:Blk w5 bb 110 (frameV d gy gu gv).toArray):EFrC1 w3 bb K Q d fl al gy gu gv (.pointer (some ⟨cb,0,none⟩)) w9:=by
 have s35:=h35.size;have a1:=hfa.by_.lt;have a2:=hfa.bu.lt;have a3:=hfa.bv.lt;have a4:=hbb.lt;have n1:¬bk=cb:=hbk.ne_ hz (by decide);have n2:¬g2=cb:=hea.blk.ne_ hz (by decide);refine⟨cb,bk,g2,v,rfl,⟨(h35.trans h57).into h79 (fun i e=>.inr (by omega)),⟨hbk.keep h79 n1,fillB_length 16 (Nat.le_refl _),fill_ok,⟨hea.blk.keep h79 n2,hea.own.mod h79 (fun j e e2=>own_ne_blk hea.own hz (by decide) (e2▸e)),hea.four,hea.lo,hea.hi⟩⟩,h9,(hfa.quiet h57).mod h79 (by omega) (by omega) (by omega),by omega,by omega,by omega,l1,l2,l3,fun j hj=>by have:=lv2 j hj;omega⟩,(hbb.keep h57 (fun h=>h)).keep h79 (by omega)⟩
theorem flV_len(d:Dim)(A0 A1 A2:Option Addr)(c0 c1 c2:Nat):(flV d A0 A1 A2 c0 c1 c2).length=9:=rfl
def EFrRows(w3:World)(bb cb bk g2:Nat)(K:Bool)(Q:Int)(d:Dim)(fl al:List Value)(gy gu gv:Nat)(fr ahd:Pix)(nh:Nat)(v101:Value)(wr:World):Prop:=
 ∃(i:Nat) (v:Value),i<=nh/\v101=.int .i64 (i:Int)/\CW w3 wr cb bk g2 v K Q d fl al gy gu gv (erows d fr ahd K Q i (blankPix d 0,es0)).1 (erows d fr ahd K Q i (blankPix d 0,es0)).2/\Blk wr bb 110 (frameV d gy gu gv).toArray
def EFrRow(w3:World)(bb cb bk g2:Nat)(K:Bool)(Q:Int)(d:Dim)(fl al:List Value)(gy gu gv:Nat)(fr ahd:Pix)(nw sy:Nat)(v107:Value)(wr:World):Prop:=
 ∃(j:Nat) (v:Value),j<=nw/\v107=.int .i64 (j:Int)/\CW w3 wr cb bk g2 v K Q d fl al gy gu gv (erow d fr ahd K Q sy j (erows d fr ahd K Q sy (blankPix d 0,es0))).1 (erow d fr ahd K Q sy j (erows d fr ahd K Q sy (blankPix d 0,es0))).2/\Blk wr bb 110 (frameV d gy gu gv).toArray
theorem efr_sq{w3 wj:World}{cb bk g2:Nat}{v:Value}{K:Bool}{Q:Int}{d:Dim}{fl al:List Value}{gy gu gv:Nat}{fr ahd:Pix}{sx sy:Nat}(ho:Old w3 d K Q fl fr al ahd)
  (h:CW w3 wj cb bk g2 v K Q d fl al gy gu gv (erow d fr ahd K Q sy sx (erows d fr ahd K Q sy (blankPix d 0,es0))).1 (erow d fr ahd K Q sy sx (erows d fr ahd K Q sy (blankPix d 0,es0))).2)
  (hsx:sx<d.W/16)(hsy:sy<d.H/16)(hW:d.W<=64)(hH:d.H<=64):
  Calls Tryz.prog 183 #[.pointer (some ⟨cb,0,none⟩),.int .i64 (sx:Int),.int .i64 (sy:Int)] wj (EbkPost w3 wj cb bk g2 K Q d fl al gy gu gv (erow d fr ahd K Q sy (sx+1) (erows d fr ahd K Q sy (blankPix d 0,es0)))):=by
 have h1:=erows_len (d:=d) (fr:=fr) (ahd:=ahd) (K:=K) ho.q sy (blankPix d 0,es0);have h2:=erow_len (d:=d) (fr:=fr) (ahd:=ahd) (K:=K) ho.q sy sx (erows d fr ahd K Q sy (blankPix d 0,es0));have h3:sy*(d.W/16*16500)<=3*(4*16500):=Nat.mul_le_mul (by omega) (Nat.mul_le_mul (by omega) (Nat.le_refl _));have h4:es0.code.length=4:=rfl;exact eSquare w3 wj cb bk g2 v K Q d fl fr al ahd gy gu gv _ _ ho h sx sy (by omega) (by omega) (by dsimp only at h1;omega)
theorem ecode_len{d:Dim}{fr ahd:Pix}{K:Bool}{Q:Int}(hq:0<=Q/\Q<=31)(hW:d.W<=64)(hH:d.H<=64):4<=(ecode d fr ahd K Q).2.code.length/\(ecode d fr ahd K Q).2.code.length<=300000:=by
 have h1:=erows_len (d:=d) (fr:=fr) (ahd:=ahd) (K:=K) hq (d.H/16) (blankPix d 0,es0);have h3:d.H/16*(d.W/16*16500)<=4*(4*16500):=Nat.mul_le_mul (by omega) (Nat.mul_le_mul (by omega) (Nat.le_refl _));have h4:es0.code.length=4:=rfl;unfold ecode;dsimp only at h1;omega
theorem Tri.keep1{w w':World}{g fb bb q:Nat}{E F B:Array Value}(h:Tri w g fb bb E F B)(hm:Mod (·=q) w w')(h1:g≠q)(h2:fb≠q)(h3:bb≠q):Tri w' g fb bb E F B:=⟨h.x.keep hm h1,h.f.keep hm h2,h.b.keep hm h3⟩
def EFrC2(wi:World)(d:Dim)(f:Pix)(v14 v9:Value)(wx:World):Prop:=
 ∃zb ay au av,v14=.pointer (some ⟨zb,0,none⟩)/\v9=.int .i64 0/\Blk wx zb 110 (frameV d ay au av).toArray/\FrameAt wx d ay au av f/\wi.heap.size<=zb/\wi.heap.size<=ay/\wi.heap.size<=au/\wi.heap.size<=av/\(ay≠zb/\au≠zb/\av≠zb)/\Mod (fun _=>False) wi wx
theorem hdrB_len:∀nu<64,∀q<32,1<=(hdrB (nu == 0) nu q).length/\(hdrB (nu == 0) nu q).length<=3:=by decide +kernel
theorem bytes_whole{w:World}{B g n:Nat}{l:List UInt8}(h:Blk w g 5 (u8s l).toArray)(hn:n=l.length)(hB:B<=g)(hl:n<=1048576):Bytes w B (.slice (some ⟨g,0,none⟩) n n) l:=by
 subst hn;exact⟨by simp [u8s],.inr ⟨g,l.length,_,rfl,hB,h,Nat.le_refl _,by unfold maxLen;omega,by simp [u8s],by rw [Nat.mul_one];exact List.take_of_length_le (by simp [u8s])⟩⟩
theorem frameV_one(d:Dim)(ay au av:Nat):∀v∈frameV d ay au av,v.oneCell'=true:=by
 intro v hv;simp only [frameV,List.mem_cons,List.not_mem_nil,or_false]at hv;rcases hv with rfl|rfl|rfl|rfl|rfl|rfl|rfl|rfl|rfl<;>rfl
theorem Ids.gb{P:Nat->Prop}{K:Bool}{bk g rb fr dg gy gu gv ay au av:Nat}(h:Ids P K bk g rb fr dg gy gu gv ay au av):g≠bk/\rb≠g/\rb≠bk:=by
 have nd:=h.nd;simp only [List.nodup_cons,List.mem_cons,List.not_mem_nil,or_false,not_or,List.nodup_nil,and_true,not_false_eq_true]at nd;obtain⟨⟨n1,n2,_⟩,⟨n7,_⟩,_⟩:=nd;exact⟨n1,Ne.symm n2,Ne.symm n7⟩
def noPix:Pix:=⟨[],[],[]⟩
def mkDim(W H:Int):Dim:=⟨W.toNat,H.toNat,W.toNat/2,H.toNat/2,W.toNat*H.toNat,W.toNat/2*(H.toNat/2)⟩
def meanN(W:Nat)(pix:List UInt8)(at_:Nat):Nat:=((pix.getD at_ 0).toNat+(pix.getD (at_+1) 0).toNat+(pix.getD (at_+W) 0).toNat+(pix.getD (at_+W+1) 0).toNat+2)/4
def hfF(W:Nat)(pix:List UInt8)(W2 k:Nat):UInt8:=UInt8.ofNat (meanN W pix (2*(k/W2)*W+2*(k % W2)))
def hfL(W H:Nat)(pix:List UInt8):List UInt8:=(List.range (W/2*(H/2))).map (hfF W pix (W/2))
theorem hfL_length(W H:Nat)(pix:List UInt8):(hfL W H pix).length=W/2*(H/2):=by simp [hfL]
theorem meanN_le(W:Nat)(pix:List UInt8)(a:Nat):meanN W pix a<=255:=by
 unfold meanN;have h:=fun i=>UInt8.toNat_lt (pix.getD i 0);have:=h a;have:=h (a+1);have:=h (a+W);have:=h (a+W+1);omega
theorem hfF_at(W:Nat)(pix:List UInt8)(W2 j i:Nat)(hi:i<W2):(hfF W pix W2 (j*W2+i)).toNat=meanN W pix (2*j*W+2*i):=by
 unfold hfF;have h1:(j*W2+i) % W2=i:=by rw [Nat.mul_comm,Nat.mul_add_mod,Nat.mod_eq_of_lt hi]
 have h2:(j*W2+i)/W2=j:=by rw [Nat.mul_comm,Nat.mul_add_div (by omega),Nat.div_eq_of_lt hi,Nat.add_zero]
 have:=meanN_le W pix (2*j*W+2*i);rw [h1,h2,UInt8.toNat_ofNat_of_lt' (Nat.lt_of_le_of_lt this (by decide))]
def Dim.down(d:Dim):Dim:=⟨d.W2,d.H2,d.W2/2,d.H2/2,d.nC,d.W2/2*(d.H2/2)⟩
def downPix(d:Dim)(f:Pix):Pix:=⟨hfL d.W d.H f.Y,hfL d.W2 d.H2 f.U,hfL d.W2 d.H2 f.V⟩
theorem Dim.Ok.down{d:Dim}(h:d.Ok)(hw:d.W % 32=0)(hh:d.H % 32=0):d.down.Ok:=by
 have a:=h.w2;have b:=h.h2;have c:=h.half;exact⟨c,by show d.W2 % 16=0;omega,by show d.H2 % 16=0;omega,by show d.W2=2*(d.W2/2);omega,by show d.H2=2*(d.H2/2);omega,h.nc,rfl⟩
def Dim.downs(d:Dim):Nat->Dim
 | 0=>d
 | n+1=>(d.downs n).down
def downsPix(d:Dim)(f:Pix):Nat->Pix
 | 0=>f
 | n+1=>downPix (d.downs n) (downsPix d f n)
theorem Dim.downs_sides(d:Dim)(n:Nat)(h:d.W2=d.W/2/\d.H2=d.H/2):(d.downs n).W=d.W/2 ^ n/\(d.downs n).H=d.H/2 ^ n/\(d.downs n).W2=(d.downs n).W/2/\(d.downs n).H2=(d.downs n).H/2:=by
 induction n with
 | zero=>simp [Dim.downs,h]
 | succ n ih=>
  obtain⟨h1,h2,h3,h4⟩:=ih;unfold Dim.downs Dim.down;dsimp only;rw [h3,h4,h1,h2,Nat.div_div_eq_div_mul,Nat.div_div_eq_div_mul,<-Nat.pow_succ];exact⟨rfl,rfl,rfl,rfl⟩
def encSt(d:Dim)(G tg q:Nat)(fs:List Pix):Nat->Nat × Pix
 | 0=>(q,noPix)
 | k+1=>(newQ (encSt d G tg q fs k).1 tg G (eframe d (fs.getD k noPix) (encSt d G tg q fs k).2 (k % G) (encSt d G tg q fs k).1).1.length,(eframe d (fs.getD k noPix) (encSt d G tg q fs k).2 (k % G) (encSt d G tg q fs k).1).2)
def outSt(d:Dim)(G tg q:Nat)(fs:List Pix)(k:Nat):List UInt8 × Pix:=eframe d (fs.getD k noPix) (encSt d G tg q fs k).2 (k % G) (encSt d G tg q fs k).1
theorem encSt_succ(d:Dim)(G tg q:Nat)(fs:List Pix)(k:Nat):encSt d G tg q fs (k+1)=(newQ (encSt d G tg q fs k).1 tg G (outSt d G tg q fs k).1.length,(outSt d G tg q fs k).2):=rfl
def segLen(G n i:Nat):Nat:=min G (n-i*G)
def segOf(d:Dim)(G tg q:Nat)(fs:List Pix)(i:Nat):List (List UInt8 × Pix):=(List.range (segLen G fs.length i)).map fun j=>outSt d G tg q fs (i*G+j)
def segN(G n:Nat):Nat:=(n+G-1)/G
def segsOf(d:Dim)(G tg q:Nat)(fs:List Pix):List (List (List UInt8 × Pix)):=(List.range (segN G fs.length)).map (segOf d G tg q fs)
theorem newQ_le{q tg G n:Nat}(h:q<=31):newQ q tg G n<=31:=by
 unfold newQ;split<;>(try split)<;>(try split)<;>omega
theorem encSt_q{d:Dim}{G tg q:Nat}{fs:List Pix}(h:q<=31)(k:Nat):(encSt d G tg q fs k).1<=31:=by
 induction k with
 | zero=>exact h
 | succ k ih=>rw [encSt_succ];exact newQ_le ih
theorem halved_down(d0:Dim)(h:d0.W2=d0.W/2/\d0.H2=d0.H/2)(n:Nat):halved (d0.W:Int) (n:Int)=((d0.downs n).W:Int)/\halved (d0.H:Int) (n:Int)=((d0.downs n).H:Int):=by
 obtain⟨h1,h2,_,_⟩:=Dim.downs_sides d0 n h;unfold halved;rw [h1,h2,show(n:Int).toNat=n from rfl];exact⟨by rw [Int.natCast_ediv],by rw [Int.natCast_ediv]⟩
theorem strOf_size(l:List UInt8):(strOf l).size=l.length:=by unfold strOf;show l.toArray.size=_;simp
theorem strOf_toList(l:List UInt8):(strOf l).toList=l:=ByteArray.toList_mk l
theorem strOf_data(l:List UInt8):(strOf l).data.toList=l:=by unfold strOf;simp
theorem strOf_of(s:ByteArray):strOf s.data.toList=s:=by cases s;rfl
theorem run_index_strOf{P:Program}{t:TypeId}(l:List UInt8)(q:IntKind)(k:Nat)(c:UInt8)(h:P.underlying t=some .string)(hk:l[k]?=some c)(w:World):
  (Instr.index t (.string (strOf l)) (.int q (k:Int))).run P w=.ok (.int .u8 (c.toNat:Int)) w:=by
 obtain⟨hlt,he⟩:=List.getElem?_eq_some_iff.1 hk;rw [run_index_string w t (strOf l) q k h,dif_pos ⟨by omega,by rw [strOf_size];omega⟩];congr 3;show((strOf l)[k]'(by rw [strOf_size];exact hlt)).toNat=c.toNat
 rw [<-he];rfl
theorem getE{l:List UInt8}{k:Nat}(h:k<l.length):l[k]?=some l[k]:=List.getElem?_eq_getElem h
theorem all_snoc{p:UInt8->Bool}{l:List UInt8}{k:Nat}{c:UInt8}(h:(l.take k).all p=true)(hk:l[k]?=some c)(hc:p c=true):(l.take (k+1)).all p=true:=by
 rw [List.take_add_one,hk,List.all_append,h];simp [hc]
theorem all_not{p:UInt8->Bool}{l:List UInt8}{k:Nat}{c:UInt8}(hk:l[k]?=some c)(hc:p c=false):l.all p=false:=by
 rw [List.all_eq_false];exact⟨c,List.mem_of_getElem? hk,by simp [hc]⟩
theorem all_end{p:UInt8->Bool}{l:List UInt8}(h:(l.take l.length).all p=true):l.all p=true:=by rwa [List.take_length]at h
theorem letterI(c:UInt8):letterB c = !((decide ((c.toNat:Int)<97) || decide ((122:Int)<(c.toNat:Int)))&&(decide ((c.toNat:Int)<48) || decide ((57:Int)<(c.toNat:Int)))):=by
 unfold letterB;rw [Bool.eq_iff_iff];simp only [Bool.or_eq_true,decide_eq_true_eq,Bool.not_eq_true',Bool.and_eq_false_iff,Bool.or_eq_false_iff,decide_eq_false_iff_not];omega
theorem nameI_no{l:List UInt8}(h:l.all letterB=false):nameB l=false:=by unfold nameB;rw [h,Bool.and_false]
theorem nameI_yes{l:List UInt8}(h:l.all letterB=true):nameB l=decide (1<=l.length/\l.length<=8):=by unfold nameB;rw [h,Bool.and_true]
theorem nameI_len{l:List UInt8}(h:¬(1<=l.length/\l.length<=8)):nameB l=false:=by unfold nameB;rw [decide_eq_false h,Bool.false_and]
def nmRel15(l:List UInt8)(v:Value):Prop:=∃k:Nat,k<=l.length/\v=.int .i64 (k:Int)/\(l.take k).all letterB=true
theorem strOf_at{l:List UInt8}{k:Nat}(h:k<(strOf l).size)(h2:k<l.length):(strOf l)[k]'h=l[k]'h2:=rfl
theorem lName(w:World)(l:List UInt8)(hl:l.length<=9223372036854775807):Calls Tryz.prog 176 #[.string (strOf l)] w fun e w'=>e=.returned (.bool (nameB l))/\Mod (fun _=>False) w w':=by
 have hsz:=strOf_size l;by_cases h1:l.length<1
 ·have d1:decide ((l.length:Int)<1)=true:=decide_eq_true (by omega);have HN:=Lib.hid (nameI_len (l:=l) (by omega));go_enter Tryz.func176,Tryz.ntmps176;go_wp2_with fail;go_ret;exact⟨by rw [HN.out];rfl,Mod.refl _ _⟩
 ·have d1:decide ((l.length:Int)<1)=false:=decide_eq_false (by omega);by_cases h2:8<l.length
  ·have d2:decide (8<(l.length:Int))=true:=decide_eq_true (by omega);have HN:=Lib.hid (nameI_len (l:=l) (by omega));go_enter Tryz.func176,Tryz.ntmps176;go_wp2_with fail;go_ret;exact⟨by rw [HN.out];rfl,Mod.refl _ _⟩
  ·have d2:decide (8<(l.length:Int))=false:=decide_eq_false (by omega);have hit:∀k,Mod (fun _=>False) w (w.iter (strOf l) k):=fun k=>(Mod.refl _ w).alloc _;have HIT:=Lib.hid hit;clear hit;go_enter Tryz.func176,Tryz.ntmps176;go_wp2_with fail;go_loopw [4] (fun _ w'=>∃k:Nat,k<=l.length/\w'=w.iter (strOf l) k/\(l.take k).all letterB=true) (fun _ w'=>l.length-w'.iterPos w.heap.size)
   case atStart=>exact⟨0,by omega,rfl,by simp⟩
   case round=>
    obtain⟨k,hk,rfl,hall⟩:=hrel;have HA:=Lib.hid hall;clear hall;by_cases hlt:k<l.length
    ·have hc:=getE hlt;have hks:k<(strOf l).size:=by omega
     generalize hcc:l[k]=c at hc;have hct:=c.toNat_lt;have hld:=letterI c;have HC:=Lib.hid (And.intro hc hld);have hce:((strOf l)[k]'hks)=c:=by rw [strOf_at hks hlt];exact hcc
     clear hc hld;by_cases ha:c.toNat<128
     ·have hnx:∀ty,(Instr.next (.pointer (some ⟨w.heap.size,0,none⟩)) true ty).run Tryz.prog (w.iter (strOf l) k)=.ok (.tuple #[.bool true,.int .i64 k,.int .i32 c.toNat]) (w.iter (strOf l) (k+1)):=fun ty=>by
       have h:=run_next_ascii (P:=Tryz.prog) w (strOf l) k ty hks (by rw [hce];exact ha);rw [hce]at h;exact h
      clear hcc hce
      cases e1:decide ((c.toNat:Int)<97)<;>cases e2:decide ((122:Int)<(c.toNat:Int))<;>cases e3:decide ((c.toNat:Int)<48)<;>cases e4:decide ((57:Int)<(c.toNat:Int))<;>(
       have HB:=HC.out.2;rw [e1,e2,e3,e4]at HB;simp only [Bool.or_true,Bool.or_false,Bool.and_true,Bool.and_false,Bool.not_true,Bool.not_false]at HB;have HD:=Lib.hid HB;clear HB;go_wp2_with fail
       first
       | (go_ret
          exact⟨by rw [nameI_no (all_not HC.out.1 HD.out)];rfl,HIT.out _⟩)
       | (go_roundw
          case rel=>exact⟨k+1,by omega,rfl,all_snoc HA.out HC.out.1 HD.out⟩
          case measure=>simp;omega))
     ·have hhi:=decode_high (strOf l) k hks (by rw [hce];omega);have hle:=decode_le (strOf l) k;have hnx:∀ty,(Instr.next (.pointer (some ⟨w.heap.size,0,none⟩)) true ty).run Tryz.prog (w.iter (strOf l) k)=_:=fun ty=>run_next_any w (strOf l) k ty hks;have hlb:letterB c=false:=by
       unfold letterB;rw [decide_eq_false (by omega),decide_eq_false (by omega)];rfl
      have HN:=Lib.hid (nameI_no (all_not HC.out.1 hlb));generalize (Utf8.decode (strOf l) k).1=r at *;generalize (Utf8.decode (strOf l) k).2=nn at *;obtain⟨hr,hnn⟩:=hhi;have e1:decide ((r:Int)<97)=false:=decide_eq_false (by omega);have e2:decide ((122:Int)<(r:Int))=true:=decide_eq_true (by omega);have e3:decide ((r:Int)<48)=false:=decide_eq_false (by omega);have e4:decide ((57:Int)<(r:Int))=true:=decide_eq_true (by omega);clear hlb hcc hce;go_wp2_with fail;go_ret;exact⟨by rw [HN.out];rfl,HIT.out _⟩
    ·obtain rfl:k=l.length:=by omega
     have hnx:∀ty,(Instr.next (.pointer (some ⟨w.heap.size,0,none⟩)) true ty).run Tryz.prog (w.iter (strOf l) l.length)=.ok (.tuple #[.bool false]) (w.iter (strOf l) l.length):=fun ty=>run_next_end w (strOf l) l.length ty (by omega);have HY:=Lib.hid ((nameI_yes (all_end HA.out)).trans (decide_eq_true ⟨by omega,by omega⟩));go_wp2_with fail;go_ret;exact⟨by rw [HY.out];rfl,HIT.out _⟩
end Go.Proofs.YtnnpoodcdibpiaaGreatDoor
