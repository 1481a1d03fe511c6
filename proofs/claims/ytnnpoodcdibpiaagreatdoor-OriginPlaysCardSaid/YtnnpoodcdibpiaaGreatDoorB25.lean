/-
  slices.Grow of nil bytes, slices.Concat of rows of bytes.
-/
import Derived.Test.YtnnpoodcdibpiaaGreatDoorB24
import Derived.Lib.AppendZerosOnto
import Derived.Lib.AppendZeros
namespace Go.Proofs.YtnnpoodcdibpiaaGreatDoor
open Go.RowKit
set_option maxRecDepth 100000
set_option maxHeartbeats 8000000
def SampsIn(w:World)(v:Value)(l:List (List UInt8)):Prop:=ListIn w (fun _=>True) 1 (SampR w (fun _=>True)) v l
theorem SampsIn.quiet{w w':World}{v:Value}{l:List (List UInt8)}(h:SampsIn w v l)(hm:Mod (fun _=>False) w w'):SampsIn w' v l:=
 ListIn.turn h hm (fun _ _ _ h=>h) (fun _ h _=>h) (fun _ _ _ k=>k.turn hm (fun _ _ _ h=>h) (fun _ h _=>h))
theorem SampsIn.atM{w:World}{v:Value}{l:List (List UInt8)}{i:Nat}{b:List UInt8}(h:SampsIn w v l)(hi:l[i]?=some b):
  ∃g o cp A dc,v=.slice (some ⟨g,o,none⟩) l.length cp/\(∀w',Mod (fun _=>False) w w'->w'.cell? ⟨g,o+i,none⟩=some (.slice A b.length dc))/\BytesIn w A b.length dc b/\b.length<=dc:=by
 obtain⟨g,o,cp,c,hv,_,hg,_,⟨u,rfl,hu⟩,_,hx⟩:=ListIn.at_ h hi (by decide);obtain⟨A,dc,rfl,hle,hin⟩:=hu.in_;refine⟨g,o,cp,A,dc,hv,fun w' hm=>?_,hin,hle⟩;have h0:=hx 0 _ rfl;rw [Nat.mul_one]at h0;exact(World.cell?_of_block (hm.block g hg (fun h=>h))).trans h0
def sumLen(l:List (List UInt8)):Nat:=(l.map List.length).sum
theorem sumLen_succ{l:List (List UInt8)}{k:Nat}{b:List UInt8}(h:l[k]?=some b):sumLen (l.take (k+1))=sumLen (l.take k)+b.length:=by
 unfold sumLen;rw [List.take_add_one,h];simp
theorem sumLen_le(l:List (List UInt8))(k:Nat):sumLen (l.take k)<=sumLen l:=by
 unfold sumLen
 conv=>rhs;rw [<-List.take_append_drop k l,List.map_append,List.sum_append]
 omega
theorem flat_succ{l:List (List UInt8)}{k:Nat}{b:List UInt8}(h:l[k]?=some b):(l.take (k+1)).flatten=(l.take k).flatten++b:=by
 rw [List.take_add_one,h];simp
theorem flat_len(l:List (List UInt8)):l.flatten.length=sumLen l:=by unfold sumLen;rw [List.length_flatten]
theorem bGrow(w:World)(n:Nat)(hn:n<=1048576):Calls Tryz.prog 163 #[.slice none 0 0,.int .i64 (n:Int)] w fun e w'=>∃u,e=.returned u/\Bytes w' w.heap.size u []/\Mod (fun _=>False) w w':=by
 have h1:decide ((n:Int)<0)=false:=decide_eq_false (by omega);by_cases h0:n=0
 ·subst h0;go_enter Tryz.func163,Tryz.ntmps163;go_wp2_with fail;go_ret;exact⟨_,rfl,World.ownsRow_nil _ _ _ _,Mod.refl _ _⟩
 ·have h2:decide ((0:Int)<(n:Int))=true:=decide_eq_true (by omega);obtain⟨i0,hi0,hz0,hz1,hz2⟩:=info_parts u8_info
  have hr:∀ty,(Builtin.append_ #[22,3] ty #[.slice none 0 0,.int .i64 (n:Int)]).run Tryz.prog w =
    .ok (.slice (some ⟨w.heap.size,0,none⟩) n (grownCap w n 0 5)) (w.drew.alloc (.cells (Builtin.zeroCells (Value.int .u8 0).cells n++Builtin.zeroCells (Value.int .u8 0).cells (grownCap w n 0 5-n)) 5)):=fun ty=>by
   have h:=Lib.run_append_grow_zeros (P:=Tryz.prog) w 22 3 ty 5 i0 (.int .u8 0) .i64 .i64 Tryz.underlying22 Tryz.underlying3 hi0 hz0 none 0 0 [] (run_firstCells_none w.drew i0.size 0 0 0) n (by omega) (by omega) (by omega) (by omega) (by rw [hz2];omega)
    (by rw [hz2];exact growslice_fits (by omega) (by omega))
   simpa using h
  have hge:=grownCap_ge w n 0 5;have hle:=grownCap_le_maxLen w n 0 5 (by unfold maxLen;omega);generalize grownCap w n 0 5=G at hr hge hle;have hu:Bytes (w.drew.alloc (.cells (Builtin.zeroCells (Value.int .u8 0).cells n++Builtin.zeroCells (Value.int .u8 0).cells (G-n)) 5)) w.heap.size (.slice (some ⟨w.heap.size,0,none⟩) 0 G) []:=by
   refine⟨rfl,.inr ⟨w.heap.size,G,_,rfl,Nat.le_refl _,Blk.new w.drew 5 _,Nat.zero_le _,hle,?_,by simp [u8s]⟩⟩;simp [Builtin.zeroCells,Value.cells];omega
  have HU:=Lib.hid hu;have HR:=Lib.hid hr;unfold maxLen at hle;clear hi0 hz0 hz1 hz2 i0 hu hr;go_enter Tryz.func163,Tryz.ntmps163;go_wp2_with (at_builtin;refine Lib.wpList_append_run _ rfl _ _ _ _ rfl _ _ rfl rfl _ _ (HR.out _) ?_)
  go_ret;exact⟨_,rfl,HU.out,((Mod.refl _ _).drew).alloc _⟩
def CatRel1(w:World)(l:List (List UInt8))(v3 v11:Value)(wr:World):Prop:=
 ∃i:Nat,i<=l.length/\v11=.int .i64 (i:Int)/\v3=.int .i64 ((sumLen (l.take i):Nat):Int)/\w=wr
def CatRel2(w:World)(l:List (List UInt8))(v6 v27:Value)(wr:World):Prop:=
 ∃i:Nat,i<=l.length/\v27=.int .i64 (i:Int)/\Bytes wr w.heap.size v6 (l.take i).flatten/\Mod (fun _=>False) w wr
theorem bConcat(w:World)(v:Value)(l:List (List UInt8))(hin:SampsIn w v l)(hl:l.length<=1000000)(hs:sumLen l<=1048576):
  Calls Tryz.prog 114 #[v] w fun e w'=>∃u,e=.returned u/\Bytes w' w.heap.size u l.flatten/\Mod (fun _=>False) w w':=by
 obtain⟨A,c,rfl,hlc⟩:=ListIn.shape hin;have H0:=Lib.hid (And.intro hin (And.intro hl hs));clear hin hs;go_enter Tryz.func114,Tryz.ntmps114;go_wp2_with fail;go_loopw [3,11] (CatRel1 w l) (fun _ i _=>l.length-(intOf i).toNat)
 case atStart=>exact⟨0,Nat.zero_le _,rfl,rfl,rfl⟩
 case round=>
  obtain⟨i,hi,rfl,rfl,rfl⟩:=hrel;by_cases hlt:i<l.length
  ·have d3:decide ((i:Int)<(l.length:Int))=true:=decide_eq_true (by omega);obtain⟨b,hb⟩:∃b,l[i]?=some b:=⟨_,List.getElem?_eq_getElem hlt⟩
   obtain⟨g,o,cp,D,dc,hA,hkk,_,hdc⟩:=H0.out.1.atM hb;injection hA with hA _ hc;subst hA hc;have k0:=hkk w (Mod.refl _ _);have hsz:=sumLen_succ hb;have hsl:=sumLen_le l (i+1);have hs0:=H0.out.2.2;have d4:decide (((sumLen (l.take i):Nat):Int)+(b.length:Int)<0)=false:=decide_eq_false (by omega);have HK:=Lib.hid hsz;clear hkk hb;go_wp2_with fail;go_roundw
   case rel=>exact⟨i+1,by omega,by go_num,by rw [HK.out];go_num,rfl⟩
   case measure=>simp [intOf];omega
  ·obtain rfl:i=l.length:=by omega
   rw [List.take_length];have hs0:=H0.out.2.2;go_wp2_with fail;refine(bGrow w (sumLen l) hs0).mono ?_;rintro e w1 ⟨u,rfl,hu,hm1⟩;obtain⟨A1,c1,rfl⟩:=own_shape hu;have H1:=Lib.hid (And.intro hu hm1);clear hu hm1;go_wp2_with fail;go_loopw [6,27] (CatRel2 w l) (fun _ i _=>l.length-(intOf i).toNat)
   case atStart=>exact⟨0,Nat.zero_le _,rfl,H1.out.1,H1.out.2⟩
   case round=>
    clear H1;obtain⟨i,hi,rfl,hB,hM⟩:=hrel;rename World=>wq
    obtain⟨X,hX⟩:∃X,X=(l.take i).flatten:=⟨_,rfl⟩
    rw [<-hX]at hB;obtain⟨Ao,co,rfl⟩:=own_shape hB;by_cases hlt:i<l.length
    ·have d3:decide ((i:Int)<(l.length:Int))=true:=decide_eq_true (by omega);obtain⟨b,hb⟩:∃b,l[i]?=some b:=⟨_,List.getElem?_eq_getElem hlt⟩
     obtain⟨g,o,cp,D,dc,hA,hkk,hd0,hdc⟩:=H0.out.1.atM hb;injection hA with hA _ hc;subst hA hc;have k0:=hkk wq hM;have hd:=hd0.quiet hM;have hfl:=flat_succ hb;have hsl:=sumLen_le l (i+1);have hxl:X.length+b.length<=1048576:=by
      rw [hX,flat_len,<-sumLen_succ hb];omega
     rw [<-hX]at hfl;have hlow:=fun j hj=>(hB.lt j hj).1;have HK:=Lib.hid (And.intro hB (And.intro hM (And.intro hd (And.intro hfl (And.intro hxl hlow)))));clear hkk hb hd0 hd hB hM hfl hsl hxl hX hlow;go_wp2_with (at_builtin;refine Hid.out ?_)
     refine Lib.hid ?_;refine wpList_app_u8s wq rfl (.tmp 31) (.tmp 32) rfl w.heap.size (.slice Ao X.length co) X D b.length dc b rfl rfl HK.out.1 HK.out.2.2.1 HK.out.2.1.size HK.out.2.2.2.2.1 ?_;intro v8 w8 hv8 hm8 _ _;rw [<-HK.out.2.2.2.1]at hv8;have H8:=Lib.hid (And.intro hv8 (HK.out.2.1.into hm8 (fun j h=>.inr (HK.out.2.2.2.2.2 j h))));clear hv8 hm8 k0;go_wp2_with fail;go_roundw
     case rel=>exact⟨i+1,by omega,by go_num,H8.out.1,H8.out.2⟩
     case measure=>simp [intOf];omega
    ·obtain rfl:i=l.length:=by omega
     rw [List.take_length]at hX;subst hX;have HK:=Lib.hid (And.intro hB hM);clear hB hM;go_wp2_with fail;go_ret;exact⟨_,rfl,HK.out.1,HK.out.2⟩
def sampsOf(s:List (List UInt8 × Pix)):List (List UInt8):=s.map Prod.fst
def bwSeg(sc tk:Nat)(s:List (List UInt8)):Nat:=if s.length=0 then 0 else(sumLen s*sc+s.length*tk-1)/(s.length*tk)
def bwTo(sc tk:Nat)(ss:List (List (List UInt8 × Pix))):Nat:=ss.foldl (fun m s=>max m (bwSeg sc tk (sampsOf s))) 0
theorem bwTo_succ{sc tk:Nat}{ss:List (List (List UInt8 × Pix))}{k:Nat}{s:List (List UInt8 × Pix)}(h:ss[k]?=some s):bwTo sc tk (ss.take (k+1))=max (bwTo sc tk (ss.take k)) (bwSeg sc tk (sampsOf s)):=by
 unfold bwTo;rw [List.take_add_one,h,List.foldl_append];rfl
def bandB(sc tk:Int)(ss:List (List (List UInt8 × Pix))):Nat:=if timesB sc tk=true then bwTo sc.toNat tk.toNat ss else 0
theorem segs_at{w:World}{F:Nat->Prop}{d:Dim}{v:Value}{ss:List (List (List UInt8 × Pix))}{i:Nat}{s:List (List UInt8 × Pix)}(h:ListIn w F 2 (SegR w F d) v ss)(hi:ss[i]?=some s):
  ∃g o cp D dc E ec,v=.slice (some ⟨g,o,none⟩) ss.length cp/\(∀w',Mod (fun _=>False) w w'->w'.cell? ⟨g,o+i*2,none⟩=some (.slice D s.length dc)/\w'.cell? ⟨g,o+i*2+1,none⟩=some (.slice E s.length ec))/\ListIn w F 1 (SampR w F) (.slice D s.length dc) (sampsOf s):=by
 obtain⟨g,o,cp,c,hv,_,hg,_,⟨sv,fv,rfl,hs,hf⟩,_,hx⟩:=ListIn.at_ h hi (by decide);obtain⟨D,dc,rfl,_⟩:=hs.shape;obtain⟨E,ec,rfl,_⟩:=hf.shape;rw [List.length_map]at hs hx;rw [List.length_map]at hx;exact⟨g,o,cp,D,dc,E,ec,hv,fun w' hm=>⟨(World.cell?_of_block (hm.block g hg (fun h=>h))).trans (hx 0 _ rfl),(World.cell?_of_block (hm.block g hg (fun h=>h))).trans (hx 1 _ rfl)⟩,hs⟩
theorem samp_at{w:World}{F:Nat->Prop}{v:Value}{l:List (List UInt8)}{i:Nat}{b:List UInt8}(h:ListIn w F 1 (SampR w F) v l)(hi:l[i]?=some b):
  ∃g o cp A dc,v=.slice (some ⟨g,o,none⟩) l.length cp/\(∀w',Mod (fun _=>False) w w'->w'.cell? ⟨g,o+i,none⟩=some (.slice A b.length dc)):=by
 obtain⟨g,o,cp,c,hv,_,hg,_,⟨u,rfl,hu⟩,_,hx⟩:=ListIn.at_ h hi (by decide);obtain⟨A,dc,rfl,_⟩:=hu.in_;have h0:=hx 0 _ rfl;rw [Nat.mul_one]at h0;exact⟨g,o,cp,A,dc,hv,fun w' hm=>(World.cell?_of_block (hm.block g hg (fun h=>h))).trans h0⟩
theorem ListIn.quiet'{w w':World}{F:Nat->Prop}{v:Value}{l:List (List UInt8)}(h:ListIn w F 1 (SampR w F) v l)(hm:Mod (fun _=>False) w w'):ListIn w' F 1 (SampR w' F) v l:=
 ListIn.turn h hm (fun _ _ _ h=>h) (fun _ h _=>h) (fun _ _ _ k=>k.turn hm (fun _ _ _ h=>h) (fun _ h _=>h))
def BwRel(w:World)(sc tk:Nat)(ss:List (List (List UInt8 × Pix)))(v7 v31:Value)(wr:World):Prop:=
 ∃i:Nat,i<=ss.length/\v31=.int .i64 (i:Int)/\v7=.int .i64 ((bwTo sc tk (ss.take i):Nat):Int)/\Mod (fun _=>False) w wr
def BwRel2(w:World)(l:List (List UInt8))(v10 v47:Value)(wr:World):Prop:=
 ∃k:Nat,k<=l.length/\v47=.int .i64 (k:Int)/\v10=.int .i64 ((sumLen (l.take k):Nat):Int)/\w=wr
theorem ldBandw(w:World)(F:Nat->Prop)(m:MadeX)(sv:Value)(hin:ListIn w F 2 (SegR w F m.d) sv m.segs)(sc tk:Int)(hl:m.segs.length<=1048576)(hs:∀s∈m.segs,s.length<=1048576/\sumLen (sampsOf s)<=1099511627776):
  Calls Tryz.prog 73 #[.agg (m.r.cells++[.int .i64 (m.d.W:Int),.int .i64 (m.d.H:Int),.int .i64 m.G,sv]).toArray,.int .i64 sc,.int .i64 tk] w fun e w'=>e=.returned (.int .i64 ((bandB sc tk m.segs:Nat):Int))/\Mod (fun _=>False) w w':=by
 obtain⟨A,c,rfl,hlc⟩:=ListIn.shape hin;unfold Rg.cells;have hb:=Blk.new w 73 #[.string (strOf m.r.name),.int .i64 m.r.down,.int .i64 m.r.q,.int .i64 m.r.tg,.int .i64 (m.d.W:Int),.int .i64 (m.d.H:Int),.int .i64 m.G,.slice A m.segs.length c];have hm:=(Mod.refl (fun _=>False) w).alloc (.cells #[.string (strOf m.r.name),.int .i64 m.r.down,.int .i64 m.r.q,.int .i64 m.r.tg,.int .i64 (m.d.W:Int),.int .i64 (m.d.H:Int),.int .i64 m.G,.slice A m.segs.length c] 73);obtain⟨bc,bf⟩:=hb.both;have bl:=hb.lt;have HM:=Lib.hid (And.intro hm (And.intro hin (And.intro hl hs)));clear hm hb hin hs;show Calls Tryz.prog 73 #[.agg #[.string (strOf m.r.name),.int .i64 m.r.down,.int .i64 m.r.q,.int .i64 m.r.tg,.int .i64 (m.d.W:Int),.int .i64 (m.d.H:Int),.int .i64 m.G,.slice A m.segs.length c],.int .i64 sc,.int .i64 tk] w _;go_enter Tryz.func73,Tryz.ntmps73;go_upto_region 1 with(fail)
 generalize w.alloc (.cells #[.string (strOf m.r.name),.int .i64 m.r.down,.int .i64 m.r.q,.int .i64 m.r.tg,.int .i64 (m.d.W:Int),.int .i64 (m.d.H:Int),.int .i64 m.G,.slice A m.segs.length c] 73)=w1 at *;have x7:w1.cell? ⟨w.heap.size,7,none⟩=some (.slice A m.segs.length c):=bc 7;clear bc
 cases e1:decide (sc<1)<;>cases e2:decide (1048576<sc)<;>cases e3:decide (tk<1)<;>cases e4:decide (1048576<tk)<;>(
  have HT:Hid (timesB sc tk=_):=Lib.hid (by unfold timesB;rw [e1,e2,e3,e4]);simp only [Bool.or_true,Bool.or_false,Bool.not_true,Bool.not_false]at HT;go_upto_region 3 with(fail)
  all_goals first
  | (go_ret
     exact⟨by unfold bandB;rw [if_neg (by rw [HT.out];decide)];rfl,HM.out.1⟩)
  | skip)
 obtain⟨s,hs⟩:∃s:Nat,sc=(s:Int):=⟨sc.toNat,by have:=of_decide_eq_false e1;omega⟩
 obtain⟨t,ht⟩:∃t:Nat,tk=(t:Int):=⟨tk.toNat,by have:=of_decide_eq_false e3;omega⟩
 subst hs ht;have hB:bandB s t m.segs=bwTo s t m.segs:=by
  unfold bandB;rw [if_pos HT.out];rfl
 have hst:(1<=s/\s<=1048576)/\1<=t/\t<=1048576:=by
  have:=of_decide_eq_false e1;have:=of_decide_eq_false e2;have:=of_decide_eq_false e3;have:=of_decide_eq_false e4;omega
 have HB:=Lib.hid (And.intro hB hst);clear hB hst e1 e2 e3 e4 HT;go_wp2_with fail;go_loopw [7,31] (BwRel w s t m.segs) (fun _ i _=>m.segs.length-(intOf i).toNat)
 case atStart=>exact⟨0,Nat.zero_le _,rfl,rfl,HM.out.1⟩
 case round=>
  clear x7 bf bl;obtain⟨i,hi,rfl,rfl,hM⟩:=hrel;rename World=>wr
  by_cases hlt:i<m.segs.length
  ·have d3:decide ((i:Int)<(m.segs.length:Int))=true:=decide_eq_true (by omega);obtain⟨g,hg⟩:∃g,m.segs[i]?=some g:=⟨_,List.getElem?_eq_getElem hlt⟩
   obtain⟨b,o,cp,D,dc,E,ec,hA,hkk,hsm⟩:=segs_at HM.out.2.1 hg;injection hA with hA _ hc;subst hA hc;obtain⟨k0,k1⟩:=hkk wr hM;have hsu:=bwTo_succ (sc:=s) (tk:=t) hg;have hbd:=HM.out.2.2.2 g (List.mem_of_getElem? hg);obtain⟨X,hX⟩:∃X,X=sampsOf g:=⟨_,rfl⟩
   have hXl:X.length=g.length:=by rw [hX];simp [sampsOf]
   rw [<-hX]at hsu hsm hbd;generalize g.length=gl at *;subst hXl;clear hX hg hkk;have hq:=hsm.quiet' (hM.alloc (.cells #[.slice D X.length dc,.slice E X.length ec] 80));have hma:=hM.alloc (.cells #[.slice D X.length dc,.slice E X.length ec] 80);have hbs:=Blk.new wr 80 #[.slice D X.length dc,.slice E X.length ec];have x0:(wr.alloc (.cells #[.slice D X.length dc,.slice E X.length ec] 80)).cell? ⟨wr.heap.size,0,none⟩=some (.slice D X.length dc):=hbs.cell 0;have bl:=hbs.lt;obtain⟨_,bf⟩:=hbs.both;have HK:=Lib.hid (And.intro hM (And.intro hsu (And.intro hq (And.intro hma hbd))));clear hM hsu hq hma hbd hsm hbs;by_cases h0:X.length=0
   ·have d4:((X.length:Int) == 0)=true:=by simp [h0]
    have hz:bwSeg s t X=0:=by unfold bwSeg;rw [if_pos h0]
    have HZ:=Lib.hid hz;clear hz h0;go_wp2_with fail;go_roundw
    case rel=>exact⟨i+1,by omega,by go_num,by rw [HK.out.2.1,HZ.out,Nat.max_zero],HK.out.2.2.2.1⟩
    case measure=>simp [intOf];omega
   ·have d4:((X.length:Int) == 0)=false:=by simp [h0]
    have hpos:1<=X.length:=by omega
    have hbz:bwSeg s t X=(sumLen X*s+X.length*t-1)/(X.length*t):=by unfold bwSeg;rw [if_neg h0]
    have HZ:=Lib.hid (And.intro hbz hpos);clear hbz h0;have hst:=HB.out.2;have hbd:=HK.out.2.2.2.2;have hT1:X.length*t<=1048576*1048576:=Nat.mul_le_mul hbd.1 hst.2.2;have hT0:1<=X.length*t:=Nat.mul_pos hpos hst.2.1;have hT:(X.length:Int)*(t:Int)=((X.length*t:Nat):Int):=by push_cast;rfl
    have hS1:sumLen X*s<=1099511627776*1048576:=Nat.mul_le_mul hbd.2 hst.1.2;have hS:((sumLen X:Nat):Int)*(s:Int)=((sumLen X*s:Nat):Int):=by push_cast;rfl
    have HS:=Lib.hid (And.intro hT0 (And.intro hT1 (And.intro hS hS1)));have hm0:(0:Int)<=(X.length:Int)*(t:Int):=by rw [hT];omega
    have hm1:(X.length:Int)*(t:Int)<=1099511627776:=by rw [hT];omega
    have HTT:=Lib.hid hT;clear hS hS1 hT0 hT1 hst hbd hT;go_upto_region 8 with(fail)
    go_quiet (fail)
    go_wp2_with fail;rw [HTT.out];obtain⟨T,hT⟩:∃T,T=X.length*t:=⟨_,rfl⟩
    rw [<-hT]at HS HZ ⊢;have hmd:=(Mod.refl (fun _=>False) (wr.alloc (.cells #[.slice D X.length dc,.slice E X.length ec] 80))).drewN nq;have HK2:=Lib.hid (And.intro (HK.out.2.2.1.quiet' hmd) (HK.out.2.2.2.1.trans hmd));clear hmd;generalize (wr.alloc (.cells #[.slice D X.length dc,.slice E X.length ec] 80)).drewN nq=wa at HK2 ⊢;have HTe:=Lib.hid hT;clear hT hm0 hm1 k0 k1 x0 bf bl;go_loopw [10,47] (BwRel2 wa X) (fun _ k _=>X.length-(intOf k).toNat)
    case atStart=>exact⟨0,Nat.zero_le _,rfl,rfl,rfl⟩
    case round=>
     obtain⟨k,hk,rfl,rfl,rfl⟩:=hrel;by_cases hlk:k<X.length
     ·have d5:decide ((k:Int)<(X.length:Int))=true:=decide_eq_true (by omega);obtain⟨q,hq⟩:∃q,X[k]?=some q:=⟨_,List.getElem?_eq_getElem hlk⟩
      obtain⟨b',o',cp',A',dc',hA',hkk⟩:=samp_at HK2.out.1 hq;injection hA' with hA' _ hc';subst hA' hc';have k0:=hkk wa (Mod.refl _ _);have hsz:=sumLen_succ hq;have hsl:=sumLen_le X (k+1);have hbd:=HK.out.2.2.2.2;have HQ:=Lib.hid hsz;clear hkk hq;go_wp2_with fail;go_roundw
      case rel=>exact⟨k+1,by omega,by go_num,by rw [HQ.out];go_num,rfl⟩
      case measure=>simp [intOf];omega
     ·obtain rfl:k=X.length:=by omega
      rw [List.take_length];have d5:decide ((X.length:Int)<(X.length:Int))=false:=decide_eq_false (by omega);have hm0:(0:Int)<=((sumLen X:Nat):Int)*(s:Int):=by rw [HS.out.2.2.1];omega
      have hm1:((sumLen X:Nat):Int)*(s:Int)<=1152921504606846976:=by rw [HS.out.2.2.1];have:=HS.out.2.2.2;omega
      have hT0:=HS.out.1;have hT1:=HS.out.2.1;go_wp2_with fail;have hv:(if((bwTo s t (m.segs.take i):Nat):Int)<(((sumLen X:Nat):Int)*(s:Int)+(T:Int)-1)/(T:Int)then(((sumLen X:Nat):Int)*(s:Int)+(T:Int)-1)/(T:Int)else((bwTo s t (m.segs.take i):Nat):Int))=((bwTo s t (m.segs.take (i+1)):Nat):Int):=by
       rw [HK.out.2.1,HZ.out.1,HS.out.2.2.1,show((sumLen X*s:Nat):Int)+(T:Int)-1=((sumLen X*s+T-1:Nat):Int)by omega,<-Int.natCast_ediv];generalize (sumLen X*s+T-1)/T=Q;generalize bwTo s t (m.segs.take i)=R;split<;>omega
      rw [hv];exact⟨⟨i+1,by omega,by go_num,rfl,HK2.out.2⟩,by simp [intOf];omega⟩
  ·obtain rfl:i=m.segs.length:=by omega
   rw [List.take_length];have HK:=Lib.hid hM;clear hM;go_wp2_with fail;go_ret;exact⟨by rw [HB.out.1];rfl,HK.out⟩
def numsB(a b:Int):Bool:=!(((decide (a<0) || decide (1024<=a)) || decide (b<0)) || decide (1024<=b))
def lensB(l:List (List UInt8)):Bool:=l.all fun b=>decide (1<=b.length)
def mediaB(a b:Int)(l:List (List UInt8)):Bool:=numsB a b&&(decide (1<=l.length/\l.length<=64)&&(lensB l&&decide (sumLen l<=524288)))
def RmRel(l:List (List UInt8))(v3 v37:Value):Prop:=
 ∃i:Nat,i<=l.length/\v37=.int .i64 (i:Int)/\v3=.int .i64 ((sumLen (l.take i):Nat):Int)/\lensB (l.take i)=true
theorem lens_succ{l:List (List UInt8)}{i:Nat}{b:List UInt8}(h:l[i]?=some b)(h0:lensB (l.take i)=true)(hb:1<=b.length):lensB (l.take (i+1))=true:=by
 unfold lensB at h0 ⊢;rw [List.take_add_one,h,List.all_append,h0];simpa using hb
theorem lens_no{l:List (List UInt8)}{i:Nat}{b:List UInt8}(h:l[i]?=some b)(hb:b.length<1):lensB l=false:=by
 unfold lensB;rw [<-Bool.not_eq_true,List.all_eq_true];intro h2;have:=of_decide_eq_true (h2 b (List.mem_of_getElem? h));omega
theorem sgRightMedia(w:World)(a b:Int)(v:Value)(l:List (List UInt8))(hin:SampsIn w v l)(hl:l.length<=9223372036854775807)(hs:sumLen l<=4611686018427387904):
  Calls Tryz.prog 113 #[.agg #[.int .i64 a,.int .i64 b,v]] w fun e w'=>e=.returned (.bool (mediaB a b l))/\Mod (fun _=>False) w w':=by
 obtain⟨A,c,rfl,hlc⟩:=ListIn.shape hin;have hb:=Blk.new w 97 #[.int .i64 a,.int .i64 b,.slice A l.length c];have hm:Mod (fun _=>False) w (w.alloc (.cells #[.int .i64 a,.int .i64 b,.slice A l.length c] 97)):=(Mod.refl _ w).alloc _;obtain⟨bc,bf⟩:=hb.both;have bl:=hb.lt;have HM:=Lib.hid (And.intro hm (And.intro hin (And.intro hl hs)));clear hm hb hin;go_enter Tryz.func113,Tryz.ntmps113;go_upto_region 1 with(fail)
 generalize w.alloc (.cells #[.int .i64 a,.int .i64 b,.slice A l.length c] 97)=w1 at *;have x0:w1.cell? ⟨w.heap.size,0,none⟩=some (.int .i64 a):=bc 0;have x1:w1.cell? ⟨w.heap.size,1,none⟩=some (.int .i64 b):=bc 1;have x2:w1.cell? ⟨w.heap.size,2,none⟩=some (.slice A l.length c):=bc 2;clear bc
 cases e1:decide (a<0)<;>cases e2:decide (1024<=a)<;>cases e3:decide (b<0)<;>cases e4:decide (1024<=b)<;>(
  have HT:Hid (numsB a b=_):=Lib.hid (by unfold numsB;rw [e1,e2,e3,e4]);simp only [Bool.or_true,Bool.or_false,Bool.not_true,Bool.not_false]at HT;go_upto_region 3 with(fail)
  all_goals first
  | (go_ret
     exact⟨by unfold mediaB;rw [HT.out,Bool.false_and];rfl,HM.out.1⟩)
  | skip)
 have hI:mediaB a b l=(decide (1<=l.length/\l.length<=64)&&(lensB l&&decide (sumLen l<=524288))):=by unfold mediaB;rw [HT.out,Bool.true_and]
 have HI:=Lib.hid hI;clear hI HT x0 x1;cases f1:decide ((l.length:Int)<1)with
 | true=>
   have HN:=Lib.hid (show decide (1<=l.length/\l.length<=64)=false from decide_eq_false (by have:=of_decide_eq_true f1;omega));go_wp2_with fail;go_ret;exact⟨by rw [HI.out,HN.out];rfl,HM.out.1⟩
 | false=>
   cases f2:decide ((64:Int)<(l.length:Int))with
   | true=>
     have HN:=Lib.hid (show decide (1<=l.length/\l.length<=64)=false from decide_eq_false (by have:=of_decide_eq_true f2;omega));go_wp2_with fail;go_ret;exact⟨by rw [HI.out,HN.out];rfl,HM.out.1⟩
   | false=>
     have HN:=Lib.hid (show decide (1<=l.length/\l.length<=64)=true from decide_eq_true (by have:=of_decide_eq_false f1;have:=of_decide_eq_false f2;omega));go_wp2_with fail;go_loop [3,37] (RmRel l) (fun _ i=>l.length-(intOf i).toNat)
     case atStart=>exact⟨0,Nat.zero_le _,rfl,rfl,rfl⟩
     case round=>
      obtain⟨i,hi,rfl,rfl,hok⟩:=hrel;by_cases hlt:i<l.length
      ·have d3:decide ((i:Int)<(l.length:Int))=true:=decide_eq_true (by omega);obtain⟨q,hq⟩:∃q,l[i]?=some q:=⟨_,List.getElem?_eq_getElem hlt⟩
       obtain⟨g,o,cp,D,dc,hA,hkk,_,hdc⟩:=HM.out.2.1.atM hq;injection hA with hA _ hc;subst hA hc;have k0:=hkk w1 HM.out.1;have hsz:=sumLen_succ hq;have hsl:=sumLen_le l (i+1);by_cases h1:q.length<1
       ·have d4:decide ((q.length:Int)<1)=true:=decide_eq_true (by omega);have HK:=Lib.hid (lens_no hq h1);clear hkk hq hok hsz hsl;go_wp2_with fail;go_ret;exact⟨by rw [HI.out,HK.out,Bool.false_and,Bool.and_false];rfl,HM.out.1⟩
       ·have d4:decide ((q.length:Int)<1)=false:=decide_eq_false (by omega);have HK:=Lib.hid (And.intro hsz (lens_succ hq hok (by omega)));clear hkk hq hok;go_wp2_with fail;exact⟨⟨i+1,by omega,by go_num,by rw [HK.out.1];go_num,HK.out.2⟩,by simp [intOf];omega⟩
      ·obtain rfl:i=l.length:=by omega
       rw [List.take_length]at hok ⊢;have HK:=Lib.hid hok;clear hok;cases g1:decide (((sumLen l:Nat):Int)<=524288)with
       | true=>
         have HG:=Lib.hid (show decide (sumLen l<=524288)=true from decide_eq_true (by have:=of_decide_eq_true g1;omega));go_wp2_with fail;go_ret;exact⟨by rw [HI.out,HN.out,HK.out,HG.out];rfl,HM.out.1⟩
       | false=>
         have HG:=Lib.hid (show decide (sumLen l<=524288)=false from decide_eq_false (by have:=of_decide_eq_false g1;omega));go_wp2_with fail;go_ret;exact⟨by rw [HI.out,HN.out,HK.out,HG.out];rfl,HM.out.1⟩
theorem store_marked(P:Program)(g:Nat)(t:TypeId)(fz:Nat × Nat):∀(vs:List Value) (o i:Nat) (cur:Array Value) (w:World),w.heap[g]?=some (.cells cur t fz)->cur.size<=fz.1->o+i+vs.length<=cur.size->(∀v∈vs,v.oneCell'=true) ->
  (storeCells ⟨g,o,none⟩ vs i).run P w=.ok () (w.setRow g (cur.toList.take (o+i)++vs++cur.toList.drop (o+i+vs.length)).toArray):=by
 intro vs
 induction vs with
 | nil=>
  intro o i cur w hg _ _ _;simp only [storeCells,List.append_nil,List.length_nil,Nat.add_zero,List.take_append_drop,Array.toArray_toList];rw [setRow_self w g cur t fz hg];rfl
 | cons v rest ih=>
  intro o i cur w hg hfz hl h1;rw [List.length_cons]at hl;have hi:o+i<cur.size:=by omega
  have hcell:w.cell? ⟨g,o+i,none⟩=some cur[o+i]:=by simp [World.cell?,hg,hi]
  have hfro:w.frozen? ⟨g,o+i,none⟩=false:=by
   simp only [World.frozen?,hg,Bool.and_eq_false_iff,decide_eq_false_iff_not];left;omega
  have hst:(store ((⟨g,o,none⟩:Addr).add i) v).run P w=.ok () (w.setRow g (cur.setIfInBounds (o+i) v)):=by
   rw [show(⟨g,o,none⟩:Addr).add i=⟨g,o+i,none⟩from addr_add' ..,run_store P w _ v _ (h1 v (by simp)),hcell];simp [hfro,setCell_eq_setRow w g (o+i) cur t fz v hg]
  have h2:=ih o (i+1) (cur.setIfInBounds (o+i) v) (w.setRow g (cur.setIfInBounds (o+i) v)) (setRow_heap w g cur _ t _ hg) (by simpa using hfz) (by simp;omega) (fun x hx=>h1 x (by simp [hx]));simp only [storeCells,Sem.run_bind,hst,Result.andThen_ok,h2,setRow_setRow];congr 3;have e:=list_seg_step cur.toList (o+i) v rest (by simp;omega);simpa [Array.toList_setIfInBounds,Nat.add_assoc]using e
def BytesM(w:World)(B:Nat)(v:Value)(l:List UInt8):Prop:=
 ∃g cap cur fz,v=.slice (some ⟨g,0,none⟩) l.length cap/\B<=g/\w.heap[g]?=some (.cells cur 5 fz)/\cur.size<=fz.1/\l.length<=cap/\cap<=maxLen/\cur.size=cap/\cur.toList.take l.length=u8s l
def BytesU(w:World)(B:Nat)(v:Value)(l:List UInt8):Prop:=Bytes w B v l\/BytesM w B v l
section
variable {w w' : World} {B : Nat} {v : Value} {l : List UInt8}
theorem BytesM.lt(h:BytesM w B v l):∀k,v.ownBlock=some k->B<=k/\k<w.heap.size:=by
 obtain⟨g,cap,cur,fz,rfl,hB,hg,_⟩:=h;intro k hk;injection hk with hk;subst hk;exact⟨hB,(Array.getElem?_eq_some_iff.1 hg).1⟩
theorem BytesU.lt(h:BytesU w B v l):∀k,v.ownBlock=some k->B<=k/\k<w.heap.size:=by
 rcases h with h|h
 ·exact World.ownsRow.lt h
 ·exact h.lt
theorem BytesM.mod{S:Nat->Prop}(h:BytesM w B v l)(hm:Mod S w w')(hS:∀g,v.ownBlock=some g->¬S g):BytesM w' B v l:=by
 obtain⟨g,cap,cur,fz,rfl,hB,hg,hr⟩:=h;exact⟨g,cap,cur,fz,rfl,hB,(hm.block g (Array.getElem?_eq_some_iff.1 hg).1 (hS g rfl)).trans hg,hr⟩
theorem BytesU.mod{S:Nat->Prop}(h:BytesU w B v l)(hm:Mod S w w')(hS:∀g,v.ownBlock=some g->¬S g):BytesU w' B v l:=by
 rcases h with h|h
 ·exact .inl (own_mod h hm hS)
 ·exact .inr (h.mod hm hS)
theorem BytesU.shape(h:BytesU w B v l):∃A c,v=.slice A l.length c:=by
 rcases h with h|⟨g,cap,_,_,rfl,_⟩
 ·exact own_shape h
 ·exact⟨_,_,rfl⟩
theorem BytesM.cell(h:BytesM w B v l){g:Nat}(hg:v.ownBlock=some g):∀j u,(u8s l)[j]?=some u->w.cell? ⟨g,j,none⟩=some u:=by
 obtain⟨g',cap,cur,fz,rfl,_,hh,_,hn,_,_,ht⟩:=h;injection hg with hg;subst hg;intro j u hu;have hj:=(List.getElem?_eq_some_iff.1 hu).1;rw [u8s_length]at hj;have e:cur[j]?=some u:=by
  rw [<-ht,List.getElem?_take,if_pos hj]at hu;simpa using hu
 simpa [World.cell?,hh]using e
theorem BytesU.toF(h:BytesU w B v l):BytesF w (fun _=>True) v l:=by
 rcases h with h|h
 ·exact BytesF.of_own h (fun _ _=>trivial)
 ·have hc:=fun g hg=>h.cell (g:=g) hg;have hlt:=h.lt;obtain⟨g,cap,cur,fz,rfl,_,hh,_,hn,_⟩:=h;refine⟨_,_,rfl,hn,fun e=>(by cases e),⟨by rw [u8s_length];omega,fun e=>(by cases e),fun ad e j u hu=>?_⟩,fun ad e _=>?_⟩
  ·injection e with e;subst e;rw [addr_add',Nat.zero_add];exact hc g rfl j u hu
  ·injection e with e;subst e;exact⟨(hlt g rfl).2,trivial⟩
end
/-- Some bytes more. -/
theorem app_U(w:World)(B:Nat)(ty:TypeId)(v:Value)(l:List UInt8)(h:BytesU w B v l)(ad:Addr)(m c:Nat)(r:List UInt8)(hin:BytesIn w (some ad) m c r)(hB:B<=w.heap.size)(hl:l.length+m<=1048576):
  ∃v' w',(Builtin.append_ #[22,22] ty #[v,.slice (some ad) m c]).run Tryz.prog w=.ok v' w'/\BytesU w' B v' (l++r)/\w.grownBy w' v.ownBlock/\(v'.ownBlock=v.ownBlock\/v'.ownBlock=some w.heap.size):=by
 obtain⟨i0,hi0,hz0,hz1,hz2⟩:=info_parts u8_info;have hrl:=hin.1;have hlr:(l++r).length=l.length+m:=by rw [List.length_append,hrl]
 have hur:u8s (l++r)=u8s l++u8s r:=by simp [u8s]
 rcases h with h|h
 ·obtain⟨v',w',h1,h2,h3,h4⟩:=append_src (P:=Tryz.prog) w B 22 ty 5 i0 _ 1 1 Tryz.underlying22 hi0 hz0 hz1 hz2 rfl (by omega) v l.length (u8s l) h (some ad) m c (u8s r) hin.2.2.1 hin.2.1 (u8s_one r) (by unfold maxLen;omega) (by omega) hB;refine⟨v',w',h1,.inl ?_,h3,h4⟩;unfold Bytes;rw [hlr,hur];exact h2
 ·have hcell:=fun g hg=>h.cell (g:=g) hg;obtain⟨g,cap,cur,fz,rfl,hbg,hg,hfz,hn,hcm,hcs,ht⟩:=h;have hnl:(u8s r).length=m*i0.size:=by rw [u8s_length,hz1,hrl,Nat.mul_one]
  have hnews:∀j u,(u8s r)[j]?=some u->w.cell? (ad.add j)=some u:=fun j u hu=>hin.2.2.1.2.2 ad rfl j u hu;by_cases hroom:l.length+m<=cap
  ·have hf:=run_firstCells_some (P:=Tryz.prog) w i0.size m ad m c (u8s r) hnl hnews;have hst:=store_marked Tryz.prog g 5 fz (u8s r) l.length 0 cur w hg hfz (by rw [u8s_length,hrl,hcs];omega) (u8s_one r)
   have hr:(Builtin.append_ #[22,22] ty #[.slice (some ⟨g,0,none⟩) l.length cap,.slice (some ad) m c]).run Tryz.prog w =
     .ok (.slice (some ⟨g,0,none⟩) (l.length+m) cap) (w.setRow g (cur.toList.take l.length++u8s r++cur.toList.drop (l.length+(u8s r).length)).toArray):=by
    simp only [Nat.add_zero]at hst;rw [hz1]at hf;simp [Builtin.append_,run_underlying Tryz.underlying22,sizeOf,typeInfo,hi0,hz1,Builtin.lenOf,hroom,hf,Addr.add_lit,hst]
   refine⟨_,_,hr,.inr ⟨g,cap,_,fz,by rw [hlr],hbg,setRow_heap w g cur _ 5 _ hg,?_,by omega,hcm,?_,?_⟩,⟨rfl,rfl,rfl,by simp,fun k _ hk=>setRow_other w g k _ (fun e=>hk (by simp [Value.ownBlock,e]))⟩,.inl rfl⟩
   ·simp only [List.size_toArray,List.length_append,List.length_take,List.length_drop,Array.length_toList,u8s_length];omega
   ·simp only [List.size_toArray,List.length_append,List.length_take,List.length_drop,Array.length_toList,u8s_length];omega
   ·rw [ht,hur];have e:(l++r).length=(u8s l++u8s r).length:=by simp [u8s]
    rw [e];exact List.take_left
  ·have holds:∀j u,(u8s l)[j]?=some u->w.cell? ((⟨g,0,none⟩:Addr).add j)=some u:=fun j u hu=>by
    rw [addr_add',Nat.zero_add];exact hcell g rfl j u hu
   have hr:=run_append_grow (P:=Tryz.prog) w 22 ty 5 i0 (.int .u8 0) Tryz.underlying22 hi0 hz0 ⟨g,0,none⟩ l.length cap (u8s l) (by rw [u8s_length,hz1,Nat.mul_one]) holds ad m c (u8s r) hnl hnews (by omega) (by omega) (by rw [hz2];exact growslice_fits (by omega) (by omega));have hge:=grownCap_ge w (l.length+m) cap 5;have hle:=grownCap_le_maxLen w (l.length+m) cap 5 (by unfold maxLen;omega);refine⟨_,_,hr,.inl ?_,⟨rfl,rfl,rfl,by simp,fun k hk _=>heap_alloc_old w.drew _ hk⟩,.inr rfl⟩;unfold Bytes;rw [hlr,hur];refine⟨by rw [<-hur,u8s_length,hlr,Nat.mul_one],.inr ⟨w.heap.size,_,_,rfl,hB,heap_alloc_new w.drew _,hge,hle,?_,?_⟩⟩
   ·simp only [Array.size_append,List.size_toArray,size_zeroCells,u8s_length,hrl,Value.cells];simp;omega
   ·simp only [Array.toList_append,List.append_assoc];rw [<-List.append_assoc,show(l.length+m)*1=(u8s l++u8s r).length by rw [<-hur,u8s_length,hlr,Nat.mul_one]];exact List.take_left
theorem wpList_app_U{ops:Array Oper}{rest:List Oper}{o:Oper}{a:Act}{Q:Exit->Act->World->Prop}(w:World)(hgd:o.guard=none)(s x:Operand)
  (ho:o.op=.call { callee:=.builtin .append,args:=#[s,x],argTypes:=#[22,22] })
  (B:Nat)(v:Value)(l:List UInt8)(ad:Addr)(m c:Nat)(r:List UInt8)(hs:a.eval s=v)(hx:a.eval x=.slice (some ad) m c)(hown:BytesU w B v l)(hin:BytesIn w (some ad) m c r)(hB:B<=w.heap.size)(hl:l.length+m<=1048576)
  (h:∀v' w',BytesU w' B v' (l++r)->Mod (fun j=>v.ownBlock=some j) w w'->(∀g,v'.ownBlock=some g->v.ownBlock=some g\/w.heap.size<=g)->wpList Tryz.prog ops Q rest (a.put o.dst v') w'):
  wpList Tryz.prog ops Q (o :: rest) a w:=by
 obtain⟨v',w',h1,h2,h3,h4⟩:=app_U w B o.type v l hown ad m c r hin hB hl;refine Lib.wpList_append_run w hgd s x 22 22 ho v _ hs hx v' w' h1 (h v' w' h2 ((Mod.refl _ _).grown h3 (fun k hk=>.inl hk)) ?_);intro g hg;rcases h4 with h4|h4
 ·exact .inl (h4▸hg)
 ·rw [h4]at hg;injection hg with hg;exact .inr (by omega)
end Go.Proofs.YtnnpoodcdibpiaaGreatDoor
