/-
  Origin.Paths: the files' paths, by rising order.
-/
import Derived.Test.YtnnpoodcdibpiaaGreatDoorB41
import Derived.Test.YtnnpoodcdibpiaaGreatDoorB42
import Derived.ProofKit
import Derived.OpenShut
import Derived.Lib.SmallJoins
import Derived.Laws.IdiomArrays
import Derived.Deep.Slices
import Derived.Deep.Strs
import Derived.ChangeArms
import Derived.ShutString
import Derived.ChangeOld
import Derived.JoinedCond
import Derived.Lib.LaidIn
import Derived.Deep.DeepWitnessRowRef
import Derived.Deep.DeepHandedRow
import Derived.MakeChecks
import Derived.FnData
import Derived.Stop.LaidErr
import Derived.Test.YtnnpoodcdibpiaaGreatDoorCards
import Derived.Test.YtnnpoodcdibpiaaGreatDoorTie
import Derived.SevenTiedAt
namespace Go.Proofs.YtnnpoodcdibpiaaGreatDoor
open Go.RowKit
set_option maxRecDepth 100000
set_option maxHeartbeats 8000000
def upTxt(l:List (List UInt8)):List (List UInt8):=l.mergeSort (fun x y=>decide (x<=y))
theorem upTxt_length(l:List (List UInt8)):(upTxt l).length=l.length:=by unfold upTxt;rw [List.length_mergeSort]
def TxtR(p:List UInt8)(c:List Value):Prop:=c=[.string (strOf p)]
theorem txts_of{l:List (List UInt8)}:CellsOf 1 TxtR l (l.map encStr):=
 ⟨l.map fun p=>[.string (strOf p)],by simp,by
  induction l with
  | nil=>rfl
  | cons p r ih=>simp only [List.map_cons,List.flatten_cons,<-ih];rfl,by simp,fun i x c hx hc=>by
  rw [List.getElem?_map,hx]at hc;simpa [TxtR,eq_comm]using hc⟩
theorem MpAt.keys{w:World}{b:Nat}{D:DataW Value}{L:FsL}(h:MpAt w b D L):(L.map Prod.fst).Perm (Go.strKeys D):=by
 have hc:Go.Collected D (fun _=>false) (L.map Prod.fst):=⟨h.nodup,fun x=>by
  cases hl:L.lookup x with
  | none=>
   have h1:=h.files.no x hl;have h2:=lookup_mem.1 hl;simp [h1,h2]
  | some y=>
   have h1:=(h.files.yes x y hl).1;have h2:x∈L.map Prod.fst:=Classical.byContradiction fun hn=>by rw [lookup_mem.2 hn]at hl;cases hl
   simp only [h1,h2];decide⟩
 exact hc.perm h.map (Maps.string_keyed Tryz.underlying9) Tryz.underlying9 (fun _=>rfl)
theorem orPathsNil(w:World):Calls Tryz.prog 11 #[.pointer none] w fun e w'=>e=.returned (.slice none 0 0)/\w=w':=by
 go_enter Tryz.func11,Tryz.ntmps11;go_wp2_with fail;go_ret;exact⟨rfl,rfl⟩
theorem orPaths(w:World)(ob b:Nat)(D:DataW Value)(L:FsL)(ho:OrSt w ob b D L):
  Calls Tryz.prog 11 #[.pointer (some ⟨ob,0,none⟩)] w fun e w'=>∃v,e=.returned v/\ListOwn w' w.heap.size 9 1 TxtR v (upTxt (L.map Prod.fst))/\Mod (fun _=>False) w w':=by
 have x0:w.cell? ⟨ob,0,none⟩=some (.map (some b)):=ho.blk.cell 0;have bl:=ho.blk.lt;have hk:=ho.mp.keys;have hsz:Maps.size D<=4000:=by rw [ho.mp.size];exact ho.mp.few
 have H0:=Lib.hid (And.intro ho hk);clear ho hk;refine(callsIn_wide (n:=6)).1 ?_;have hfK:Fence.wide.fn 37:=trivial;have hfS:Fence.wide.fn 36:=trivial;refine callsIn_of_wp Tryz.func11 rfl trivial ?_ rfl;simp only [Tryz.ntmps11,List.size_toArray,List.length_cons,List.length_nil,Nat.reduceAdd,Nat.reduceSub,Array.replicate_succ,Array.replicate_zero,List.push_toArray,List.append_toArray,List.nil_append,List.cons_append]
 gi_wp2_with (first
  | (gi_at_call 37;refine(Tryz.maps_Keys_F _ _).mono ?_;rintro e w' ⟨rfl,rfl⟩)
  | (gi_at_call 36;refine(Tryz.slices_Sorted_keys_F b L.length D fR w H0.out.1.mp.map (by unfold maxLen;omega) (by omega)).mono ?_;rintro e w' ⟨v,ss,rfl,hS,hrow,hnil,hb⟩))
 go_ret;have hp:ss.Perm (L.map Prod.fst):=hS.trans H0.out.2.symm;have e:ss.mergeSort (fun x y=>decide (x<=y))=upTxt (L.map Prod.fst):=Go.mergeSort_of_perm hp;rw [e]at hrow;refine⟨v,rfl,⟨_,?_,txts_of⟩,Mod.of_below (((Below.refl _ w).alloc (Nat.le_refl _) _).trans (hb.mono (by simp))) _⟩;rw [upTxt_length,List.length_map];have hlen:ss.length=L.length:=by rw [hp.length_eq,List.length_map]
 rw [hlen]at hrow;exact ownsRow_base_a hrow (by simp)
def d16:Dim:=⟨16,16,8,8,256,64⟩
theorem d16_ok:d16.Ok:=⟨by decide,by decide,by decide,by decide,by decide,by decide,by decide⟩
def grey:Pix:=blankPix d16 128
theorem out_len{d:Dim}{G tg q:Nat}{fs:List Pix}(hW:d.W<=16)(hH:d.H<=16)(hq:q<=31)(hG:1<=G/\G<=64)(k:Nat):5<=(outSt d G tg q fs k).1.length/\(outSt d G tg q fs k).1.length<=17000:=by
 have hq':=encSt_q (d:=d) (G:=G) (tg:=tg) (fs:=fs) hq k;have hk:k % G<64:=Nat.lt_of_lt_of_le (Nat.mod_lt _ (by omega)) hG.2;have h0:=hdrB_len (k % G) hk (encSt d G tg q fs k).1 (by omega);have h1:=erows_len (d:=d) (fr:=fs.getD k noPix) (ahd:=(encSt d G tg q fs k).2) (K:=k % G == 0) (Q:=((encSt d G tg q fs k).1:Int)) (by omega) (d.H/16) (blankPix d 0,es0);have h3:d.H/16*(d.W/16*16500)<=1*(1*16500):=Nat.mul_le_mul (by omega) (Nat.mul_le_mul (by omega) (Nat.le_refl _));have h4:es0.code.length=4:=rfl;have h5:(outSt d G tg q fs k).1.length=(hdrB (k % G == 0) (k % G) (encSt d G tg q fs k).1).length+(ecode d (fs.getD k noPix) (encSt d G tg q fs k).2 (k % G == 0) ((encSt d G tg q fs k).1:Int)).2.code.length:=by
  unfold outSt eframe;rw [List.length_append]
 unfold ecode at h5;dsimp only at h1;omega
def kHi19:Str:=[104,105]
def seg3(a b c:List UInt8 × Pix):List SegL:=[[a,b],[c]]
theorem segs3(d:Dim)(tg q:Nat)(fs:List Pix)(hl:fs.length=3):segsOf d 2 tg q fs=seg3 (outSt d 2 tg q fs 0) (outSt d 2 tg q fs 1) (outSt d 2 tg q fs 2):=by
 unfold segsOf segOf segN segLen seg3;rw [hl];rfl
def m3(a b c:List UInt8 × Pix):MadeX:=⟨⟨kHi19,0,5,0⟩,2,d16,seg3 a b c⟩
def S1(a:List UInt8 × Pix):Prop:=1<=a.1.length/\a.1.length<=17000
section
variable {a b c : List UInt8 × Pix}
theorem two_media(i f:Nat)(hi:i<1024)(hf:f<1024)(ha:S1 a)(hb:S1 b):mediaB (i:Int) (f:Int) [a.1,b.1]=true:=by
 unfold S1 at ha hb;unfold mediaB numsB lensB sumLen;simp;omega
theorem one_media(i f:Nat)(hi:i<1024)(hf:f<1024)(ha:S1 a):mediaB (i:Int) (f:Int) [a.1]=true:=by
 unfold S1 at ha;unfold mediaB numsB lensB sumLen;simp;omega
theorem m3_ok(ha:S1 a)(hb:S1 b)(hc:S1 c):(m3 a b c).okB 30 1=true:=by
 refine pkB_yes (by show initB kHi19 16 16 2 30 1=true;decide) ?_;show(List.range 2).all (pkMediaB (seg3 a b c))=true;rw [List.all_eq_true];intro i hi;have:i=0\/i=1:=by have:=List.mem_range.1 hi;omega
 rcases this with rfl|rfl
 ·exact two_media 0 0 (by omega) (by omega) ha hb
 ·exact one_media 1 2 (by omega) (by omega) hc
theorem dec_1{n:Nat}(h:n<10):Lib.decDigits n=[UInt8.ofNat (48+n)]:=by
 rw [Lib.decDigits,dif_pos h]
theorem path0:pkPath kHi19 0=[104,105,47,48]:=by
 show kHi19++47 :: Lib.decDigits 0=_;rw [dec_1 (by decide)];rfl
theorem path1:pkPath kHi19 1=[104,105,47,49]:=by
 show kHi19++47 :: Lib.decDigits 1=_;rw [dec_1 (by decide)];rfl
theorem m0_len(i f:Nat)(ha:S1 a)(hb:S1 b):(mediaFile i f [a.1,b.1]).length=56+(a.1.length+b.1.length):=by
 unfold S1 at ha hb;have e:sumLen [a.1,b.1]=a.1.length+b.1.length:=by simp [sumLen]
 rw [mediaFile_len (by show 2<=64;omega) (by omega),e];rfl
theorem m1_len(i f:Nat)(ha:S1 a):(mediaFile i f [a.1]).length=52+a.1.length:=by
 unfold S1 at ha;have e:sumLen [a.1]=a.1.length:=by simp [sumLen]
 rw [mediaFile_len (by show 1<=64;omega) (by omega),e];rfl
def k3(a b c:List UInt8 × Pix):Ls:=
 ⟨kHi19,16,16,max (bandB 30 1 (seg3 a b c):Int) 1,⟨0,((initFile kHi19 16 16 2 30 1).length:Int),[104,105,47,105,110,105,116]⟩,
  [⟨2,((mediaFile 0 0 [a.1,b.1]).length:Int),[104,105,47,48]⟩,⟨1,((mediaFile 1 2 [c.1]).length:Int),[104,105,47,49]⟩]⟩
theorem m3_listed:(m3 a b c).listed 30 1=k3 a b c:=by
 show pkListed kHi19 16 16 2 30 1 (seg3 a b c)=_;unfold pkListed k3;have e:pkPieces kHi19 (seg3 a b c) (seg3 a b c).length=[⟨2,((mediaFile 0 0 [a.1,b.1]).length:Int),[104,105,47,48]⟩,⟨1,((mediaFile 1 2 [c.1]).length:Int),[104,105,47,49]⟩]:=by
  show [pkPiece kHi19 (seg3 a b c) 0,pkPiece kHi19 (seg3 a b c) 1]=_;unfold pkPiece;rw [path0,path1];rfl
 rw [e];rfl
theorem m3_files:(m3 a b c).files 30 1=[([104,105,47,105,110,105,116],initFile kHi19 16 16 2 30 1),([104,105,47,48],mediaFile 0 0 [a.1,b.1]),([104,105,47,49],mediaFile 1 2 [c.1])]:=by
 show pkFiles kHi19 16 16 2 30 1 (seg3 a b c) 2=_;show [(kHi19++kSInit,initFile kHi19 16 16 2 30 1),(pkPath kHi19 0,pkMedia (seg3 a b c) 0),(pkPath kHi19 1,pkMedia (seg3 a b c) 1)]=_;rw [path0,path1];rfl
theorem band3(ha:S1 a)(hb:S1 b)(hc:S1 c):bandB 30 1 (seg3 a b c)<=1099511627776:=by
 unfold S1 at ha hb hc;have e:bandB 30 1 (seg3 a b c)=max (max 0 (((a.1.length+b.1.length)*30+2*1-1)/(2*1))) ((c.1.length*30+1*1-1)/(1*1)):=by
  show bwTo 30 1 (seg3 a b c)=_;show max (max 0 (bwSeg 30 1 [a.1,b.1])) (bwSeg 30 1 [c.1])=_;unfold bwSeg sumLen;simp
 rw [e];omega
theorem init3:1<=(initFile kHi19 16 16 2 30 1).length/\(initFile kHi19 16 16 2 30 1).length<=1048576:=by
 have h:=seqBy_le (W:=16) (H:=16) (G:=2) (by omega) (by omega) (by omega);rw [initFile_len (by decide) h];have:kHi19.length=2:=rfl;omega
theorem k3_right(ha:S1 a)(hb:S1 b)(hc:S1 c):mfRightB ⟨30,1,[k3 a b c]⟩=true:=by
 have h1:=band3 ha hb hc;have h2:=init3;have h3:=m0_len 0 0 ha hb;have h4:=m1_len 1 2 hc;unfold S1 at ha hb hc;have p0:listedB (k3 a b c)=true:=by
  unfold listedB pieceB framesL k3;simp only [Bool.and_eq_true,decide_eq_true_eq,List.all_cons,List.all_nil,List.map_cons,List.map_nil,List.sum_cons,List.sum_nil,List.length_cons,List.length_nil];refine⟨⟨⟨⟨⟨⟨by decide,by decide⟩,by decide⟩,by omega⟩,⟨by omega,by decide⟩⟩,⟨⟨by omega,by decide⟩,⟨by omega,by decide⟩,trivial⟩⟩,by omega⟩
 unfold mfRightB;simp only [List.all_cons,List.all_nil,p0];rfl
theorem k3_pub(ha:S1 a)(hb:S1 b)(hc:S1 c):∃t,pubO [] [m3 a b c] 30 1=.ok [([104,105,47,105,110,105,116],initFile kHi19 16 16 2 30 1),([104,105,47,48],mediaFile 0 0 [a.1,b.1]),([104,105,47,49],mediaFile 1 2 [c.1]),(kList,t)]/\t.take 8=[107,105,110,111,114,97,32,49]/\9<=t.length:=by
 have hr:=k3_right ha hb hc;have e1:pubMf [m3 a b c] 30 1=⟨30,1,[k3 a b c]⟩:=by unfold pubMf;rw [List.map_cons,m3_listed];rfl
 have h2:=init3;have h3:=m0_len 0 0 ha hb;have h4:=m1_len 1 2 hc;have h5:=headL_len hr;have h6:=rends_len hr 1;have ht:writeL ⟨30,1,[k3 a b c]⟩=[107,105,110,111,114,97,32,49,10]++(lineL [kScale,dec 30,kTick,dec 1]++([k3 a b c].flatMap textR++lineL [kEnd])):=by
  rw [writeL_eq];unfold headL;rw [List.append_assoc,List.append_assoc];rfl
 have hl:(writeL ⟨30,1,[k3 a b c]⟩).length<=1048576:=by
  rw [writeL_eq,List.length_append,List.length_append];have e:(lineL [kEnd]).length=4:=rfl;have e2:([k3 a b c].take 1)=[k3 a b c]:=rfl;dsimp only at h6 ⊢;rw [e2]at h6;omega
 have hl2:9<=(writeL ⟨30,1,[k3 a b c]⟩).length:=by rw [ht,List.length_append];show 9<=9+_;omega
 unfold S1 at ha hb hc;refine⟨writeL ⟨30,1,[k3 a b c]⟩,?_,by rw [ht];rfl,hl2⟩;unfold pubO;rw [e1,hr];have ho:[m3 a b c].all (fun m=>m.okB 30 1)=true:=by rw [List.all_cons,m3_ok ha hb hc];rfl
 rw [ho,if_pos rfl,if_pos rfl];unfold pubAll;rw [e1];have hf:pubFiles [m3 a b c] 30 1=(m3 a b c).files 30 1:=by unfold pubFiles;rw [List.flatMap_cons];simp
 rw [hf,m3_files];generalize initFile kHi19 16 16 2 30 1=t0 at *;generalize mediaFile 0 0 [a.1,b.1]=t1 at *;generalize mediaFile 1 2 [c.1]=t2 at *;generalize writeL ⟨30,1,[k3 a b c]⟩=t3 at *;have q (L:FsL) (p l:List UInt8) (hp:pathB p=true) (hl:1<=l.length/\l.length<=1048576) (hn:L.lookup p=none) (h4:L.length<4000):putL L p l=some (L++[(p,l)]):=by
  unfold putL;rw [hp,decide_eq_true hl,hn,decide_eq_true h4];rfl
 have e5:putsL [] [([104,105,47,105,110,105,116],t0),([104,105,47,48],t1),([104,105,47,49],t2),(kList,t3)]=some [([104,105,47,105,110,105,116],t0),([104,105,47,48],t1),([104,105,47,49],t2),(kList,t3)]:=by
  unfold putsL;rw [q [] _ t0 (by decide) (by omega) rfl (by decide)];unfold putsL;dsimp only [Option.bind_some,List.nil_append];rw [q _ _ t1 (by decide) (by omega) rfl (by simp)];unfold putsL;dsimp only [Option.bind_some,List.cons_append,List.nil_append];rw [q _ _ t2 (by decide) (by omega) rfl (by simp)];unfold putsL;dsimp only [Option.bind_some,List.cons_append,List.nil_append];rw [q _ _ t3 (by decide) (by omega) rfl (by simp)];rfl
 have e6:([([104,105,47,105,110,105,116],t0),([104,105,47,48],t1),([104,105,47,49],t2)]++[(kList,t3)]:FsL)=[([104,105,47,105,110,105,116],t0),([104,105,47,48],t1),([104,105,47,49],t2),(kList,t3)]:=rfl;rw [e6,e5]
end
def frx16(gy gu gv:Nat):FrX:=FrX.mk 16 16 (some ⟨gy,0,none⟩) 256 256 8 8 (some ⟨gu,0,none⟩) 64 64 8 8 (some ⟨gv,0,none⟩) 64 64 grey.Y grey.U grey.V
theorem frx16_in{w:World}{gy gu gv:Nat}(hf:FrameAt w d16 gy gu gv grey):(frx16 gy gu gv).In w:=
 ⟨blkIn hf.by_ hf.ly d16_ok.nyle,blkIn hf.bu hf.lu d16_ok.ncle,blkIn hf.bv hf.lv d16_ok.ncle,Nat.le_refl _,Nat.le_refl _,Nat.le_refl _,(by decide:256<=9223372036854775807),(by decide:64<=9223372036854775807),(by decide:64<=9223372036854775807)⟩
theorem frs16{w:World}{gy gu gv fb:Nat}(hf:FrameAt w d16 gy gu gv grey)(hb:Blk w fb 110 #[.int .i64 16,.int .i64 16,.slice (some ⟨gy,0,none⟩) 256 256,.int .i64 8,.int .i64 8,.slice (some ⟨gu,0,none⟩) 64 64,.int .i64 8,.int .i64 8,.slice (some ⟨gv,0,none⟩) 64 64,.int .i64 16,.int .i64 16,.slice (some ⟨gy,0,none⟩) 256 256,.int .i64 8,.int .i64 8,.slice (some ⟨gu,0,none⟩) 64 64,.int .i64 8,.int .i64 8,.slice (some ⟨gv,0,none⟩) 64 64,.int .i64 16,.int .i64 16,.slice (some ⟨gy,0,none⟩) 256 256,.int .i64 8,.int .i64 8,.slice (some ⟨gu,0,none⟩) 64 64,.int .i64 8,.int .i64 8,.slice (some ⟨gv,0,none⟩) 64 64]):FrsIn w (some ⟨fb,0,none⟩) 3 [frx16 gy gu gv,frx16 gy gu gv,frx16 gy gu gv]:=by
 refine⟨rfl,fun i hi=>⟨fb,0,rfl,hb.lt,fun j v hv=>?_,?_⟩⟩
 ·have h3:i=0\/i=1\/i=2:=by omega
  have hj:j<9:=(List.getElem?_eq_some_iff.1 hv).1;have h9:j=0\/j=1\/j=2\/j=3\/j=4\/j=5\/j=6\/j=7\/j=8:=by omega
  rcases h3 with rfl|rfl|rfl<;>rcases h9 with rfl|rfl|rfl|rfl|rfl|rfl|rfl|rfl|rfl<;>exact(hb.cell _).trans hv
 ·have h3:i=0\/i=1\/i=2:=by omega
  rcases h3 with rfl|rfl|rfl<;>exact frx16_in hf
def rung19:List Rg:=[⟨kHi19,0,5,0⟩]
theorem rgs19{w:World}{rb:Nat}(hb:Blk w rb 68 #[.string ⟨#[104,105]⟩,.int .i64 0,.int .i64 5,.int .i64 0]):RgsIn w (some ⟨rb,0,none⟩) 1 1 rung19:=by
 refine⟨rfl,Nat.le_refl _,fun i=>?_,fun i hi=>⟨rb,0,rfl,hb.lt,fun j v hv=>?_⟩⟩
 ·by_cases h:i=0
  ·subst h;decide
  ·rw [List.getD_eq_getElem?_getD,List.getElem?_eq_none (show rung19.length<=i by show 1<=i;omega)];decide
 ·obtain rfl:i=0:=by omega
  have hj:j<4:=(List.getElem?_eq_some_iff.1 hv).1;have h4:j=0\/j=1\/j=2\/j=3:=by omega
  rcases h4 with rfl|rfl|rfl|rfl<;>exact(hb.cell _).trans hv
theorem make19(gy gu gv:Nat):makeB [frx16 gy gu gv,frx16 gy gu gv,frx16 gy gu gv] 2 rung19=true:=by kernel_rfl
theorem made19(gy gu gv:Nat):∃a b c,S1 a/\S1 b/\S1 c/\rung19.map (madeX [frx16 gy gu gv,frx16 gy gu gv,frx16 gy gu gv] 2)=[m3 a b c]:=by
 obtain⟨ps,hps⟩:∃ps,ps=([frx16 gy gu gv,frx16 gy gu gv,frx16 gy gu gv].map fun f=>downsPix (dim0 [frx16 gy gu gv,frx16 gy gu gv,frx16 gy gu gv]) f.pix 0):=⟨_,rfl⟩
 have hl:ps.length=3:=by rw [hps];rfl
 have hd:dim0 [frx16 gy gu gv,frx16 gy gu gv,frx16 gy gu gv]=d16:=by kernel_rfl
 have hs:=segs3 d16 0 5 ps hl;have hq (k:Nat):=out_len (d:=d16) (G:=2) (tg:=0) (q:=5) (fs:=ps) (by decide) (by decide) (by decide) (by decide) k;refine⟨_,_,_,⟨by have:=(hq 0).1;omega,(hq 0).2⟩,⟨by have:=(hq 1).1;omega,(hq 1).2⟩,⟨by have:=(hq 2).1;omega,(hq 2).2⟩,?_⟩;unfold m3;rw [<-hs,hps,hd];unfold rung19 madeX;rw [List.map_cons,List.map_nil,hd];rfl
theorem serve19{t:Str}{x1 x2 x3:Str}(h1:t.take 8=[107,105,110,111,114,97,32,49])(h2:9<=t.length):
  svR (fun q=>([([104,105,47,105,110,105,116],x1),([104,105,47,48],x2),([104,105,47,49],x3),(kList,t)]:FsL).lookup q) 7 kList 7 8=(1,7,(t.length:Int),[49]):=by
 have hf:([([104,105,47,105,110,105,116],x1),([104,105,47,48],x2),([104,105,47,49],x3),(kList,t)]:FsL).lookup kList=some t:=rfl;have hr:rangeOk t.length 7 8=true:=by
  unfold rangeOk;rw [show decide ((7:Int)<0)=false from rfl,show decide ((t.length:Int)<7)=false from decide_eq_false (by omega)];rfl
 have hl:rangeL t 7 8=[49]:=by
  unfold rangeL rangeEnd;rw [if_neg (by omega)];have e:=congrArg (List.drop 7) h1;rw [List.drop_take]at e;exact e
 unfold svR;rw [if_neg (by decide)];dsimp only;rw [hf];dsimp only;rw [hr,if_pos rfl,hl]
theorem alive19(w:World)(he:EnvP w)(hv:EnvW w):Calls Tryz.prog 10 #[] w fun e w'=>e=.returned (.bool true)/\Mod (fun _=>False) w w':=by
 have HE0:=Lib.hid (And.intro he hv);clear he hv;go_enter Tryz.func10,Tryz.ntmps10;go_wp2_with fail;refine(orNew w).mono ?_;rintro e w0 ⟨ob,b,rfl,ho,hob,hbb,hm0⟩;have H0:=Lib.hid (And.intro ho (And.intro hob hm0));clear ho hob hbb hm0;go_wp2_with fail;refine(pBlank _ d16 d16_ok 128).mono ?_;rintro e w1 ⟨p,rfl,⟨gy,gu,gv,rfl,hf,_,_,_⟩,hm1⟩;have hf':FrameAt w1 d16 gy gu gv grey:=hf;have H1:=Lib.hid (And.intro hf' hm1);clear hf hf' hm1;unfold frameV d16;go_upto_region 5 with(fail)
 have hb2:=Blk.new w1 110 #[.int .i64 16,.int .i64 16,.slice (some ⟨gy,0,none⟩) 256 256,.int .i64 8,.int .i64 8,.slice (some ⟨gu,0,none⟩) 64 64,.int .i64 8,.int .i64 8,.slice (some ⟨gv,0,none⟩) 64 64];have hma:Mod (fun _=>False) w1 (w1.alloc (.cells #[.int .i64 16,.int .i64 16,.slice (some ⟨gy,0,none⟩) 256 256,.int .i64 8,.int .i64 8,.slice (some ⟨gu,0,none⟩) 64 64,.int .i64 8,.int .i64 8,.slice (some ⟨gv,0,none⟩) 64 64] 110)):=(Mod.refl _ w1).alloc _;obtain⟨fx,hfx⟩:∃b,b=w1.heap.size:=⟨_,rfl⟩
 rw [<-hfx]at hb2 ⊢;clear hfx;generalize w1.alloc (.cells #[.int .i64 16,.int .i64 16,.slice (some ⟨gy,0,none⟩) 256 256,.int .i64 8,.int .i64 8,.slice (some ⟨gu,0,none⟩) 64 64,.int .i64 8,.int .i64 8,.slice (some ⟨gv,0,none⟩) 64 64] 110)=w2 at hb2 hma ⊢;obtain⟨fc,_⟩:=hb2.both;have fl:=hb2.lt;have H2:=Lib.hid (And.intro (H1.out.1.quiet hma) (And.intro ((H0.out.1.quiet H1.out.2).quiet hma) (H0.out.2.2.trans (H1.out.2.trans hma))));clear hb2 hma;go_wp2_with fail;have hb3:=Blk.new w2 110 #[.int .i64 16,.int .i64 16,.slice (some ⟨gy,0,none⟩) 256 256,.int .i64 8,.int .i64 8,.slice (some ⟨gu,0,none⟩) 64 64,.int .i64 8,.int .i64 8,.slice (some ⟨gv,0,none⟩) 64 64,.int .i64 16,.int .i64 16,.slice (some ⟨gy,0,none⟩) 256 256,.int .i64 8,.int .i64 8,.slice (some ⟨gu,0,none⟩) 64 64,.int .i64 8,.int .i64 8,.slice (some ⟨gv,0,none⟩) 64 64,.int .i64 16,.int .i64 16,.slice (some ⟨gy,0,none⟩) 256 256,.int .i64 8,.int .i64 8,.slice (some ⟨gu,0,none⟩) 64 64,.int .i64 8,.int .i64 8,.slice (some ⟨gv,0,none⟩) 64 64];have hm3:Mod (fun _=>False) w2 (w2.alloc (.cells #[.int .i64 16,.int .i64 16,.slice (some ⟨gy,0,none⟩) 256 256,.int .i64 8,.int .i64 8,.slice (some ⟨gu,0,none⟩) 64 64,.int .i64 8,.int .i64 8,.slice (some ⟨gv,0,none⟩) 64 64,.int .i64 16,.int .i64 16,.slice (some ⟨gy,0,none⟩) 256 256,.int .i64 8,.int .i64 8,.slice (some ⟨gu,0,none⟩) 64 64,.int .i64 8,.int .i64 8,.slice (some ⟨gv,0,none⟩) 64 64,.int .i64 16,.int .i64 16,.slice (some ⟨gy,0,none⟩) 256 256,.int .i64 8,.int .i64 8,.slice (some ⟨gu,0,none⟩) 64 64,.int .i64 8,.int .i64 8,.slice (some ⟨gv,0,none⟩) 64 64] 110)):=(Mod.refl _ w2).alloc _;have hb4:=Blk.new (w2.alloc (.cells #[.int .i64 16,.int .i64 16,.slice (some ⟨gy,0,none⟩) 256 256,.int .i64 8,.int .i64 8,.slice (some ⟨gu,0,none⟩) 64 64,.int .i64 8,.int .i64 8,.slice (some ⟨gv,0,none⟩) 64 64,.int .i64 16,.int .i64 16,.slice (some ⟨gy,0,none⟩) 256 256,.int .i64 8,.int .i64 8,.slice (some ⟨gu,0,none⟩) 64 64,.int .i64 8,.int .i64 8,.slice (some ⟨gv,0,none⟩) 64 64,.int .i64 16,.int .i64 16,.slice (some ⟨gy,0,none⟩) 256 256,.int .i64 8,.int .i64 8,.slice (some ⟨gu,0,none⟩) 64 64,.int .i64 8,.int .i64 8,.slice (some ⟨gv,0,none⟩) 64 64] 110)) 68 #[.string ⟨#[104,105]⟩,.int .i64 0,.int .i64 5,.int .i64 0];have hm4:Mod (fun _=>False) (w2.alloc (.cells #[.int .i64 16,.int .i64 16,.slice (some ⟨gy,0,none⟩) 256 256,.int .i64 8,.int .i64 8,.slice (some ⟨gu,0,none⟩) 64 64,.int .i64 8,.int .i64 8,.slice (some ⟨gv,0,none⟩) 64 64,.int .i64 16,.int .i64 16,.slice (some ⟨gy,0,none⟩) 256 256,.int .i64 8,.int .i64 8,.slice (some ⟨gu,0,none⟩) 64 64,.int .i64 8,.int .i64 8,.slice (some ⟨gv,0,none⟩) 64 64,.int .i64 16,.int .i64 16,.slice (some ⟨gy,0,none⟩) 256 256,.int .i64 8,.int .i64 8,.slice (some ⟨gu,0,none⟩) 64 64,.int .i64 8,.int .i64 8,.slice (some ⟨gv,0,none⟩) 64 64] 110)) ((w2.alloc (.cells #[.int .i64 16,.int .i64 16,.slice (some ⟨gy,0,none⟩) 256 256,.int .i64 8,.int .i64 8,.slice (some ⟨gu,0,none⟩) 64 64,.int .i64 8,.int .i64 8,.slice (some ⟨gv,0,none⟩) 64 64,.int .i64 16,.int .i64 16,.slice (some ⟨gy,0,none⟩) 256 256,.int .i64 8,.int .i64 8,.slice (some ⟨gu,0,none⟩) 64 64,.int .i64 8,.int .i64 8,.slice (some ⟨gv,0,none⟩) 64 64,.int .i64 16,.int .i64 16,.slice (some ⟨gy,0,none⟩) 256 256,.int .i64 8,.int .i64 8,.slice (some ⟨gu,0,none⟩) 64 64,.int .i64 8,.int .i64 8,.slice (some ⟨gv,0,none⟩) 64 64] 110)).alloc (.cells #[.string ⟨#[104,105]⟩,.int .i64 0,.int .i64 5,.int .i64 0] 68)):=(Mod.refl _ _).alloc _;have hM:=H2.out.2.2.trans (hm3.trans hm4);have hM2:=hm3.trans hm4;rw [World.size_alloc]at hb4;refine(orPublish _ (HE0.out.1.quiet hM) (HE0.out.2.quiet hM) ob b _ _ (H2.out.2.1.quiet hM2) (some ⟨w2.heap.size,0,none⟩) 3 3 [frx16 gy gu gv,frx16 gy gu gv,frx16 gy gu gv] (frs16 (H2.out.1.quiet hM2) (hb3.keep hm4 (fun h=>h))) (Nat.le_refl _) (by decide) 2 (some ⟨w2.heap.size+1,0,none⟩) 1 1 rung19 (rgs19 hb4) (by decide) (show(16:Int)<=64 by decide) (show(16:Int)<=64 by decide) 30 1).mono ?_;rintro e w5 hpost;obtain⟨a3,b3,c3,s1,s2,s3,hmd⟩:=made19 gy gu gv;obtain⟨t,hpo,ht8,ht9⟩:=k3_pub s1 s2 s3;unfold PubPost at hpost;rw [hmd,if_pos (make19 gy gu gv),hpo]at hpost;rcases hpost with⟨x,hx,_⟩|⟨L',A,n,k,v,b',D',_,hL,rfl,hMf,_,hoS,_,hm5⟩
 ·cases hx
 injection hL with hL;subst hL;have hrl:=hMf.rs.len;have hn1:n=1:=by rw [<-hrl];rfl
 subst hn1;obtain⟨rb,ro,A',n',c',hA,hrb,hls⟩:=hMf.rs.at_ 0 _ (show(pubMf [m3 a3 b3 c3] 30 1).rends[0]?=some (k3 a3 b3 c3)by unfold pubMf;rw [List.map_cons,m3_listed];rfl);have hn2:n'=2:=by rw [<-hls.pcs.len];rfl
 subst hA hn2;have kp:=hls.cells 7 _ rfl;have hobw:w.heap.size<=ob:=H0.out.2.1;have H5:=Lib.hid (And.intro hoS (And.intro kp (And.intro hrb (And.intro (hM.into hm5 (fun i e=>.inr (e▸hobw))) (And.intro ht8 ht9)))));clear hMf hoS hm5 hM hM2 hb3 hm3 hb4 hm4 hls kp hrb hpo ht8 ht9 hmd s1 s2 s3 fc fl hrl hobw H2 H1;unfold mfV pubMf;dsimp only [];have hb6:=Blk.new w5 59 #[.int .i64 30,.int .i64 1,.slice (some ⟨rb,ro,none⟩) 1 k];have hma:Mod (fun _=>False) w5 (w5.alloc (.cells #[.int .i64 30,.int .i64 1,.slice (some ⟨rb,ro,none⟩) 1 k] 59)):=(Mod.refl _ w5).alloc _;have H6:=Lib.hid (And.intro (H5.out.1.quiet hma) (And.intro hma hb6));clear hma hb6;go_upto_region 6 with(fail)
 obtain⟨mb,hmb⟩:∃b,b=w5.heap.size:=⟨_,rfl⟩
 rw [<-hmb]at H6 ⊢;clear hmb;generalize w5.alloc (.cells #[.int .i64 30,.int .i64 1,.slice (some ⟨rb,ro,none⟩) 1 k] 59)=w6 at *;go_wp2_with fail;refine(orServe w6 ob b' _ D' _ H6.out.1.org 7 kList (by decide) 7 8).mono ?_;rw [serve19 H5.out.2.2.2.2.1 H5.out.2.2.2.2.2];rintro e w7 ⟨hm7,u,rfl,hu⟩;obtain⟨Au,cu,hue⟩:=own_shape hu;subst hue;unfold rsV;dsimp only [];rw [show([49]:List UInt8).length=1 from rfl];have hu7:=hu;have hb8:=Blk.new w7 33 #[.int .i64 7,.int .i64 1,.int .i64 7,.int .i64 (t.length:Int),.slice Au 1 cu];have hma:Mod (fun _=>False) w7 (w7.alloc (.cells #[.int .i64 7,.int .i64 1,.int .i64 7,.int .i64 (t.length:Int),.slice Au 1 cu] 33)):=(Mod.refl _ w7).alloc _;have H8:=Lib.hid (And.intro ((H6.out.1.quiet hm7).quiet hma) (And.intro (hu.quiet hma) (And.intro (hm7.trans hma) (And.intro hb8 (H6.out.2.2.keep (hm7.trans hma) (fun h=>h))))));clear hma hb8 hu hu7 hm7;go_upto_region 7 with(fail)
 obtain⟨sb,hsb⟩:∃b,b=w7.heap.size:=⟨_,rfl⟩
 rw [<-hsb]at H8 ⊢;clear hsb;generalize w7.alloc (.cells #[.int .i64 7,.int .i64 1,.int .i64 7,.int .i64 (t.length:Int),.slice Au 1 cu] 33)=w8 at *;go_wp2_with fail;refine(orPaths w8 ob b' D' _ H8.out.1).mono ?_;rintro e w9 ⟨v9,rfl,hl9,hm9⟩;obtain⟨A9,c9,hv9⟩:=hl9.shape;rw [upTxt_length,List.length_map]at hv9;have hv9:v9=.slice A9 4 c9:=hv9;subst hv9;have hmb9:=H8.out.2.2.2.2.keep hm9 (fun h=>h);have hsb9:=H8.out.2.2.2.1.keep hm9 (fun h=>h);have kc:w9.cell? ⟨rb,ro+7,none⟩=some (.slice A' 2 c'):=by
  have h1:=H5.out.2.1;rw [show ro+0*8+7=ro+7 by omega]at h1;exact(World.cell?_of_block (a:=⟨rb,ro+7,none⟩) ((H6.out.2.1.trans (H8.out.2.2.1.trans hm9)).block rb H5.out.2.2.1 (fun h=>h))).trans h1
 have hst:(convert 22 9 (.slice Au 1 cu)).run Tryz.prog w9=.ok (.string ⟨#[49]⟩) w9:=str_bytes (H8.out.2.1.quiet hm9);have HM:=Lib.hid (H5.out.2.2.2.1.trans (H6.out.2.1.trans (H8.out.2.2.1.trans hm9)));have c1:=hmb9.both.1;have c2:=hsb9.both.1;have l1:=hmb9.lt;have l2:=hsb9.lt;clear hl9 hm9 hmb9 hsb9;go_wp2_with fail;go_ret;exact⟨rfl,HM.out⟩
end Go.Proofs.YtnnpoodcdibpiaaGreatDoor
namespace Go.Proofs.YtnnpoodcdibpiaaGreatDoor
open Go.RowKit Go.ChangeShapes Go.WideShapes Go.ChangeAt Go.Joins
set_option maxRecDepth 100000
set_option maxHeartbeats 8000000
section
variable {H : Type} {enc : TypeId × Value → H} {w : World} {base : Nat} {held : Bool}
theorem u8_back(zs:List Int)(h:∀n∈zs,(Lit.int .u8 n).wf=true):u8s (zs.map fun n=>UInt8.ofNat n.toNat)=zs.map (Value.int .u8):=by
 unfold u8s;rw [List.map_map];refine List.map_congr_left fun n hn=>?_;have hb:=bounds_u8 (h n hn);have e:((UInt8.ofNat n.toNat).toNat:Int)=n:=by
  rw [UInt8.toNat_ofNat',Nat.mod_eq_of_lt (by omega)];omega
 simp only [Function.comp,e]
theorem bytes_form{fuel:Nat}{v:Value}{x:DataW H × List MemPlace}(h:DataW.trod enc Tryz.prog w base (fun _=>true) held fuel 22 [v]=some x):
  ∃(A:Option Addr) (n c:Nat) (l:List UInt8),v=.slice A n c/\n<=maxLen/\BytesIn w A n c l:=by
 rcases open_ints Tryz.underlying22 Tryz.underlying5 (by kernel_rfl) h with⟨hcs,_⟩|⟨a,n,c,zs,hcs,_,hl,hm,hz,_,hcell,hwz⟩
 ·injection hcs with hcs;exact⟨none,0,0,[],hcs,by decide,rfl,fun _=>rfl,Src.nil,fun h0=>absurd h0 (by omega)⟩
 ·injection hcs with hcs;have hz':zs.length=c:=by simpa using hz
  have hb:=u8_back (zs.take n) (fun m hm=>hwz m (List.mem_of_mem_take hm));refine⟨some a,n,c,(zs.take n).map fun m=>UInt8.ofNat m.toNat,hcs,by omega,?_,(fun h=>by cases h),?_,fun h0 ad e=>?_⟩
  ·simp;omega
  ·rw [hb];refine⟨by simp;omega,(fun h=>by cases h),fun ad e j u hu=>?_⟩;injection e with e;subst e;have hj:j<n:=by
    have:=(List.getElem?_eq_some_iff.1 hu).1;simp at this;omega
   have:=hcell j (by omega);rw [this,<-hu];simp [List.getD_eq_getElem?_getD,hj,show j<zs.length by omega]
  ·injection e with e;subst e;have:=World.block_lt_of_cell? w _ (hcell 0 (by omega));rwa [addr_block]at this
theorem bytes_cap{fuel:Nat}{A:Option Addr}{n c:Nat}{x:DataW H × List MemPlace}(h:DataW.trod enc Tryz.prog w base (fun _=>true) held fuel 22 [.slice A n c]=some x):n<=c:=by
 rcases open_ints Tryz.underlying22 Tryz.underlying5 (by kernel_rfl) h with⟨hcs,_⟩|⟨a,n',c',zs,hcs,_,hl,_⟩
 ·injection hcs with hcs;injection hcs with _ e2 e3;omega
 ·injection hcs with hcs;injection hcs with _ e2 e3;omega
theorem ints_form{fuel:Nat}{v:Value}{x:DataW H × List MemPlace}(h:DataW.trod enc Tryz.prog w base (fun _=>true) held fuel 23 [v]=some x):
  ∃(A:Option Addr) (n c:Nat) (l:List Int),v=.slice A n c/\n<=maxLen/\IntsIn w A n c l/\(∀x∈l,-9223372036854775808<=x/\x<=9223372036854775807):=by
 rcases open_ints Tryz.underlying23 Tryz.underlying3 (by kernel_rfl) h with⟨hcs,_⟩|⟨a,n,c,zs,hcs,_,hl,hm,hz,_,hcell,hwz⟩
 ·injection hcs with hcs;exact⟨none,0,0,[],hcs,by decide,⟨rfl,fun _=>rfl,Src.nil,fun h0=>absurd h0 (by omega)⟩,fun _ h=>by cases h⟩
 ·injection hcs with hcs;have hz':zs.length=c:=by simpa using hz
  refine⟨some a,n,c,zs.take n,hcs,by omega,⟨?_,(fun h=>by cases h),?_,fun h0 ad e=>?_⟩,fun x hx=>bounds_i64 (hwz x (List.mem_of_mem_take hx))⟩
  ·simp;omega
  ·refine⟨by simp [i64s];omega,(fun h=>by cases h),fun ad e j u hu=>?_⟩;injection e with e;subst e;have hj:j<n:=by
    have:=(List.getElem?_eq_some_iff.1 hu).1;simp [i64s]at this;omega
   have:=hcell j (by omega);rw [this,<-hu];simp [i64s,List.getD_eq_getElem?_getD,hj,show j<zs.length by omega]
  ·injection e with e;subst e;have:=World.block_lt_of_cell? w _ (hcell 0 (by omega));rwa [addr_block]at this
end
end Go.Proofs.YtnnpoodcdibpiaaGreatDoor
namespace Go.Proofs.YtnnpoodcdibpiaaGreatDoor
open Go.RowKit Go.ChangeShapes Go.WideShapes Go.ChangeAt Go.Joins Go.Deep
set_option maxRecDepth 100000
set_option maxHeartbeats 8000000
section
variable {H : Type} {enc : TypeId × Value → H} {w : World} {base : Nat} {held : Bool}
theorem cellsIN:Tryz.prog.cellsOf 3=1:=by kernel_rfl
theorem int_form{fuel:Nat}{v:Value}{x:DataW H × List MemPlace}(h:DataW.trod enc Tryz.prog w base (fun _=>true) held fuel 3 [v]=some x):∃n,v=.int .i64 n /\ -9223372036854775808<=n/\n<=9223372036854775807:=by
 obtain⟨n,e,_,hw⟩:=DataW.trod_int Tryz.underlying3 h;injection e with e;exact⟨n,e,bounds_i64 hw⟩
end
section
variable {H : Type} {enc : TypeId × Value → H} {w : World} {base : Nat} {held : Bool}
theorem rcellsS:Tryz.prog.cellsOf 9=1:=by kernel_rfl
theorem rstr_back(s:ByteArray):s=strOf s.data.toList:=by cases s;simp [strOf]
theorem rstr_at{fuel:Nat}{v:Value}{x:DataW H × List MemPlace}(h:DataW.trod enc Tryz.prog w base (fun _=>true) held fuel 9 [v]=some x):∃s:List UInt8,v=.string (strOf s)/\s.length<=9223372036854775807:=by
 obtain⟨s,e,_,hw⟩:=DataW.trod_string Tryz.underlying9 h;injection e with e;refine⟨s.data.toList,?_,?_⟩
 ·rw [e];exact congrArg Value.string (rstr_back s)
 ·have hz:s.data.toList.length=s.size:=Array.length_toList;unfold maxLen at hw;omega
end
structure ActX where
 kd:Int
 id:Int
 fr:Int
 tt:Int
 p:List UInt8
 A:Option Addr
 n:Nat
 c:Nat
 b:List UInt8
def ActX.cells(a:ActX):List Value:=[.int .i64 a.kd,.int .i64 a.id,.int .i64 a.fr,.int .i64 a.tt,.string (strOf a.p),.slice a.A a.n a.c]
def ActX.zero:ActX:=⟨0,0,0,0,[],none,0,0,[]⟩
structure ActX.In(w:World)(a:ActX):Prop where
 p:a.p.length<=9223372036854775807
 n:a.n<=9223372036854775807
 by_:BytesIn w a.A a.n a.c a.b
 i64:(-9223372036854775808<=a.fr/\a.fr<=9223372036854775807)/\(-9223372036854775808<=a.tt/\a.tt<=9223372036854775807)
section
variable {H : Type} {enc : TypeId × Value → H} {w : World} {base : Nat} {held : Bool}
theorem acellsB:Tryz.prog.cellsOf 22=1:=by kernel_rfl
theorem acellsA:Tryz.prog.cellsOf 44=6:=by kernel_rfl
theorem act_form{fuel:Nat}{cs:List Value}{x:DataW H × List MemPlace}(h:DataW.trod enc Tryz.prog w base (fun _=>true) held fuel 44 cs=some x):∃a:ActX,a.In w/\cs=a.cells:=by
 obtain⟨xs,n,_,_,hl,hxl,hf⟩:=DataW.trod_struct Tryz.underlying44 h;rw [acellsA]at hl;have g0:DataW.trod enc Tryz.prog w base (fun _=>true) held n 3 ((cs.drop 0).take (Tryz.prog.cellsOf 3))=xs[0]?:=hf 0 _ rfl;have g1:DataW.trod enc Tryz.prog w base (fun _=>true) held n 3 ((cs.drop 1).take (Tryz.prog.cellsOf 3))=xs[1]?:=hf 1 _ rfl;have g2:DataW.trod enc Tryz.prog w base (fun _=>true) held n 3 ((cs.drop 2).take (Tryz.prog.cellsOf 3))=xs[2]?:=hf 2 _ rfl;have g3:DataW.trod enc Tryz.prog w base (fun _=>true) held n 3 ((cs.drop 3).take (Tryz.prog.cellsOf 3))=xs[3]?:=hf 3 _ rfl;have g4:DataW.trod enc Tryz.prog w base (fun _=>true) held n 9 ((cs.drop 4).take (Tryz.prog.cellsOf 9))=xs[4]?:=hf 4 _ rfl;have g5:DataW.trod enc Tryz.prog w base (fun _=>true) held n 22 ((cs.drop 5).take (Tryz.prog.cellsOf 22))=xs[5]?:=hf 5 _ rfl;clear hf;rw [cellsIN]at g0 g1 g2 g3;rw [rcellsS]at g4;rw [acellsB]at g5;have hne:∀i,i<6->∃x,xs[i]?=some x:=fun i hi=>⟨_,List.getElem?_eq_getElem (by have:xs.length=6:=hxl;omega)⟩
 obtain⟨y0,e0⟩:=hne 0 (by omega);obtain⟨y1,e1⟩:=hne 1 (by omega);obtain⟨y2,e2⟩:=hne 2 (by omega);obtain⟨y3,e3⟩:=hne 3 (by omega);obtain⟨y4,e4⟩:=hne 4 (by omega);obtain⟨y5,e5⟩:=hne 5 (by omega);rw [e0]at g0;rw [e1]at g1;rw [e2]at g2;rw [e3]at g3;rw [e4]at g4;rw [e5]at g5;clear hne e0 e1 e2 e3 e4 e5
 match cs,hl with
 | [a0,a1,a2,a3,a4,a5],_=>
  obtain⟨x0,rfl,_⟩:=int_form (v:=a0) g0;obtain⟨x1,rfl,_⟩:=int_form (v:=a1) g1;obtain⟨x2,rfl,b2⟩:=int_form (v:=a2) g2;obtain⟨x3,rfl,b3⟩:=int_form (v:=a3) g3;obtain⟨s,rfl,hs⟩:=rstr_at g4;obtain⟨A,m,c,l,rfl,hm,hb⟩:=bytes_form (v:=a5) g5;exact⟨⟨x0,x1,x2,x3,s,A,m,c,l⟩,⟨hs,by unfold maxLen at hm;exact hm,hb,b2,b3⟩,rfl⟩
theorem open_act{r:Reach}{b0:Nat}{v:Value}{d:DataW H}{p:List MemPlace}(hv:Value.okWide Tryz.prog w r b0 44 v)(h:DataW.Trod enc Tryz.prog w base (fun _=>true) held 44 v d p):∃a:ActX,a.In w/\v=.agg a.cells.toArray:=by
 obtain⟨cs,rfl,_⟩:=okWide_struct Tryz.underlying44 hv;obtain⟨fuel,hf⟩:=h;have hf':DataW.trod enc Tryz.prog w base (fun _=>true) held fuel 44 cs.toList=some (d,p):=hf;obtain⟨a,ha,e⟩:=act_form hf';exact⟨a,ha,by rw [<-e]⟩
end
end Go.Proofs.YtnnpoodcdibpiaaGreatDoor
namespace Go.Proofs.YtnnpoodcdibpiaaGreatDoor
open Go Go.RowKit Go.ChangeShapes Go.WideShapes Go.ChangeAt Go.Joins Go.Deep
set_option maxRecDepth 100000
set_option maxHeartbeats 8000000
def laidAll : List (String × DataW Unit) := [("kinora/encoder.places", Rows.laid_kinora_encoder_places)]
section
variable {H : Type} {enc : TypeId × Value → H} {w : World} {base : Nat} {sp : Nat → Bool} {held : Bool}
theorem cellsPLC:Tryz.prog.cellsOf 369=3:=by kernel_rfl
theorem cellsINT1:Tryz.prog.cellsOf 3=1:=by kernel_rfl
theorem int_lit{fuel:Nat}{v:Value}{x:DataW H × List MemPlace}(h:DataW.trod enc Tryz.prog w base sp held fuel 3 [v]=some x):∃n,v=.int .i64 n/\x=(.lit (.int .i64 n),[]):=by
 obtain⟨n,e,e2,_⟩:=DataW.trod_int Tryz.underlying3 h;injection e with e;exact⟨n,e,e2⟩
theorem place_lit{fuel:Nat}{L:List Value}{a b c:Int}{ps:List MemPlace}(h:DataW.trod enc Tryz.prog w base sp held fuel 369 L=some (.agg [.lit (.int .i64 a),.lit (.int .i64 b),.lit (.int .i64 c)],ps)):L=[.int .i64 a,.int .i64 b,.int .i64 c]:=by
 obtain⟨y0,y1,y2,n,hx,hl,h0,h1,h2⟩:=trod_struct3 Tryz.underlying369 h;rw [cellsPLC]at hl;rw [cellsINT1]at h0 h1 h2
 match L,hl with
 | [v0,v1,v2],_=>
  obtain⟨n0,rfl,rfl⟩:=int_lit h0;obtain⟨n1,rfl,rfl⟩:=int_lit h1;obtain⟨n2,rfl,rfl⟩:=int_lit h2;simp only [Prod.mk.injEq,DataW.agg.injEq,List.cons.injEq,DataW.lit.injEq,Lit.int.injEq,true_and,and_true]at hx;obtain⟨⟨rfl,rfl,rfl⟩,_⟩:=hx;rfl
theorem places_cells{fuel:Nat}{cs:List Value}{p:List MemPlace}(h:DataW.trod enc Tryz.prog w base sp held fuel 370 cs=some (Rows.laid_kinora_encoder_places,p)):∀i,i<18->cs[i]?=placesV[i]?:=by
 obtain⟨xs,m,rfl,hx,hl,hxl,hall⟩:=DataW.trod_array Tryz.underlying370 h;rw [cellsPLC]at hall;have hm:(Rows.laid_kinora_encoder_places:DataW H)=.agg (xs.map (·.1)):=congrArg Prod.fst hx;unfold Rows.laid_kinora_encoder_places at hm;injection hm with hm;have key:∀k a b c,k<6->(xs.map (·.1))[k]?=some (.agg [.lit (.int .i64 a),.lit (.int .i64 b),.lit (.int .i64 c)])->∀j,j<3->cs[k*3+j]?=[Value.int .i64 a,.int .i64 b,.int .i64 c][j]?:=by
  intro k a b c hk he j hj;rw [List.getElem?_map,Option.map_eq_some_iff]at he;obtain⟨y,hy,hy1⟩:=he;have h1:=hall k hk;rw [hy]at h1;obtain⟨y1,y2⟩:=y;dsimp only at hy1;subst hy1;rw [<-place_lit h1,List.getElem?_take_of_lt hj,List.getElem?_drop]
 intro i hi;have e0:=key 0 0 0 0 (by omega) (by rw [<-hm];rfl);have e1:=key 1 0 8 0 (by omega) (by rw [<-hm];rfl);have e2:=key 2 0 0 8 (by omega) (by rw [<-hm];rfl);have e3:=key 3 0 8 8 (by omega) (by rw [<-hm];rfl);have e4:=key 4 1 0 0 (by omega) (by rw [<-hm];rfl);have e5:=key 5 2 0 0 (by omega) (by rw [<-hm];rfl);clear key hm hall hx
 match i,hi with
 | 0,_=>exact e0 0 (by omega)
 | 1,_=>exact e0 1 (by omega)
 | 2,_=>exact e0 2 (by omega)
 | 3,_=>exact e1 0 (by omega)
 | 4,_=>exact e1 1 (by omega)
 | 5,_=>exact e1 2 (by omega)
 | 6,_=>exact e2 0 (by omega)
 | 7,_=>exact e2 1 (by omega)
 | 8,_=>exact e2 2 (by omega)
 | 9,_=>exact e3 0 (by omega)
 | 10,_=>exact e3 1 (by omega)
 | 11,_=>exact e3 2 (by omega)
 | 12,_=>exact e4 0 (by omega)
 | 13,_=>exact e4 1 (by omega)
 | 14,_=>exact e4 2 (by omega)
 | 15,_=>exact e5 0 (by omega)
 | 16,_=>exact e5 1 (by omega)
 | 17,_=>exact e5 2 (by omega)
 | n+18,h=>exact absurd h (by omega)
end
theorem env_of_laid{W:World}(h:laidMet Tryz.prog laidAll W):EnvP W:=by
 obtain ⟨ps,⟨g',t',cs,fuel,p,q,hg',ht',hvar,hd,_,_⟩,_⟩:=h;have hg : Tryz.prog.globalNamed "kinora/encoder.places" = some 6 := by kernel_rfl
 obtain rfl:=Option.some.inj (hg.symm.trans hg');have hty:(Tryz.prog.globals[6]?).map (·.type)=some 370:=by kernel_rfl
 obtain rfl:=Option.some.inj (hty.symm.trans ht');have hcs:=places_cells hd
 have hc:∀i,i<18->W.cell? ⟨6,i,none⟩=placesV[i]?:=fun i hi=>by
  rw [World.var?_cell hg hvar i,<-hcs i hi,Array.getElem?_toList]
 exact⟨hc,World.block_lt_of_cell? W _ (hc 0 (by omega))⟩
/-! ### One start that fits -/
def laidAll19 : List (String × DataW Unit) := [("math/bits.deBruijn32tab", Rows.laid_math_bits_deBruijn32tab), ("math/bits.deBruijn64tab", Rows.laid_math_bits_deBruijn64tab), ("internal/strconv.uint64pow10", Rows.laid_internal_strconv_uint64pow10), ("kinora/encoder.places", Rows.laid_kinora_encoder_places)]
theorem laid_plain19{W:World}(h:laidMetH Tryz.prog laidAll19 W):laidMet Tryz.prog laidAll19 W:=by
 rw [Go.MakeChecks.laidMetH_plain Tryz.prog laidAll19 W (by kernel_rfl)]at h;exact h
theorem env19{W:World}(h:laidMet Tryz.prog laidAll19 W):EnvP W/\EnvW W:=by
 have h2:=laidMet.tail (laidMet.tail h);have h3:laidMet Tryz.prog laidAll W:=laidMet.tail h2;refine⟨env_of_laid h3,⟨?_⟩⟩;have e:(Rows.laid_internal_strconv_uint64pow10:DataW Unit)=Lib.tabData .u64 Lib.pow10Tab:=by kernel_rfl
 rw [e]at h2;exact Lib.tabIs_of_head (P:=Tryz.prog) (g:=5) (n:=20) (by kernel_rfl) (by kernel_rfl) Tryz.underlying432 Tryz.underlying204 (by kernel_rfl) (by kernel_rfl) h2
def litsOf19:DataW Unit->List Value
 | .agg xs=>xs.filterMap fun
  | .lit (.int k z)=>some (.int k z)
  | _=>none
 | _=>[]
noncomputable def laidWorld19 (os:Os):World:=
 let w0:=World.holding Tryz.prog os ⟨#[],#[],[]⟩
 let put (h:Array Obj) (g:Nat) (cs:Array Value):Array Obj:=h.modify g fun
  | .cells _ t frozen=>.cells cs t frozen
  | o=>o
 { w0 with heap:=put (put (put (put w0.heap 6 placesV) 5 (litsOf19 Rows.laid_internal_strconv_uint64pow10).toArray) 7 (litsOf19 Rows.laid_math_bits_deBruijn32tab).toArray) 8 (litsOf19 Rows.laid_math_bits_deBruijn64tab).toArray }
theorem laid_met19(os:Os)(args:Array Value):laidMet Tryz.prog laidAll19 ((laidWorld19 os).forCall (fun _ _=>0) ⟨#[],args,[]⟩).memory:=
 LaidIn.met (LaidIn.of_run [7,8,5,6] 8 (by kernel_rfl) (by kernel_rfl) (by kernel_rfl) (by kernel_rfl))
end Go.Proofs.YtnnpoodcdibpiaaGreatDoor
namespace Go.Proofs.YtnnpoodcdibpiaaGreatDoor
open Go.ChangeShapes Go.WideShapes Go.ChangeAt Go.RowKit
set_option maxRecDepth 100000
set_option maxHeartbeats 8000000
theorem s_laid:laidOutB Tryz.prog=true:=by kernel_rfl
theorem s_rowed:mapsRowed Tryz.prog=true:=by kernel_rfl
theorem s_enter:Tryz.prog.mayEnter=true:=by kernel_rfl
theorem s_heard:Tryz.prog.stopsHeard=true:=by kernel_rfl
theorem s_main : Tryz.pinned.checked.prog.mainIs = some (true, ("1704448d77b9eeea178ae9a664f38474699b0bfd6d6c177a6de0df4c4809f08f" : String).toList) := by kernel_rfl
theorem s_looks:true=Tryz.pinned.checked.prog.looks []:=by kernel_rfl
end Go.Proofs.YtnnpoodcdibpiaaGreatDoor
