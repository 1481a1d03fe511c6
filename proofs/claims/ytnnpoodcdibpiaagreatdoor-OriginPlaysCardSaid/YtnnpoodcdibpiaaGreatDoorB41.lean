/-
  Origin.Publish.
-/
import Derived.Test.YtnnpoodcdibpiaaGreatDoorB35
import Derived.Test.YtnnpoodcdibpiaaGreatDoorB40
namespace Go.Proofs.YtnnpoodcdibpiaaGreatDoor
open Go.RowKit
set_option maxRecDepth 100000
set_option maxHeartbeats 8000000
theorem orPubNil(w:World)(a1 a2 a3 a4 a5:Value):Calls Tryz.prog 23 #[.pointer none,a1,a2,a3,a4,a5] w fun e w'=>e=.returned (.tuple #[.agg #[.int .i64 0,.int .i64 0,.slice none 0 0],.slice none 0 0,.int .i64 1])/\Mod (fun _=>False) w w':=by
 have hb:=Blk.new w 59 #[.int .i64 0,.int .i64 0,.slice none 0 0];have hm:=(Mod.refl (fun _=>False) w).alloc (.cells #[.int .i64 0,.int .i64 0,.slice none 0 0] 59);go_enter Tryz.func23,Tryz.ntmps23;go_wp2_with (refine wpList_store_row rfl 59 (.tmp 12) (.tmp 31) rfl w.heap.size [.int .i64 0,.int .i64 0,.slice none 0 0] rfl rfl 59 [.int .i64 0,.int .i64 0,.slice none 0 0] hb rfl (by kernel_rfl) (by kernel_rfl) (fun w6 hb6 hm6=>?_))
 refine bodyPost_ret (v:=.tuple #[.agg #[.int .i64 0,.int .i64 0,.slice none 0 0],.slice none 0 0,.int .i64 1]) ?_ rfl ?_
 ·exact results_cell2 rfl _ _ w.heap.size 59 _ (0,0) _ rfl hb6 Tryz.underlying59 rfl (by kernel_rfl) _ _ rfl rfl
 ·exact⟨rfl,hm.into hm6 (fun i e=>.inr (e▸Nat.le_refl _))⟩
def PubPost(w:World)(ob:Nat)(L:FsL)(fs:List FrX)(G:Int)(rs:List Rg)(sc tk:Int)(e:Ending)(w':World):Prop:=
 (∃x,(if makeB fs G rs=true then pubO L (rs.map (madeX fs G)) sc tk else .error 151)=.error x/\e=.returned (.tuple #[.agg #[.int .i64 0,.int .i64 0,.slice none 0 0],.slice none 0 0,.int .i64 x])/\Mod (fun _=>False) w w') \/
 (∃L' A n k v b' D',makeB fs G rs=true/\pubO L (rs.map (madeX fs G)) sc tk=.ok L'/\e=.returned (.tuple #[.agg (mfV (pubMf (rs.map (madeX fs G)) sc tk) A n k).toArray,v,.int .i64 0]) /\
  MfIn w' A n (pubMf (rs.map (madeX fs G)) sc tk)/\MadesIn w' (fun k=>w.heap.size<=k) v (rs.map (madeX fs G))/\OrSt w' ob b' D' L'/\w.heap.size<=b'/\Mod (·=ob) w w')
theorem listed_info:(Tryz.prog.info? 91).map (fun i=>(i.zero,i.size,i.bytes))=some (some (.agg #[.string ⟨#[]⟩,.int .i64 0,.int .i64 0,.int .i64 0,.int .i64 0,.int .i64 0,.string ⟨#[]⟩,.slice none 0 0]),8,96):=by kernel_rfl
theorem times_ok{ms:List MadeX}{sc tk:Int}(h:1<=ms.length)(hb:ms.all (fun m=>m.okB sc tk)=true):I64 sc/\I64 tk:=by
 rw [List.all_eq_true]at hb;have h0:=hb ms[0] (List.getElem_mem h);unfold MadeX.okB pkB initB timesB at h0;simp only [Bool.and_eq_true,Bool.not_eq_true',Bool.or_eq_false_iff,decide_eq_false_iff_not]at h0;unfold I64;omega
theorem writeL_len{m:Mf}(h:mfRightB m=true):(writeL m).length<=1048576:=by
 have h1:=headL_len h;have h2:=rends_len h m.rends.length;rw [List.take_of_length_le (Nat.le_refl _)]at h2;have h3:(lineL [kEnd]).length=4:=rfl;rw [writeL_eq,List.length_append,List.length_append];omega
theorem pub_paths{ms:List MadeX}{sc tk:Int}(h:∀m∈ms,MOk m):∀x∈pubAll ms sc tk,x.1.length<=1010:=by
 intro x hx;unfold pubAll pubFiles at hx;rcases List.mem_append.1 hx with hx|hx
 ·obtain⟨m,hm,hx⟩:=List.mem_flatMap.1 hx;have hn:=(h m hm).name;have hsg:=(h m hm).segs;unfold MadeX.files pkFiles at hx;rcases List.mem_cons.1 hx with rfl|hx
  ·show(m.r.name++kSInit).length<=_;rw [List.length_append];have:kSInit.length=5:=rfl;omega
  ·obtain⟨i,hi,rfl⟩:=List.mem_map.1 hx;have hi2:=List.mem_range.1 hi;have hd:=dec_len (n:=(i:Int)) 3 (by omega);show(pkPath m.r.name i).length<=_;unfold pkPath;rw [List.length_append,List.length_cons];omega
 ·simp at hx;subst hx;show kList.length<=1010;decide
theorem orMClone(w:World)(b:Nat)(D:DataW Value)(L:FsL)(h:MpAt w b D L):Calls Tryz.prog 45 #[.map (some b)] w fun e w'=>e=.returned (.map (some w.heap.size))/\MpAt w' w.heap.size D L/\Mod (fun _=>False) w w':=
 (AnyW.maps_Clone_owns Tryz.laysClone 9 fR b L.length D w h.map).mono (fun _ _ h'=>⟨h'.1,⟨h'.2.1,h.files.quiet (Mod.of_below h'.2.2.2 _),h.size,h.nodup,h.few⟩,Mod.of_below h'.2.2.2 _⟩)
def PuRel(w:World)(L al:FsL)(b2:Nat)(v97:Value)(wr:World):Prop:=
 ∃i D' Li,i<=al.length/\v97=.int .i64 (i:Int)/\putsL L (al.take i)=some Li/\MpAt wr b2 D' Li/\Mod (·=b2) w wr
def OpRel(w:World)(ms:List MadeX)(sc tk:Int)(rb mb:Nat)(v18 v47:Value)(wr:World):Prop:=
 ∃i,i<=ms.length/\v47=.int .i64 (i:Int)/\(ms.take i).all (fun m=>m.okB sc tk)=true/\PbAt w wr ms sc tk i i mb v18/\Blk wr rb 59 #[.int .i64 0,.int .i64 0,.slice none 0 0]
theorem orPublish (w:World) (he:EnvP w) (hv:EnvW w) (ob b:Nat) (D:DataW Value) (L:FsL) (ho:OrSt w ob b D L) (A:Option Addr) (n c:Nat) (fs:List FrX) (hin:FrsIn w A n fs) (hnc:n≤c) (hc:c≤9223372036854775807) (G:Int) (A2:Option Addr) (m c2:Nat) (rs:List Rg) (hr:RgsIn w A2 m c2 rs) (hm:m≤9223372036854775807)
  (hW:(fs.getD 0 FrX.zero).W0≤64) (hH:(fs.getD 0 FrX.zero).H0≤64) (sc tk:Int) :
  Calls Tryz.prog 23 #[.pointer (some ⟨ob,0,none⟩),.slice A n c,.int .i64 G,.slice A2 m c2,.int .i64 sc,.int .i64 tk] w (PubPost w ob L fs G rs sc tk):=by
 have hb:=Blk.new w 59 #[.int .i64 0,.int .i64 0,.slice none 0 0]
 have hm0:=(Mod.refl (fun _=>False) w).alloc (.cells #[.int .i64 0,.int .i64 0,.slice none 0 0] 59)
 have H0:=Lib.hid (And.intro he (And.intro hv (And.intro ho (And.intro hin hr))))
 have hr1:w.heap.size<(w.alloc (.cells #[.int .i64 0,.int .i64 0,.slice none 0 0] 59)).heap.size:=by simp
 clear he hv ho hin hr
 go_enter Tryz.func23,Tryz.ntmps23
 go_upto_region 3 with (fail)
 obtain ⟨rb,hrb⟩:∃ rb,rb=w.heap.size:=⟨_,rfl⟩
 rw [←hrb] at hb hr1 ⊢
 have HRB:=Lib.hid hrb
 clear hrb
 generalize w.alloc (.cells #[.int .i64 0,.int .i64 0,.slice none 0 0] 59)=w1 at *
 go_wp2_with fail
 refine (lMake w1 (H0.out.1.quiet hm0) A n c fs (H0.out.2.2.2.1.quiet hm0) hnc hc G A2 m c2 rs (H0.out.2.2.2.2.quiet hm0) hm hW hH).mono ?_
 rintro e w2 ⟨hm2,⟨hmk,rfl⟩ | ⟨hmk,v,rfl,hmd⟩⟩
 ·have hz:=hb.keep hm2 (fun h=>h)
  have H2:=Lib.hid (And.intro hmk (hm0.trans hm2))
  clear hmk hm2 hm0 hb
  go_wp2_with (refine wpList_store_row rfl 59 (.tmp 12) (.tmp 41) rfl rb [.int .i64 0,.int .i64 0,.slice none 0 0] rfl rfl 59 [.int .i64 0,.int .i64 0,.slice none 0 0] hz rfl (by kernel_rfl) (by kernel_rfl) (fun w6 hb6 hm6=>?_))
  refine bodyPost_ret (v:=.tuple #[.agg #[.int .i64 0,.int .i64 0,.slice none 0 0],.slice none 0 0,.int .i64 151]) ?_ rfl ?_
  ·exact results_cell2 rfl _ _ rb 59 _ (0,0) _ rfl hb6 Tryz.underlying59 rfl (by kernel_rfl) _ _ rfl rfl
  ·exact .inl ⟨151,if_neg (by rw [H2.out.1];decide),rfl,H2.out.2.into hm6 (fun i e=>.inr (by rw [HRB.out] at e;omega))⟩
 ·obtain ⟨ms,hms⟩:∃ ms,ms=rs.map (madeX fs G):=⟨_,rfl⟩
  rw [←hms] at hmd
  have hmo:=made_ok hmk hW hH
  rw [←hms] at hmo
  have hml:ms.length≤8:=by
   unfold makeB ladderB at hmk
   simp only [Bool.and_eq_true,decide_eq_true_eq] at hmk
   rw [hms,List.length_map]
   omega
  obtain ⟨Av,cv,rfl,hcv⟩:=ListIn.shape hmd
  have hz:=hb.keep hm2 (fun h=>h)
  have H2:=Lib.hid (And.intro hmk (And.intro hms (And.intro hmo (And.intro hmd (And.intro hz (hm0.trans hm2))))))
  clear hmk hms hmo hmd hz hm2 hm0 hb
  go_upto_region 8 with (fail)
  have hb3:=Blk.new w2 59 #[.int .i64 sc,.int .i64 tk,.slice none 0 0]
  have hma:Mod (fun _=>False) w2 (w2.alloc (.cells #[.int .i64 sc,.int .i64 tk,.slice none 0 0] 59)):=(Mod.refl _ w2).alloc _
  obtain ⟨mb,hmb⟩:∃ mb,mb=w2.heap.size:=⟨_,rfl⟩
  rw [←hmb] at hb3 ⊢
  have HMB:=Lib.hid hmb
  clear hmb
  generalize w2.alloc (.cells #[.int .i64 sc,.int .i64 tk,.slice none 0 0] 59)=w3 at *
  have H3:=Lib.hid (And.intro (show PbAt w2 w3 ms sc tk 0 0 mb (.slice none 0 0) from ⟨ListOwn.nil _ _,⟨none,0,ListOwn.nil _ _,hb3⟩,Nat.le_of_eq HMB.out.symm,hma⟩) (H2.out.2.2.2.2.1.keep hma (fun h=>h)))
  clear hb3 hma
  go_wp2_with fail
  go_loopw [18,47] (OpRel w2 ms sc tk rb mb) (fun _ i _=>ms.length-(intOf i).toNat)
  case atStart=>exact ⟨0,Nat.zero_le _,rfl,rfl,H3.out.1,H3.out.2⟩
  case round=>
   clear H3
   obtain ⟨i,hi,rfl,hall,hpb,hz⟩:=hrel
   rename World=>wr
   obtain ⟨A18,c18,h18⟩:=hpb.files.shape
   obtain ⟨N,hN⟩:∃ N,N=(pubFiles (ms.take i) sc tk).length:=⟨_,rfl⟩
   have hNl:N≤1025*i:=by rw [hN];exact pubFiles_len H2.out.2.2.1 i
   rw [←hN] at h18
   subst h18
   by_cases hlt:i<ms.length
   ·have d3:decide ((i:Int)<(ms.length:Int))=true:=decide_eq_true (by omega)
    obtain ⟨mx,hg⟩:∃ mx,ms[i]?=some mx:=⟨_,List.getElem?_eq_getElem hlt⟩
    have hok:=H2.out.2.2.1 mx (List.mem_of_getElem? hg)
    obtain ⟨vb,vo,vc,cc,hv,_,hvb,_,hR,_,hx⟩:=ListIn.at_ H2.out.2.2.2.1 hg (by decide)
    obtain ⟨sv,hcc,hsegs⟩:=hR
    subst hcc
    obtain ⟨Asv,csv,hsv,_⟩:=hsegs.shape
    injection hv with hv1 _ hv3
    subst hv1 hv3 hsv
    have hcell:∀ j u,(mx.r.cells++[.int .i64 (mx.d.W:Int),.int .i64 (mx.d.H:Int),.int .i64 mx.G,.slice Asv mx.segs.length csv])[j]?=some u→wr.cell? ⟨vb,vo+i*8+j,none⟩=some u:=fun j u hu=>(World.cell?_of_block (hpb.mod.block vb hvb (fun h=>h))).trans (hx j u hu)
    obtain ⟨⟨nm,dn,q,tg⟩,Gm,d,ss⟩:=mx
    have k0:wr.cell? ⟨vb,vo+i*8,none⟩=some (.string (strOf nm)):=hcell 0 _ rfl
    have k1:wr.cell? ⟨vb,vo+i*8+1,none⟩=some (.int .i64 dn):=hcell 1 _ rfl
    have k2:wr.cell? ⟨vb,vo+i*8+2,none⟩=some (.int .i64 q):=hcell 2 _ rfl
    have k3:wr.cell? ⟨vb,vo+i*8+3,none⟩=some (.int .i64 tg):=hcell 3 _ rfl
    have k4:wr.cell? ⟨vb,vo+i*8+4,none⟩=some (.int .i64 (d.W:Int)):=hcell 4 _ rfl
    have k5:wr.cell? ⟨vb,vo+i*8+5,none⟩=some (.int .i64 (d.H:Int)):=hcell 5 _ rfl
    have k6:wr.cell? ⟨vb,vo+i*8+6,none⟩=some (.int .i64 Gm):=hcell 6 _ rfl
    have k7:wr.cell? ⟨vb,vo+i*8+7,none⟩=some (.slice Asv ss.length csv):=hcell 7 _ rfl
    have hb4:=Blk.new wr 73 #[.string (strOf nm),.int .i64 dn,.int .i64 q,.int .i64 tg,.int .i64 (d.W:Int),.int .i64 (d.H:Int),.int .i64 Gm,.slice Asv ss.length csv]
    have hma:Mod (fun _=>False) wr (wr.alloc (.cells #[.string (strOf nm),.int .i64 dn,.int .i64 q,.int .i64 tg,.int .i64 (d.W:Int),.int .i64 (d.H:Int),.int .i64 Gm,.slice Asv ss.length csv] 73)):=(Mod.refl _ wr).alloc _
    have HK:=Lib.hid (And.intro hall (And.intro (hpb.quiet hma) (And.intro (hz.keep hma (fun h=>h)) (And.intro hok (And.intro hg (And.intro hN (And.intro hsegs hb4)))))))
    clear hall hpb hz hok hg hN hsegs hcell hx hvb hma hb4
    go_upto_region 11 with (fail)
    obtain ⟨tb,htb⟩:∃ tb,tb=wr.heap.size:=⟨_,rfl⟩
    rw [←htb] at HK ⊢
    clear htb k0 k1 k2 k3 k4 k5 k6 k7
    generalize wr.alloc (.cells #[.string (strOf nm),.int .i64 dn,.int .i64 q,.int .i64 tg,.int .i64 (d.W:Int),.int .i64 (d.H:Int),.int .i64 Gm,.slice Asv ss.length csv] 73)=w4 at *
    obtain ⟨tc,_⟩:=HK.out.2.2.2.2.2.2.2.both
    have tl:=HK.out.2.2.2.2.2.2.2.lt
    go_wp2_with fail
    refine (orPack w4 (H0.out.2.1.quiet (H2.out.2.2.2.2.2.trans HK.out.2.1.mod)) _ ⟨⟨nm,dn,q,tg⟩,Gm,d,ss⟩ (.slice Asv ss.length csv) (HK.out.2.2.2.2.2.2.1.turn HK.out.2.1.mod (fun _ _ _ h=>h) (fun _ h _=>h) (fun _ _ _ k=>k.turn HK.out.2.1.mod (fun _ _ _ h=>h) (fun _ h _=>h))) sc tk HK.out.2.2.2.1.segs HK.out.2.2.2.1.each HK.out.2.2.2.1.name).mono ?_
    rintro e w5 ⟨hm5,⟨hno,rfl⟩ | ⟨hyes,c8,fv,rfl,hLs,hFs⟩⟩
    ·have hz5:=HK.out.2.2.1.keep hm5 (fun h=>h)
     have hnoall:ms.all (fun m=>m.okB sc tk)=false:=by
      rw [List.all_eq_false]
      exact ⟨_,List.mem_of_getElem? HK.out.2.2.2.2.1,by rw [hno];decide⟩
     have hma5:Mod (fun _=>False) w5 (w5.alloc (.cells #[.string ⟨#[]⟩,.int .i64 0,.int .i64 0,.int .i64 0,.int .i64 0,.int .i64 0,.string ⟨#[]⟩,.slice none 0 0] 91)):=(Mod.refl _ w5).alloc _
     have H5:=Lib.hid (And.intro hnoall (And.intro (hz5.keep hma5 (fun h=>h)) (H2.out.2.2.2.2.2.trans (HK.out.2.1.mod.trans (hm5.trans hma5)))))
     clear hz5 hnoall hma5 hm5 hno tc tl
     go_wp2_with (refine wpList_store_row rfl 59 (.tmp 12) (.tmp 61) rfl rb [.int .i64 0,.int .i64 0,.slice none 0 0] rfl rfl 59 [.int .i64 0,.int .i64 0,.slice none 0 0] H5.out.2.1 rfl (by kernel_rfl) (by kernel_rfl) (fun w6 hb6 hm6=>?_))
     refine bodyPost_ret (v:=.tuple #[.agg #[.int .i64 0,.int .i64 0,.slice none 0 0],.slice none 0 0,.int .i64 171]) ?_ rfl ?_
     ·exact results_cell2 rfl _ _ rb 59 _ (0,0) _ rfl hb6 Tryz.underlying59 rfl (by kernel_rfl) _ _ rfl rfl
     ·refine .inl ⟨171,?_,rfl,H5.out.2.2.into hm6 (fun i e=>.inr (by rw [HRB.out] at e;omega))⟩
      rw [if_pos H2.out.1,←H2.out.2.1]
      unfold pubO
      rw [H5.out.1,if_neg (by decide)]
    ·obtain ⟨l,hl⟩:∃ l,l=MadeX.listed ⟨⟨nm,dn,q,tg⟩,Gm,d,ss⟩ sc tk:=⟨_,rfl⟩
     rw [←hl] at hLs
     obtain ⟨Ap,np,kp,hc8,hpc⟩:=hLs
     subst hc8
     unfold lsV
     obtain ⟨Af,cf,hfv⟩:=hFs.shape
     rw [files_len] at hfv
     dsimp only at hfv
     subst hfv
     dsimp only []
     have hb6:=Blk.new w5 91 #[.string (strOf l.name),.int .i64 l.w,.int .i64 l.h,.int .i64 l.bw,.int .i64 l.init.fr,.int .i64 l.init.sz,.string (strOf l.init.path),.slice Ap np kp]
     have hma:Mod (fun _=>False) w5 (w5.alloc (.cells #[.string (strOf l.name),.int .i64 l.w,.int .i64 l.h,.int .i64 l.bw,.int .i64 l.init.fr,.int .i64 l.init.sz,.string (strOf l.init.path),.slice Ap np kp] 91)):=(Mod.refl _ w5).alloc _
     have hpb6:=HK.out.2.1.quiet (hm5.trans hma)
     have hz6:=HK.out.2.2.1.keep (hm5.trans hma) (fun h=>h)
     have hF6:=(FilesU.base hFs HK.out.2.1.mod.size).past hma none_turn
     have hL6:PcsU (w5.alloc (.cells #[.string (strOf l.name),.int .i64 l.w,.int .i64 l.h,.int .i64 l.bw,.int .i64 l.init.fr,.int .i64 l.init.sz,.string (strOf l.init.path),.slice Ap np kp] 91)) w2.heap.size (.slice Ap np kp) l.pieces:=by
      obtain ⟨xp,q1,q2⟩:=hpc
      exact ⟨xp,own_past (own_base q1 HK.out.2.1.mod.size) hma none_turn,q2⟩
     have hallS:(ms.take (i+1)).all (fun m=>m.okB sc tk)=true:=by
      rw [List.take_add_one,HK.out.2.2.2.2.1,List.all_append,HK.out.1]
      simp [hyes]
     obtain ⟨lx,hlx⟩:∃ lx,lx=w5.heap.size:=⟨_,rfl⟩
     have H6:=Lib.hid (And.intro hpb6 (And.intro hz6 (And.intro hF6 (And.intro hL6 (And.intro hallS (And.intro hl hb6))))))
     clear hpb6 hz6 hF6 hL6 hallS hl hb6 hma hm5 hpc hFs hyes tc tl
     go_upto_region 14 with (fail)
     rw [←hlx] at H6 ⊢
     clear hlx
     generalize w5.alloc (.cells #[.string (strOf l.name),.int .i64 l.w,.int .i64 l.h,.int .i64 l.bw,.int .i64 l.init.fr,.int .i64 l.init.sz,.string (strOf l.init.path),.slice Ap np kp] 91)=w6 at *
     obtain ⟨Am,cm,hrr,hmbk⟩:=H6.out.1.box
     obtain ⟨xr,hrow,hcel⟩:=hrr
     have hil:((ms.take i).map fun m=>m.listed sc tk).length=i:=by rw [List.length_map,List.length_take];omega
     rw [hil] at hrow
     have q2:w6.cell? ⟨mb,2,none⟩=some (.slice Am i cm):=hmbk.cell 2
     obtain ⟨lc,_⟩:=H6.out.2.2.2.2.2.2.both
     have ll:=H6.out.2.2.2.2.2.2.lt
     have H6b:=Lib.hid (And.intro hrow (And.intro hcel hmbk))
     clear hrow hcel hmbk hil
     go_wp2_with (at_builtin;refine Hid.out ?_)
     refine Lib.hid ?_
     refine wpList_app_one w6 rfl (.tmp 63) (.tmp 65) 57 91 rfl Tryz.underlying57 (.agg #[.string ⟨#[]⟩,.int .i64 0,.int .i64 0,.int .i64 0,.int .i64 0,.int .i64 0,.string ⟨#[]⟩,.slice none 0 0]) 8 96 listed_info rfl (by decide) w2.heap.size (.slice Am i cm) i xr [.string (strOf l.name),.int .i64 l.w,.int .i64 l.h,.int .i64 l.bw,.int .i64 l.init.fr,.int .i64 l.init.sz,.string (strOf l.init.path),.slice Ap np kp] rfl (by intro u hu;simp only [List.mem_cons,List.not_mem_nil,or_false] at hu;rcases hu with rfl | rfl | rfl | rfl | rfl | rfl | rfl | rfl <;> rfl) w6.heap.size rfl rfl rfl H6b.out.1 H6.out.1.mod.size (by unfold maxLen;omega) (by omega) ?_
     intro v7 w7 y1 y2 y3 _
     obtain ⟨A7,c7,hv7⟩:=own_shape y1
     subst hv7
     have hpb8:=H6.out.1.rend H6b.out.1 H6b.out.2.1 HK.out.2.2.2.2.1 y1 y2 (y3 w2 (fun _=>False) (Nat.le_refl _) H6.out.1.mod) (by rw [←H6.out.2.2.2.2.2.1];exact ⟨Ap,np,kp,rfl,H6.out.2.2.2.1⟩) rfl
     have kt:∀ {g:Nat} {t:TypeId} {cs:Array Value},Blk w6 g t cs→t≠91→Blk w7 g t cs:=fun hb hne=>hb.keep y2 (fun hk=>by
      obtain ⟨_,cs,hb2⟩:=own_blk H6b.out.1 hk
      exact hb.ne_ hb2 hne rfl)
     have hm7:=kt H6b.out.2.2 (by decide)
     have hz7:=kt H6.out.2.1 (by decide)
     have mc7:w7.cell? ⟨mb,2,none⟩=some (.slice Am i cm):=hm7.cell 2
     have mf7:=hm7.both.2
     have ml7:=hm7.lt
     have hrm:rb≠mb:=by have:=H2.out.2.2.2.2.1.lt;have:=HMB.out;omega
     have hs8:Mod (·=mb) w7 (w7.setCell ⟨mb,2,none⟩ (.slice A7 (i+1) c7)):=(Mod.refl (·=mb) w7).setCell (p:=⟨mb,2,none⟩) (.inl rfl) _
     have hF8:=(H6.out.2.2.1.past y2 (own_typed H6b.out.1 (by decide))).past hs8 (fun k hk _=>by subst hk;exact ⟨_,_,hm7,by decide⟩)
     have hz8:=hz7.far (p:=⟨mb,2,none⟩) hrm (.slice A7 (i+1) c7)
     obtain ⟨w8,hw8⟩:∃ w8,w8=w7.setCell ⟨mb,2,none⟩ (.slice A7 (i+1) c7):=⟨_,rfl⟩
     rw [←hw8] at hF8 hz8 hpb8
     have HW8:=Lib.hid hw8
     obtain ⟨xs,hfrow,hfcel⟩:=hpb8.files
     rw [←HK.out.2.2.2.2.2.1] at hfrow
     obtain ⟨xn,hnrow,hncel⟩:=hF8
     have hnin:=(RowIn.of_own hnrow (F:=fun _=>True) (fun _ _=>trivial)).ex
     rw [files_len] at hnin
     obtain ⟨A',c',he',_,hnone,hsrc,_⟩:=hnin
     injection he' with e1 _ e3
     subst e1 e3
     have hmq:=hpb8.mod
     have H8:=Lib.hid (And.intro hpb8 (And.intro hz8 (And.intro hfrow (And.intro hfcel (And.intro hncel (And.intro hnone (And.intro hsrc hmq)))))))
     have hssl:=HK.out.2.2.2.1.segs
     dsimp only at hssl
     clear hpb8 hz8 hfrow hfcel hncel hnone hsrc hnrow hmq hz7 hm7 kt y1 y2 y3 q2 lc hs8 hw8
     go_upto_region 15 with (fail)
     rw [←HW8.out]
     clear mf7 ml7 ll mc7
     go_wp2_with (at_builtin;refine Hid.out ?_)
     refine Lib.hid ?_
     obtain ⟨i0,hi0,hz0,hz1,hz2⟩:=info_parts file_info
     refine wpList_append_src w8 rfl (.tmp 68) (.tmp 69) 125 rfl w2.heap.size 131 i0 _ 2 40 Tryz.underlying125 hi0 hz0 hz1 hz2 rfl (by decide) (.slice A18 N c18) N xs rfl H8.out.2.2.1 Af (ss.length+1) cf xn rfl H8.out.2.2.2.2.2.2.1 H8.out.2.2.2.2.2.1 (cells_all H8.out.2.2.2.2.1 file_one) (by unfold maxLen;omega) (by omega) H8.out.1.mod.size ?_
     intro v9 w9 g1 g2 _
     obtain ⟨A9,c9,hv9⟩:=own_shape g1
     subst hv9
     have hmo9:Mod (fun j=>(Value.slice A18 N c18).ownBlock=some j) w8 w9:=(Mod.refl _ w8).grown g2 (fun k hk=>.inl hk)
     have hpb9:=H8.out.1.file (m:=⟨⟨nm,dn,q,tg⟩,Gm,d,ss⟩) H8.out.2.2.1 H8.out.2.2.2.1 HK.out.2.2.2.2.1 (by rw [←HK.out.2.2.2.2.2.1,files_len];exact g1) hmo9 (H8.out.1.mod.grown g2 (fun k hk=>.inr (H8.out.2.2.1.lt k hk).1)) H8.out.2.2.2.2.1
     have hz9:Blk w9 rb 59 #[.int .i64 0,.int .i64 0,.slice none 0 0]:=H8.out.2.1.keep hmo9 (fun hk=>by
      obtain ⟨_,cs,hb2⟩:=own_blk H8.out.2.2.1 hk
      exact H8.out.2.1.ne_ hb2 (by decide) rfl)
     have H9:=Lib.hid (And.intro hpb9 hz9)
     clear hpb9 hz9 g1 g2 hmo9 hi0 hz0 hz1 hz2
     go_wp2_with fail
     go_roundw
     case rel=>exact ⟨i+1,by omega,by go_num,H6.out.2.2.2.2.1,H9.out.1,H9.out.2⟩
     case measure=>simp [intOf];omega
   ·obtain rfl:i=ms.length:=by omega
    have d3:decide ((ms.length:Int)<(ms.length:Int))=false:=decide_eq_false (by omega)
    rw [List.take_of_length_le (Nat.le_refl _)] at hall
    obtain ⟨Am,cm,hrr,hmbk⟩:=hpb.box
    rw [List.take_of_length_le (Nat.le_refl _)] at hrr
    have hne:1≤ms.length:=by
     have hmk:=H2.out.1
     unfold makeB ladderB at hmk
     simp only [Bool.and_eq_true,decide_eq_true_eq] at hmk
     rw [H2.out.2.1,List.length_map]
     omega
    have htm:=times_ok hne hall
    have hmf:=PbAt.mf H2.out.2.2.1 hall hrr hml htm
    have H5:=Lib.hid (And.intro hpb (And.intro hall (And.intro hrr (And.intro hmbk (And.intro hz (And.intro hmf hN))))))
    have mc:=hmbk.both.1
    clear hpb hall hrr hmbk hz hmf htm hne hN
    go_wp2_with fail
    refine (pWrite wr (pubMf ms sc tk) Am ms.length cm H5.out.2.2.2.2.2.1 (H0.out.2.1.quiet (H2.out.2.2.2.2.2.trans H5.out.1.mod))).mono ?_
    rintro e w10 ⟨rfl,hm10⟩
    clear mc
    unfold writeOut
    cases hr:mfRightB (pubMf ms sc tk) with
    | false=>
     have hz10:=H5.out.2.2.2.2.1.keep hm10 (fun h=>h)
     have H6:=Lib.hid (And.intro hr (H2.out.2.2.2.2.2.trans (H5.out.1.mod.trans hm10)))
     clear hm10 hr
     go_wp2_with (refine wpList_store_row rfl 59 (.tmp 12) (.tmp 79) rfl rb [.int .i64 0,.int .i64 0,.slice none 0 0] rfl rfl 59 [.int .i64 0,.int .i64 0,.slice none 0 0] hz10 rfl (by kernel_rfl) (by kernel_rfl) (fun w6 hb6 hm6=>?_))
     refine bodyPost_ret (v:=.tuple #[.agg #[.int .i64 0,.int .i64 0,.slice none 0 0],.slice none 0 0,.int .i64 181]) ?_ rfl ?_
     ·exact results_cell2 rfl _ _ rb 59 _ (0,0) _ rfl hb6 Tryz.underlying59 rfl (by kernel_rfl) _ _ rfl rfl
     ·refine .inl ⟨181,?_,rfl,H6.out.2.into hm6 (fun i e=>.inr (by rw [HRB.out] at e;omega))⟩
      rw [if_pos H2.out.1,←H2.out.2.1]
      unfold pubO
      rw [H5.out.2.1,H6.out.1,if_pos rfl,if_neg (by decide)]
    | true=>
     have hpb10:=H5.out.1.quiet hm10
     have hz10:=H5.out.2.2.2.2.1.keep hm10 (fun h=>h)
     have htl:=writeL_len hr
     obtain ⟨tx,htx⟩:∃ tx,tx=writeL (pubMf ms sc tk):=⟨_,rfl⟩
     rw [←htx] at htl ⊢
     have H6:=Lib.hid (And.intro hr (And.intro hpb10 (And.intro hz10 (And.intro htx hm10))))
     clear hpb10 hz10 htx hr hm10
     go_wp2_with (first
      | (refine wpList_txtBytes w10 rfl (.tmp 81) rfl tx rfl htl ?_;intro v11 w11 hv11 hm11;obtain ⟨A11,c11,he11⟩:=BytesU.shape (.inr hv11);subst he11;have HV11:=Lib.hid (And.intro hv11 hm11);clear hv11 hm11)
      | (at_builtin;refine Hid.out ?_))
     refine Lib.hid ?_
     have hpb11:=H6.out.2.1.quiet HV11.out.2
     obtain ⟨xs,hrow,hcel⟩:=hpb11.files
     rw [←H5.out.2.2.2.2.2.2] at hrow
     have hx11:FileU w11 w2.heap.size (kList,tx) [.string (strOf kList),.slice A11 tx.length c11]:=⟨_,rfl,BytesU.base (.inr HV11.out.1) H6.out.2.1.mod.size⟩
     have H11:=Lib.hid (And.intro hpb11 (And.intro hrow (And.intro hcel hx11)))
     clear hpb11 hrow hcel hx11
     refine wpList_app_one w11 rfl (.tmp 80) (.tmp 84) 125 131 rfl Tryz.underlying125 (.agg #[.string ⟨#[]⟩,.slice none 0 0]) 2 40 file_info rfl (by decide) w2.heap.size (.slice A18 N c18) N xs [.string (strOf kList),.slice A11 tx.length c11] rfl (by intro u hu;simp only [List.mem_cons,List.not_mem_nil,or_false] at hu;rcases hu with rfl | rfl <;> rfl) w11.heap.size rfl rfl rfl H11.out.2.1 H11.out.1.mod.size (by unfold maxLen;omega) (by omega) ?_
     intro v12 w12 y1 y2 y3 _
     obtain ⟨A12,c12,hv12⟩:=own_shape y1
     subst hv12
     have hq:=H6.out.2.2.2.2.trans HV11.out.2
     have kt:∀ {g:Nat} {t:TypeId} {cs:Array Value},Blk wr g t cs→t≠131→Blk w12 g t cs:=fun hb hne=>(hb.keep hq (fun h=>h)).keep y2 (fun hk=>by
      obtain ⟨_,cs,hb2⟩:=own_blk H11.out.2.1 hk
      exact (Blk.keep hb hq (fun h=>h)).ne_ hb2 hne rfl)
     have hF12:FilesU w12 w2.heap.size (.slice A12 (N+1) c12) (pubAll ms sc tk):=by
      have e:(pubAll ms sc tk).length=N+1:=by
       unfold pubAll
       rw [List.length_append,H5.out.2.2.2.2.2.2,List.take_of_length_le (Nat.le_refl _)]
       rfl
      refine ⟨_,by rw [e];exact y1,?_⟩
      unfold pubAll
      rw [←H6.out.2.2.2.1]
      have h1:=H11.out.2.2.1
      rw [List.take_of_length_le (Nat.le_refl _)] at h1
      exact (h1.mono (fun x _ c hx=>hx.past y2 (own_typed H11.out.2.1 (by decide)))).snoc (H11.out.2.2.2.past y2 (own_typed H11.out.2.1 (by decide))) rfl
     have hM12:=y3 w2 (fun _=>False) (Nat.le_refl _) H11.out.1.mod
     have ho12:=H0.out.2.2.1.quiet (H2.out.2.2.2.2.2.trans hM12)
     have hob:ob<w.heap.size:=H0.out.2.2.1.blk.lt
     have H12:=Lib.hid (And.intro hF12 (And.intro ((H5.out.2.2.1.past hq none_turn).past y2 (own_typed H11.out.2.1 (by decide))) (And.intro (kt H5.out.2.2.2.1 (by decide)) (And.intro (kt H5.out.2.2.2.2.1 (by decide)) (And.intro hM12 (And.intro ho12 hob))))))
     have ox:w12.cell? ⟨ob,0,none⟩=some (.map (some b)):=ho12.blk.cell 0
     have obl:=ho12.blk.lt
     clear hq kt hF12 hM12 ho12 hob y1 y2 y3
     go_wp2_with fail
     refine (orMClone w12 b D L H12.out.2.2.2.2.2.1.mp).mono ?_
     rintro e w13 ⟨rfl,hmp13,hm13⟩
     obtain ⟨b2,hb2⟩:∃ b2,b2=w12.heap.size:=⟨_,rfl⟩
     rw [←hb2] at hmp13 ⊢
     have HB2:=Lib.hid hb2
     clear hb2
     have hq14:∀ w,(binOp .eql 102 (.map (some b2)) (.map none)).run Tryz.prog w=.ok (.bool false) w:=fun w=>run_eql_map_nil w 102 9 22 (some b2) Tryz.underlying102
     have hf14:=Blk.new w13 102 #[.map (some b2)]
     have hma:Mod (fun _=>False) w13 (w13.alloc (.cells #[.map (some b2)] 102)):=(Mod.refl _ w13).alloc _
     have fc14:(w13.alloc (.cells #[.map (some b2)] 102)).cell? ⟨w13.heap.size,0,none⟩=some (.map (some b2)):=hf14.cell 0
     have fl14:=hf14.lt
     have H14:=Lib.hid (And.intro hf14 (And.intro (hmp13.quiet hma) (hm13.trans hma)))
     clear hf14 hmp13 hma hm13 ox obl
     go_upto_region 25 with (fail)
     obtain ⟨fb,hfb⟩:∃ fb,fb=w13.heap.size:=⟨_,rfl⟩
     have hfn:fb≠b2:=by
      obtain ⟨es,clock,hh,_⟩:=H14.out.2.1.map
      have h1:=H14.out.1
      rintro rfl
      unfold Blk at h1
      rw [←hfb,hh] at h1
      cases h1
     rw [←hfb] at H14 fc14 fl14 ⊢
     clear hfb hq14
     generalize w13.alloc (.cells #[.map (some b2)] 102)=w14 at *
     have hpp:=pub_paths (sc:=sc) (tk:=tk) H2.out.2.2.1
     obtain ⟨al,hal⟩:∃ al,al=pubAll ms sc tk:=⟨_,rfl⟩
     rw [←hal] at H12 hpp
     have hNa:N+1=al.length:=by
      obtain ⟨A',c',hsh⟩:=H12.out.1.shape
      injection hsh
     rw [hNa] at H12 ⊢
     have hal64:al.length≤9000:=by omega
     have HAL:=Lib.hid (And.intro hal hpp)
     clear hal hpp hNa
     go_wp2_with fail
     go_loopw [97] (PuRel w14 L al b2) (fun i _=>al.length-(intOf i).toNat)
     case atStart=>exact ⟨0,D,L,Nat.zero_le _,rfl,rfl,H14.out.2.1,Mod.refl _ _⟩
     case round=>
      clear fc14 fl14
      obtain ⟨i,D',Li,hi,rfl,hput,hmp,hM⟩:=hrel
      rename World=>wq
      have hnu:=fun k (hk:k=b2) i x=>(by subst hk;exact map_no_u8 H14.out.2.1.map i x:w14.cell? ⟨k,i,none⟩≠some (.int .u8 x))
      by_cases hlt:i<al.length
      ·have d3:decide ((i:Int)<(al.length:Int))=true:=decide_eq_true (by omega)
       obtain ⟨⟨p,l⟩,hg⟩:∃ x,al[i]?=some x:=⟨_,List.getElem?_eq_getElem hlt⟩
       have hp:=HAL.out.2 _ (List.mem_of_getElem? hg)
       dsimp only at hp
       obtain ⟨gb,go,gc,cc,hv,_,hgb,_,hR,_,hx⟩:=(H12.out.1.in_ (F:=fun _=>True) (fun _ _=>trivial)).at_ hg (by decide)
       obtain ⟨vv,hcc,hbu⟩:=hR
       subst hcc
       obtain ⟨Ab,cb,hvv⟩:=hbu.shape
       dsimp only at hvv
       subst hvv
       injection hv with hv1 _ hv3
       subst hv1 hv3
       have hcell:∀ j u,[Value.string (strOf p),.slice Ab l.length cb][j]?=some u→wq.cell? ⟨gb,go+i*2+j,none⟩=some u:=fun j u hu=>by
        have h1:=hx j u hu
        have h2:=(World.cell?_of_block (a:=⟨gb,go+i*2+j,none⟩) (H14.out.2.2.block gb hgb (fun h=>h))).trans h1
        exact (World.cell?_of_block (a:=⟨gb,go+i*2+j,none⟩) (hM.block gb (Nat.lt_of_lt_of_le hgb H14.out.2.2.size) (fun e=>by have:=HB2.out;omega))).trans h2
       have k0:wq.cell? ⟨gb,go+i*2,none⟩=some (.string (strOf p)):=hcell 0 _ rfl
       have k1:wq.cell? ⟨gb,go+i*2+1,none⟩=some (.slice Ab l.length cb):=hcell 1 _ rfl
       have hx15:=Blk.new wq 131 #[.string (strOf p),.slice Ab l.length cb]
       have hma:Mod (fun _=>False) wq (wq.alloc (.cells #[.string (strOf p),.slice Ab l.length cb] 131)):=(Mod.refl _ wq).alloc _
       have hby:BytesF (wq.alloc (.cells #[.string (strOf p),.slice Ab l.length cb] 131)) (fun _=>True) (.slice Ab l.length cb) l:=RowIn.quiet (BytesF.past (RowIn.quiet hbu.toF H14.out.2.2) hM hnu) hma
       have hpre:al.take (i+1)=al.take i++[(p,l)]:=by rw [List.take_add_one,hg];rfl
       have HK:=Lib.hid (And.intro hput (And.intro (hmp.quiet hma) (And.intro hM (And.intro hma (And.intro hby (And.intro hx15 (And.intro hpre ((H14.out.1.keep hM hfn).keep hma (fun h=>h)))))))))
       clear hput hmp hM hma hby hx15 hpre hcell hx hgb hbu hg
       go_upto_region 28 with (fail)
       obtain ⟨xb,hxb⟩:∃ xb,xb=wq.heap.size:=⟨_,rfl⟩
       rw [←hxb] at HK ⊢
       clear hxb k0 k1
       generalize wq.alloc (.cells #[.string (strOf p),.slice Ab l.length cb] 131)=w20 at *
       have xc:=HK.out.2.2.2.2.2.1.both.1
       have xl:=HK.out.2.2.2.2.2.1.lt
       go_wp2_with fail
       refine (orFn w20 fb b2 D' Li HK.out.2.2.2.2.2.2.2 HK.out.2.1 p (by omega) Ab cb l HK.out.2.2.2.2.1).mono ?_
       rintro e w21 hpost
       cases hpl:putL Li p l with
       | none=>
        rw [hpl] at hpost
        obtain ⟨rfl,hm21⟩:=hpost
        have hno:putsL L al=none:=by
         have h1:putsL L (al.take (i+1))=none:=by rw [HK.out.2.2.2.2.2.2.1,putsL_snoc,HK.out.1];exact hpl
         have h2:=putsL_none (ys:=al.drop (i+1)) h1
         rwa [List.take_append_drop] at h2
        have hrb2:rb≠b2:=by have:=H12.out.2.2.2.1.lt;have:=HB2.out;omega
        have hz21:Blk w21 rb 59 #[.int .i64 0,.int .i64 0,.slice none 0 0]:=((((H12.out.2.2.2.1.keep H14.out.2.2 (fun h=>h)).keep HK.out.2.2.1 hrb2).keep HK.out.2.2.2.1 (fun h=>h)).keep hm21 (fun h=>h))
        have hb2w:w.heap.size≤b2:=by have:=H2.out.2.2.2.2.2.size;have:=H12.out.2.2.2.2.1.size;have:=HB2.out;omega
        have hMe:Mod (fun _=>False) w w21:=((((H2.out.2.2.2.2.2.trans H12.out.2.2.2.2.1).trans H14.out.2.2).into HK.out.2.2.1 (fun k e=>.inr (e ▸ hb2w))).trans HK.out.2.2.2.1).trans hm21
        have H21:=Lib.hid (And.intro hno (And.intro hz21 hMe))
        clear hno hz21 hMe hm21 hpl xc xl
        dsimp only []
        go_wp2_with (refine wpList_store_row rfl 59 (.tmp 12) (.tmp 105) rfl rb [.int .i64 0,.int .i64 0,.slice none 0 0] rfl rfl 59 [.int .i64 0,.int .i64 0,.slice none 0 0] H21.out.2.1 rfl (by kernel_rfl) (by kernel_rfl) (fun w22 hb22 hm22=>?_))
        refine bodyPost_ret (v:=.tuple #[.agg #[.int .i64 0,.int .i64 0,.slice none 0 0],.slice none 0 0,.int .i64 193]) ?_ rfl ?_
        ·exact results_cell2 rfl _ _ rb 59 _ (0,0) _ rfl hb22 Tryz.underlying59 rfl (by kernel_rfl) _ _ rfl rfl
        ·refine .inl ⟨193,?_,rfl,H21.out.2.2.into hm22 (fun i e=>.inr (by rw [HRB.out] at e;omega))⟩
         rw [if_pos H2.out.1,←H2.out.2.1]
         unfold pubO
         rw [H5.out.2.1,H6.out.1,if_pos rfl,if_pos rfl,←HAL.out.1,H21.out.1]
       | some L2=>
        rw [hpl] at hpost
        obtain ⟨rfl,⟨D2,hmp2⟩,hm21⟩:=hpost
        have hput2:putsL L (al.take (i+1))=some L2:=by rw [HK.out.2.2.2.2.2.2.1,putsL_snoc,HK.out.1];exact hpl
        have H21:=Lib.hid (And.intro hput2 (And.intro hmp2 ((HK.out.2.2.1.trans (HK.out.2.2.2.1.mono (fun _ h=>h.elim))).trans hm21)))
        clear hput2 hmp2 hm21 hpl xc xl
        dsimp only []
        go_wp2_with fail
        go_roundw
        case rel=>exact ⟨i+1,D2,L2,by omega,by go_num,H21.out.1,H21.out.2.1,H21.out.2.2⟩
        case measure=>simp [intOf];omega
      ·obtain rfl:i=al.length:=by omega
       have d3:decide ((al.length:Int)<(al.length:Int))=false:=decide_eq_false (by omega)
       rw [List.take_of_length_le (Nat.le_refl _)] at hput
       have hb2w:w.heap.size≤b2:=by have:=H2.out.2.2.2.2.2.size;have:=H12.out.2.2.2.2.1.size;have:=HB2.out;omega
       have hrb2:rb≠b2:=by have:=H12.out.2.2.2.1.lt;have:=HB2.out;omega
       have hmb2:mb≠b2:=by have:=H12.out.2.2.1.lt;have:=HB2.out;omega
       have hobw:=H12.out.2.2.2.2.2.2
       have hob2:ob≠b2:=by omega
       have kq:∀ {g:Nat} {t:TypeId} {cs:Array Value},Blk w12 g t cs→g≠b2→Blk wq g t cs:=fun hb hne=>(hb.keep H14.out.2.2 (fun h=>h)).keep hM hne
       have hfq:=H14.out.1.keep hM hfn
       have hoq:=kq H12.out.2.2.2.2.2.1.blk hob2
       have hzq:=kq H12.out.2.2.2.1 hrb2
       have hmq:=kq H12.out.2.2.1 hmb2
       have hrbob:rb≠ob:=hzq.ne_ hoq (by decide)
       have hmbob:mb≠ob:=hmq.ne_ hoq (by decide)
       have hzq':=hzq.far (p:=⟨ob,0,none⟩) hrbob (.map (some b2))
       have hmq':=hmq.far (p:=⟨ob,0,none⟩) hmbob (.map (some b2))
       have f0:wq.cell? ⟨fb,0,none⟩=some (.map (some b2)):=hfq.cell 0
       have o0:wq.cell? ⟨ob,0,none⟩=some (.map (some b)):=hoq.cell 0
       have of_:=hoq.both.2
       have ol:=hoq.lt
       have HE:=Lib.hid (And.intro hput (And.intro hmp (And.intro hM (And.intro hzq' (And.intro hmq' (And.intro hoq (And.intro hb2w (And.intro hrb2 (And.intro hob2 (And.intro hrbob (And.intro hnu hobw)))))))))))
       clear hput hmp hM hzq' hmq' hzq hmq hoq hb2w hrb2 hmb2 hob2 hrbob hmbob kq hfq hnu hobw
       go_wp2_with (first
        | (refine wpList_load_row rfl 59 (.tmp 17) rfl mb rfl 59 _ (0,0) _ HE.out.2.2.2.2.1 Tryz.underlying59 rfl (by kernel_rfl) ?_)
        | (refine wpList_store_row rfl 59 (.tmp 12) (.tmp 111) rfl rb [.int .i64 sc,.int .i64 tk,.slice Am ms.length cm] rfl rfl 59 [.int .i64 0,.int .i64 0,.slice none 0 0] HE.out.2.2.2.1 rfl (by kernel_rfl) (by kernel_rfl) (fun w22 hb22 hm22=>?_)))
       have m1:Mod (fun k=>k=ob∨k=rb) w12 wq:=(H14.out.2.2.mono (fun _ h=>h.elim)).into HE.out.2.2.1 (fun k e=>.inr (by have:=HB2.out;omega))
       have m2:=m1.setCell (p:=⟨ob,0,none⟩) (.inl (.inl rfl)) (.map (some b2))
       have m3:Mod (fun k=>k=ob∨k=rb) w12 w22:=m2.trans (hm22.mono (fun k e=>.inr e))
       have hty:∀ k,(k=ob∨k=rb)→k<w12.heap.size→∃ t cs,Blk w12 k t cs∧t≠91∧t≠88:=fun k hk _=>by
        rcases hk with rfl | rfl
        ·exact ⟨_,_,H12.out.2.2.2.2.2.1.blk,by decide⟩
        ·exact ⟨_,_,H12.out.2.2.2.1,by decide⟩
       have hL22:=H12.out.2.1.past m3 hty
       have hne:1≤ms.length:=by
        have hmk:=H2.out.1
        unfold makeB ladderB at hmk
        simp only [Bool.and_eq_true,decide_eq_true_eq] at hmk
        rw [H2.out.2.1,List.length_map]
        omega
       have hMf:=PbAt.mf H2.out.2.2.1 H5.out.2.1 hL22 hml (times_ok hne H5.out.2.1)
       have hMd:MadesIn w22 (fun k=>w.heap.size≤k) (.slice Av ms.length cv) ms:=H2.out.2.2.2.1.turn ((H12.out.2.2.2.2.1.mono (fun _ h=>h.elim)).trans m3)
        (fun k hk _ h=>by have:=HE.out.2.2.2.2.2.2.2.2.2.2.2;have:=HRB.out;rcases h with h | h <;> omega) (fun k hk _=>by have:=HRB.out;omega)
       have hoS:=(HE.out.2.2.2.2.2.1.put (i:=0) (u:=.map (some b2)) (cs':=#[.map (some b2)]) rfl).keep hm22 (fun h=>HE.out.2.2.2.2.2.2.2.2.2.1 h.symm)
       have hmpS:=HE.out.2.1.past (S:=(·=ob)) ((Mod.refl (·=ob) wq).setCell (p:=⟨ob,0,none⟩) (.inl rfl) (.map (some b2))) (fun h=>HE.out.2.2.2.2.2.2.2.2.1 h.symm) (fun k hk i x=>by
        subst hk
        rw [HE.out.2.2.2.2.2.1.cell i]
        intro h
        match i with
        | 0=>cases h
        | i+1=>simp at h)
       have hmpE:=hmpS.past hm22 (fun h=>HE.out.2.2.2.2.2.2.2.1 h.symm) (fun k hk i x=>by
        subst hk
        rw [HE.out.2.2.2.1.cell i]
        intro h
        match i with
        | 0=>cases h
        | 1=>cases h
        | 2=>cases h
        | i+3=>simp at h)
       have hMa:Mod (fun _=>False) w wq:=((H2.out.2.2.2.2.2.trans H12.out.2.2.2.2.1).trans H14.out.2.2).into HE.out.2.2.1 (fun k e=>.inr (e ▸ HE.out.2.2.2.2.2.2.1))
       have hMb:Mod (·=ob) w (wq.setCell ⟨ob,0,none⟩ (.map (some b2))):=(hMa.mono (S':=(·=ob)) (fun _ h=>h.elim)).setCell (p:=⟨ob,0,none⟩) (.inl rfl) (.map (some b2))
       have hMod:Mod (·=ob) w w22:=hMb.into hm22 (fun k e=>.inr (by have:=HRB.out;omega))
       have HZ:=Lib.hid (And.intro hMf (And.intro hMd (And.intro hoS (And.intro hmpE hMod))))
       clear m1 m2 m3 hty hL22 hMf hMd hoS hmpS hmpE hMod hMa hMb
       refine bodyPost_ret (v:=.tuple #[.agg #[.int .i64 sc,.int .i64 tk,.slice Am ms.length cm],.slice Av ms.length cv,.int .i64 0]) ?_ rfl ?_
       ·exact results_cell2 rfl _ _ rb 59 _ (0,0) _ rfl hb22 Tryz.underlying59 rfl (by kernel_rfl) _ _ rfl rfl
       ·unfold PubPost
        rw [←H2.out.2.1]
        refine .inr ⟨Li,Am,ms.length,cm,.slice Av ms.length cv,b2,D',H2.out.1,?_,rfl,HZ.out.1,HZ.out.2.1,⟨HZ.out.2.2.1,HZ.out.2.2.2.1⟩,HE.out.2.2.2.2.2.2.1,HZ.out.2.2.2.2⟩
        unfold pubO
        rw [H5.out.2.1,H6.out.1,if_pos rfl,if_pos rfl,←HAL.out.1,HE.out.1]
end Go.Proofs.YtnnpoodcdibpiaaGreatDoor
