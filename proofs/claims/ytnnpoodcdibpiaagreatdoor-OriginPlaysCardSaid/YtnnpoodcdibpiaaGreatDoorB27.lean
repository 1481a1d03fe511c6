/-
  segment.WriteInit: an init's file.
-/
import Derived.Test.YtnnpoodcdibpiaaGreatDoorB26
namespace Go.Proofs.YtnnpoodcdibpiaaGreatDoor
open Go.RowKit
set_option maxRecDepth 100000
set_option maxHeartbeats 8000000
def tSequ:List UInt8:=[115,101,113,117]
def initBx(nm:List UInt8)(W H G sc tk:Nat):List Bx:=[⟨tHead,nm++nums32 [sc,tk]⟩,⟨tSequ,seqBy W H G⟩]
def initFile(nm:List UInt8)(W H G sc tk:Nat):List UInt8:=sealB (initBx nm W H G sc tk)
theorem seqBy_le{W H G:Nat}(hW:W<=4096)(hH:H<=4096)(hG:G<=64):(seqBy W H G).length<=17:=by
 have hf:=seqFl_ok hW hH hG;unfold seqBy;rw [packL_length];unfold seqFl at hf ⊢;have h1:=fldB_len (hf _ (List.mem_cons_self ..));have h2:=fldB_len (hf _ (List.mem_cons_of_mem _ (List.mem_cons_self ..)));have h3:=fldB_len (hf _ (List.mem_cons_of_mem _ (List.mem_cons_of_mem _ (List.mem_cons_self ..))));have h4:=fldB_len (hf _ (List.mem_cons_of_mem _ (List.mem_cons_of_mem _ (List.mem_cons_of_mem _ (List.mem_cons_self ..)))));simp only [fldsB,List.length_append,List.length_nil];omega
theorem initBx_size(nm:List UInt8)(W H G sc tk:Nat):bxSize (initBx nm W H G sc tk)=24+nm.length+(seqBy W H G).length:=by
 unfold bxSize initBx;simp only [List.map_cons,List.map_nil,List.sum_cons,List.sum_nil,List.length_append,nums32_length,List.length_cons,List.length_nil];omega
theorem initBx_ok{nm:List UInt8}{W H G sc tk:Nat}(h1:nm.length<=8)(h2:(seqBy W H G).length<=17):(initBx nm W H G sc tk).all Bx.okB=true:=by
 unfold initBx;have e1:Bx.okB ⟨tHead,nm++nums32 [sc,tk]⟩=true:=by
  show boxB tHead (nm++nums32 [sc,tk]).length=true;rw [List.length_append,nums32_length];unfold boxB;rw [show decide (nm.length+4*[sc,tk].length<=1048576)=true from decide_eq_true (by show nm.length+8<=_;omega)];decide +kernel
 have e2:Bx.okB ⟨tSequ,seqBy W H G⟩=true:=by
  show boxB tSequ (seqBy W H G).length=true;unfold boxB;rw [show decide ((seqBy W H G).length<=1048576)=true from decide_eq_true (by omega)];decide +kernel
 rw [List.all_cons,List.all_cons,e1,e2];rfl
theorem initB_yes{nm:List UInt8}{W H G sc tk:Int}(h:initB nm W H G sc tk=true):∃W' H' G' s t:Nat,W=(W':Int)/\H=(H':Int)/\G=(G':Int)/\sc=(s:Int)/\tk=(t:Int)/\W'<=4096/\H'<=4096/\G'<=64/\s<=1048576/\t<=1048576/\nm.length<=8/\seqRight W' H' G'=true:=by
 unfold initB at h;rw [Bool.and_eq_true,Bool.and_eq_true]at h;obtain⟨⟨hn,ht⟩,hs⟩:=h;have hs2:=of_decide_eq_true hs;unfold timesB at ht;simp only [Bool.not_eq_true',Bool.or_eq_false_iff,decide_eq_false_iff_not]at ht;unfold nameB at hn;rw [Bool.and_eq_true,decide_eq_true_eq]at hn;refine⟨W.toNat,H.toNat,G.toNat,sc.toNat,tk.toNat,by omega,by omega,by omega,by omega,by omega,by omega,by omega,by omega,by omega,by omega,hn.1.2,?_⟩;rw [show((W.toNat:Nat):Int)=W by omega,show((H.toNat:Nat):Int)=H by omega,show((G.toNat:Nat):Int)=G by omega];exact hs
theorem wp_txtBytes{o:Oper}{a:Act}{K:Act->World->Prop}{Q:Exit->Act->World->Prop}(w:World)(x:Operand)(ho:o.op=.convert 9 22 x)(nm:List UInt8)(hx:a.eval x=.string (strOf nm))(hn:nm.length<=1048576)
  (h:∀v' w',BytesM w' w.heap.size v' nm->Mod (fun _=>False) w w'->K (a.put o.dst v') w'):o.wp Tryz.prog a w K Q:=by
 have hr:=run_bytes_of_string (P:=Tryz.prog) w 9 22 5 (strOf nm) Tryz.underlying9 Tryz.underlying22 Tryz.underlying5;have hsz:=strOf_size nm;have hge:=grownCap_ge w (strOf nm).size 0 5;have hle:=grownCap_le_maxLen w (strOf nm).size 0 5 (by unfold maxLen;omega);generalize grownCap w (strOf nm).size 0 5=G at hr hge hle;have hbs:(bytesRow (strOf nm) G).size=G:=by
  unfold bytesRow;simp only [Array.size_append,Array.size_map,Array.size_replicate];show(strOf nm).size+(G-(strOf nm).size)=G;omega
 rw [hbs]at hr;unfold Oper.wp execOp;simp only [ho,hx,Sem.run_bind,hr,Result.andThen_ok];rw [hsz];refine h _ _ ⟨w.heap.size,G,bytesRow (strOf nm) G,(G,G+1),rfl,Nat.le_refl _,heap_alloc_new w.drew _,by rw [hbs];exact Nat.le_refl _,by omega,hle,hbs,?_⟩ (((Mod.refl _ _).drew).alloc _);have e:(u8s nm)=(bytesRow (strOf nm) G).toList.take nm.length:=by
  unfold bytesRow;rw [Array.toList_append,List.take_append_of_le_length (by simp;exact Nat.le_of_eq hsz.symm)];rw [List.take_of_length_le (by simp;exact Nat.le_of_eq hsz)];simp [u8s,strOf]
 exact e.symm
theorem wpList_txtBytes{ops:Array Oper}{rest:List Oper}{o:Oper}{a:Act}{Q:Exit->Act->World->Prop}(w:World)(hgd:o.guard=none)(x:Operand)(ho:o.op=.convert 9 22 x)(nm:List UInt8)(hx:a.eval x=.string (strOf nm))(hn:nm.length<=1048576)
  (h:∀v' w',BytesM w' w.heap.size v' nm->Mod (fun _=>False) w w'->wpList Tryz.prog ops Q rest (a.put o.dst v') w'):wpList Tryz.prog ops Q (o :: rest) a w:=
 wpList_plain hgd fun _ hK=>wp_txtBytes w x ho nm hx hn (fun v' w' h1 h2=>hK _ _ (h v' w' h1 h2))
theorem ints_two{w:World}{g:Nat}{t:TypeId}{a b:Nat}(h:Blk w g t #[.int .i64 (a:Int),.int .i64 (b:Int)]):IntsIn w (some ⟨g,0,none⟩) 2 2 (natI [a,b]):=by
 obtain⟨A,k,h1,_,h3,h4,h5⟩:=(RowIn.of_blk (n:=2) (size:=1) (xs:=[.int .i64 (a:Int),.int .i64 (b:Int)]) h rfl).ex;injection h1 with e1 e2 e3;subst e1 e3;exact⟨rfl,h3,h4,fun h0 ad e=>(h5 ad e h0).1⟩
theorem BoxesIn.two{w:World}{g:Nat}{t:TypeId}{u1 u2:Value}{b1 b2:Bx}(h:Blk w g t #[.string (strOf b1.typ),u1,.string (strOf b2.typ),u2])
  (h1:BytesF w (fun _=>True) u1 b1.data)(h2:BytesF w (fun _=>True) u2 b2.data):BoxesIn w (.slice (some ⟨g,0,none⟩) 2 2) [b1,b2]:=
 ⟨[.string (strOf b1.typ),u1,.string (strOf b2.typ),u2],RowIn.of_blk (n:=2) (size:=2) h rfl,⟨[[.string (strOf b1.typ),u1],[.string (strOf b2.typ),u2]],rfl,rfl,by simp,fun i x c hx hc=>by
  match i with
  | 0=>
   simp at hx hc;subst hx hc;exact⟨u1,rfl,h1⟩
  | 1=>
   simp at hx hc;subst hx hc;exact⟨u2,rfl,h2⟩
  | i+2=>simp at hx⟩⟩
theorem sgWriteInit(w:World)(nm:List UInt8)(W H G sc tk:Int)(hnm:nm.length<=9223372036854775807):
  Calls Tryz.prog 61 #[.agg (initC nm W H G sc tk)] w fun e w'=>Mod (fun _=>False) w w'/\((initB nm W H G sc tk=false/\e=.returned (.tuple #[.slice none 0 0,.int .i64 171])) \/
   (∃W' H' G' s t:Nat,W=(W':Int)/\H=(H':Int)/\G=(G':Int)/\sc=(s:Int)/\tk=(t:Int)/\initB nm W H G sc tk=true/\∃u,e=.returned (.tuple #[u,.int .i64 0])/\Bytes w' w.heap.size u (initFile nm W' H' G' s t))):=by
 have hb:=Blk.new w 93 (initC nm W H G sc tk);have hm:Mod (fun _=>False) w (w.alloc (.cells (initC nm W H G sc tk) 93)):=(Mod.refl _ w).alloc _;have hsz:=strOf_size nm;have HM:=Lib.hid (And.intro hm hb);unfold initC at HM ⊢;clear hm hb;go_enter Tryz.func61,Tryz.ntmps61;go_upto_region 1 with(fail)
 obtain⟨mb,hmb⟩:∃mb,mb=w.heap.size:=⟨_,rfl⟩
 rw [<-hmb]at HM ⊢;have HMB:=Lib.hid hmb;clear hmb;generalize w.alloc (.cells #[.string (strOf nm),.int .i64 W,.int .i64 H,.int .i64 G,.int .i64 sc,.int .i64 tk] 93)=w1 at *;go_wp2_with (refine wpList_load_row rfl 93 (.tmp 1) rfl mb rfl 93 #[.string (strOf nm),.int .i64 W,.int .i64 H,.int .i64 G,.int .i64 sc,.int .i64 tk] (0,0) _ HM.out.2 Tryz.underlying93 rfl (by kernel_rfl) ?_)
 refine(sgRightInit w1 nm W H G sc tk hnm).mono ?_;rintro e w2 ⟨rfl,hm2⟩;have H2:=Lib.hid (And.intro (HM.out.1.trans hm2) (HM.out.2.keep hm2 (fun h=>h)));clear hm2;cases hmd:initB nm W H G sc tk with
 | false=>
  go_wp2_with fail;go_ret2;exact⟨H2.out.1,.inl ⟨hmd,rfl⟩⟩
 | true=>
  obtain⟨W',H',G',s,t,rfl,rfl,rfl,rfl,rfl,hW,hH,hG,hs,ht,hn8,hsr⟩:=initB_yes hmd;have HMD:=Lib.hid hmd;have HB:=Lib.hid (And.intro hs (And.intro ht (And.intro hn8 (seqBy_le hW hH hG))));clear hmd hW hH hG hs ht hn8;obtain⟨bc,bf⟩:=H2.out.2.both;have bl:=H2.out.2.lt;have x1:w2.cell? ⟨mb,1,none⟩=some (.int .i64 (W':Int)):=bc 1;have x2:w2.cell? ⟨mb,2,none⟩=some (.int .i64 (H':Int)):=bc 2;have x3:w2.cell? ⟨mb,3,none⟩=some (.int .i64 (G':Int)):=bc 3;clear bc;go_wp2_with fail;refine(synSeq w2 W' H' G' hsr).mono ?_;rintro e w3 ⟨sg,rfl,hsb,hsl,hm3⟩;obtain⟨sl,hsl'⟩:∃sl,sl=(seqBy W' H' G').length:=⟨_,rfl⟩
  rw [<-hsl'];have H3:=Lib.hid (And.intro (H2.out.1.trans hm3) (And.intro (H2.out.2.keep hm3 (fun h=>h)) (And.intro hsb hsl')));clear x1 x2 x3 bf bl hm3 hsb hsl hsl' hsr;go_upto_region 6 with(fail)
  obtain⟨bc,bf⟩:=H3.out.2.1.both;have bl:=H3.out.2.1.lt;have x0:w3.cell? ⟨mb,0,none⟩=some (.string (strOf nm)):=bc 0;clear bc;have hn8:=HB.out.2.2.1;go_wp2_with (refine wpList_txtBytes w3 rfl (.tmp 18) rfl nm rfl (by omega) ?_;intro v4 w4 hv4 hm4;have HV4:=Lib.hid (And.intro hv4 hm4);have x4:w4.cell? ⟨mb,4,none⟩=some (.int .i64 (s:Int)):=(H3.out.2.1.keep hm4 (fun h=>h)).cell 4;have x5:w4.cell? ⟨mb,5,none⟩=some (.int .i64 (t:Int)):=(H3.out.2.1.keep hm4 (fun h=>h)).cell 5;clear hv4 hm4)
  obtain⟨A4,c4,rfl⟩:=(show BytesU w4 w3.heap.size v4 nm from .inr HV4.out.1).shape;have hb5:=Blk.new w4 3 #[.int .i64 (s:Int),.int .i64 (t:Int)];have hm5:=(Mod.refl (fun _=>False) w4).alloc (.cells #[.int .i64 (s:Int),.int .i64 (t:Int)] 3);have hu5:BytesU (w4.alloc (.cells #[.int .i64 (s:Int),.int .i64 (t:Int)] 3)) w3.heap.size (.slice A4 nm.length c4) nm:=(show BytesU w4 w3.heap.size (.slice A4 nm.length c4) nm from .inr HV4.out.1).mod hm5 (fun _ _ h=>h);have h34:=HV4.out.2.size;have hlo:=HV4.out.1.lt;have HW:=Lib.hid (And.intro ((H3.out.1.trans HV4.out.2).trans hm5) (And.intro (H3.out.2.2.1.keep (HV4.out.2.trans hm5) (fun h=>h)) (And.intro H3.out.2.2.1.lt H3.out.1.size)));clear x0 x4 x5 bf bl
  refine(sgFields _ w3.heap.size (.slice A4 nm.length c4) nm hu5 (by simp;omega) (some ⟨w4.heap.size,0,none⟩) 2 2 [s,t] (ints_two hb5) (fun ad e h=>by
   injection e with e;subst e;have:=(hlo _ h).2
   exact Nat.lt_irrefl _ this) (fun x hx=>by
    have h1:=HB.out.1;have h2:=HB.out.2.1;simp only [List.mem_cons,List.not_mem_nil,or_false]at hx;rcases hx with rfl|rfl<;>omega) (by omega)).mono ?_
  rintro e w6 ⟨u6,rfl,hu6,hm6,_⟩;obtain⟨A6,c6,rfl⟩:=hu6.shape;obtain⟨n6,hn6⟩:∃n6,n6=(nm++nums32 [s,t]).length:=⟨_,rfl⟩
  rw [<-hn6]at hu6 ⊢;have hM6:=HW.out.1.into hm6 (fun j h=>.inr (by have:=(hlo j h).1;have:=HW.out.2.2.2;omega));have hS6:=HW.out.2.1.keep hm6 (fun h=>by have:=(hlo _ h).1;have:=HW.out.2.2.1;omega);have H6:=Lib.hid (And.intro hM6 (And.intro hS6 hu6));clear hm6 hu6 hM6 hS6 hlo h34 hu5 hb5 hm5 hn6 HW HV4;go_wp2_with fail;have hbr:=Blk.new w6 151 #[.string (strOf tHead),.slice A6 n6 c6,.string (strOf tSequ),.slice (some ⟨sg,0,none⟩) sl sl];have hmr:=(Mod.refl (fun _=>False) w6).alloc (.cells #[.string (strOf tHead),.slice A6 n6 c6,.string (strOf tSequ),.slice (some ⟨sg,0,none⟩) sl sl] 151);have hsq:BytesF (w6.alloc (.cells #[.string (strOf tHead),.slice A6 n6 c6,.string (strOf tSequ),.slice (some ⟨sg,0,none⟩) sl sl] 151)) (fun _=>True) (.slice (some ⟨sg,0,none⟩) sl sl) (seqBy W' H' G'):=by
   have hkb:=H6.out.2.1.keep hmr (fun h=>h);have hq:=BytesF.of_own (F:=fun _=>True) (Bytes.of_blk (B:=0) (l:=seqBy W' H' G') (Nat.zero_le _) hkb (by unfold maxLen;have:=HB.out.2.2.2;omega)) (fun _ _=>trivial);rw [<-H3.out.2.2.2]at hq;exact hq
  have hbx:BoxesIn (w6.alloc (.cells #[.string (strOf tHead),.slice A6 n6 c6,.string (strOf tSequ),.slice (some ⟨sg,0,none⟩) sl sl] 151)) (.slice (some ⟨w6.heap.size,0,none⟩) 2 2) (initBx nm W' H' G' s t):=
   BoxesIn.two (b1:=⟨tHead,nm++nums32 [s,t]⟩) (b2:=⟨tSequ,seqBy W' H' G'⟩) hbr ((H6.out.2.2.mod hmr (fun _ _ h=>h)).toF) hsq
  have hMr:=H6.out.1.trans hmr;refine(sgSeal _ (.slice (some ⟨w6.heap.size,0,none⟩) 2 2) (initBx nm W' H' G' s t) hbx (show 2<=1000000 by decide) (by rw [initBx_size];have:=HB.out.2.2.1;have:=HB.out.2.2.2;omega)).mono ?_;rintro e wA ⟨hmA,⟨hno,rfl⟩|⟨_,uA,rfl,huA⟩⟩
  ·rw [initBx_ok HB.out.2.2.1 HB.out.2.2.2]at hno;cases hno
  ·have HA:=Lib.hid (And.intro (hMr.trans hmA) (own_base huA hMr.size));clear hmA huA hbr hmr hsq hbx hMr;go_wp2_with fail;go_ret2;exact⟨HA.out.1,.inr ⟨W',H',G',s,t,rfl,rfl,rfl,rfl,rfl,HMD.out,_,rfl,HA.out.2⟩⟩
def namesL(ls:List Ls):List Str:=ls.map Ls.name
def filesL(l:Ls):List Str:=l.init.path :: l.pieces.map Pc.path
def pathsR(ls:List Ls):List Str:=ls.flatMap filesL
def okR(ls:List Ls):Bool:=ls.all listedB&&decide (namesL ls).Nodup&&decide (pathsR ls).Nodup
def boundsB(m:Mf):Bool:=decide (1<=m.scale/\m.scale<=1048576/\1<=m.tick/\m.tick<=1048576/\1<=m.rends.length/\m.rends.length<=8)
theorem rightB_eq(m:Mf):mfRightB m=(boundsB m&&okR m.rends):=by
 unfold mfRightB boundsB okR;rw [Bool.and_assoc,Bool.and_assoc,Bool.and_assoc];rfl
theorem okR_iff(ls:List Ls):okR ls=true ↔ (∀l∈ls,listedB l=true)/\(namesL ls).Nodup/\(pathsR ls).Nodup:=by
 unfold okR;simp only [Bool.and_eq_true,List.all_eq_true,decide_eq_true_eq,and_assoc]
theorem split_at{ls:List Ls}{k:Nat}{l:Ls}(h:ls[k]?=some l):ls=ls.take k++l :: ls.drop (k+1):=by
 obtain⟨hlt,he⟩:=List.getElem?_eq_some_iff.1 h;rw [<-he,List.getElem_cons_drop,List.take_append_drop]
theorem take_snoc{α:Type}{ls:List α}{k:Nat}{l:α}(h:ls[k]?=some l):ls.take (k+1)=ls.take k++[l]:=by
 rw [List.take_add_one,h];rfl
theorem fail_listed{ls:List Ls}{k:Nat}{l:Ls}(h:ls[k]?=some l)(hl:listedB l=false):okR ls=false:=by
 rw [<-Bool.not_eq_true,okR_iff];rintro⟨h1,_⟩;have:=h1 l (List.mem_of_getElem? h);rw [hl]at this;cases this
theorem fail_name{ls:List Ls}{k:Nat}{l:Ls}(h:ls[k]?=some l)(hl:(namesL (ls.take k)).contains l.name=true):okR ls=false:=by
 rw [<-Bool.not_eq_true,okR_iff];rintro⟨_,h1,_⟩;rw [split_at h]at h1;unfold namesL at h1 hl;rw [List.map_append,List.map_cons,List.nodup_append]at h1;rw [List.contains_iff_mem]at hl;exact h1.2.2 _ hl _ (by simp) rfl
theorem fail_path{ls:List Ls}{k:Nat}{l:Ls}(h:ls[k]?=some l){q r:List Str}(hq:filesL l=q++r)(hl:¬(pathsR (ls.take k)++q).Nodup):okR ls=false:=by
 rw [<-Bool.not_eq_true,okR_iff];rintro⟨_,_,h1⟩;rw [split_at h]at h1;unfold pathsR at h1 hl;rw [List.flatMap_append,List.flatMap_cons,hq,<-List.append_assoc,<-List.append_assoc]at h1;exact hl ((List.nodup_append.1 (List.nodup_append.1 h1).1).1)
theorem okR_step{ls:List Ls}{k:Nat}{l:Ls}(h:ls[k]?=some l)(h0:okR (ls.take k)=true)(h1:listedB l=true)(h2:(namesL (ls.take k)).contains l.name=false)(h3:(pathsR (ls.take k)++filesL l).Nodup):okR (ls.take (k+1))=true:=by
 rw [okR_iff]at h0 ⊢;rw [take_snoc h];refine⟨fun x hx=>?_,?_,?_⟩
 ·rw [List.mem_append,List.mem_singleton]at hx;rcases hx with hx|rfl
  ·exact h0.1 x hx
  ·exact h1
 ·unfold namesL at h2 ⊢;rw [List.map_append,List.nodup_append];refine⟨h0.2.1,by simp,?_⟩;intro a ha b hb e;simp only [List.map_cons,List.map_nil,List.mem_singleton]at hb;subst hb;subst e;rw [<-List.contains_iff_mem]at ha;rw [ha]at h2;cases h2
 ·unfold pathsR at h3 ⊢;rw [List.flatMap_append];simpa using h3
theorem names_snoc{ls:List Ls}{k:Nat}{l:Ls}(h:ls[k]?=some l):namesL (ls.take (k+1))=namesL (ls.take k)++[l.name]:=by rw [take_snoc h];simp [namesL]
theorem paths_snoc{ls:List Ls}{k:Nat}{l:Ls}(h:ls[k]?=some l):pathsR (ls.take (k+1))=pathsR (ls.take k)++filesL l:=by rw [take_snoc h];simp [pathsR]
theorem nodup_snoc{l:List Str}{x:Str}(h:l.Nodup)(hx:l.contains x=false):(l++[x]).Nodup:=by
 rw [List.nodup_append];refine⟨h,by simp,?_⟩;intro a ha b hb e;simp only [List.mem_singleton]at hb;subst hb;subst e;rw [<-List.contains_iff_mem]at ha;rw [ha]at hx;cases hx
theorem not_nodup{l:List Str}{x:Str}(hx:l.contains x=true):¬(l++[x]).Nodup:=by
 rw [List.nodup_append];rintro⟨_,_,h⟩;rw [List.contains_iff_mem]at hx;exact h _ hx _ (by simp) rfl
def filesJ(l:Ls)(j:Nat):List Str:=l.init.path :: (l.pieces.take j).map Pc.path
theorem filesJ_end(l:Ls):filesJ l l.pieces.length=filesL l:=by unfold filesJ filesL;rw [List.take_length]
theorem filesJ_split(l:Ls)(j:Nat):filesL l=filesJ l j++(l.pieces.drop j).map Pc.path:=by
 unfold filesJ filesL;rw [List.cons_append,<-List.map_append,List.take_append_drop]
theorem filesJ_snoc{l:Ls}{j:Nat}{p:Pc}(h:l.pieces[j]?=some p):filesJ l (j+1)=filesJ l j++[p.path]:=by
 unfold filesJ;rw [take_snoc h];simp
theorem framesL_snoc{l:List Pc}{j:Nat}{p:Pc}(h:l[j]?=some p):framesL (l.take (j+1))=framesL (l.take j)+p.fr:=by
 unfold framesL;rw [take_snoc h];simp
theorem frames_bounds:∀(l:List Pc),(l.all (pieceB 1 64))=true->(l.length:Int)<=framesL l/\framesL l<=64*(l.length:Int)
 | [],_=>by simp [framesL]
 | p :: r,h=>by
  rw [List.all_cons,Bool.and_eq_true]at h;have h1:=frames_bounds r h.2;have h2:=h.1;unfold pieceB at h2;simp only [Bool.and_eq_true,decide_eq_true_eq]at h2;unfold framesL at h1 ⊢;simp only [List.map_cons,List.sum_cons,List.length_cons];omega
theorem all_snocP{p:Pc->Bool}{l:List Pc}{k:Nat}{c:Pc}(h:(l.take k).all p=true)(hk:l[k]?=some c)(hc:p c=true):(l.take (k+1)).all p=true:=by
 rw [take_snoc hk,List.all_append,h];simp [hc]
theorem listed_piece{l:Ls}{j:Nat}{p:Pc}(h:l.pieces[j]?=some p)(hp:pieceB 1 64 p=false):listedB l=false:=by
 have:l.pieces.all (pieceB 1 64)=false:=by
  rw [List.all_eq_false];exact⟨p,List.mem_of_getElem? h,by simp [hp]⟩
 unfold listedB;rw [this];simp
theorem listed_init{l:Ls}(h:pieceB 0 0 l.init=false):listedB l=false:=by
 unfold listedB;rw [h];simp
def lineP(p:Pc):Str:=lineL (linesP p)
def lineR(l:Ls):Str:=lineL [kRend,l.name,dec l.w,dec l.h,dec l.bw]
def lineI(l:Ls):Str:=lineL [kInit,dec l.init.sz,l.init.path]
def textR(l:Ls):Str:=lineR l++lineI l++l.pieces.flatMap lineP
def headL(m:Mf):Str:=lineL [kKinora,kOne]++lineL [kScale,dec m.scale,kTick,dec m.tick]
theorem linesR_text(l:Ls):(linesR l).flatMap lineL=textR l:=by
 unfold linesR textR lineR lineI;rw [List.flatMap_cons,List.flatMap_cons,List.flatMap_map,List.append_assoc];rfl
theorem writeL_eq(m:Mf):writeL m=headL m++m.rends.flatMap textR++lineL [kEnd]:=by
 have h:∀ls:List Ls,(ls.flatMap linesR).flatMap lineL=ls.flatMap textR:=by
  intro ls
  induction ls with
  | nil=>rfl
  | cons l r ih=>rw [List.flatMap_cons,List.flatMap_append,ih,List.flatMap_cons,linesR_text]
 unfold writeL linesM headL;rw [List.flatMap_cons,List.flatMap_cons,List.flatMap_append,h];simp
theorem dec_len{n:Int}(k:Nat)(h:n<10 ^ (k+1)):(dec n).length<=k+1:=by
 unfold dec;refine decDigits_len k _ ?_;have:(10:Int) ^ (k+1)=((10 ^ (k+1):Nat):Int):=by simp
 rw [this]at h;have h10:0<10 ^ (k+1):=Nat.pow_pos (by decide);omega
theorem lineP_len{p:Pc}(h:pieceB 1 64 p=true):(lineP p).length<=78:=by
 unfold pieceB pathB at h;simp only [Bool.and_eq_true,decide_eq_true_eq]at h;have h1:=dec_len (n:=p.fr) 1 (by omega);have h2:=dec_len (n:=p.sz) 6 (by omega);unfold lineP lineL linesP;simp only [joinSp,List.length_append,List.length_cons,List.length_nil,kPiece];omega
theorem lineI_len{l:Ls}(h:pieceB 0 0 l.init=true):(lineI l).length<=74:=by
 unfold pieceB pathB at h;simp only [Bool.and_eq_true,decide_eq_true_eq]at h;have h2:=dec_len (n:=l.init.sz) 6 (by omega);unfold lineI lineL;simp only [joinSp,List.length_append,List.length_cons,List.length_nil,kInit];omega
theorem lineR_len{l:Ls}(hn:nameB l.name=true)(hw:sideB l.w=true)(hh:sideB l.h=true)(hb:l.bw<=1099511627776):(lineR l).length<=43:=by
 unfold nameB at hn;unfold sideB at hw hh;simp only [Bool.and_eq_true,decide_eq_true_eq]at hn hw hh;have h1:=dec_len (n:=l.w) 3 (by omega);have h2:=dec_len (n:=l.h) 3 (by omega);have h3:=dec_len (n:=l.bw) 12 (by omega);unfold lineR lineL;simp only [joinSp,List.length_append,List.length_cons,List.length_nil,kRend];omega
theorem flat_lenM{α:Type}{f:α->Str}{c:Nat}:∀(l:List α),(∀x∈l,(f x).length<=c)->(l.flatMap f).length<=c*l.length
 | [],_=>by simp
 | x :: r,h=>by
  have h1:=flat_lenM r (fun y hy=>h y (by simp [hy]));have h2:=h x (by simp);rw [List.flatMap_cons,List.length_append,List.length_cons,Nat.mul_add];omega
theorem listed_parts{l:Ls}(h:listedB l=true):nameB l.name=true/\sideB l.w=true/\sideB l.h=true/\1<=l.bw/\l.bw<=1099511627776/\pieceB 0 0 l.init=true/\(∀p∈l.pieces,pieceB 1 64 p=true)/\1<=l.pieces.length/\l.pieces.length<=1024/\framesL l.pieces<=1024:=by
 unfold listedB at h;simp only [Bool.and_eq_true,decide_eq_true_eq]at h;have hf:=frames_bounds _ h.1.2;obtain⟨⟨⟨⟨⟨⟨hn,hw⟩,hh⟩,hb⟩,hi⟩,hp⟩,h1,h2⟩:=h;rw [List.all_eq_true]at hp;exact⟨hn,hw,hh,hb.1,hb.2,hi,hp,h1,by omega,h2⟩
theorem pieces_len{l:Ls}(h:listedB l=true)(j:Nat):((l.pieces.take j).flatMap lineP).length<=79872:=by
 obtain⟨_,_,_,_,_,_,hp,_,h3,_⟩:=listed_parts h;have:=flat_lenM (f:=lineP) (c:=78) (l.pieces.take j) (fun p hp'=>lineP_len (hp p (List.mem_of_mem_take hp')));rw [List.length_take]at this;omega
theorem textR_len{l:Ls}(h:listedB l=true):(textR l).length<=79989:=by
 obtain⟨hn,hw,hh,_,hb,hi,_,_,_,_⟩:=listed_parts h;have h1:=lineR_len hn hw hh hb;have h2:=lineI_len hi;have h3:=pieces_len h l.pieces.length;rw [List.take_length]at h3;unfold textR;rw [List.length_append,List.length_append];omega
theorem rends_len{m:Mf}(h:mfRightB m=true)(k:Nat):((m.rends.take k).flatMap textR).length<=639912:=by
 unfold mfRightB at h;simp only [Bool.and_eq_true,decide_eq_true_eq,List.all_eq_true]at h;have:=flat_lenM (f:=textR) (c:=79989) (m.rends.take k) (fun l hl=>textR_len (h.1.1.2 l (List.mem_of_mem_take hl)));rw [List.length_take]at this;omega
theorem headL_len{m:Mf}(h:mfRightB m=true):(headL m).length<=40:=by
 unfold mfRightB at h;simp only [Bool.and_eq_true,decide_eq_true_eq]at h;have h1:=dec_len (n:=m.scale) 6 (by omega);have h2:=dec_len (n:=m.tick) 6 (by omega);unfold headL lineL;simp only [joinSp,List.length_append,List.length_cons,List.length_nil,kKinora,kOne,kScale,kTick];omega
theorem right_bounds{m:Mf}(h:mfRightB m=true):(1<=m.scale/\m.scale<=1048576/\1<=m.tick/\m.tick<=1048576)/\(1<=m.rends.length/\m.rends.length<=8)/\∀l∈m.rends,listedB l=true:=by
 unfold mfRightB at h;simp only [Bool.and_eq_true,decide_eq_true_eq,List.all_eq_true]at h;exact⟨by omega,by omega,h.1.1.2⟩
abbrev SegL:=List (List UInt8 × Pix)
def kSInit:Str:=[47,105,110,105,116]
def pkPath(nm:Str)(i:Nat):Str:=nm++47 :: dec (i:Int)
def pkFirst(ss:List SegL)(i:Nat):Nat:=((ss.take i).map List.length).sum
def pkSeg(ss:List SegL)(i:Nat):List Str:=sampsOf (ss.getD i [])
def pkMedia(ss:List SegL)(i:Nat):Str:=mediaFile i (pkFirst ss i) (pkSeg ss i)
def pkFiles(nm:Str)(W H G sc tk:Nat)(ss:List SegL)(k:Nat):List (Str × Str):=(nm++kSInit,initFile nm W H G sc tk) :: (List.range k).map fun i=>(pkPath nm i,pkMedia ss i)
def pkPiece(nm:Str)(ss:List SegL)(i:Nat):Pc:=⟨((ss.getD i []).length:Int),((pkMedia ss i).length:Int),pkPath nm i⟩
def pkPieces(nm:Str)(ss:List SegL)(k:Nat):List Pc:=(List.range k).map (pkPiece nm ss)
def pkListed(nm:Str)(W H G sc tk:Nat)(ss:List SegL):Ls:=⟨nm,W,H,max (bandB sc tk ss:Int) 1,⟨0,((initFile nm W H G sc tk).length:Int),nm++kSInit⟩,pkPieces nm ss ss.length⟩
def pkMediaB(ss:List SegL)(i:Nat):Bool:=mediaB (i:Int) (pkFirst ss i:Int) (pkSeg ss i)
def pkB(nm:Str)(W H G sc tk:Int)(ss:List SegL):Bool:=initB nm W H G sc tk&&(List.range ss.length).all (pkMediaB ss)
theorem pkFiles_succ(nm:Str)(W H G sc tk:Nat)(ss:List SegL)(k:Nat):pkFiles nm W H G sc tk ss (k+1)=pkFiles nm W H G sc tk ss k++[(pkPath nm k,pkMedia ss k)]:=by
 unfold pkFiles;rw [List.range_succ,List.map_append];rfl
theorem pkPieces_succ(nm:Str)(ss:List SegL)(k:Nat):pkPieces nm ss (k+1)=pkPieces nm ss k++[pkPiece nm ss k]:=by
 unfold pkPieces;rw [List.range_succ,List.map_append];rfl
theorem pkFirst_succ{ss:List SegL}{k:Nat}(h:k<ss.length):pkFirst ss (k+1)=pkFirst ss k+(ss.getD k []).length:=by
 unfold pkFirst;rw [List.take_add_one,List.getElem?_eq_getElem h,List.map_append,List.sum_append,List.getD_eq_getElem?_getD,List.getElem?_eq_getElem h];simp
theorem pkFirst_le{ss:List SegL}(h:∀s∈ss,s.length<=64)(k:Nat):pkFirst ss k<=64*k:=by
 induction k with
 | zero=>simp [pkFirst]
 | succ k ih=>
  by_cases hk:k<ss.length
  ·rw [pkFirst_succ hk,List.getD_eq_getElem?_getD,List.getElem?_eq_getElem hk];have:=h _ (List.getElem_mem hk);simp only [Option.getD_some];omega
  ·unfold pkFirst at ih ⊢;rw [List.take_of_length_le (by omega)]at ih ⊢;omega
theorem pkSeg_len(ss:List SegL)(k:Nat):(pkSeg ss k).length=(ss.getD k []).length:=by unfold pkSeg sampsOf;rw [List.length_map]
theorem pkB_no{nm:Str}{W H G sc tk:Int}{ss:List SegL}{k:Nat}(h:k<ss.length)(hb:pkMediaB ss k=false):pkB nm W H G sc tk ss=false:=by
 unfold pkB;rw [Bool.and_eq_false_iff];right;rw [List.all_eq_false];exact⟨k,List.mem_range.2 h,by rw [hb];decide⟩
theorem pkB_yes{nm:Str}{W H G sc tk:Int}{ss:List SegL}(hi:initB nm W H G sc tk=true)(hb:(List.range ss.length).all (pkMediaB ss)=true):pkB nm W H G sc tk ss=true:=by unfold pkB;rw [hi,hb];rfl
theorem all_succ{f:Nat->Bool}{k:Nat}(h:(List.range k).all f=true)(hk:f k=true):(List.range (k+1)).all f=true:=by
 rw [List.range_succ,List.all_append,h];simp [hk]
def FileR(w:World)(F:Nat->Prop)(x:Str × Str)(c:List Value):Prop:=∃v,c=[.string (strOf x.1),v]/\BytesF w F v x.2
theorem FileR.turn{w w':World}{F F' S:Nat->Prop}{x:Str × Str}{c:List Value}(h:FileR w F x c)(hm:Mod S w w')(hS:∀k,F k->k<w.heap.size->¬S k)(hF:∀k,F k->k<w.heap.size->F' k):FileR w' F' x c:=by
 obtain⟨v,rfl,h⟩:=h;exact⟨v,rfl,RowIn.turn h hm hS hF⟩
theorem seal_len{l:List Bx}(h:l.all Bx.okB=true):(sealB l).length=bxSize l+12:=by
 unfold sealB;rw [List.length_append,bxBytes_len h,Bx.bytes_length (sumBx_ok l)];rfl
theorem mediaFile_len{a b:Nat}{l:List (List UInt8)}(h1:l.length<=64)(h2:sumLen l<=524288):(mediaFile a b l).length=48+4*l.length+sumLen l:=by
 unfold mediaFile;rw [seal_len (mediaBx_ok h1 h2),mediaBx_size];omega
theorem initFile_len{nm:List UInt8}{W H G sc tk:Nat}(h1:nm.length<=8)(h2:(seqBy W H G).length<=17):(initFile nm W H G sc tk).length=36+nm.length+(seqBy W H G).length:=by
 unfold initFile;rw [seal_len (initBx_ok h1 h2),initBx_size];omega
def I64(x:Int):Prop:=-9223372036854775808<=x/\x<=9223372036854775807
def Pc.Ok(p:Pc):Prop:=I64 p.fr/\I64 p.sz/\p.path.length<=9223372036854775807
def pcV(p:Pc):List Value:=[.int .i64 p.fr,.int .i64 p.sz,.string (strOf p.path)]
def PcAt(w:World)(b o:Nat)(p:Pc):Prop:=w.cell? ⟨b,o,none⟩=some (.int .i64 p.fr)/\w.cell? ⟨b,o+1,none⟩=some (.int .i64 p.sz)/\w.cell? ⟨b,o+2,none⟩=some (.string (strOf p.path))
structure PcsIn(w:World)(A:Option Addr)(n:Nat)(l:List Pc):Prop where
 len:l.length=n
 ok:∀p∈l,p.Ok
 at_:∀(i:Nat) (p:Pc),l[i]?=some p->∃b o,A=some ⟨b,o,none⟩/\b<w.heap.size/\PcAt w b (o+i*3) p
def lsV(l:Ls)(A:Option Addr)(n c:Nat):List Value:=[.string (strOf l.name),.int .i64 l.w,.int .i64 l.h,.int .i64 l.bw,.int .i64 l.init.fr,.int .i64 l.init.sz,.string (strOf l.init.path),.slice A n c]
def Ls.Ok(l:Ls):Prop:=l.name.length<=9223372036854775807/\I64 l.w/\I64 l.h/\I64 l.bw/\l.init.Ok/\l.pieces.length<=9223372036854775807
structure LsAt(w:World)(b o:Nat)(l:Ls)(A:Option Addr)(n c:Nat):Prop where
 cells:∀(i:Nat) (v:Value),(lsV l A n c)[i]?=some v->w.cell? ⟨b,o+i,none⟩=some v
 ok:l.Ok
 pcs:PcsIn w A n l.pieces
structure RsIn(w:World)(A:Option Addr)(n:Nat)(ls:List Ls):Prop where
 len:ls.length=n
 at_:∀(i:Nat) (l:Ls),ls[i]?=some l->∃b o A' n' c',A=some ⟨b,o,none⟩/\b<w.heap.size/\LsAt w b (o+i*8) l A' n' c'
structure MfIn(w:World)(A:Option Addr)(n:Nat)(m:Mf):Prop where
 nums:I64 m.scale/\I64 m.tick/\n<=9223372036854775807
 rs:RsIn w A n m.rends
def mfV(m:Mf)(A:Option Addr)(n c:Nat):List Value:=[.int .i64 m.scale,.int .i64 m.tick,.slice A n c]
section
variable {w w' : World}
theorem cellq{b o:Nat}(hm:Mod (fun _=>False) w w')(hb:b<w.heap.size):w'.cell? ⟨b,o,none⟩=w.cell? ⟨b,o,none⟩:=World.cell?_of_block (hm.block b hb (fun h=>h))
theorem PcAt.quiet{b o:Nat}{p:Pc}(h:PcAt w b o p)(hm:Mod (fun _=>False) w w')(hb:b<w.heap.size):PcAt w' b o p:=
 ⟨(cellq hm hb).trans h.1,(cellq hm hb).trans h.2.1,(cellq hm hb).trans h.2.2⟩
theorem PcsIn.quiet{A:Option Addr}{n:Nat}{l:List Pc}(h:PcsIn w A n l)(hm:Mod (fun _=>False) w w'):PcsIn w' A n l:=
 ⟨h.len,h.ok,fun i p hp=>by
  obtain⟨b,o,h1,h2,h3⟩:=h.at_ i p hp;exact⟨b,o,h1,Nat.lt_of_lt_of_le h2 hm.size,h3.quiet hm h2⟩⟩
theorem LsAt.quiet{b o:Nat}{l:Ls}{A:Option Addr}{n c:Nat}(h:LsAt w b o l A n c)(hm:Mod (fun _=>False) w w')(hb:b<w.heap.size):LsAt w' b o l A n c:=
 ⟨fun i v hv=>(cellq hm hb).trans (h.cells i v hv),h.ok,h.pcs.quiet hm⟩
theorem RsIn.quiet{A:Option Addr}{n:Nat}{ls:List Ls}(h:RsIn w A n ls)(hm:Mod (fun _=>False) w w'):RsIn w' A n ls:=
 ⟨h.len,fun i l hl=>by
  obtain⟨b,o,A',n',c',h1,h2,h3⟩:=h.at_ i l hl;exact⟨b,o,A',n',c',h1,Nat.lt_of_lt_of_le h2 hm.size,h3.quiet hm h2⟩⟩
theorem MfIn.quiet{A:Option Addr}{n:Nat}{m:Mf}(h:MfIn w A n m)(hm:Mod (fun _=>False) w w'):MfIn w' A n m:=⟨h.nums,h.rs.quiet hm⟩
end
theorem own_past{w w':World}{S:Nat->Prop}{B:Nat}{e:TypeId}{size n:Nat}{v:Value}{xs:List Value}(h:w.ownsRow B e size v n xs)(hm:Mod S w w')(hS:∀k,S k->k<w.heap.size->∃t cs,Blk w k t cs/\t≠e):w'.ownsRow B e size v n xs:=
 own_mod h hm (fun g hg hs=>by
  obtain⟨_,cs,hb⟩:=own_blk h hg;obtain⟨t,cs',hb',hne⟩:=hS g hs hb.lt;exact hb.ne_ hb' (Ne.symm hne) rfl)
theorem BytesU.past{w w':World}{S:Nat->Prop}{B:Nat}{v:Value}{l:List UInt8}(h:BytesU w B v l)(hm:Mod S w w')(hS:∀k,S k->k<w.heap.size->∃t cs,Blk w k t cs/\t≠5):BytesU w' B v l:=by
 rcases h with h|h
 ·exact .inl (own_past h hm hS)
 ·refine .inr (h.mod hm (fun g hg hs=>?_));obtain⟨g',cap,cur,fz,rfl,hB,hh,_⟩:=h;injection hg with hg;subst hg;obtain⟨t,cs,hb,hne⟩:=hS g' hs (Array.getElem?_eq_some_iff.1 hh).1;unfold Blk at hb;rw [hh]at hb;injection hb with hb;injection hb with _ ht;exact hne ht.symm
theorem BytesU.base{w:World}{B B':Nat}{v:Value}{l:List UInt8}(h:BytesU w B v l)(hB:B'<=B):BytesU w B' v l:=by
 rcases h with h|⟨g,cap,cur,fz,h1,h2,h3⟩
 ·exact .inl (own_base h hB)
 ·exact .inr ⟨g,cap,cur,fz,h1,Nat.le_trans hB h2,h3⟩
def FileU(w:World)(B:Nat)(x:Str × Str)(c:List Value):Prop:=∃v,c=[.string (strOf x.1),v]/\BytesU w B v x.2
theorem FileU.past{w w':World}{S:Nat->Prop}{B:Nat}{x:Str × Str}{c:List Value}(h:FileU w B x c)(hm:Mod S w w')(hS:∀k,S k->k<w.heap.size->∃t cs,Blk w k t cs/\t≠5):FileU w' B x c:=by
 obtain⟨v,rfl,h⟩:=h;exact⟨v,rfl,h.past hm hS⟩
theorem FileU.base{w:World}{B B':Nat}{x:Str × Str}{c:List Value}(h:FileU w B x c)(hB:B'<=B):FileU w B' x c:=by
 obtain⟨v,rfl,h⟩:=h;exact⟨v,rfl,h.base hB⟩
def PcR(p:Pc)(c:List Value):Prop:=c=pcV p
abbrev FilesU(w:World)(B:Nat)(v:Value)(l:List (Str × Str)):Prop:=ListOwn w B 131 2 (FileU w B) v l
abbrev PcsU(w:World)(B:Nat)(v:Value)(l:List Pc):Prop:=ListOwn w B 88 3 PcR v l
theorem FilesU.past{w w':World}{S:Nat->Prop}{B:Nat}{v:Value}{l:List (Str × Str)}(h:FilesU w B v l)(hm:Mod S w w')(hS:∀k,S k->k<w.heap.size->∃t cs,Blk w k t cs/\t≠5/\t≠131):FilesU w' B v l:=by
 obtain⟨xs,h1,h2⟩:=h;exact⟨xs,own_past h1 hm (fun k hk hl=>(hS k hk hl).imp fun t h=>h.imp fun cs h=>⟨h.1,h.2.2⟩),h2.mono (fun x _ c h=>FileU.past h hm (fun k hk hl=>(hS k hk hl).imp fun t h=>h.imp fun cs h=>⟨h.1,h.2.1⟩))⟩
theorem FilesU.base{w:World}{B B':Nat}{v:Value}{l:List (Str × Str)}(h:FilesU w B v l)(hB:B'<=B):FilesU w B' v l:=by
 obtain⟨xs,h1,h2⟩:=h;exact⟨xs,own_base h1 hB,h2.mono (fun x _ c h=>FileU.base h hB)⟩
theorem PcsU.past{w w':World}{S:Nat->Prop}{B:Nat}{v:Value}{l:List Pc}(h:PcsU w B v l)(hm:Mod S w w')(hS:∀k,S k->k<w.heap.size->∃t cs,Blk w k t cs/\t≠88):PcsU w' B v l:=by
 obtain⟨xs,h1,h2⟩:=h;exact⟨xs,own_past h1 hm hS,h2⟩
theorem none_turn{w:World}{T:TypeId->Prop}:∀k,(fun _:Nat=>False) k->k<w.heap.size->∃t cs,Blk w k t cs/\T t:=fun _ h=>h.elim
def LsU(w:World)(B:Nat)(l:Ls)(c:List Value):Prop:=∃A n k,c=lsV l A n k/\PcsU w B (.slice A n k) l.pieces
theorem LsU.past{w w':World}{S:Nat->Prop}{B:Nat}{l:Ls}{c:List Value}(h:LsU w B l c)(hm:Mod S w w')(hS:∀k,S k->k<w.heap.size->∃t cs,Blk w k t cs/\t≠88):LsU w' B l c:=by
 obtain⟨A,n,k,h1,h2⟩:=h;exact⟨A,n,k,h1,h2.past hm hS⟩
theorem LsU.base{w:World}{B B':Nat}{l:Ls}{c:List Value}(h:LsU w B l c)(hB:B'<=B):LsU w B' l c:=by
 obtain⟨A,n,k,h1,xs,h2,h3⟩:=h;exact⟨A,n,k,h1,xs,own_base h2 hB,h3⟩
structure PkAt(w0 w:World)(nm:Str)(W H G sc tk:Nat)(ss:List SegL)(bw:Int)(isz:Nat)(k j lb:Nat)(fv:Value):Prop where
 files:FilesU w w0.heap.size fv (pkFiles nm W H G sc tk ss k)
 box:∃A c,PcsU w w0.heap.size (.slice A j c) (pkPieces nm ss j)/\Blk w lb 91 #[.string (strOf nm),.int .i64 (W:Int),.int .i64 (H:Int),.int .i64 bw,.int .i64 0,.int .i64 (isz:Int),.string (strOf (nm++kSInit)),.slice A j c]
 low:w0.heap.size<=lb
 mod:Mod (fun _=>False) w0 w
theorem own_typed{w:World}{B size n:Nat}{e:TypeId}{v:Value}{xs:List Value}(h:w.ownsRow B e size v n xs){T:TypeId->Prop}(hT:T e):∀k,v.ownBlock=some k->k<w.heap.size->∃t cs,Blk w k t cs/\T t:=fun _ hk _=>by
 obtain⟨_,cs,hb⟩:=own_blk h hk;exact⟨e,cs,hb,hT⟩
section
variable {w0 w w' : World} {nm : Str} {W H G sc tk : Nat} {ss : List SegL} {bw : Int} {isz : Nat} {k j lb : Nat} {fv fv' : Value} {xs cells : List Value}
theorem PkAt.quiet(h:PkAt w0 w nm W H G sc tk ss bw isz k j lb fv)(hm:Mod (fun _=>False) w w'):PkAt w0 w' nm W H G sc tk ss bw isz k j lb fv:=by
 obtain⟨A,c,h1,h2⟩:=h.box;exact⟨h.files.past hm none_turn,⟨A,c,h1.past hm none_turn,h2.keep hm (fun h=>h)⟩,h.low,h.mod.trans hm⟩
theorem pkFiles_len(nm:Str)(W H G sc tk:Nat)(ss:List SegL)(k:Nat):(pkFiles nm W H G sc tk ss k).length=k+1:=by simp [pkFiles]
theorem pkPieces_len(nm:Str)(ss:List SegL)(k:Nat):(pkPieces nm ss k).length=k:=by simp [pkPieces]
theorem PkAt.file(h:PkAt w0 w nm W H G sc tk ss bw isz k j lb fv)(hrow:w.ownsRow w0.heap.size 131 2 fv (k+1) xs)(hc:CellsOf 2 (FileU w w0.heap.size) (pkFiles nm W H G sc tk ss k) xs)(y1:w'.ownsRow w0.heap.size 131 2 fv' (k+1+1) (xs++cells))
  (y2:Mod (fun j=>fv.ownBlock=some j) w w')(y3:Mod (fun _=>False) w0 w')(hx:FileU w w0.heap.size (pkPath nm k,pkMedia ss k) cells)(hl:cells.length=2):PkAt w0 w' nm W H G sc tk ss bw isz (k+1) j lb fv':=by
 obtain⟨A,c,h1,h2⟩:=h.box;refine⟨⟨xs++cells,by rw [pkFiles_len];exact y1,?_⟩,⟨A,c,h1.past y2 (own_typed hrow (by decide)),h2.keep y2 (fun hk=>?_)⟩,h.low,y3⟩
 ·rw [pkFiles_succ];exact(hc.mono (fun x _ c hx=>hx.past y2 (own_typed hrow (by decide)))).snoc (hx.past y2 (own_typed hrow (by decide))) hl
 ·obtain⟨_,cs,hb⟩:=own_blk hrow hk;exact hb.ne_ h2 (by decide) rfl
theorem PkAt.piece{A A':Option Addr}{c c':Nat}(h:PkAt w0 w nm W H G sc tk ss bw isz k j lb fv)(hrow:w.ownsRow w0.heap.size 88 3 (.slice A j c) j xs)(hc:CellsOf 3 PcR (pkPieces nm ss j) xs)(y1:w'.ownsRow w0.heap.size 88 3 (.slice A' (j+1) c') (j+1) (xs++pcV (pkPiece nm ss j)))
  (y2:Mod (fun k=>(Value.slice A j c).ownBlock=some k) w w')(y3:Mod (fun _=>False) w0 w'):PkAt w0 (w'.setCell ⟨lb,7,none⟩ (.slice A' (j+1) c')) nm W H G sc tk ss bw isz k (j+1) lb fv:=by
 obtain⟨A2,c2,h1,h2⟩:=h.box
 have hlb:Blk w' lb 91 #[.string (strOf nm),.int .i64 (W:Int),.int .i64 (H:Int),.int .i64 bw,.int .i64 0,.int .i64 (isz:Int),.string (strOf (nm++kSInit)),.slice A2 j c2]:=h2.keep y2 (fun hk=>by
  obtain⟨_,cs,hb⟩:=own_blk hrow hk;exact hb.ne_ h2 (by decide) rfl)
 have hs:Mod (·=lb) w' (w'.setCell ⟨lb,7,none⟩ (.slice A' (j+1) c')):=(Mod.refl (·=lb) w').setCell (p:=⟨lb,7,none⟩) (.inl rfl) _;have ht:∀ {T:TypeId->Prop},T 91->∀k,k=lb->k<w'.heap.size->∃t cs,Blk w' k t cs/\T t:=fun hT k hk _=>by subst hk;exact⟨_,_,hlb,hT⟩
 refine⟨(h.files.past y2 (own_typed hrow (by decide))).past hs (ht (by decide)),⟨A',c',⟨xs++pcV (pkPiece nm ss j),?_,?_⟩,hlb.put rfl⟩,h.low,y3.into hs (fun i e=>.inr (e▸h.low))⟩
 ·rw [pkPieces_len];exact own_past y1 hs (ht (by decide))
 ·rw [pkPieces_succ];exact hc.snoc rfl rfl
end
end Go.Proofs.YtnnpoodcdibpiaaGreatDoor
