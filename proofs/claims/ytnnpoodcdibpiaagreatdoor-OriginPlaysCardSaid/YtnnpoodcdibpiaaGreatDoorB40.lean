/-
  A strings.Builder that is the first field of manifest's lines: copyCheck, WriteByte, WriteString, String, walked.
-/
import Derived.Test.YtnnpoodcdibpiaaGreatDoorB39
import Derived.Lib.Builder
import Derived.Lib.UnsafeStr
namespace Go.Proofs.YtnnpoodcdibpiaaGreatDoor
open Go.RowKit
set_option maxRecDepth 100000
set_option maxHeartbeats 8000000
structure SB(w:World)(B b:Nat)(p v:Value)(l:Str):Prop where
 blk:Blk w b 173 #[p,v]
 adr:p=.pointer none\/p=.pointer (some ⟨b,0,none⟩)
 row:Bytes w B v l
 low:B<=b
theorem mfPCopy(w:World)(B b:Nat)(p v:Value)(l:Str)(h:SB w B b p v l):Calls Tryz.prog 189 #[.pointer (some ⟨b,0,none⟩)] w fun e w'=>e=.returned (.tuple #[])/\SB w' B b (.pointer (some ⟨b,0,none⟩)) v l/\Mod (·=b) w w':=by
 obtain⟨hb,hp,hr,hlo⟩:=h;obtain⟨hc,hf⟩:=hb.both;rcases hp with rfl|rfl
 ·have HH:=Lib.hid (And.intro hb (And.intro hr hlo));clear hb hr;go_enter Tryz.func189,Tryz.ntmps189;obtain⟨j,hj,hjs⟩:=Option.map_eq_some_iff.1 (show(Tryz.prog.info? 171).map (·.size)=some 2 from by kernel_rfl);have hsh:w.shape? b=some (173,2):=by
   have:=HH.out.1;unfold Blk at this;simp [World.shape?,this]
  go_wp2_with fail;rw [Lib.run_to_unsafe w ⟨b,0,none⟩ Tryz.underlying169 Tryz.underlying377 hj (by rw [hjs];decide) hsh (Nat.zero_lt_succ 1)];simp only [Result.andThen];rw [Oper.upon_value];go_wp2_with fail;rw [run_callFunc_extern Tryz.func254 (by kernel_rfl) (by kernel_rfl) (by kernel_rfl) (e:=Extern.AbiNoEscape.same) (by kernel_rfl)];rw [Lib.run_noEscape];simp only [Result.andThen];rw [Oper.upon_value];go_wp2_with fail;rw [Lib.run_from_unsafe w ⟨b,0,none⟩ Tryz.underlying377 Tryz.underlying169 hj hsh (by kernel_rfl)];simp only [Result.andThen];rw [Oper.upon_value];go_wp2_with fail;go_end0
  have hmm:Mod (·=b) w (w.setCell ⟨b,0,none⟩ (.pointer (some ⟨b,0,none⟩))):=(Mod.refl (·=b) w).setCell (p:=⟨b,0,none⟩) (.inl rfl) _;exact⟨rfl,⟨HH.out.1.put rfl,.inr rfl,own_mod HH.out.2.1 hmm (fun g hg e=>own_ne_blk HH.out.2.1 HH.out.1 (by decide) (by rw [hg,e])),hlo⟩,hmm⟩
 ·have hb':=hb;have HH:=Lib.hid (And.intro hb (And.intro hr hlo));clear hb hr hb';obtain⟨j,hj,hjs⟩:=Option.map_eq_some_iff.1 (show(Tryz.prog.info? 171).map (·.size)=some 2 from by kernel_rfl);go_enter Tryz.func189,Tryz.ntmps189;go_wp2_with fail;rw [Lib.run_neq_ptr_same w _ Tryz.underlying169 hj];go_wp2_with fail;go_end0
  exact⟨rfl,⟨HH.out.1,.inr rfl,HH.out.2.1,hlo⟩,Mod.refl _ _⟩
def TB(t:TypeId):Bool:=t == 5 || t == 173
theorem SB.tm{w w':World}{B b:Nat}{p v:Value}{l:Str}(h:SB w B b p v l)(hm:Mod (fun j=>j=b\/v.ownBlock=some j) w w'):TMod B TB w w':=
 .of_mod hm (fun k hk hs=>by
  rcases hs with rfl|hs
  ·exact⟨h.low,_,_,h.blk,rfl⟩
  ·obtain⟨h1,cs,h2⟩:=own_blk h.row hs;exact⟨h1,_,_,h2,rfl⟩)
def SbPost(w:World)(B b:Nat)(l:Str)(w':World):Prop:=(∃v',SB w' B b (.pointer (some ⟨b,0,none⟩)) v' l)/\TMod B TB w w'
theorem SB.store_{w1 w2:World}{B b:Nat}{p v v':Value}{l l2:Str}(h:SB w1 B b p v l)(hr2:Bytes w2 B v' l2)(hm2:Mod (fun j=>v.ownBlock=some j) w1 w2):
  SB (w2.setCell ⟨b,1,none⟩ v') B b p v' l2/\TMod B TB w1 (w2.setCell ⟨b,1,none⟩ v'):=by
 have hne:v.ownBlock≠some b:=own_ne_blk h.row h.blk (by decide);have hb2:=h.blk.keep hm2 hne;have hmm:Mod (·=b) w2 (w2.setCell ⟨b,1,none⟩ v'):=(Mod.refl (·=b) w2).setCell (p:=⟨b,1,none⟩) (.inl rfl) _;refine⟨⟨hb2.put rfl,h.adr,own_mod hr2 hmm (fun g hg e=>own_ne_blk hr2 hb2 (by decide) (by rw [hg,e])),h.low⟩,?_⟩;exact(h.tm (hm2.mono (fun _ h=>.inr h))).trans (.of_mod hmm (fun k hk e=>by subst e;exact⟨h.low,_,_,hb2,rfl⟩))
theorem pWByte(w:World)(B b:Nat)(p v:Value)(l:Str)(c:UInt8)(h:SB w B b p v l)(hl:l.length<1048576)(hB:B<=w.heap.size):Calls Tryz.prog 127 #[.pointer (some ⟨b,0,none⟩),.int .u8 (c.toNat:Int)] w fun e w'=>e=.returned .nilIface/\SbPost w B b (l++[c]) w':=by
 have hcu:=c.toNat_lt;have HW:=Lib.hid h;clear h;go_enter Tryz.func127,Tryz.ntmps127;go_wp2_with fail;refine(mfPCopy _ B b p v l HW.out).mono ?_;rintro e w1 ⟨rfl,h1,hm1⟩;have c1:=(h1.blk.cell 1)
 have f1:=h1.blk.frozen;have hB1:B<=w1.heap.size:=Nat.le_trans hB hm1.size;have HC:=Lib.hid (And.intro h1 hm1);clear h1 hm1;go_wp2_with (at_builtin;refine wpList_app_u8 _ rfl _ _ rfl B v l c rfl rfl HC.out.1.row hB1 hl ?_;intro v' w2 hr2 hm2 hall2 hk2;refine Hid.out ?_)
 refine Lib.hid ?_;have hne:v.ownBlock≠some b:=own_ne_blk HC.out.1.row HC.out.1.blk (by decide);have hb2:=HC.out.1.blk.keep hm2 hne;obtain⟨A',n',cp',rfl⟩:=own_form hr2;have f2:=hb2.frozen;have c2:=hb2.cell;have HD:=Lib.hid (And.intro hr2 hm2);clear hr2 hm2 hb2 hne c1 f1 hall2 hk2;go_wp2_with fail;go_ret;have he:=HC.out.1.store_ HD.out.1 HD.out.2;exact⟨rfl,⟨_,he.1⟩,(HW.out.tm (HC.out.2.mono (fun _ h=>.inl h))).trans he.2⟩
theorem u8s_str(t:Str):Lib.strCells (strOf t)=u8s t:=by
 unfold Lib.strCells u8s;rw [strOf_data]
theorem pWStr(w:World)(B b:Nat)(p v:Value)(l t:Str)(h:SB w B b p v l)(hl:l.length+t.length<=1048576)(hB:B<=w.heap.size):Calls Tryz.prog 128 #[.pointer (some ⟨b,0,none⟩),.string (strOf t)] w fun e w'=>e=.returned (.tuple #[.int .i64 (t.length:Int),.nilIface])/\SbPost w B b (l++t) w':=by
 obtain⟨i0,hi0,hz0,hz1,hz2⟩:=info_parts u8_info;have hts:=strOf_size t;have HW:=Lib.hid h;clear h;go_enter Tryz.func128,Tryz.ntmps128;go_wp2_with fail;refine(mfPCopy _ B b p v l HW.out).mono ?_;rintro e w1 ⟨rfl,h1,hm1⟩;have c1:=(h1.blk.cell 1)
 have f1:=h1.blk.frozen;have hB1:B<=w1.heap.size:=Nat.le_trans hB hm1.size;have HC:=Lib.hid (And.intro h1 hm1);clear h1 hm1;go_wp2_with (at_builtin;refine Lib.wpList_append_own_string _ rfl _ _ 22 9 rfl B 5 i0 Tryz.underlying22 Tryz.underlying9 hi0 hz0 hz1 hz2 v l.length (u8s l) rfl HC.out.1.row (strOf t) rfl (by unfold maxLen;rw [hts];omega) (by rw [hts];omega) hB1 ?_;intro v' w2 hr2 hm2 _;refine Hid.out ?_)
 refine Lib.hid ?_;have hr2':Bytes w2 B v' (l++t):=by
  unfold Bytes;have e2:u8s (l++t)=u8s l++u8s t:=by simp [u8s]
  rw [List.length_append,e2,<-u8s_str,<-hts];exact hr2
 have hM2:Mod (fun j=>v.ownBlock=some j) w1 w2:=(Mod.refl _ w1).grown hm2 (fun k hk=>.inl hk);have hne:v.ownBlock≠some b:=own_ne_blk HC.out.1.row HC.out.1.blk (by decide);have hb2:=HC.out.1.blk.keep hM2 hne;obtain⟨A',n',cp',rfl⟩:=own_form hr2';have f2:=hb2.frozen;have c2:=hb2.cell;have HD:=Lib.hid (And.intro hr2' hM2);clear hr2 hm2 hr2' hM2 hb2 hne c1 f1;go_wp2_with fail;go_ret2;have he:=HC.out.1.store_ HD.out.1 HD.out.2;exact⟨rfl,⟨_,he.1⟩,(HW.out.tm (HC.out.2.mono (fun _ h=>.inl h))).trans he.2⟩
theorem pString(w:World)(B b:Nat)(p v:Value)(l:Str)(h:SB w B b p v l)(h0:l≠[]):Calls Tryz.prog 76 #[.pointer (some ⟨b,0,none⟩)] w fun e w'=>e=.returned (.string (strOf l))/\Below B w w':=by
 have hl0:l.length≠0:=by simpa using h0
 obtain⟨hb,hp,hown,hlo⟩:=h;obtain⟨g,cap,cur,rfl,hbg,hg,hnc,hcm,hcs,htake⟩:∃g cap cur,v=.slice (some ⟨g,0,none⟩) l.length cap/\B<=g/\w.heap[g]?=some (.cells cur 5 (0,0))/\l.length<=cap/\cap<=maxLen/\cur.size=cap*1/\cur.toList.take (l.length*1)=u8s l:=by
  rcases hown.2 with⟨_,hz⟩|⟨g,cap,cur,hv,r⟩
  ·exact absurd hz hl0
  ·exact⟨g,cap,cur,hv,r⟩
 have c1:w.drew.cell? ⟨b,1,none⟩=some (.slice (some ⟨g,0,none⟩) l.length cap):=hb.drew.cell 1
 have hSD:(Builtin.unsafeSliceData_ #[22] 231 #[.slice (some ⟨g,0,none⟩) l.length cap]).run Tryz.prog w.drew=.ok (.pointer (some ⟨g,0,none⟩)) w.drew:=
  Lib.run_unsafeSliceData_row _ _ _ _ _ _ (by omega)
 have hUS:(Builtin.unsafeString_ #[231,3] 9 #[.pointer (some ⟨g,0,none⟩),.int .i64 l.length]).run Tryz.prog w.drew=.ok (.string (strOf l)) (w.drew.freeze ⟨g,0,none⟩ l.length):=by
  refine Lib.run_unsafeString_row w.drew 231 3 9 5 Tryz.underlying231 (by kernel_rfl) g cur.size (by have hg':w.drew.heap[g]?=some (.cells cur 5 (0,0)):=hg;simp [World.shape?,hg']) l h0 (by omega) (by unfold maxLen at hcm;omega) ?_;intro j x hx;have:=hown.cells (g:=g) rfl j (.int .u8 x.toNat) (by simp [u8s,hx]);exact this
 have HH:=Lib.hid (And.intro hbg hg);clear hb hown hnc hcs htake;go_enter Tryz.func76,Tryz.ntmps76;go_wp2_with fail
 go_region
 all_goals(go_wp2;go_ret;exact⟨rfl,Lib.below_freeze (Below.drew (Below.refl B w)) (p:=⟨g,0,none⟩) HH.out.1 _⟩)
def strsV(ss:List Str):List Value:=ss.map fun s=>.string (strOf s)
theorem strsV_get{ss:List Str}{i:Nat}{s:Str}(h:ss[i]?=some s):(strsV ss).toArray[i]?=some (.string (strOf s)):=by
 rw [List.getElem?_toArray];unfold strsV;rw [List.getElem?_map,h];rfl
theorem join_app:∀(a b:List Str),a≠[]->b≠[]->joinSp (a++b)=joinSp a++32 :: joinSp b
 | [],_,h,_=>absurd rfl h
 | [x],[],_,h=>absurd rfl h
 | [x],y :: r,_,_=>rfl
 | x :: y :: r,b,_,hb=>by
  have:=join_app (y :: r) b (by simp) hb;rw [List.cons_append,List.cons_append,joinSp,<-List.cons_append,this,joinSp];simp
theorem join_len{ss:List Str}{k:Nat}:(joinSp (ss.take k)).length<=(joinSp ss).length:=by
 by_cases h1:ss.take k=[]
 ·rw [h1];simp [joinSp]
 ·by_cases h2:ss.drop k=[]
  ·have:=List.take_append_drop k ss;rw [h2,List.append_nil]at this;rw [this];exact Nat.le_refl _
  ·have:=join_app _ _ h1 h2;rw [List.take_append_drop]at this;rw [this,List.length_append];omega
theorem join_first{ss:List Str}{s:Str}(h:ss[0]?=some s):joinSp (ss.take (0+1))=s:=by
 cases ss with
 | nil=>simp at h
 | cons x r=>
  simp at h;subst h;rfl
theorem join_next{ss:List Str}{k:Nat}{s:Str}(h:ss[k]?=some s)(hk:0<k):joinSp (ss.take (k+1))=joinSp (ss.take k)++[32]++s:=by
 have hlt:k<ss.length:=(List.getElem?_eq_some_iff.1 h).1;have e:ss.take (k+1)=ss.take k++[s]:=by rw [List.take_add_one,h];rfl
 rw [e,join_app _ _ (by intro h0;rw [List.take_eq_nil_iff]at h0;rcases h0 with h0|h0;omega;rw [h0]at hlt;simp at hlt) (by simp)];simp [joinSp]
theorem join_ge:∀(ss:List Str),ss.length<=(joinSp ss).length+1
 | []=>by simp
 | [x]=>by simp
 | x :: y :: r=>by
  have:=join_ge (y :: r);simp only [joinSp,List.length_append,List.length_cons]at this ⊢;omega
def LnRel(w:World)(B b:Nat)(l:Str)(ss:List Str)(v:Value)(wr:World):Prop:=
 ∃k:Nat,k<=ss.length/\v=.int .i64 (k:Int)/\(∃p v',SB wr B b p v' (l++joinSp (ss.take k)))/\TMod B TB w wr
theorem pLine(w:World)(B b fb n:Nat)(p v:Value)(l:Str)(ss:List Str)(h:SB w B b p v l)(hf:Blk w fb 9 (strsV ss).toArray)(hn:ss.length=n)(hl:l.length+(lineL ss).length<=1048576)(hB:B<=w.heap.size):
  Calls Tryz.prog 75 #[.pointer (some ⟨b,0,none⟩),.slice (some ⟨fb,0,none⟩) n n] w fun e w'=>e=.returned (.tuple #[])/\SbPost w B b (l++lineL ss) w':=by
 have hL:l.length+(joinSp ss).length+1<=1048576:=by unfold lineL at hl;rw [List.length_append]at hl;simp at hl;omega
 have hn8:n<=1048576:=by have:=join_ge ss;omega
 have H:=Lib.hid (And.intro h (And.intro hf hn));clear h hf;go_enter Tryz.func75,Tryz.ntmps75;go_wp2_with fail;go_loopw [8] (LnRel w B b l ss) (fun s _=>n-(intOf s).toNat)
 case atStart=>exact⟨0,by omega,rfl,⟨p,v,by simpa [joinSp]using H.out.1⟩,TMod.refl _ _ _⟩
 case round=>
  rename World=>wr
  obtain⟨k,hk,rfl,⟨p1,v1,hsb⟩,hT⟩:=hrel;have hbw:=Blk.tmod H.out.2.1 hT rfl;have hsz:=hT.size;by_cases hlt:k<n
  ·obtain⟨s,hs⟩:∃s,ss[k]?=some s:=⟨_,List.getElem?_eq_getElem (by omega)⟩
   have d1:decide ((k:Int)<(n:Int))=true:=decide_eq_true (by omega);have c1:=hbw.cell k;rw [strsV_get hs]at c1;have HK:=Lib.hid (And.intro hsb (And.intro hT hs));clear hsb hT hs hbw;cases k with
   | zero=>
    have d2:decide ((0:Int)<((0:Nat):Int))=false:=rfl;go_wp2_with fail;have hq:joinSp (ss.take (0+1))=s:=join_first HK.out.2.2;have hq2:=join_len (ss:=ss) (k:=0+1);rw [hq]at hq2;refine(pWStr wr B b p1 v1 _ s HK.out.1 (by simp [joinSp];omega) (by omega)).mono ?_;rintro e w2 ⟨rfl,⟨v2,hs2⟩,ht2⟩;have HQ:=Lib.hid (And.intro hs2 (And.intro (HK.out.2.1.trans ht2) hq));clear hs2 ht2 hq hq2;go_wp2_with fail;go_roundw
    case rel=>exact⟨0+1,by omega,by go_num,⟨_,v2,by rw [HQ.out.2.2];simpa [joinSp]using HQ.out.1⟩,HQ.out.2.1⟩
    case measure=>simp [intOf];omega
   | succ k=>
    have d2:decide ((0:Int)<((k+1:Nat):Int))=true:=decide_eq_true (by omega);have hq:joinSp (ss.take (k+1+1))=joinSp (ss.take (k+1))++[32]++s:=join_next HK.out.2.2 (by omega);have hq2:=join_len (ss:=ss) (k:=k+1+1);rw [hq,List.length_append,List.length_append,List.length_singleton]at hq2;have HQ0:=Lib.hid hq;clear hq;go_wp2_with fail;refine(pWByte wr B b p1 v1 _ 32 HK.out.1 (by rw [List.length_append];omega) (by omega)).mono ?_;rintro e w2 ⟨rfl,⟨v2,hs2⟩,ht2⟩;have hsz2:=ht2.size;have HQ:=Lib.hid (And.intro hs2 (HK.out.2.1.trans ht2));clear hs2 ht2;go_wp2_with fail;refine(pWStr w2 B b _ v2 _ s HQ.out.1 (by rw [List.length_append,List.length_append,List.length_singleton];omega) (by omega)).mono ?_;rintro e w3 ⟨rfl,⟨v3,hs3⟩,ht3⟩;have HQ3:=Lib.hid (And.intro hs3 (HQ.out.2.trans ht3));clear hs3 ht3;go_wp2_with fail;go_roundw
    case rel=>exact⟨k+1+1,by omega,by go_num,⟨_,v3,by rw [HQ0.out,<-List.append_assoc,<-List.append_assoc];exact HQ3.out.1⟩,HQ3.out.2⟩
    case measure=>simp [intOf];omega
  ·obtain rfl:k=n:=by omega
   have d1:decide ((k:Int)<(k:Int))=false:=decide_eq_false (by omega);have he:joinSp (ss.take k)=joinSp ss:=by rw [<-hn,List.take_length]
   rw [he]at hsb;have HK:=Lib.hid (And.intro hsb hT);clear hsb hT hbw he;go_wp2_with fail;refine(pWByte wr B b p1 v1 _ 10 HK.out.1 (by rw [List.length_append];omega) (by omega)).mono ?_;rintro e w2 ⟨rfl,⟨v2,hs2⟩,ht2⟩;have HQ:=Lib.hid (And.intro hs2 (HK.out.2.trans ht2));clear hs2 ht2;go_wp2_with fail;go_end0
   exact⟨rfl,⟨v2,by unfold lineL;rw [<-List.append_assoc];exact HQ.out.1⟩,HQ.out.2⟩
theorem SB.fresh(w:World):SB (w.alloc (.cells #[.pointer none,.slice none 0 0] 173)) w.heap.size w.heap.size (.pointer none) (.slice none 0 0) []:=
 ⟨Blk.new _ _ _,.inl rfl,World.ownsRow_nil _ _ _ _,Nat.le_refl _⟩
theorem SB.lower{w:World}{B B' b:Nat}{p v:Value}{l:Str}(h:SB w B b p v l)(hB:B'<=B):SB w B' b p v l:=⟨h.blk,h.adr,own_base h.row hB,Nat.le_trans hB h.low⟩
theorem SB.quiet{w w':World}{B b:Nat}{p v:Value}{l:Str}(h:SB w B b p v l)(hm:Mod (fun _=>False) w w'):SB w' B b p v l:=
 ⟨h.blk.keep hm (fun h=>h),h.adr,own_mod h.row hm (fun _ _ h=>h),h.low⟩
theorem tm_quiet{W w w':World}(h:Mod (fun _=>False) W w)(k:TMod W.heap.size TB w w'):Mod (fun _=>False) W w':=
 ⟨k.os.trans h.os,k.tape.trans h.tape,k.output.trans h.output,Nat.le_trans h.size k.size,fun i hi _=>(k.low i hi (Nat.lt_of_lt_of_le hi h.size)).trans (h.block i hi (fun h=>h))⟩
theorem pLineNew(w:World)(B b n:Nat)(p v:Value)(l:Str)(ss:List Str)(vs:Array Value)(hvs:vs=(strsV ss).toArray)(h:SB w B b p v l)(hn:ss.length=n)(hl:l.length+(lineL ss).length<=1048576)(hB:B<=w.heap.size)(g:Nat)(hg:g=w.heap.size):
  Calls Tryz.prog 75 #[.pointer (some ⟨b,0,none⟩),.slice (some ⟨g,0,none⟩) n n] (w.alloc (.cells vs 9)) fun e w'=>e=.returned (.tuple #[])/\SbPost w B b (l++lineL ss) w':=by
 subst hvs;subst hg;refine(pLine _ B b w.heap.size n p v l ss (h.quiet ((Mod.refl _ w).alloc _)) (Blk.new _ _ _) hn hl (by rw [World.size_alloc];omega)).mono ?_;rintro e w' ⟨rfl,h1,h2⟩;exact⟨rfl,h1,((TMod.refl B TB w).alloc _).trans h2⟩
def WrRel(w:World)(b:Nat)(m:Mf)(vk:Value)(wr:World):Prop:=
 ∃k:Nat,k<=m.rends.length/\vk=.int .i64 (k:Int)/\(∃p v,SB wr w.heap.size b p v (headL m++(m.rends.take k).flatMap textR))/\Mod (fun _=>False) w wr
def WrIn(w:World)(b:Nat)(m:Mf)(k:Nat)(l:Ls)(vj:Value)(wr:World):Prop:=
 ∃j:Nat,j<=l.pieces.length/\vj=.int .i64 (j:Int)/\(∃p v,SB wr w.heap.size b p v (headL m++(m.rends.take k).flatMap textR++lineR l++lineI l++(l.pieces.take j).flatMap lineP))/\Mod (fun _=>False) w wr
def writeOut(m:Mf):Array Value:=if mfRightB m then #[.string (strOf (writeL m)),.int .i64 0]else #[.string (strOf []),.int .i64 181]
theorem pWrite(w:World)(m:Mf)(A:Option Addr)(n c:Nat)(h:MfIn w A n m)(he:EnvW w):Calls Tryz.prog 44 #[.agg (mfV m A n c).toArray] w fun e w'=>e=.returned (.tuple (writeOut m))/\Mod (fun _=>False) w w':=by
 have mA:Mod (fun _=>False) w (w.alloc (.cells (mfV m A n c).toArray 59)):=(Mod.refl _ w).alloc _;have hb0:Blk (w.alloc (.cells (mfV m A n c).toArray 59)) w.heap.size 59 (mfV m A n c).toArray:=Blk.new _ _ _;have H:=Lib.hid (And.intro h (And.intro he (And.intro mA hb0)));clear h he mA hb0;unfold mfV at H ⊢;go_enter Tryz.func44,Tryz.ntmps44;go_wp2_with fail;refine(mfPRight _ m A n c (H.out.1.quiet H.out.2.2.1)).mono ?_;rintro e w1 ⟨rfl,hm1⟩;have hM1:=H.out.2.2.1.trans hm1;have hb1:=H.out.2.2.2.keep hm1 (fun h=>h);cases hr:mfRightB m with
 | false=>
  have HR:=Lib.hid (And.intro hr hM1);clear hr hM1 hm1 hb1;go_wp2_with fail;go_ret2;exact⟨by unfold writeOut;rw [HR.out.1];rfl,HR.out.2⟩
 | true=>
  have HR:=Lib.hid (And.intro hr (And.intro hM1 hb1));clear hr hM1 hm1 hb1;go_wp2_with fail;have hS1:=(SB.fresh w1).low;refine(pLineNew (w1.alloc (.cells #[.pointer none,.slice none 0 0] 173)) w.heap.size w1.heap.size 1 _ _ [] [[107,105,110,111,114,97,32,49]] _ rfl (SB.lower (SB.fresh w1) HR.out.2.1.size) rfl (by decide) (by rw [World.size_alloc];have:=HR.out.2.1.size;omega) _ (by rw [World.size_alloc])).mono ?_;rintro e w2 ⟨rfl,⟨v2,hs2⟩,ht2⟩;have hM2:=tm_quiet (HR.out.2.1.alloc _) ht2;have hb2:=(HR.out.2.2.alloc (.cells #[.pointer none,.slice none 0 0] 173)).tmod ht2 rfl;have H2:=Lib.hid (And.intro hs2 (And.intro hM2 hb2));clear hs2 ht2 hM2 hb2;go_upto_region 5 with(fail)
  obtain⟨⟨r1,r2,r3,r4⟩,⟨r5,r6⟩,hlst⟩:=right_bounds HR.out.1;have c0:=H2.out.2.2.drew.cell 0;have hhl:=headL_len HR.out.1;have HB:=Lib.hid (And.intro hlst hhl);clear hlst hhl hS1;refine wp_region_planS [2,5,6,7] [3,4] (0 :: 1 :: 3 :: 4 :: 2 :: 5 :: 6 :: 7 :: []) (fun w'=>Blk w' w.heap.size 59 #[.int .i64 m.scale,.int .i64 m.tick,.slice A n c]) (by kernel_rfl) (by kernel_rfl) (fun _ _ _ d _ h=>by cases d<;>exact h) H2.out.2.2.drew ?_;iterate 2 (refine planS_still rfl rfl (fun K hK=>?_);go_simp;refine hK _ ?_;clear hK K)
  refine planS_pure rfl rfl rfl (fun _ _=>rfl) ?_;refine planS_pure (v:=.int .i64 m.tick) rfl rfl rfl (fun w' hS=>?_) ?_
  ·have cS:=hS.cell 1;go_simp
  clear c0;have he2:EnvW w2.drew:=H.out.2.1.quiet H2.out.2.1.drew;have hb2:=H2.out.2.2.drew;have hs2:=H2.out.1.quiet (Mod.refl (fun _=>False) w2).drew;have hM2:=H2.out.2.1.drew;clear H2;refine planS_loud rfl rfl (fun K hK=>?_);go_simp;refine(cItoa _ m.scale (by omega) (by omega) he2).mono ?_;rintro e w3 ⟨rfl,hm3⟩;have hb3:=hb2.keep hm3 (fun h=>h);have hs3:=hs2.quiet hm3;have hM3:=hM2.trans hm3;have he3:=he2.quiet hm3;dsimp only [];refine hK _ _ hb3 ?_;clear hK K hm3 hb2 hs2 hM2 he2;refine planS_loud rfl rfl (fun K hK=>?_);go_simp;refine(cItoa _ m.tick (by omega) (by omega) he3).mono ?_;rintro e w4 ⟨rfl,hm4⟩;have hb4:=hb3.keep hm4 (fun h=>h);have hs4:=hs3.quiet hm4;have hM4:=hM3.trans hm4;have he4:=he3.quiet hm4;dsimp only [];refine hK _ _ hb4 ?_;clear hK K hm4 hb3 hs3 hM3 he3;have H4:=Lib.hid (And.intro hs4 (And.intro hM4 hb4));clear hs4 hM4 hb4 he4;refine planS_loud rfl rfl (fun K hK=>?_);go_simp;refine hK _ _ (H4.out.2.2.alloc _) ?_;clear hK K;refine planS_loud rfl rfl (fun K hK=>?_);go_simp;refine(pLineNew w4 w.heap.size w1.heap.size 4 _ _ _ [[115,99,97,108,101],dec m.scale,[116,105,99,107],dec m.tick] _ rfl H4.out.1 rfl (by have:=HB.out.2;unfold headL at this;rw [List.length_append]at this;exact Nat.le_trans this (by decide)) H4.out.2.1.size _ rfl).mono ?_;rintro e w5 ⟨rfl,⟨v5,hs5⟩,ht5⟩;have hM5:=tm_quiet H4.out.2.1 ht5;have hb5:=H4.out.2.2.tmod ht5 rfl;dsimp only [];refine hK _ _ hb5 ?_;clear hK K ht5 H4;refine planS_done ?_;have H5:=Lib.hid (And.intro hs5 (And.intro hM5 hb5));clear hs5 hM5 hb5;have f5:=H5.out.2.2.cell;go_wp2_with fail;go_loopw [25] (WrRel w w1.heap.size m) (fun s _=>n-(intOf s).toNat)
  case atStart=>exact⟨0,by omega,rfl,⟨_,v5,by rw [List.take_zero,List.flatMap_nil,List.append_nil];exact H5.out.1⟩,H5.out.2.1⟩
  case round=>
   clear f5 H5;obtain⟨k,hk,rfl,⟨p6,v6,hs6⟩,hM6⟩:=hrel;have hln:m.rends.length=n:=H.out.1.rs.len;have hrl:=rends_len HR.out.1 k;by_cases hlt:k<n
   ·obtain⟨l,hl⟩:∃l,m.rends[k]?=some l:=⟨_,List.getElem?_eq_getElem (by omega)⟩
    obtain⟨b,o,A',n',c',hA,hb,hls⟩:=H.out.1.rs.at_ k l hl;subst hA;have d6:decide ((k:Int)<(n:Int))=true:=decide_eq_true (by omega);have hlb:=HB.out.1 l (List.mem_of_getElem? hl);obtain⟨q1,q2,q3,q4,q5,q6,q7,q8,q9,_⟩:=listed_parts hlb;have l1:=lineR_len q1 q2 q3 q5;have l2:=lineI_len q6;have l3:=HB.out.2;have q2':=q2;have q3':=q3;have q6':=q6;unfold sideB at q2' q3';unfold pieceB at q6';simp only [Bool.and_eq_true,decide_eq_true_eq]at q2' q3' q6';obtain⟨z1,z2,_⟩:=q2';obtain⟨z3,z4,_⟩:=q3';obtain⟨⟨_,_,z5,z6⟩,_⟩:=q6';have HQ:=Lib.hid (And.intro q7 (And.intro hlb (And.intro hl (And.intro hls hb))));clear q1 q2 q3 q6 q7 hlb hl;have e0:=(hls.quiet hM6 hb).cells 0 _ rfl;have e1:=(hls.quiet hM6 hb).cells 1 _ rfl;have e2:=(hls.quiet hM6 hb).cells 2 _ rfl;have e3:=(hls.quiet hM6 hb).cells 3 _ rfl;have e4:=(hls.quiet hM6 hb).cells 4 _ rfl;have e5:=(hls.quiet hM6 hb).cells 5 _ rfl;have e6:=(hls.quiet hM6 hb).cells 6 _ rfl;have e7:=(hls.quiet hM6 hb).cells 7 _ rfl;rw [Nat.add_zero]at e0;clear hls hb;have hb7:Blk (wr.alloc (.cells (lsV l A' n' c').toArray 91)) wr.heap.size 91 (lsV l A' n' c').toArray:=Blk.new _ _ _;have mA7:Mod (fun _=>False) wr (wr.alloc (.cells (lsV l A' n' c').toArray 91)):=(Mod.refl _ wr).alloc _;have hs7:=(hs6.quiet mA7).quiet (Mod.refl (fun _=>False) _).drew;have hM7:=(hM6.trans mA7).drew;have he7:EnvW (wr.alloc (.cells (lsV l A' n' c').toArray 91)).drew:=H.out.2.1.quiet hM7;have c1:=hb7.drew.cell 1;unfold lsV at hb7 hs7 hM7 he7 c1;clear mA7 hs6 hM6;have H7:=Lib.hid (And.intro hs7 (And.intro hM7 (And.intro hb7 he7)));clear hs7 hM7 hb7 he7;go_upto_region 9 with(fail)
    refine wp_region_planS [4,7,10,11,12] [0,1,5,6,8,9] (2 :: 3 :: 0 :: 1 :: 5 :: 6 :: 8 :: 9 :: 4 :: 7 :: 10 :: 11 :: 12 :: []) (fun w'=>Blk w' wr.heap.size 91 #[.string (strOf l.name),.int .i64 l.w,.int .i64 l.h,.int .i64 l.bw,.int .i64 l.init.fr,.int .i64 l.init.sz,.string (strOf l.init.path),.slice A' n' c']) (by kernel_rfl) (by kernel_rfl) (fun _ _ _ d _ h=>by cases d<;>exact h) H7.out.2.2.1.drew ?_;iterate 2 (refine planS_still rfl rfl (fun K hK=>?_);go_simp;refine hK _ ?_;clear hK K)
    refine planS_pure rfl rfl rfl (fun _ _=>rfl) ?_;refine planS_pure (v:=.string (strOf l.name)) rfl rfl rfl (fun w' hS=>?_) ?_
    ·have cS:=hS.cell 0;go_simp
    refine planS_pure rfl rfl rfl (fun _ _=>rfl) ?_;refine planS_pure (v:=.int .i64 l.h) rfl rfl rfl (fun w' hS=>?_) ?_
    ·have cS:=hS.cell 2;go_simp
    refine planS_pure rfl rfl rfl (fun _ _=>rfl) ?_;refine planS_pure (v:=.int .i64 l.bw) rfl rfl rfl (fun w' hS=>?_) ?_
    ·have cS:=hS.cell 3;go_simp
    clear c1 e0 e1 e2 e3 e4 e5 e6 e7;have hb7:=H7.out.2.2.1.drew;have hs7:=H7.out.1;have hM7:=H7.out.2.1;have he7:=H7.out.2.2.2;clear H7;refine planS_loud rfl rfl (fun K hK=>?_);go_simp;refine(cItoa _ l.w (by omega) (by omega) he7).mono ?_;rintro e w8 ⟨rfl,hm8⟩;have hb8:=hb7.keep hm8 (fun h=>h);have hs8:=hs7.quiet hm8;have hM8:=hM7.trans hm8;have he8:=he7.quiet hm8;dsimp only [];refine hK _ _ hb8 ?_;clear hK K hm8 hb7 hs7 hM7 he7;refine planS_loud rfl rfl (fun K hK=>?_);go_simp;refine(cItoa _ l.h (by omega) (by omega) he8).mono ?_;rintro e w9 ⟨rfl,hm9⟩;have hb9:=hb8.keep hm9 (fun h=>h);have hs9:=hs8.quiet hm9;have hM9:=hM8.trans hm9;have he9:=he8.quiet hm9;dsimp only [];refine hK _ _ hb9 ?_;clear hK K hm9 hb8 hs8 hM8 he8;refine planS_loud rfl rfl (fun K hK=>?_);go_simp;refine(cItoa _ l.bw (by omega) (by omega) he9).mono ?_;rintro e w10 ⟨rfl,hm10⟩;have hb10:=hb9.keep hm10 (fun h=>h);have hs10:=hs9.quiet hm10;have hM10:=hM9.trans hm10;have he10:=he9.quiet hm10;dsimp only [];refine hK _ _ hb10 ?_;clear hK K hm10 hb9 hs9 hM9 he9;have H10:=Lib.hid (And.intro hs10 (And.intro hM10 hb10));clear hs10 hM10 hb10 he10;refine planS_loud rfl rfl (fun K hK=>?_);go_simp;refine hK _ _ (H10.out.2.2.alloc _) ?_;clear hK K;refine planS_loud rfl rfl (fun K hK=>?_);go_simp;refine(pLineNew w10 w.heap.size w1.heap.size 5 _ _ _ [[114,101,110,100,105,116,105,111,110],l.name,dec l.w,dec l.h,dec l.bw] _ rfl H10.out.1 rfl (by rw [List.length_append];exact Nat.le_trans (Nat.add_le_add (Nat.add_le_add l3 hrl) l1) (by decide)) H10.out.2.1.size _ rfl).mono ?_;rintro e w11 ⟨rfl,⟨v11,hs11⟩,ht11⟩;have hM11:=tm_quiet H10.out.2.1 ht11;have hb11:=H10.out.2.2.tmod ht11 rfl;dsimp only [];refine hK _ _ hb11 ?_;clear hK K ht11 H10;refine planS_done ?_;have H11:=Lib.hid (And.intro hs11 (And.intro hM11 hb11));clear hs11 hM11 hb11;have c5:=H11.out.2.2.drew.cell 5;go_upto_region 10 with(fail)
    refine wp_region_planS [3,7,8] [4,5,6] (0 :: 1 :: 2 :: 4 :: 5 :: 6 :: 3 :: 7 :: 8 :: []) (fun w'=>Blk w' wr.heap.size 91 #[.string (strOf l.name),.int .i64 l.w,.int .i64 l.h,.int .i64 l.bw,.int .i64 l.init.fr,.int .i64 l.init.sz,.string (strOf l.init.path),.slice A' n' c']) (by kernel_rfl) (by kernel_rfl) (fun _ _ _ d _ h=>by cases d<;>exact h) H11.out.2.2.drew ?_;iterate 3 (refine planS_still rfl rfl (fun K hK=>?_);go_simp;refine hK _ ?_;clear hK K)
    iterate 2 (refine planS_pure rfl rfl rfl (fun _ _=>rfl) ?_)
    refine planS_pure (v:=.string (strOf l.init.path)) rfl rfl rfl (fun w' hS=>?_) ?_
    ·have cS:=hS.cell 6;go_simp
    clear c5;have hb11:=H11.out.2.2.drew;have hs11:=H11.out.1.quiet (Mod.refl (fun _=>False) w11).drew;have hM11:=H11.out.2.1.drew;have he11:EnvW w11.drew:=H.out.2.1.quiet hM11;clear H11;refine planS_loud rfl rfl (fun K hK=>?_);go_simp;refine(cItoa _ l.init.sz (by omega) (by omega) he11).mono ?_;rintro e w12 ⟨rfl,hm12⟩;have hb12:=hb11.keep hm12 (fun h=>h);have hs12:=hs11.quiet hm12;have hM12:=hM11.trans hm12;have he12:=he11.quiet hm12;dsimp only [];refine hK _ _ hb12 ?_;clear hK K hm12 hb11 hs11 hM11 he11;have H12:=Lib.hid (And.intro hs12 (And.intro hM12 hb12));clear hs12 hM12 hb12 he12;refine planS_loud rfl rfl (fun K hK=>?_);go_simp;refine hK _ _ (H12.out.2.2.alloc _) ?_;clear hK K;refine planS_loud rfl rfl (fun K hK=>?_);go_simp;refine(pLineNew w12 w.heap.size w1.heap.size 3 _ _ _ [[105,110,105,116],dec l.init.sz,l.init.path] _ rfl H12.out.1 rfl (by rw [List.length_append,List.length_append];exact Nat.le_trans (Nat.add_le_add (Nat.add_le_add (Nat.add_le_add l3 hrl) l1) l2) (by decide)) H12.out.2.1.size _ rfl).mono ?_;rintro e w13 ⟨rfl,⟨v13,hs13⟩,ht13⟩;have hM13:=tm_quiet H12.out.2.1 ht13;have hb13:=H12.out.2.2.tmod ht13 rfl;dsimp only [];refine hK _ _ hb13 ?_;clear hK K ht13 H12;refine planS_done ?_;have H13:=Lib.hid (And.intro hs13 (And.intro hM13 hb13));clear hs13 hM13 hb13;have f13:=H13.out.2.2.cell;have hpl:l.pieces.length=n':=HQ.out.2.2.2.1.pcs.len;go_wp2_with fail;go_loopw [54] (WrIn w w1.heap.size m k l) (fun s _=>n'-(intOf s).toNat)
    case atStart=>exact⟨0,by omega,rfl,⟨_,v13,by rw [List.take_zero,List.flatMap_nil,List.append_nil];exact H13.out.1⟩,H13.out.2.1⟩
    case round=>
     rename World=>wq
     clear f13 H13;obtain⟨j,hj,rfl,⟨p14,v14,hs14⟩,hM14⟩:=hrel;have hpj:=pieces_len HQ.out.2.1 j;by_cases hjl:j<n'
     ·obtain⟨p,hp⟩:∃p,l.pieces[j]?=some p:=⟨_,List.getElem?_eq_getElem (by omega)⟩
      obtain⟨b',o',hA',hb',hpc⟩:=(HQ.out.2.2.2.1.pcs.quiet hM14).at_ j p hp;subst hA';have d7:decide ((j:Int)<(n':Int))=true:=decide_eq_true (by omega);have hpr:=HQ.out.1 p (List.mem_of_getElem? hp);have l4:=lineP_len hpr;unfold pieceB at hpr;simp only [Bool.and_eq_true,decide_eq_true_eq]at hpr;obtain⟨⟨y1,y2,y3,y4⟩,_⟩:=hpr;have k0:=hpc.1;have k1:=hpc.2.1;have k2:=hpc.2.2;have hb15:Blk (wq.alloc (.cells (pcV p).toArray 88)) wq.heap.size 88 (pcV p).toArray:=Blk.new _ _ _;have mA15:Mod (fun _=>False) wq (wq.alloc (.cells (pcV p).toArray 88)):=(Mod.refl _ wq).alloc _;have hs15:=(hs14.quiet mA15).quiet (Mod.refl (fun _=>False) _).drew;have hM15:=(hM14.trans mA15).drew;have he15:EnvW (wq.alloc (.cells (pcV p).toArray 88)).drew:=H.out.2.1.quiet hM15;have c0:=hb15.drew.cell 0;unfold pcV at hb15 hs15 hM15 he15 c0;clear mA15 hs14 hM14;have H15:=Lib.hid (And.intro hs15 (And.intro hM15 (And.intro hb15 (And.intro he15 hp))));clear hs15 hM15 hb15 he15 hp hpc;go_upto_region 14 with(fail)
      refine wp_region_planS [2,5,8,9] [3,4,6,7] (0 :: 1 :: 3 :: 4 :: 6 :: 7 :: 2 :: 5 :: 8 :: 9 :: []) (fun w'=>Blk w' wq.heap.size 88 #[.int .i64 p.fr,.int .i64 p.sz,.string (strOf p.path)]) (by kernel_rfl) (by kernel_rfl) (fun _ _ _ d _ h=>by cases d<;>exact h) H15.out.2.2.1.drew ?_;iterate 2 (refine planS_still rfl rfl (fun K hK=>?_);go_simp;refine hK _ ?_;clear hK K)
      refine planS_pure rfl rfl rfl (fun _ _=>rfl) ?_;refine planS_pure (v:=.int .i64 p.sz) rfl rfl rfl (fun w' hS=>?_) ?_
      ·have cS:=hS.cell 1;go_simp
      refine planS_pure rfl rfl rfl (fun _ _=>rfl) ?_;refine planS_pure (v:=.string (strOf p.path)) rfl rfl rfl (fun w' hS=>?_) ?_
      ·have cS:=hS.cell 2;go_simp
      clear c0 k0 k1 k2;have hb15:=H15.out.2.2.1.drew;have hs15:=H15.out.1;have hM15:=H15.out.2.1;have he15:=H15.out.2.2.2.1;have HP:=Lib.hid H15.out.2.2.2.2;clear H15;refine planS_loud rfl rfl (fun K hK=>?_);go_simp;refine(cItoa _ p.fr (by omega) (by omega) he15).mono ?_;rintro e w16 ⟨rfl,hm16⟩;have hb16:=hb15.keep hm16 (fun h=>h);have hs16:=hs15.quiet hm16;have hM16:=hM15.trans hm16;have he16:=he15.quiet hm16;dsimp only [];refine hK _ _ hb16 ?_;clear hK K hm16 hb15 hs15 hM15 he15;refine planS_loud rfl rfl (fun K hK=>?_);go_simp;refine(cItoa _ p.sz (by omega) (by omega) he16).mono ?_;rintro e w17 ⟨rfl,hm17⟩;have hb17:=hb16.keep hm17 (fun h=>h);have hs17:=hs16.quiet hm17;have hM17:=hM16.trans hm17;have he17:=he16.quiet hm17;dsimp only [];refine hK _ _ hb17 ?_;clear hK K hm17 hb16 hs16 hM16 he16;have H17:=Lib.hid (And.intro hs17 (And.intro hM17 hb17));clear hs17 hM17 hb17 he17;refine planS_loud rfl rfl (fun K hK=>?_);go_simp;refine hK _ _ (H17.out.2.2.alloc _) ?_;clear hK K;refine planS_loud rfl rfl (fun K hK=>?_);go_simp;refine(pLineNew w17 w.heap.size w1.heap.size 4 _ _ _ [[112,105,101,99,101],dec p.fr,dec p.sz,p.path] _ rfl H17.out.1 rfl (by rw [List.length_append,List.length_append,List.length_append,List.length_append];exact Nat.le_trans (Nat.add_le_add (Nat.add_le_add (Nat.add_le_add (Nat.add_le_add (Nat.add_le_add l3 hrl) l1) l2) hpj) l4) (by decide)) H17.out.2.1.size _ rfl).mono ?_;rintro e w18 ⟨rfl,⟨v18,hs18⟩,ht18⟩;have hM18:=tm_quiet H17.out.2.1 ht18;have hb18:=H17.out.2.2.tmod ht18 rfl;dsimp only [];refine hK _ _ hb18 ?_;clear hK K ht18 H17;refine planS_done ?_;have H18:=Lib.hid (And.intro hs18 (And.intro hM18 hb18));clear hs18 hM18 hb18;go_wp2_with fail;go_roundw
      case rel=>exact⟨j+1,by omega,by go_num,⟨_,v18,by rw [take_snoc HP.out,List.flatMap_append,List.flatMap_singleton,<-List.append_assoc];exact H18.out.1⟩,H18.out.2.1⟩
      case measure=>simp [intOf];omega
     ·obtain rfl:j=n':=by omega
      have d7:decide ((j:Int)<(j:Int))=false:=decide_eq_false (by omega);have ht:l.pieces.take j=l.pieces:=by rw [<-hpl,List.take_length]
      rw [ht]at hs14;have H14:=Lib.hid (And.intro hs14 hM14);clear hs14 hM14 ht;go_wp2_with fail;go_roundw
      case rel=>exact⟨k+1,by omega,by go_num,⟨p14,v14,by rw [take_snoc HQ.out.2.2.1,List.flatMap_append,List.flatMap_singleton];unfold textR;rw [<-List.append_assoc,<-List.append_assoc,<-List.append_assoc];exact H14.out.1⟩,H14.out.2⟩
      case measure=>simp [intOf];omega
   ·obtain rfl:k=n:=by omega
    have d6:decide ((k:Int)<(k:Int))=false:=decide_eq_false (by omega);have ht:m.rends.take k=m.rends:=by rw [<-hln,List.take_length]
    rw [ht]at hs6 hrl;have l3:=HB.out.2;have H6:=Lib.hid (And.intro hs6 hM6);clear hs6 hM6 ht;go_wp2_with fail;refine(pLineNew wr w.heap.size w1.heap.size 1 _ _ _ [[101,110,100]] _ rfl H6.out.1 rfl (by rw [List.length_append];exact Nat.le_trans (Nat.add_le_add (Nat.add_le_add l3 hrl) (show(lineL [[101,110,100]]).length<=4 by decide)) (by decide)) H6.out.2.size _ rfl).mono ?_;rintro e w19 ⟨rfl,⟨v19,hs19⟩,ht19⟩;have hM19:=tm_quiet H6.out.2 ht19;have H19:=Lib.hid (And.intro hs19 hM19);clear hs19 ht19 hM19;go_wp2_with fail;refine(pString w19 w.heap.size w1.heap.size _ v19 _ H19.out.1 (by simp [lineL])).mono ?_;rintro e w20 ⟨rfl,hbe⟩;have hM20:Mod (fun _=>False) w w20:=⟨hbe.os.trans H19.out.2.os,hbe.tape.trans H19.out.2.tape,hbe.output.trans H19.out.2.output,Nat.le_trans H19.out.2.size hbe.size,fun i hi hn=>(hbe.block i hi).trans (H19.out.2.block i hi hn)⟩
    have H20:=Lib.hid hM20;clear hM20 hbe;go_wp2_with fail;go_ret2;exact⟨by unfold writeOut;rw [HR.out.1,if_pos rfl,writeL_eq,List.append_assoc];rfl,H20.out⟩
end Go.Proofs.YtnnpoodcdibpiaaGreatDoor
