import Derived.Test.YtnnpoodcdibpiaaGreatDoorBOrY
import Derived.Sort.Walk0
import Derived.Deep.CutBlock
namespace Go.Proofs.YtnnpoodcdibpiaaGreatDoor
open Go.RowKit
set_option maxRecDepth 100000
set_option maxHeartbeats 8000000
theorem CellsOf.split{α:Type}{size:Nat}{Rl:α->List Value->Prop}{l l':List α}{zs:List Value}(h:CellsOf size Rl (l++l') zs):∃xs xs',zs=xs++xs'/\CellsOf size Rl l xs/\CellsOf size Rl l' xs':=by
 obtain⟨cs,h1,rfl,h3,h4⟩:=h;rw [List.length_append]at h1;refine⟨(cs.take l.length).flatten,(cs.drop l.length).flatten,by rw [<-List.flatten_append,List.take_append_drop],⟨cs.take l.length,by rw [List.length_take];omega,rfl,fun c hc=>h3 c (List.mem_of_mem_take hc),fun i x c hx hc=>?_⟩,⟨cs.drop l.length,by rw [List.length_drop];omega,rfl,fun c hc=>h3 c (List.mem_of_mem_drop hc),fun i x c hx hc=>?_⟩⟩
 ·have hi:=(List.getElem?_eq_some_iff.1 hx).1;rw [List.getElem?_take_of_lt hi]at hc;exact h4 i x c (by rw [List.getElem?_append_left hi];exact hx) hc
 ·rw [List.getElem?_drop]at hc;exact h4 (l.length+i) x c (by rw [List.getElem?_append_right (by omega),Nat.add_sub_cancel_left];exact hx) hc
theorem Src.left{w:World}{size n m:Nat}{A:Option Addr}{xs xs':List Value}(h:Src w size A (n+m) (xs++xs'))(hl:xs.length=n*size):Src w size A n xs:=
 ⟨hl,fun e=>by have:=h.2.1 e;omega,fun ad e j u hu=>h.2.2 ad e j u (by rw [List.getElem?_append_left (List.getElem?_eq_some_iff.1 hu).1];exact hu)⟩
theorem Src.right{w:World}{size n m:Nat}{A:Option Addr}{xs xs':List Value}(h:Src w size A (n+m) (xs++xs'))(hl:xs.length=n*size):Src w size (A.map fun x=>x.add (n*size)) m xs':=by
 have h1:=h.1;rw [List.length_append,hl,Nat.add_mul]at h1;refine⟨by omega,fun e=>?_,fun ad e j u hu=>?_⟩
 ·cases A with
  | none=>have:=h.2.1 rfl;omega
  | some ad=>cases e
 ·cases A with
  | none=>cases e
  | some a0=>
   injection e with e;subst e;have h2:=h.2.2 a0 rfl (n*size+j) u (by rw [List.getElem?_append_right (by omega),hl,Nat.add_sub_cancel_left];exact hu);rw [<-h2];have e:(a0.add (n*size)).add j=a0.add (n*size+j):=by
    by_cases h0:n*size=0<;>by_cases h1:j=0<;>simp [Addr.add,h0,h1,Nat.add_assoc]
   exact congrArg _ e
theorem rfile_info:(Tryz.prog.info? 120).map (fun i=>(i.zero,i.size,i.bytes))=some (some (.agg #[.string ⟨#[]⟩,.slice none 0 0]),2,40):=by kernel_rfl
def SlRel(R:FsL)(p:List UInt8)(v8:Value):Prop:=∃k:Nat,k<=slotOf R p/\v8=.int .i64 (k:Int)
theorem slot_lt{R:FsL}{p:List UInt8}{k:Nat}{x:List UInt8 × List UInt8}(hk:k<slotOf R p)(hx:R[k]?=some x):x.1<p:=by
 have h1:(R.take (slotOf R p))[k]?=some x:=by rw [List.getElem?_take_of_lt hk];exact hx
 rw [slot_take]at h1;have:=List.all_eq_true.1 (List.all_takeWhile (p:=fun x:List UInt8 × List UInt8=>decide (x.1<p)) (l:=R)) x (List.mem_of_getElem? h1);simpa using this
theorem slot_ge{R:FsL}{p:List UInt8}{x:List UInt8 × List UInt8}(hx:R[slotOf R p]?=some x):¬x.1<p:=by
 have h1:(R.drop (slotOf R p))[0]?=some x:=by rw [List.getElem?_drop,Nat.add_zero];exact hx
 rw [slot_drop]at h1;have h2:=List.head?_dropWhile_not (fun x:List UInt8 × List UInt8=>decide (x.1<p)) R;rw [List.head?_eq_getElem?,h1]at h2;simpa using h2
theorem less_dec(a b:List UInt8):Op.bytesLess (strOf a).toList (strOf b).toList=decide (a<b):=by rw [bytesLess_eq,strOf_toList,strOf_toList]
theorem cells_split{α:Type}{w:World}{F:Nat->Prop}{Rl:α->List Value->Prop}{A:Option Addr}{n c k:Nat}{l:List α}{zs:List Value}(hr:RowIn w F 2 (.slice A n c) n zs)(hc:CellsOf 2 Rl l zs)(hn:n=l.length)(hk:k<=n):
  ∃A2 xs1 xs2,sliced A k n c 2=.slice A2 (n-k) (c-k)/\RowIn w F 2 (.slice A k c) k xs1/\RowIn w F 2 (.slice A2 (n-k) (c-k)) (n-k) xs2/\CellsOf 2 Rl (l.take k) xs1/\CellsOf 2 Rl (l.drop k) xs2:=by
 rw [<-List.take_append_drop k l]at hc;obtain⟨xs1,xs2,rfl,h1,h2⟩:=hc.split;have l1:=h1.len;rw [List.length_take,Nat.min_eq_left (by omega)]at l1;obtain⟨A',c',e,hnc,h0,hs,hF⟩:=hr.ex;injection e with e1 _ e3;subst e1 e3;have hs':Src w 2 A (k+(n-k)) (xs1++xs2):=by rw [Nat.add_sub_cancel' hk];exact hs
 refine⟨if c=k then A else A.map (fun x=>x.add (k*2)),xs1,xs2,rfl,⟨A,c,rfl,by omega,h0,hs'.left l1,fun ad e hp=>hF ad e (by omega)⟩,?_,h1,h2⟩
 ·by_cases hck:c=k
  ·rw [if_pos hck];have hnk:n-k=0:=by omega
   have hx:xs2=[]:=List.eq_nil_of_length_eq_zero (by rw [h2.len,List.length_drop];omega);rw [hnk,hx];exact⟨A,c-k,rfl,Nat.zero_le _,fun _=>by omega,⟨rfl,fun _=>rfl,fun _ _ j u hu=>by simp at hu⟩,fun _ _ h=>absurd h (Nat.lt_irrefl _)⟩
  ·rw [if_neg hck];refine⟨_,c-k,rfl,by omega,fun e=>?_,hs'.right l1,fun ad e hp=>?_⟩
   ·cases A with
    | none=>have:=h0 rfl;omega
    | some ad=>cases e
   ·cases A with
    | none=>cases e
    | some a0=>
     injection e with e;subst e;rw [addr_block];exact hF a0 rfl (by omega)
theorem ref_end{wc w7 w8 w9:World}{mb hi:Nat}{R:FsL}{p l:List UInt8}{k n:Nat}{A:Option Addr}{c:Nat}{vb:Value}{xs1 xs2:List Value}(h:RefAt wc mb hi R)(hw:hi<=wc.heap.size)(m7:Mod (fun _=>False) wc w7)(m8:Mod (fun _=>False) w7 w8)(hk:k=slotOf R p)
  (hrow:w8.ownsRow w7.heap.size 120 2 (.slice A n c) n (xs1++[.string (strOf p),vb]++xs2))(hn:n=k+1+(R.length-k))(hnc:n<=c)(c1:CellsOf 2 (FileR wc fun k=>hi<=k) (R.take k) xs1)(c2:CellsOf 2 (FileR wc fun k=>hi<=k) (R.drop k) xs2)
  (hb:Bytes w7 wc.heap.size vb l)(m9:Mod (·=mb) w8 w9)(hb9:Blk w9 mb 42 #[.slice A n c]):RefAt w9 mb hi (insR R p l)/\Mod (·=mb) wc w9:=by
 have low:=h.low;have m79:Mod (·=mb) w7 w9:=(m8.mono (fun _ h=>h.elim)).into m9 (fun i e=>.inl e);have mm:Mod (·=mb) wc w9:=(m7.mono (fun _ h=>h.elim)).into m79 (fun i e=>.inl e);have hl:(insR R p l).length=n:=by rw [(insR_perm R p l).length_eq,List.length_append,hn];have:=slot_le R p;simp;omega
 refine⟨⟨⟨A,c,by rw [hl];exact hb9,by rw [hl];exact hnc,?_⟩,low⟩,mm⟩;rw [hl];have F1:∀x c,FileR wc (fun k=>hi<=k) x c->FileR w9 (fun k=>hi<=k) x c:=fun x c hx=>hx.turn mm (fun k hk _ e=>by omega) (fun _ h _=>h);refine⟨xs1++[.string (strOf p),vb]++xs2,?_,?_⟩
 ·rw [hl];exact(RowIn.of_own hrow (F:=fun k=>hi<=k) (fun k hk=>by have:=(hrow.lt k hk).1;have:=m7.size;omega)).turn m9 (fun k hk _ e=>by omega) (fun _ h _=>h)
 ·have e:insR R p l=R.take k++[(p,l)]++R.drop k:=by unfold insR;rw [hk];simp
  rw [e];have hbf:BytesF w9 (fun k=>hi<=k) vb l:=(BytesF.of_own hb (fun k hk=>show hi<=k by have:=(hb.lt k hk).1;omega)).turn m79 (fun k hk _ e=>by omega) (fun _ h _=>h);exact((c1.mono (fun x _ c hx=>F1 x c hx)).snoc (x:=(p,l)) ⟨vb,rfl,hbf⟩ rfl).append (c2.mono (fun x _ c hx=>F1 x c hx))
theorem RowIn.src{w w':World}{F:Nat->Prop}{size n m c:Nat}{A:Option Addr}{xs:List Value}(h:RowIn w F size (.slice A m c) n xs)(hm:Mod (fun _=>False) w w'):Src w' size A n xs:=by
 obtain⟨A',c',e,_,_,hs,_⟩:=(h.quiet hm).ex;injection e with e1;subst e1;exact hs
theorem RowIn.nil_cap{w:World}{F:Nat->Prop}{size n m c:Nat}{A:Option Addr}{xs:List Value}(h:RowIn w F size (.slice A m c) n xs):A=none->c=0:=by
 obtain⟨A',c',e,_,h0,_,_⟩:=h.ex;injection e with e1 _ e3;subst e1 e3;exact h0
theorem tail_first{P H:Nat->Nat->Option Addr->Nat->World->Prop}{G:Prop}(main:(∀g0 g A c w,H g0 g A c w->P g0 g A c w)->G)(tail:∀g0 g A c w,H g0 g A c w->P g0 g A c w):G:=main tail
theorem Src.of_blk{w:World}{g:Nat}{t:TypeId}{xs:List Value}(h:Blk w g t xs.toArray):Src w xs.length (some ⟨g,0,none⟩) 1 xs:=by
 refine⟨by simp,fun h=>(by cases h),fun ad e j u hu=>?_⟩;injection e with e;subst e;have hadd:(⟨g,0,none⟩:Addr).add j=⟨g,j,none⟩:=by unfold Addr.add;split<;>simp_all
 rw [hadd,h.cell j];simpa using hu
theorem own_cap{w:World}{B:Nat}{e:TypeId}{size n m c:Nat}{A:Option Addr}{xs:List Value}(h:w.ownsRow B e size (.slice A m c) n xs):n<=c:=by
 rcases h.2 with⟨_,h0⟩|⟨g,cap,cur,hv,_,_,hn,_⟩
 ·omega
 ·injection hv with _ _ e;omega
theorem row0{w:World}{B:Nat}{t:TypeId}{size:Nat}(hB:B<=w.heap.size):(w.alloc (.cells #[] t)).ownsRow B t size (.slice (some ⟨w.heap.size,0,none⟩) 0 0) 0 []:=
 ⟨by simp,.inr ⟨w.heap.size,0,#[],rfl,hB,Blk.new w t #[],Nat.le_refl _,by unfold maxLen;omega,by simp,by simp⟩⟩
theorem step_rf{ops:Array Oper}{o:Oper}{a:Act}{K:Act->World->Prop}{Q:Exit->Act->World->Prop}{E:Prop}(w7 w:World)(hgd:o.guard=none)(s x:Operand)
  (ho:o.op=.call { callee:=.builtin .append,args:=#[s,x],argTypes:=#[40,40] })
  (v:Value)(n:Nat)(xs:List Value)(hs:a.eval s=v)(A:Option Addr)(m c:Nat)(news:List Value)(hx:a.eval x=.slice A m c)(hown:w.ownsRow w7.heap.size 120 2 v n xs)(hm:Mod (fun _=>False) w7 w)
  (hr:Src w 2 A m news)(hc:A=none->c=0)(h1:∀u∈news,u.oneCell'=true)(hn:n+m<=8000)
  (h:∀A' c' w',w'.ownsRow w7.heap.size 120 2 (.slice A' (n+m) c') (n+m) (xs++news)->n+m<=c'->Mod (fun _=>False) w7 w'->(∀g t cs,Blk w g t cs->v.ownBlock≠some g->Blk w' g t cs)->K (a.put o.dst (.slice A' (n+m) c')) w'):
  if Region.wanted o (yielded ops a.tmps)=true then Oper.wp Tryz.prog o a w K Q else E:=by
 obtain⟨i0,hi0,hz0,hz1,hz2⟩:=info_parts rfile_info;refine step_append_src w hgd s x 40 ho w7.heap.size 120 i0 _ 2 40 Tryz.underlying40 hi0 hz0 hz1 hz2 rfl (by omega) v n xs hs hown A m c news hx hr hc h1 (by unfold maxLen;omega) (by omega) hm.size ?_;intro v' w' y1 y2 _;obtain⟨A',c',rfl⟩:=own_shape y1;have hM:Mod (fun j=>v.ownBlock=some j) w w':=(Mod.refl _ _).grown y2 (fun k hk=>.inl hk);exact h A' c' w' y1 (own_cap y1) (hm.into hM (fun i e=>.inr (hown.lt i e).1)) (fun g t cs hb hne=>hb.keep hM (fun e=>hne e))
theorem rOPutNo(w:World)(mb hi:Nat)(R:FsL)(h:RefAt w mb hi R)(hl:R.length<=4000)(hw:hi<=w.heap.size)(p:List UInt8)(hp:p.length<=9223372036854775807)(A:Option Addr)(n c:Nat)(l:List UInt8)(hin:BytesIn w A n c l)(hn:n<=9223372036854775807)(hpl:putL R p l=none):
  Calls Tryz.prog 14 #[.pointer (some ⟨mb,0,none⟩),.string (strOf p),.slice A n c] w fun e w'=>e=.returned (.int .i64 193)/\w=w':=by
 obtain rfl:n=l.length:=hin.1.symm;have h2:=h;obtain⟨A0,c0,hb,hc0,hls⟩:=h.ex;have x0:w.cell? ⟨mb,0,none⟩=some (.slice A0 R.length c0):=hb.cell 0;have bl:=hb.lt;have H0:=Lib.hid (And.intro h2 (And.intro hb (And.intro hls (And.intro hin hw))));clear h h2 hb hls hin hw;have hc:pathB p=false\/(pathB p=true/\l.length<1)\/(pathB p=true/\¬l.length<1/\1048576<l.length)\/(pathB p=true/\¬l.length<1/\¬1048576<l.length/\0<=idxOf R p)\/(pathB p=true/\¬l.length<1/\¬1048576<l.length/\¬0<=idxOf R p/\4000<=R.length):=by
  by_cases h1:pathB p=true
  ·by_cases h2:l.length<1
   ·exact .inr (.inl ⟨h1,h2⟩)
   ·by_cases h3:1048576<l.length
    ·exact .inr (.inr (.inl ⟨h1,h2,h3⟩))
    ·rcases idx_lookup R p with⟨e1,e2⟩|⟨i,y,e1,_,_,e2⟩
     ·refine .inr (.inr (.inr (.inr ⟨h1,h2,h3,by omega,?_⟩)));unfold putL at hpl;rw [h1,decide_eq_true (show 1<=l.length/\l.length<=1048576 by omega),e2]at hpl;by_cases h4:4000<=R.length
      ·exact h4
      ·rw [decide_eq_true (show R.length<4000 by omega)]at hpl;cases hpl
     ·exact .inr (.inr (.inr (.inl ⟨h1,h2,h3,by omega⟩)))
  ·exact .inl (by simpa using h1)
 clear hpl
 rcases hc with n1|⟨n1,n2⟩|⟨n1,n2,n3⟩|⟨n1,n2,n3,n4⟩|⟨n1,n2,n3,n4,n5⟩<;>(
  go_enter Tryz.func14,Tryz.ntmps14;go_wp2_with fail;refine(rPath w p hp).mono ?_;rintro e w1 ⟨rfl,rfl⟩;rw [n1];go_wp2_with fail
  first
  | (go_ret
     exact⟨rfl,rfl⟩)
  | (refine(rFind w mb hi R H0.out.1 (by omega) p).mono ?_
     rintro e w1 ⟨rfl,rfl⟩;go_wp2_with fail;go_ret;exact⟨rfl,rfl⟩))
theorem rOPutYes(w:World)(mb hi:Nat)(R:FsL)(h:RefAt w mb hi R)(hl:R.length<=4000)(hw:hi<=w.heap.size)(p:List UInt8)(hp:p.length<=9223372036854775807)(A:Option Addr)(n c:Nat)(l:List UInt8)(hin:BytesIn w A n c l)(hn:n<=9223372036854775807)(L':FsL)(hpl:putL R p l=some L'):
  Calls Tryz.prog 14 #[.pointer (some ⟨mb,0,none⟩),.string (strOf p),.slice A n c] w fun e w'=>e=.returned (.int .i64 0)/\RefAt w' mb hi (insR R p l)/\Mod (·=mb) w w':=by
 obtain rfl:n=l.length:=hin.1.symm;have h2:=h;obtain⟨A0,c0,hb,hc0,hls⟩:=h.ex;have x0:w.cell? ⟨mb,0,none⟩=some (.slice A0 R.length c0):=hb.cell 0;have bl:=hb.lt;have H0:=Lib.hid (And.intro h2 (And.intro hb (And.intro hls (And.intro hin hw))));clear h h2 hb hls hin hw;obtain⟨_,h1,h2,h3,h4,h5⟩:=putL_some hpl;have hx:idxOf R p = -1:=by
  rcases idx_lookup R p with⟨e1,_⟩|⟨i,y,_,_,_,e2⟩
  ·exact e1
  ·rw [h1]at e2;cases e2
 have n2:¬l.length<1:=by omega
 have n3:¬1048576<l.length:=by omega
 have n5:¬4000<=R.length:=by omega
 clear hpl h1;go_enter Tryz.func14,Tryz.ntmps14;go_wp2_with fail;refine(rPath w p hp).mono ?_;rintro e w1 ⟨rfl,rfl⟩;rw [h5];go_wp2_with fail;refine(rFind w mb hi R H0.out.1 (by omega) p).mono ?_;rintro e w1 ⟨rfl,rfl⟩;rw [hx];have HX:=Lib.hid hx;clear hx
 go_upto_block 0 with(fail)
 go_cut [8]from 38 to 56 (fun v8 wx=>v8=.int .i64 (slotOf R p:Int)/\wx=w)
 case first=>
  go_wp2_with fail;go_loop [8] (SlRel R p) (fun i=>R.length-(intOf i).toNat)
  case atStart=>exact⟨0,Nat.zero_le _,rfl⟩
  case round=>
   obtain⟨k,hk,rfl⟩:=hrel;have hkl:=Nat.le_trans hk (slot_le R p);by_cases hlt:k<R.length
   ·have d1:decide ((k:Int)<(R.length:Int))=true:=decide_eq_true (by omega);obtain⟨x,hg⟩:∃x,R[k]?=some x:=⟨_,List.getElem?_eq_getElem hlt⟩
    obtain⟨b,o,B,d,hA,k0,_,_⟩:=RefAt.at_ H0.out.2.2.1 hg;subst hA;have d2:=less_dec x.1 p;by_cases he:x.1<p
    ·rw [decide_eq_true he]at d2
     have HN:Hid (k+1<=slotOf R p):=Lib.hid (by
      rcases Nat.lt_or_ge k (slotOf R p)with h|h
      ·exact h
      ·obtain rfl:k=slotOf R p:=by omega
       exact absurd he (slot_ge hg))
     clear hg;go_wp2_with fail;go_round
     case rel=>exact⟨k+1,HN.out,by go_num⟩
     case measure=>simp [intOf];omega
    ·rw [decide_eq_false he]at d2
     have HN:Hid (k=slotOf R p):=Lib.hid (by
      rcases Nat.lt_or_ge k (slotOf R p)with h|h
      ·exact absurd (slot_lt h hg) he
      ·omega)
     clear hg;go_wp2_with fail;go_meet;exact⟨by rw [<-HN.out],rfl⟩
   ·obtain rfl:k=R.length:=by omega
    have d1:decide ((R.length:Int)<(R.length:Int))=false:=decide_eq_false (by omega);have HN:Hid (R.length=slotOf R p):=Lib.hid (by have:=slot_le R p;omega);go_wp2_with fail;go_meet;exact⟨by rw [<-HN.out],rfl⟩
 case rest=>
  obtain⟨rfl,rfl⟩:=hcut;have hsl:=slot_le R p;obtain⟨k,hk⟩:∃k,k=slotOf R p:=⟨_,rfl⟩
  rw [<-hk]at hsl ⊢;have HS:=Lib.hid hk;clear hk;obtain⟨xs,hrow,hcel⟩:=H0.out.2.2.1;obtain⟨A2,xs1,xs2,e2,r1,r2,c1,c2⟩:=cells_split hrow hcel rfl hsl;have hm:=(Mod.refl (fun _=>False) wc).alloc (.cells #[] 5)
  have hb:Bytes (wc.alloc (.cells #[] 5)) wc.heap.size (.slice (some ⟨wc.heap.size,0,none⟩) 0 0) []:=
   ⟨rfl,.inr ⟨wc.heap.size,0,#[],rfl,Nat.le_refl _,Blk.new wc 5 #[],Nat.le_refl _,by unfold maxLen;omega,rfl,rfl⟩⟩
  have HR:=Lib.hid (And.intro e2 (And.intro r1 (And.intro r2 (And.intro c1 c2))));have HB:=Lib.hid (And.intro hb (And.intro (H0.out.2.2.2.1.quiet hm) hm));clear hm hb e2 r1 r2 c1 c2 hrow hcel;go_wp2_with (at_builtin;refine Hid.out ?_)
  refine Lib.hid ?_;refine wpList_app_u8s _ rfl (.tmp 60) (.tmp 61) rfl wc.heap.size (.slice (some ⟨wc.heap.size,0,none⟩) 0 0) [] A l.length c l rfl rfl HB.out.1 HB.out.2.1 HB.out.2.2.size (by simp;omega) ?_;intro v6 w6 hv6 hm6 _ _;rw [List.nil_append]at hv6;obtain⟨Ab,cb,rfl⟩:=own_shape hv6
  have hM6:Mod (fun _=>False) wc w6:=HB.out.2.2.into hm6 (fun j h=>.inr (by
   injection h with h;subst h;exact Nat.le_refl _))
  have H6:=Lib.hid (And.intro hv6 hM6);clear hv6 hm6 hM6;go_upto_region 8 with(fail)
  have hf7:=Blk.new w6 120 #[.string (strOf p),.slice Ab l.length cb];have hm7:Mod (fun _=>False) w6 (w6.alloc (.cells #[.string (strOf p),.slice Ab l.length cb] 120)):=(Mod.refl _ w6).alloc _;obtain⟨fb,hfb⟩:∃fb,fb=w6.heap.size:=⟨_,rfl⟩
  rw [<-hfb]at hf7 ⊢;clear hfb;generalize w6.alloc (.cells #[.string (strOf p),.slice Ab l.length cb] 120)=w7 at *;have hb7:=Bytes.quiet H6.out.1 hm7;have M7:=H6.out.2.trans hm7;have x7:=H0.out.2.1.keep M7 (fun h=>h);have HD:=Lib.hid (And.intro M7 (And.intro hb7 (And.intro hf7 x7)));clear hf7 hm7 hb7 M7 x7;refine wp_region_planF [1,8,10,11,18,21] [0,2,3,4,5,6,7,9,12,13,14,15,16,17,19,20] (PTree.after [0,2,3,4,5,6,7,9,12,13,14,15,16,17] (.fork 1 10 (.fork 8 10 (.seq 10 (.seq 11 (.seq 18 (.seq 19 (.seq 20 (.seq 21 .nil)))))) (.seq 8 (.seq 11 (.seq 18 (.seq 19 (.seq 20 (.seq 21 .nil))))))) (.seq 1 (.seq 8 (.seq 11 (.seq 18 (.seq 19 (.seq 20 (.seq 21 .nil))))))))) (fun w'=>Blk w' mb 42 #[.slice A0 R.length c0]/\Blk w' fb 120 #[.string (strOf p),.slice Ab l.length cb]) (by kernel_rfl) (by kernel_rfl) (fun _ _ _ d _ h=>by cases d<;>exact h) ⟨HD.out.2.2.2,HD.out.2.2.1⟩ ?_;refine planF_read (v:=.pointer (some ⟨mb,0,none⟩)) rfl rfl rfl (fun _ _=>rfl) (fun K hK=>?_);go_simp;refine hK _ ?_;clear hK K;refine planF_read (v:=.pointer (some ⟨mb,0,none⟩)) rfl rfl rfl (fun _ _=>rfl) (fun K hK=>?_);go_simp;refine hK _ ?_;clear hK K;refine planF_read (v:=.pointer (some ⟨mb,0,none⟩)) rfl rfl rfl (fun _ _=>by go_simp) (fun K hK=>?_);go_simp;refine hK _ ?_;clear hK K;refine planF_read (v:=.pointer (some ⟨mb,0,none⟩)) rfl rfl rfl (fun _ _=>rfl) (fun K hK=>?_);go_simp;refine hK _ ?_;clear hK K;refine planF_one rfl rfl _ _ rfl rfl mb 0 rfl (.slice A0 R.length c0) _ (fun w' hS=>Blk.cell hS.1 0) Tryz.underlying40 rfl (fun K hK=>?_);go_simp;refine hK _ ?_;clear hK K;refine planF_read (v:=.int .i64 (k:Int)) rfl rfl rfl (fun _ _=>rfl) (fun K hK=>?_);go_simp;refine hK _ ?_;clear hK K;have hkc:k<=c0:=Nat.le_trans hsl hc0;refine planF_read (v:=.slice A0 k c0) rfl rfl rfl (fun w' _=>by go_simp) (fun K hK=>?_);go_simp;refine hK _ ?_;clear hK K;refine planF_load rfl rfl _ _ rfl rfl fb 0 rfl [.string (strOf p),.slice Ab l.length cb] _ (fun w' hS=>hS.2.range 0 _ rfl) Tryz.underlying120 rfl (by kernel_rfl) (fun K hK=>?_);go_simp;refine hK _ ?_;clear hK K;refine planF_read (v:=.pointer (some ⟨mb,0,none⟩)) rfl rfl rfl (fun _ _=>rfl) (fun K hK=>?_);go_simp;refine hK _ ?_;clear hK K;refine planF_read (v:=.pointer (some ⟨mb,0,none⟩)) rfl rfl rfl (fun _ _=>by go_simp) (fun K hK=>?_);go_simp;refine hK _ ?_;clear hK K;refine planF_read (v:=.pointer (some ⟨mb,0,none⟩)) rfl rfl rfl (fun _ _=>rfl) (fun K hK=>?_);go_simp;refine hK _ ?_;clear hK K;refine planF_one rfl rfl _ _ rfl rfl mb 0 rfl (.slice A0 R.length c0) _ (fun w' hS=>Blk.cell hS.1 0) Tryz.underlying40 rfl (fun K hK=>?_);go_simp;refine hK _ ?_;clear hK K;refine planF_read (v:=.int .i64 (k:Int)) rfl rfl rfl (fun _ _=>rfl) (fun K hK=>?_);go_simp;refine hK _ ?_;clear hK K;refine planF_read (v:=.slice A2 (R.length-k) (c0-k)) rfl rfl rfl (fun w' _=>by go_simp;have q:=HR.out.1;unfold sliced at q;injection q) (fun K hK=>?_);go_simp;refine hK _ ?_;clear hK K;have hmd:Mod (fun _=>False) w7 w7.drew:=(Mod.refl _ w7).drew;generalize w7.drew=w8 at hmd ⊢;have HK:Hid (∀w',Mod (fun _=>False) w7 w'->Blk w' mb 42 #[.slice A0 R.length c0]/\Blk w' fb 120 #[.string (strOf p),.slice Ab l.length cb]):=Lib.hid (fun w' hm=>⟨HD.out.2.2.2.keep hm (fun h=>h),HD.out.2.2.1.keep hm (fun h=>h)⟩);have HM:=Lib.hid hmd;clear hmd;have hone:∀u∈([.string (strOf p),.slice Ab l.length cb]:List Value),u.oneCell'=true:=by intro u hu;simp only [List.mem_cons,List.not_mem_nil,or_false]at hu;rcases hu with rfl|rfl<;>rfl
  have HO:=Lib.hid hone;have hf1:∀x c,FileR wc (fun k=>hi<=k) x c->∀u∈c,u.oneCell'=true:=by
   rintro x c ⟨v,rfl,hv⟩;obtain⟨B,d,rfl,_,_⟩:=hv.in_;intro u hu;simp only [List.mem_cons,List.not_mem_nil,or_false]at hu;rcases hu with rfl|rfl<;>rfl
  have HF:=Lib.hid (And.intro (cells_all HR.out.2.2.2.1 hf1) (cells_all HR.out.2.2.2.2 hf1));clear hf1;clear hone;apply tail_first (H:=fun g0 g A10 c10 w11=>World.ownsRow w11 w7.heap.size 120 2 (.slice A10 k c10) k xs1/\Mod (fun _=>False) w7 w11/\Blk w11 g 120 #[.string (strOf p),.slice Ab l.length cb])
  case main=>
   intro tail;have HT:=Lib.hid tail;clear tail;refine planF_fork rfl rfl (fun K hK=>?_) (fun K hK=>?_)
   ·go_simp;have m9:=HM.out.alloc (.cells #[] 120);have r9:=row0 (t:=120) (size:=2) HM.out.size;have q9:=World.size_alloc w8 (.cells #[] 120);obtain⟨g0,hg0⟩:∃g0,g0=w8.heap.size:=⟨_,rfl⟩
    rw [<-hg0]at r9 q9 ⊢;have HG0:=Lib.hid hg0;clear hg0;generalize w8.alloc (.cells #[] 120)=w9 at m9 r9 q9 ⊢;have HQ:=Lib.hid q9;clear q9;refine hK _ _ (HK.out _ m9) ?_;clear hK K;refine planF_fork rfl rfl (fun K hK=>?_) (fun K hK=>?_)
    ·refine step_rf w7 w9 rfl (.tmp 65) (.tmp 71) rfl (.slice (some ⟨g0,0,none⟩) 0 0) 0 [] rfl A0 k c0 xs1 rfl r9 m9 (HR.out.2.1.src (HD.out.1.trans m9)) HR.out.2.1.nil_cap (HF.out.1) (by omega) ?_;intro A10 c10 w10 r10 _ m10 _;rw [Nat.zero_add,List.nil_append]at r10;rw [Nat.zero_add];go_simp;refine hK _ _ (HK.out _ m10) ?_;clear hK K;refine planF_loud rfl rfl (fun K hK=>?_);go_simp;have g11:=Blk.new w10 120 #[.string (strOf p),.slice Ab l.length cb];have m11:=m10.alloc (.cells #[.string (strOf p),.slice Ab l.length cb] 120);have r11:=own_mod r10 ((Mod.refl (fun _=>False) w10).alloc (.cells #[.string (strOf p),.slice Ab l.length cb] 120)) (fun _ _ h=>h);obtain⟨g,hg⟩:∃g,g=w10.heap.size:=⟨_,rfl⟩
     rw [<-hg]at g11 ⊢;have HG:=Lib.hid hg;clear hg;generalize w10.alloc (.cells #[.string (strOf p),.slice Ab l.length cb] 120)=w11 at g11 m11 r11 ⊢;refine hK _ _ (HK.out _ m11) ?_;clear hK K;exact HT.out g0 g A10 c10 w11 ⟨r11,m11,g11⟩
    ·go_simp;have g10:=Blk.new w9 120 #[.string (strOf p),.slice Ab l.length cb];have m10:=m9.alloc (.cells #[.string (strOf p),.slice Ab l.length cb] 120);have r10:=own_mod r9 ((Mod.refl (fun _=>False) w9).alloc (.cells #[.string (strOf p),.slice Ab l.length cb] 120)) (fun _ _ h=>h);obtain⟨g,hg⟩:∃g,g=w9.heap.size:=⟨_,rfl⟩
     rw [<-hg]at g10 ⊢;have HG:=Lib.hid hg;clear hg;generalize w9.alloc (.cells #[.string (strOf p),.slice Ab l.length cb] 120)=w10 at g10 m10 r10 ⊢;refine hK _ _ (HK.out _ m10) ?_;clear hK K;refine planF_loud rfl rfl (fun K hK=>?_);refine step_rf w7 w10 rfl (.tmp 65) (.tmp 71) rfl (.slice (some ⟨g0,0,none⟩) 0 0) 0 [] rfl A0 k c0 xs1 rfl r10 m10 (HR.out.2.1.src (HD.out.1.trans m10)) HR.out.2.1.nil_cap (HF.out.1) (by omega) ?_;intro A10 c10 w11 r11 _ m11 k11;have g11:=k11 g _ _ g10 (fun e=>by have q9:=HQ.out;have q1:=HG.out;have q2:=HG0.out;injection e with e;dsimp only at e;omega);rw [Nat.zero_add,List.nil_append]at r11;rw [Nat.zero_add];go_simp;refine hK _ _ (HK.out _ m11) ?_;clear hK K;exact HT.out g0 g A10 c10 w11 ⟨r11,m11,g11⟩
   ·go_simp;have g9:=Blk.new w8 120 #[.string (strOf p),.slice Ab l.length cb];have m9:=HM.out.alloc (.cells #[.string (strOf p),.slice Ab l.length cb] 120);have q9:=World.size_alloc w8 (.cells #[.string (strOf p),.slice Ab l.length cb] 120);obtain⟨g,hg⟩:∃g,g=w8.heap.size:=⟨_,rfl⟩
    rw [<-hg]at g9 q9 ⊢;have HG:=Lib.hid hg;clear hg;generalize w8.alloc (.cells #[.string (strOf p),.slice Ab l.length cb] 120)=w9 at g9 m9 q9 ⊢;have HQ:=Lib.hid q9;clear q9;refine hK _ _ (HK.out _ m9) ?_;clear hK K;refine planF_loud rfl rfl (fun K hK=>?_);go_simp;have m10:=m9.alloc (.cells #[] 120);have r10:=row0 (t:=120) (size:=2) m9.size;have g10:=g9.alloc (.cells #[] 120);obtain⟨g0,hg0⟩:∃g0,g0=w9.heap.size:=⟨_,rfl⟩
    rw [<-hg0]at r10 ⊢;have HG0:=Lib.hid hg0;clear hg0;generalize w9.alloc (.cells #[] 120)=w10 at m10 r10 g10 ⊢;refine hK _ _ (HK.out _ m10) ?_;clear hK K;refine planF_loud rfl rfl (fun K hK=>?_);refine step_rf w7 w10 rfl (.tmp 65) (.tmp 71) rfl (.slice (some ⟨g0,0,none⟩) 0 0) 0 [] rfl A0 k c0 xs1 rfl r10 m10 (HR.out.2.1.src (HD.out.1.trans m10)) HR.out.2.1.nil_cap (HF.out.1) (by omega) ?_;intro A10 c10 w11 r11 _ m11 k11;have g11:=k11 g _ _ g10 (fun e=>by have q9:=HQ.out;have q1:=HG.out;have q2:=HG0.out;injection e with e;dsimp only at e;omega);rw [Nat.zero_add,List.nil_append]at r11;rw [Nat.zero_add];go_simp;refine hK _ _ (HK.out _ m11) ?_;clear hK K;exact HT.out g0 g A10 c10 w11 ⟨r11,m11,g11⟩
  case tail=>
   rintro g0 g A10 c10 w11 ⟨r11,m11,g11⟩;refine planF_loud rfl rfl (fun K hK=>?_);refine step_rf w7 w11 rfl (.tmp 72) (.tmp 74) rfl (.slice A10 k c10) k xs1 rfl (some ⟨g,0,none⟩) 1 1 [.string (strOf p),.slice Ab l.length cb] rfl r11 m11 (Src.of_blk g11) (fun e=>by cases e) HO.out (by omega) ?_;intro A12 c12 w12 r12 _ m12 _;go_simp;refine hK _ _ (HK.out _ m12) ?_;clear hK K;refine planF_loud rfl rfl (fun K hK=>?_);refine step_rf w7 w12 rfl (.tmp 75) (.tmp 81) rfl (.slice A12 (k+1) c12) (k+1) (xs1++[.string (strOf p),.slice Ab l.length cb]) rfl A2 (R.length-k) (c0-k) xs2 rfl r12 m12 (HR.out.2.2.1.src (HD.out.1.trans m12)) HR.out.2.2.1.nil_cap HF.out.2 (by omega) ?_;intro A13 c13 w13 r13 l13 m13 _;go_simp;refine hK _ _ (HK.out _ m13) ?_;clear hK K;refine planF_read (v:=.pointer (some ⟨mb,0,none⟩)) rfl rfl rfl (fun _ _=>by go_simp) (fun K hK=>?_);go_simp;refine hK _ ?_;clear hK K;refine planF_read (v:=.pointer (some ⟨mb,0,none⟩)) rfl rfl rfl (fun _ _=>rfl) (fun K hK=>?_);go_simp;refine hK _ ?_;clear hK K;have hb13:=(HK.out _ m13).1;obtain⟨bc,bf⟩:=hb13.both;refine planF_last rfl rfl (fun K hK=>?_);rw [if_pos (by rfl)];go_simp;have hm14:=(Mod.refl (·=mb) w13).setCell (p:=⟨mb,0,none⟩) (.inl rfl) (.slice A13 (k+1+(R.length-k)) c13);have hb14:Blk (w13.setCell ⟨mb,0,none⟩ (.slice A13 (k+1+(R.length-k)) c13)) mb 42 #[.slice A13 (k+1+(R.length-k)) c13]:=hb13.put rfl;have HE:=Lib.hid (ref_end H0.out.1 H0.out.2.2.2.2 HD.out.1 m13 HS.out r13 rfl l13 HR.out.2.2.2.1 HR.out.2.2.2.2 HD.out.2.1 hm14 hb14);clear hm14 hb14 bc bf hb13 r13 r12 m13 m12;generalize w13.setCell ⟨mb,0,none⟩ (.slice A13 (k+1+(R.length-k)) c13)=w14 at *;refine hK _ _ ?_;clear hK K;refine planF_done ?_;go_wp2_with fail;go_ret;exact⟨rfl,HE.out⟩
theorem rOPut(w:World)(mb hi:Nat)(R:FsL)(h:RefAt w mb hi R)(hl:R.length<=4000)(hw:hi<=w.heap.size)(p:List UInt8)(hp:p.length<=9223372036854775807)(A:Option Addr)(n c:Nat)(l:List UInt8)(hin:BytesIn w A n c l)(hn:n<=9223372036854775807):
  Calls Tryz.prog 14 #[.pointer (some ⟨mb,0,none⟩),.string (strOf p),.slice A n c] w fun e w'=>match putL R p l with
   | none=>e=.returned (.int .i64 193)/\w=w'
   | some _=>e=.returned (.int .i64 0)/\RefAt w' mb hi (insR R p l)/\Mod (·=mb) w w':=by
 cases hpl:putL R p l with
 | none=>exact rOPutNo w mb hi R h hl hw p hp A n c l hin hn hpl
 | some L'=>exact rOPutYes w mb hi R h hl hw p hp A n c l hin hn L' hpl
end Go.Proofs.YtnnpoodcdibpiaaGreatDoor
