/-
  The reference's bits: Digits, Code.
-/
import Derived.Test.YtnnpoodcdibpiaaGreatDoorB12
namespace Go.Proofs.YtnnpoodcdibpiaaGreatDoor
open Go.RowKit
set_option maxRecDepth 100000
set_option maxHeartbeats 8000000
def digitsL(v:Nat):Nat->List UInt8
 | 0=>[]
 | n+1=>UInt8.ofNat (v/2 ^ n % 2) :: digitsL v n
theorem digitsL_length(v n:Nat):(digitsL v n).length=n:=by
 induction n with
 | zero=>rfl
 | succ n ih=>simp [digitsL,ih]
def blen(m:Nat):Nat:=if m=0 then 0 else Nat.log2 m+1
def codeL(v:Nat):List UInt8:=digitsL (v+1) (2*blen (v+1)-1)
theorem blen_pw{x k:Nat}(h:x<2 ^ k):blen x<=k:=by
 unfold blen;split
 ·omega
 ·rename_i h0;have:=(Nat.log2_lt h0).2 h;omega
theorem blen_div{x k:Nat}(h:2 ^ k<=x):blen x=blen (x/2 ^ k)+k:=by
 have hk:0<2 ^ k:=Nat.two_pow_pos k;have hx:x≠0:=by omega
 have hy:x/2 ^ k≠0:=by
  have:=Nat.div_pos h hk;omega
 have hm:=(Nat.log2_eq_iff hy (k:=Nat.log2 (x/2 ^ k))).1 rfl;have hl:Nat.log2 x=Nat.log2 (x/2 ^ k)+k:=by
  rw [Nat.log2_eq_iff hx];constructor
  ·rw [Nat.pow_add];exact(Nat.le_div_iff_mul_le hk).1 hm.1
  ·rw [show Nat.log2 (x/2 ^ k)+k+1=(Nat.log2 (x/2 ^ k)+1)+k by omega,Nat.pow_add];exact(Nat.div_lt_iff_lt_mul hk).1 hm.2
 unfold blen;rw [if_neg hx,if_neg hy,hl];omega
def tabB(s:ByteArray):Bool:=(List.range 256).all fun i=>decide (s.data[i]?=some (UInt8.ofNat (blen i)))
theorem tab_run{s:ByteArray}(hs:tabB s=true)(y:Nat)(hy:y<256)(w:World):(Instr.index 9 (.string s) (.int .u8 (y:Int))).run Tryz.prog w=.ok (.int .u8 ((blen y:Nat):Int)) w:=by
 rw [run_index_string w _ _ _ _ Tryz.underlying9];unfold tabB at hs;rw [List.all_eq_true]at hs;have h:=of_decide_eq_true (hs y (List.mem_range.2 hy));obtain⟨h1,h2⟩:=Array.getElem?_eq_some_iff.1 h;have hsz:y<s.size:=h1;rw [dif_pos ⟨by omega,by omega⟩];congr 3;simp only [Int.toNat_natCast];have h3:(UInt8.ofNat (blen y)).toNat=blen y:=by
  have:=blen_pw (x:=y) (k:=8) hy;rw [UInt8.toNat_ofNat',Nat.mod_eq_of_lt (by omega)]
 exact(congrArg UInt8.toNat h2).trans h3
theorem wpList_tab{ops:Array Oper}{rest:List Oper}{op:Oper}{a:Act}{w:World}{Q:Exit->Act->World->Prop}(hgd:op.guard=none)(x ix:Operand)(ho:op.op=.index 9 x ix)(s:ByteArray)(y:Nat)(hx:a.eval x=.string s)(hi:a.eval ix=.int .u8 (y:Int))(hy:y<256)(hs:tabB s=true)
  (h:wpList Tryz.prog ops Q rest (a.put op.dst (.int .u8 ((blen y:Nat):Int))) w):wpList Tryz.prog ops Q (op :: rest) a w:=
 wpList_plain hgd fun _ hK=>by
  unfold Oper.wp execOp;simp only [ho,hx,hi,Sem.run_bind,Sem.run_pure,Result.andThen_ok,tab_run hs y hy w];exact hK _ _ h
theorem bitsLen64(w:World)(x:Nat)(hx:x<4194304):Calls Tryz.prog 174 #[.int .u64 (x:Int)] w fun e w'=>e=.returned (.int .i64 ((blen x:Nat):Int))/\w=w':=by
 have d1:decide (4294967296<=(x:Int))=false:=decide_eq_false (by omega);have d1':decide (4294967296<=x)=false:=decide_eq_false (by omega);by_cases h16:65536<=x
 ·have d2:decide (65536<=(x:Int))=true:=decide_eq_true (by omega);have d2':decide (65536<=x)=true:=decide_eq_true h16;obtain⟨y,hy⟩:∃y,y=x/65536:=⟨_,rfl⟩
  have ey:(x:Int)/65536=(y:Int):=by omega
  have hy8:y<256:=by omega
  have hb:=blen_div (x:=x) (k:=16) h16;rw [show(2:Nat) ^ 16=65536 by decide,<-hy]at hb;have hbl:=blen_pw (x:=y) (k:=8) hy8;have d3:decide (256<=(y:Int))=false:=decide_eq_false (by omega);have d3':decide (256<=y)=false:=decide_eq_false (by omega);have hx8:IntKind.u8.wrap (y:Int)=(y:Int):=IntWalk.u8_in _ ⟨by omega,by omega⟩;have HB:=Lib.hid (And.intro hb hy);clear hb hy;go_enter Tryz.func174,Tryz.ntmps174;go_wp2_with (refine wpList_tab rfl _ _ rfl _ y rfl rfl (by omega) (by decide +kernel) ?_)
  go_ret;refine⟨?_,rfl⟩;rw [HB.out.1,show(((blen y+16:Nat)):Int)=16+(blen y:Int)by omega];rfl
 ·have d2:decide (65536<=(x:Int))=false:=decide_eq_false (by omega);have d2':decide (65536<=x)=false:=decide_eq_false (by omega);by_cases h8:256<=x
  ·have d4:decide (256<=(x:Int))=true:=decide_eq_true (by omega);have d4':decide (256<=x)=true:=decide_eq_true h8;obtain⟨y,hy⟩:∃y,y=x/256:=⟨_,rfl⟩
   have ey:(x:Int)/256=(y:Int):=by omega
   have hy8:y<256:=by omega
   have hb:=blen_div (x:=x) (k:=8) h8;rw [show(2:Nat) ^ 8=256 by decide,<-hy]at hb;have hbl:=blen_pw (x:=y) (k:=8) hy8;have hx8:IntKind.u8.wrap (y:Int)=(y:Int):=IntWalk.u8_in _ ⟨by omega,by omega⟩;have HB:=Lib.hid (And.intro hb hy);clear hb hy;go_enter Tryz.func174,Tryz.ntmps174;go_wp2_with (refine wpList_tab rfl _ _ rfl _ y rfl rfl (by omega) (by decide +kernel) ?_)
   go_ret;refine⟨?_,rfl⟩;rw [HB.out.1,show(((blen y+8:Nat)):Int)=8+(blen y:Int)by omega];rfl
  ·have d3:decide (256<=(x:Int))=false:=decide_eq_false (by omega);have d3':decide (256<=x)=false:=decide_eq_false (by omega);have hx8:IntKind.u8.wrap (x:Int)=(x:Int):=IntWalk.u8_in _ ⟨by omega,by omega⟩;have hbl:=blen_pw (x:=x) (k:=8) (by omega);go_enter Tryz.func174,Tryz.ntmps174;go_wp2_with (refine wpList_tab rfl _ _ rfl _ x rfl rfl (by omega) (by decide +kernel) ?_)
   go_ret;exact⟨rfl,rfl⟩
theorem bitsLen(w:World)(x:Nat)(hx:x<4194304):Calls Tryz.prog 117 #[.int .u64 (x:Int)] w fun e w'=>e=.returned (.int .i64 ((blen x:Nat):Int))/\w=w':=by
 go_enter Tryz.func117,Tryz.ntmps117;go_wp2_with fail;refine(bitsLen64 w x hx).mono ?_;rintro e w1 ⟨rfl,rfl⟩;go_wp2_with fail;go_ret;exact⟨rfl,rfl⟩
def elens(t:Nat):Nat->Nat->Es->Es
 | 0,_,s=>s
 | m+1,i,s=>elens t m (i+1) (eputAt s (t*37+i) 1)
def estop(t n:Nat)(s:Es):Es:=if n<21 then eputAt s (t*37+(n-1)) 0 else s
def enum(t v:Nat)(s:Es):Es:=elow t (v+1) (blen (v+1)-1) 0 0 (estop t (blen (v+1)) (elens t (blen (v+1)-1) 0 s))
theorem elens_len(t m:Nat):∀(i:Nat) (s:Es),s.code.length<=(elens t m i s).code.length/\(elens t m i s).code.length<=s.code.length+m:=by
 induction m with
 | zero=>intro i s;exact⟨Nat.le_refl _,Nat.le_refl _⟩
 | succ m ih=>
  intro i s;have h1:=eputAt_len s (t*37+i) 1;have h2:=ih (i+1) (eputAt s (t*37+i) 1);unfold elens;omega
theorem estop_len(t n:Nat)(s:Es):s.code.length<=(estop t n s).code.length/\(estop t n s).code.length<=s.code.length+1:=by
 unfold estop;split
 ·exact eputAt_len _ _ _
 ·omega
theorem blen_pos{x:Nat}(h:0<x):1<=blen x:=by
 unfold blen;rw [if_neg (by omega)];omega
theorem EbPost.next{w w1 w':World}{bk g:Nat}{v v1:Value}{s':Es}{e:Ending}(hf:∀j,v1.ownBlock=some j->v.ownBlock=some j\/w.heap.size<=j)(hm:Mod (fun j=>j=g\/j=bk\/v.ownBlock=some j) w w1)(h:EbPost w1 bk g v1 s' e w'):EbPost w bk g v s' e w':=by
 obtain⟨v2,rfl,hE,hF,hM⟩:=h;refine⟨v2,rfl,hE,fun j e=>?_,hm.into hM (fun j e=>?_)⟩
 ·rcases hF j e with h1|h1
  ·exact hf j h1
  ·exact .inr (Nat.le_trans hm.size h1)
 ·rcases e with e|e|e
  ·exact .inl (.inl e)
  ·exact .inl (.inr (.inl e))
  ·rcases hf j e with h1|h1
   ·exact .inl (.inr (.inr h1))
   ·exact .inr h1
def ELenRel(w:World)(bk g:Nat)(v:Value)(t n:Nat)(tg:Es)(v17:Value)(wr:World):Prop:=
 ∃(i:Nat) (s:Es) (v1:Value),i<=n/\v17=.int .i64 (i:Int)/\EbAt wr bk g v1 s/\elens t (n-i) i s=tg/\s.code.length+(n-i)+22<=1048575+1 /\
  (∀j,v1.ownBlock=some j->v.ownBlock=some j\/w.heap.size<=j)/\Mod (fun j=>j=g\/j=bk\/v.ownBlock=some j) w wr
theorem ebPutNum(w:World)(bk g:Nat)(v:Value)(s:Es)(t x:Nat)(ht:t<16)(hx:x<=1048576)(h:EbAt w bk g v s)(hl:s.code.length+43<=1048575+1):
  Calls Tryz.prog 307 #[.pointer (some ⟨bk,t*37,none⟩),.pointer (some ⟨g,0,none⟩),.int .i64 (x:Int)] w (EbPost w bk g v (enum t x s)):=by
 obtain⟨n,hn⟩:∃n,n=blen (x+1):=⟨_,rfl⟩
 have hn1:1<=n:=by rw [hn];exact blen_pos (by omega)
 have hn2:n<=21:=by rw [hn];exact blen_pw (by omega)
 obtain⟨m,rfl⟩:∃m,n=m+1:=⟨n-1,by omega⟩
 have hBL:∀w,Calls Tryz.prog 117 #[.int .u64 ((x:Int)+1)] w fun e w'=>e=.returned (.int .i64 ((m+1:Nat):Int))/\w=w':=fun w=>by
  have:=bitsLen w (x+1) (by omega);rw [<-hn]at this;exact this
 obtain⟨s1,hs1⟩:∃s1,s1=elens t m 0 s:=⟨_,rfl⟩
 have hnum:enum t x s=elow t (x+1) m 0 0 (estop t (m+1) s1):=by
  unfold enum;rw [<-hn,hs1];rfl
 have hw1:IntKind.u64.wrap ((x:Int)+1)=(x:Int)+1:=IntWalk.u64_in _ ⟨by omega,by omega⟩;have e1:(((m+1:Nat):Int)-1)=(m:Int):=by omega
 have hlen:=elens_len t m 0 s;rw [<-hs1]at hlen;have H:=Lib.hid (And.intro h (And.intro hl (And.intro hnum (And.intro hBL (And.intro hs1 (And.intro hn hlen))))));clear h hl hnum hBL hs1 hn hlen;go_enter Tryz.func307,Tryz.ntmps307;go_wp2_with fail;refine(H.out.2.2.2.1 _).mono ?_;rintro e w1 ⟨rfl,rfl⟩;go_wp2_with fail;go_loopw [17] (ELenRel w bk g v t m s1) (fun i _=>m-(intOf i).toNat)
 case atStart=>exact⟨0,s,v,by omega,rfl,H.out.1,H.out.2.2.2.2.1.symm,by have:=H.out.2.1;omega,fun j e=>.inl e,Mod.refl _ _⟩
 case round=>
  obtain⟨i,sa,va,hi,rfl,hs,hg,hl1,hf1,hM⟩:=hrel;rename World=>wr
  by_cases hlt:i<m
  ·have hge:elens t (m-i) i sa=elens t (m-(i+1)) (i+1) (eputAt sa (t*37+i) 1):=by
    rw [show m-i=(m-(i+1))+1 by omega];rfl
   rw [hg]at hge;have hcl:=eputAt_len sa (t*37+i) 1;have PT:=ebPut_at wr bk g va sa (t*37+i) 1 (by omega) (by omega) hs (by omega);have d1:decide ((i:Int)<(m:Int))=true:=decide_eq_true (by omega);have i20:i<20:=by omega
   have HB:=Lib.hid (And.intro hge (And.intro hl1 (And.intro hf1 (And.intro hM (And.intro PT hcl)))));clear hs hg hge hl1 hf1 hM PT hcl;go_wp2_with fail;refine HB.out.2.2.2.2.1.mono ?_;rintro e w3 hp;have hp2:=EbPost.next HB.out.2.2.1 HB.out.2.2.2.1 hp;obtain⟨v3,rfl,hE3,hF3,hM3⟩:=hp2;have H3:=Lib.hid (And.intro hE3 (And.intro hF3 hM3));clear hp hE3 hF3 hM3;go_wp2_with fail;go_roundw
   case rel=>exact⟨i+1,_,v3,by omega,by go_num,H3.out.1,HB.out.1.symm,by have:=HB.out.2.1;have:=HB.out.2.2.2.2.2.2;omega,H3.out.2.1,H3.out.2.2⟩
   case measure=>simp [intOf];omega
  ·obtain rfl:i=m:=by omega
   rw [Nat.sub_self]at hg;have hg2:sa=s1:=hg;subst hg2;have d1:decide ((i:Int)<(i:Int))=false:=decide_eq_false (by omega);have HB:=Lib.hid (And.intro hs (And.intro hl1 (And.intro hf1 hM)));clear hs hg hl1 hf1 hM;by_cases h21:i+1<21
   ·have d2:decide ((i:Int)+1<21)=true:=decide_eq_true (by omega);have d2':decide (((i+1:Nat):Int)<21)=true:=decide_eq_true (by omega);have i20:i<20:=by omega
    have PT:=ebPut_at wr bk g va sa (t*37+i) 0 (by omega) (by omega) HB.out.1 (by have:=HB.out.2.1;omega);have HP:=Lib.hid PT;clear PT;go_wp2_with fail;refine HP.out.mono ?_;rintro e w3 hp;obtain⟨v3,rfl,hE3,hF3,hM3⟩:=EbPost.next HB.out.2.2.1 HB.out.2.2.2 hp;have H3:=Lib.hid (And.intro hE3 (And.intro hF3 hM3));clear hp hE3 hF3 hM3;have LW:Calls Tryz.prog 306 #[.pointer (some ⟨bk,t*37,none⟩),.pointer (some ⟨g,0,none⟩),.int .i64 ((x:Int)+1),.int .i64 (i:Int)] w3 (EbPost w3 bk g v3 (elow t (x+1) i 0 0 (eputAt sa (t*37+i) 0))):=ebPutLow w3 bk g v3 (eputAt sa (t*37+i) 0) t (x+1) i ht (by omega) (by omega) H3.out.1 (by have:=HB.out.2.1;have:=H.out.2.1;have:=H.out.2.2.2.2.2.2;have:=eputAt_len sa (t*37+i) 0;omega);have HL:=Lib.hid LW;clear LW;go_wp2_with fail;refine HL.out.mono ?_;rintro e w5 hp5;obtain⟨v5,rfl,hE5,hF5,hM5⟩:=EbPost.next H3.out.2.1 H3.out.2.2 hp5;have H5:=Lib.hid (And.intro hE5 (And.intro hF5 hM5));clear hp5 hE5 hF5 hM5;go_wp2_with fail;go_ret;refine⟨v5,rfl,?_,H5.out.2.1,H5.out.2.2⟩;rw [H.out.2.2.1];unfold estop;rw [if_pos h21];exact H5.out.1
   ·have d2:decide ((i:Int)+1<21)=false:=decide_eq_false (by omega);have d2':decide (((i+1:Nat):Int)<21)=false:=decide_eq_false (by omega);have LW:Calls Tryz.prog 306 #[.pointer (some ⟨bk,t*37,none⟩),.pointer (some ⟨g,0,none⟩),.int .i64 ((x:Int)+1),.int .i64 (i:Int)] wr (EbPost wr bk g va (elow t (x+1) i 0 0 sa)):=ebPutLow wr bk g va sa t (x+1) i ht (by omega) (by omega) HB.out.1 (by have:=HB.out.2.1;have:=H.out.2.1;have:=H.out.2.2.2.2.2.2; omega);have HL:=Lib.hid LW;clear LW;go_wp2_with fail;refine HL.out.mono ?_;rintro e w5 hp5;obtain⟨v5,rfl,hE5,hF5,hM5⟩:=EbPost.next HB.out.2.2.1 HB.out.2.2.2 hp5;have H5:=Lib.hid (And.intro hE5 (And.intro hF5 hM5));clear hp5 hE5 hF5 hM5;go_wp2_with fail;go_ret;refine⟨v5,rfl,?_,H5.out.2.1,H5.out.2.2⟩;rw [H.out.2.2.1];unfold estop;rw [if_neg h21];exact H5.out.1
def esigned(t:Nat)(v:Int)(s:Es):Es:=if v=0 then enum t v.natAbs s else eputAt (enum t v.natAbs s) (t*37+36) (if v<0 then 1 else 0)
theorem enum_len{t x:Nat}(hx:x<=1048576)(s:Es):s.code.length<=(enum t x s).code.length/\(enum t x s).code.length<=s.code.length+41:=by
 have h0:blen (x+1)<=21:=blen_pw (by omega);have h1:=elens_len t (blen (x+1)-1) 0 s;have h2:=estop_len t (blen (x+1)) (elens t (blen (x+1)-1) 0 s);have h3:=elow_len t (x+1) (blen (x+1)-1) 0 0 (estop t (blen (x+1)) (elens t (blen (x+1)-1) 0 s));unfold enum;omega
theorem ebBook(w:World)(bk g:Nat)(v:Value)(s:Es)(t x:Nat)(ht:t<16)(hx:x<=1048576)(h:EbAt w bk g v s)(hl:s.code.length+43<=1048575+1):
  Calls Tryz.prog 364 #[.pointer (some ⟨bk,0,none⟩),.pointer (some ⟨g,0,none⟩),.int .i64 (t:Int),.int .i64 (x:Int)] w (EbPost w bk g v (enum t x s)):=by
 have p0:decide ((x:Int)<0)=false:=decide_eq_false (by omega);have p1:decide (1048576<(x:Int))=false:=decide_eq_false (by omega);have HP:=Lib.hid (ebPutNum w bk g v s t x ht hx h hl);clear h hl;go_enter Tryz.func364,Tryz.ntmps364;go_wp2_with fail;refine(bTopic w bk t ht).mono ?_;rintro e w1 ⟨rfl,rfl⟩;go_wp2_with fail;refine HP.out.mono ?_;rintro e w2 ⟨v2,rfl,hE,hF,hM⟩;have H2:=Lib.hid (And.intro hE (And.intro hF hM));clear hE hF hM;go_wp2_with fail;go_ret;exact⟨v2,rfl,H2.out.1,H2.out.2.1,H2.out.2.2⟩
theorem ebOne(w:World)(bk g:Nat)(v:Value)(s:Es)(t n x:Nat)(ht:t<16)(hn:n=3\/n=4)(hx:x<n)(h:EbAt w bk g v s)(hl:s.code.length+43<=1048575+1):
  Calls Tryz.prog 244 #[.pointer (some ⟨bk,0,none⟩),.pointer (some ⟨g,0,none⟩),.int .i64 (t:Int),.int .i64 (n:Int),.int .i64 (x:Int)] w (EbPost w bk g v (elow t x 2 0 0 s)):=by
 have p0:decide ((x:Int)<0)=false:=decide_eq_false (by omega);have p1:decide ((n:Int)<=(x:Int))=false:=decide_eq_false (by omega);have HP:=Lib.hid (ebPutLow w bk g v s t x 2 ht (by omega) (by omega) h (by omega));clear h hl;rcases hn with rfl|rfl
 ·go_enter Tryz.func244,Tryz.ntmps244;go_wp2_with fail;refine(bTopic w bk t ht).mono ?_;rintro e w1 ⟨rfl,rfl⟩;go_wp2_with fail;refine(bitsLen2 _).mono ?_;rintro e w1 ⟨rfl,rfl⟩;go_wp2_with fail;refine HP.out.mono ?_;rintro e w2 ⟨v2,rfl,hE,hF,hM⟩;have H2:=Lib.hid (And.intro hE (And.intro hF hM));clear hE hF hM;go_wp2_with fail;go_ret;exact⟨v2,rfl,H2.out.1,H2.out.2.1,H2.out.2.2⟩
 ·go_enter Tryz.func244,Tryz.ntmps244;go_wp2_with fail;refine(bTopic w bk t ht).mono ?_;rintro e w1 ⟨rfl,rfl⟩;go_wp2_with fail;refine(bitsLen3 _).mono ?_;rintro e w1 ⟨rfl,rfl⟩;go_wp2_with fail;refine HP.out.mono ?_;rintro e w2 ⟨v2,rfl,hE,hF,hM⟩;have H2:=Lib.hid (And.intro hE (And.intro hF hM));clear hE hF hM;go_wp2_with fail;go_ret;exact⟨v2,rfl,H2.out.1,H2.out.2.1,H2.out.2.2⟩
theorem ebSigned(w:World)(bk g:Nat)(v:Value)(s:Es)(t:Nat)(x:Int)(ht:t<16)(hx:-1048576<=x/\x<=1048576)(h:EbAt w bk g v s)(hl:s.code.length+43<=1048575+1):
  Calls Tryz.prog 245 #[.pointer (some ⟨bk,0,none⟩),.pointer (some ⟨g,0,none⟩),.int .i64 (t:Int),.int .i64 x] w (EbPost w bk g v (esigned t x s)):=by
 obtain⟨hx1,hx2⟩:=hx;have p0:decide (x < -1048576)=false:=decide_eq_false (by omega);have p1:decide (1048576<x)=false:=decide_eq_false (by omega);have HP:=Lib.hid (And.intro (ebPutNum w bk g v s t x.natAbs ht (by omega) h hl) (And.intro hl (enum_len (t:=t) (x:=x.natAbs) (by omega) s)));clear h hl;by_cases h0:x=0
 ·subst h0;go_enter Tryz.func245,Tryz.ntmps245;go_wp2_with fail;refine(bTopic w bk t ht).mono ?_;rintro e w1 ⟨rfl,rfl⟩;go_wp2_with fail;refine HP.out.1.mono ?_;rintro e w2 ⟨v2,rfl,hE,hF,hM⟩;have H2:=Lib.hid (And.intro hE (And.intro hF hM));clear hE hF hM;go_wp2_with fail;go_ret;exact⟨v2,rfl,H2.out.1,H2.out.2.1,H2.out.2.2⟩
 ·by_cases hneg:x<0
  ·have d1:decide (x<0)=true:=decide_eq_true hneg;obtain⟨y,hyn⟩:∃y:Nat,y=x.natAbs:=⟨_,rfl⟩
   have d2:((y:Int) == 0)=false:=by simp;omega
   have hw1:IntKind.i64.wrap (-x)=(y:Int):=by
    rw [show -x=(y:Int)by omega];exact IntWalk.i64_in _ ⟨by omega,by omega⟩
   have hy1:y<=1048576:=by omega
   rw [<-hyn]at HP;have HQ:Hid (esigned t x s=eputAt (enum t y s) (t*37+36) 1):=by
    show _=_;unfold esigned;rw [if_neg h0,if_pos hneg,<-hyn]
   clear h0 hneg hyn;go_enter Tryz.func245,Tryz.ntmps245;go_wp2_with fail;refine(bTopic w bk t ht).mono ?_;rintro e w1 ⟨rfl,rfl⟩;go_wp2_with fail;refine HP.out.1.mono ?_;rintro e w2 ⟨v2,rfl,hE,hF,hM⟩;have PT:=ebPut_at w2 bk g v2 (enum t y s) (t*37+36) 1 (by omega) (by omega) hE (by have:=HP.out.2.1;have:=HP.out.2.2;omega);have H2:=Lib.hid (And.intro PT (And.intro hF hM));clear hE hF hM PT;go_wp2_with fail;refine H2.out.1.mono ?_;rintro e w3 hp;obtain⟨v3,rfl,hE3,hF3,hM3⟩:=EbPost.next H2.out.2.1 H2.out.2.2 hp;have H3:=Lib.hid (And.intro hE3 (And.intro hF3 hM3));clear hp hE3 hF3 hM3;go_wp2_with fail;go_ret;refine⟨v3,rfl,?_,H3.out.2.1,H3.out.2.2⟩;rw [HQ.out];exact H3.out.1
  ·have d1:decide (x<0)=false:=decide_eq_false hneg;obtain⟨y,rfl⟩:∃y:Nat,x=(y:Int):=⟨x.natAbs,by omega⟩
   have hyn:((y:Int)).natAbs=y:=by omega
   have d2:((y:Int) == 0)=false:=by simp;omega
   rw [hyn]at HP;have HQ:Hid (esigned t (y:Int) s=eputAt (enum t y s) (t*37+36) 0):=by
    show _=_;unfold esigned;rw [if_neg h0,if_neg hneg,hyn]
   clear h0 hneg hyn;go_enter Tryz.func245,Tryz.ntmps245;go_wp2_with fail;refine(bTopic w bk t ht).mono ?_;rintro e w1 ⟨rfl,rfl⟩;go_wp2_with fail;refine HP.out.1.mono ?_;rintro e w2 ⟨v2,rfl,hE,hF,hM⟩;have PT:=ebPut_at w2 bk g v2 (enum t y s) (t*37+36) 0 (by omega) (by omega) hE (by have:=HP.out.2.1;have:=HP.out.2.2;omega);have H2:=Lib.hid (And.intro PT (And.intro hF hM));clear hE hF hM PT;go_wp2_with fail;refine H2.out.1.mono ?_;rintro e w3 hp;obtain⟨v3,rfl,hE3,hF3,hM3⟩:=EbPost.next H2.out.2.1 H2.out.2.2 hp;have H3:=Lib.hid (And.intro hE3 (And.intro hF3 hM3));clear hp hE3 hF3 hM3;go_wp2_with fail;go_ret;refine⟨v3,rfl,?_,H3.out.2.1,H3.out.2.2⟩;rw [HQ.out];exact H3.out.1
def cntTo(L:List Int):Nat->Nat
 | 0=>0
 | k+1=>if L.getD k 0=0 then cntTo L k else k+1
theorem cntTo_le(L:List Int)(k:Nat):cntTo L k<=k:=by
 induction k with
 | zero=>exact Nat.le_refl _
 | succ k ih=>unfold cntTo;split<;>omega
def eputs(t:Nat):List Int->Es->Es
 | [],s=>s
 | x :: r,s=>eputs t r (esigned t x s)
def eblk(t:Nat)(l:List Int)(s:Es):Es:=eputs (t+1) ((sortL l).take (cntTo (sortL l) 64)) (enum t (cntTo (sortL l) 64) s)
theorem sorTo_within{M:Int}{b:List Int}(h:Within M b)(k:Nat):Within M (sorTo b k):=by
 have h0:=h b.length;rw [show b.getD b.length 0=0 by simp [List.getD_eq_getElem?_getD]]at h0
 induction k with
 | zero=>
  intro i;have:(sorTo b 0).getD i 0=0:=by
   simp only [sorTo,List.getD_eq_getElem?_getD,List.getElem?_replicate];split<;>rfl
  rw [this];exact h0
 | succ k ih=>
  intro i;rw [sorTo,getD_set];split
  ·exact h _
  ·exact ih i
theorem esigned_len{t:Nat}{x:Int}(hx:-1048576<=x/\x<=1048576)(s:Es):s.code.length<=(esigned t x s).code.length/\(esigned t x s).code.length<=s.code.length+42:=by
 have h1:=enum_len (t:=t) (x:=x.natAbs) (by omega) s;unfold esigned;split
 ·omega
 ·have h2:=eputAt_len (enum t x.natAbs s) (t*37+36) (if x<0 then 1 else 0);omega
theorem eputs_len{t:Nat}:∀(l:List Int) (s:Es),(∀x∈l,-1048576<=x/\x<=1048576)->s.code.length<=(eputs t l s).code.length/\(eputs t l s).code.length<=s.code.length+42*l.length
 | [],s,_=>⟨Nat.le_refl _,Nat.le_refl _⟩
 | x :: r,s,h=>by
  have h1:=esigned_len (t:=t) (h x (by simp)) s;have h2:=eputs_len (t:=t) r (esigned t x s) (fun y hy=>h y (by simp [hy]));unfold eputs;rw [List.length_cons];omega
theorem within_mem{M:Int}{l:List Int}(h:Within M l):∀x∈l,-M<=x/\x<=M:=by
 intro x hx;obtain⟨i,hi,rfl⟩:=List.getElem_of_mem hx;have:=h i;rwa [List.getD_eq_getElem?_getD,List.getElem?_eq_getElem hi]at this
theorem eblk_len{t:Nat}{l:List Int}(h:Within 1048576 l)(s:Es):s.code.length<=(eblk t l s).code.length/\(eblk t l s).code.length<=s.code.length+2730:=by
 have hc:=cntTo_le (sortL l) 64;have h1:=enum_len (t:=t) (x:=cntTo (sortL l) 64) (by omega) s;have h2:=eputs_len (t:=t+1) ((sortL l).take (cntTo (sortL l) 64)) (enum t (cntTo (sortL l) 64) s) (fun x hx=>within_mem (sorTo_within h 64) x (List.mem_of_mem_take hx));have h3:((sortL l).take (cntTo (sortL l) 64)).length<=64:=by rw [List.length_take];omega
 unfold eblk;omega
theorem EbAt.free{w:World}{bk g ob:Nat}{v:Value}{s:Es}(h:EbAt w bk g v s)(ho:w.heap.size<=ob):¬(ob=g\/ob=bk\/v.ownBlock=some ob):=by
 have q1:=h.enc.blk.lt;have q2:=h.bk_.lt;rintro(e|e|e)
 ·omega
 ·omega
 ·obtain⟨_,cs,hb⟩:=own_blk h.enc.own e;have:=hb.lt;omega
theorem eputs_step(t:Nat)(L:List Int)(n i:Nat)(s:Es)(hi:i<n)(hn:n<=L.length):eputs t ((L.take n).drop i) s=eputs t ((L.take n).drop (i+1)) (esigned t (L.getD i 0) s):=by
 have h:(L.take n).drop i=L.getD i 0 :: (L.take n).drop (i+1):=by
  have hl:i<(L.take n).length:=by rw [List.length_take];omega
  rw [List.drop_eq_getElem_cons hl,List.getElem_take,List.getD_eq_getElem?_getD,List.getElem?_eq_getElem (by omega)];rfl
 rw [h];rfl
def QpRel(w1:World)(bk g ob:Nat)(v:Value)(L:List Int)(t n:Nat)(tg:Es)(v55:Value)(wr:World):Prop:=
 ∃(i:Nat) (s:Es) (v1:Value),i<=n/\v55=.int .i64 (i:Int)/\EbAt wr bk g v1 s/\eputs (t+1) ((L.take n).drop i) s=tg/\s.code.length+42*(n-i)+43<=1048575+1/\Blk wr ob 3 (i64s L).toArray /\
  (∀j,v1.ownBlock=some j->v.ownBlock=some j\/w1.heap.size<=j)/\Mod (fun j=>j=g\/j=bk\/v.ownBlock=some j) w1 wr
theorem qPut(w:World)(bk g:Nat)(v:Value)(s:Es)(t:Nat)(ht:t<15)(A:Option Addr)(c:Nat)(l:List Int)(hin:IntsIn w A 64 c l)(hall:allB 1048576 l=true)(h:EbAt w bk g v s)(hl:s.code.length+2780<=1048575+1):
  Calls Tryz.prog 316 #[.pointer (some ⟨bk,0,none⟩),.pointer (some ⟨g,0,none⟩),.int .i64 (t:Int),.slice A 64 c] w (EbPost w bk g v (eblk t l s)):=by
 have hwi:Within 1048576 l:=allB_within (by omega) hall;have p0:decide ((t:Int)<0)=false:=decide_eq_false (by omega);have p1:decide (15<=(t:Int))=false:=decide_eq_false (by omega);have HIN:=Lib.hid (And.intro hin (And.intro h hwi));clear hin h hwi;go_enter Tryz.func316,Tryz.ntmps316;go_wp2_with fail;refine(quantWithin _ 1048576).mono ?_;rintro e w1 ⟨rfl,hb1,m1⟩;have H1:=Lib.hid m1;go_wp2_with fail;refine(quantAll _ A 64 c w.heap.size l 1048576 (HIN.out.1.quiet m1) (by omega) (by omega) hb1).mono ?_;rintro e w2 ⟨rfl,rfl⟩;rw [hall];clear m1 hb1 hall;go_wp2_with fail;refine(lSort _ A c l (HIN.out.1.quiet H1.out)).mono ?_;rintro e w2 ⟨ob,rfl,hob,hobl,hm2⟩;have HM:=Lib.hid (H1.out.trans hm2);have hL:(sortL l).length=64:=sorTo_length _ _;have hLw:Within 1048576 (sortL l):=sorTo_within HIN.out.2.2 64;have HE:Hid (eblk t l s=eputs (t+1) ((sortL l).take (cntTo (sortL l) 64)) (enum t (cntTo (sortL l) 64) s)):=rfl;generalize sortL l=L at *;have hol:=hob.lt;have HO:=Lib.hid (And.intro hob (And.intro hL hLw));have hoh:w.heap.size<=ob:=by have:=H1.out.size;omega
 clear hob hL hLw hm2 H1 hobl;go_wp2_with fail;go_loop [10] (fun x=>∃n:Nat,n<=64/\x=.int .i64 (n:Int)/\cntTo L n=cntTo L 64) (fun x=>(intOf x).toNat)
 case atStart=>exact⟨64,by omega,rfl,rfl⟩
 case round=>
  obtain⟨n,hn,rfl,hcn⟩:=hrel;have hst:(∃k,n=k+1/\L.getD k 0=0)\/n=cntTo L 64/\(n=0\/∃k x,n=k+1/\L.getD k 0=x/\(x == 0)=false):=by
   rcases Nat.eq_zero_or_pos n with e|e
   ·subst e;exact .inr ⟨hcn,.inl rfl⟩
   ·obtain⟨k,rfl⟩:∃k,n=k+1:=⟨n-1,by omega⟩
    by_cases hz:L.getD k 0=0
    ·exact .inl ⟨k,rfl,hz⟩
    ·rw [cntTo,if_neg hz]at hcn;exact .inr ⟨hcn,.inr ⟨k,_,rfl,rfl,by simpa using hz⟩⟩
  rcases hst with⟨k,rfl,hz⟩|⟨hcn2,hst⟩
  ·have h0:0<k+1:=by omega
   have d1:decide (0<((k+1:Nat):Int))=true:=decide_eq_true (by omega);have hk:=HO.out.1.cell k;rw [List.getElem?_toArray,getD_i64s _ _ (by have:=HO.out.2.1;omega),hz]at hk;have k0:(0:Int)<=(k:Int):=by omega
   have k1:(k:Int)<64:=by omega
   have e1:((k+1:Nat):Int)-1=(k:Int):=by omega
   obtain⟨m,hm⟩:∃m,m=k+1:=⟨_,rfl⟩
   rw [<-hm]at d1 e1 hcn hn h0 ⊢;have hm65:(m:Int)<=64:=by omega
   have HC:=Lib.hid (And.intro hcn (And.intro hm hz));clear hcn hm hz;go_wp2_with fail;go_round
   case rel=>exact⟨k,by omega,rfl,by
    have:=HC.out.1;rw [HC.out.2.1,cntTo,if_pos HC.out.2.2]at this;exact this⟩
   case measure=>simp [intOf];have:=HC.out.2.1;omega
  ·have hn2:(n:Int)<=64:=by omega
   have HC:=Lib.hid hcn2;clear hcn hcn2;rcases hst with hn0|⟨k,x,rfl,hx,hx0⟩
   case' inl=>
    have d1:decide (0<(n:Int))=false:=decide_eq_false (by omega);have h0:¬0<n:=by omega
    have HX:=Lib.hid hn0;clear hn0
   case' inr=>
    have h0:0<k+1:=by omega
    have d1:decide (0<((k+1:Nat):Int))=true:=decide_eq_true (by omega);have hk:=HO.out.1.cell k;rw [List.getElem?_toArray,getD_i64s _ _ (by have:=HO.out.2.1;omega),hx]at hk;have k0:(0:Int)<=(k:Int):=by omega
    have k1:(k:Int)<64:=by omega
    have e1:((k+1:Nat):Int)-1=(k:Int):=by omega
    obtain⟨n,hm⟩:∃n,n=k+1:=⟨_,rfl⟩
    rw [<-hm]at d1 e1 hn h0 hn2 HC ⊢;have HX:=Lib.hid (And.intro hm hx);clear hm hx
   all_goals
    go_wp2_with fail;refine(ebBook _ bk g v s t _ (by omega) (by omega) (HIN.out.2.1.quiet HM.out) (by omega)).mono ?_;rintro e w3 ⟨v3,rfl,hE,hF,hMd⟩;have hfr:=HIN.out.2.1.free hoh;have hob3:=HO.out.1.keep hMd hfr;have hlen3:=enum_len (t:=t) (x:=n) (by omega) s;have HB:=HE.out;rw [<-HC.out]at HB;have HQ:Hid (QpRel w2 bk g ob v L t n (eblk t l s) (.int .i64 0) w3):=⟨0,_,v3,by omega,rfl,hE,by rw [HB];rfl,by omega,hob3,hF,hMd⟩
    clear hE hF hMd hob3 hlen3 HB;go_wp2_with fail;go_loopw [55] (QpRel w2 bk g ob v L t n (eblk t l s)) (fun i _=>n-(intOf i).toNat)
    case atStart=>exact HQ.out
    case round=>
     clear HQ;rename World=>wr
     obtain⟨i,s1,v1,hi,rfl,hE,htg,hlen,hb,hF,hM⟩:=hrel;by_cases hli:i<n
     ·have d2:decide ((i:Int)<(n:Int))=true:=decide_eq_true (by omega);have hc:=hb.cell i;rw [List.getElem?_toArray,getD_i64s _ _ (by have:=HO.out.2.1;omega)]at hc;have hx:=HO.out.2.2 i;rw [eputs_step _ _ _ _ _ hli (by have:=HO.out.2.1;omega)]at htg;generalize L.getD i 0=x at *;have i0:(0:Int)<=(i:Int):=by omega
      have i1:(i:Int)<64:=by omega
      have HK:=Lib.hid (And.intro hE (And.intro htg (And.intro hb (And.intro hF hM))));clear hE htg hb hF hM;go_wp2_with fail;refine(ebSigned _ bk g v1 s1 (t+1) x (by omega) hx HK.out.1 (by omega)).mono ?_;rintro e w4 ⟨v4,rfl,hE4,hF4,hM4⟩;have hln:=esigned_len (t:=t+1) hx s1;have hfr4:¬(ob=g\/ob=bk\/v1.ownBlock=some ob):=by
       rintro(e|e|e)
       ·exact hfr (.inl e)
       ·exact hfr (.inr (.inl e))
       ·rcases HK.out.2.2.2.1 ob e with h|h
        ·exact hfr (.inr (.inr h))
        ·omega
      have HQ:Hid (QpRel w2 bk g ob v L t n (eblk t l s) (.int .i64 ((i+1:Nat):Int)) w4):=by
       refine⟨i+1,_,v4,by omega,rfl,hE4,HK.out.2.1,by omega,HK.out.2.2.1.keep hM4 hfr4,fun j e=>?_,HK.out.2.2.2.2.into hM4 (fun j e=>?_)⟩
       ·rcases hF4 j e with h1|h1
        ·exact HK.out.2.2.2.1 j h1
        ·exact .inr (Nat.le_trans HK.out.2.2.2.2.size h1)
       ·rcases e with e|e|e
        ·exact .inl (.inl e)
        ·exact .inl (.inr (.inl e))
        ·rcases HK.out.2.2.2.1 j e with h1|h1
         ·exact .inl (.inr (.inr h1))
         ·exact .inr h1
      clear hE4 hF4 hM4 hln hfr4 HK hc;go_wp2_with fail;go_roundw
      case rel=>exact HQ.out
      case measure=>simp [intOf];omega
     ·obtain rfl:i=n:=by omega
      have HK:Hid (eblk t l s=s1):=by show _=_;rw [<-htg,List.drop_of_length_le (by rw [List.length_take];omega)];rfl
      have HE1:=Lib.hid (And.intro hE (And.intro hF hM));clear htg hE hF hM hb hlen;go_wp2_with fail;go_ret;rw [HK.out];exact⟨v1,rfl,HE1.out.1,fun j e=>(HE1.out.2.1 j e).imp id (Nat.le_trans HM.out.size),(HM.out.mono (fun _ h=>h.elim)).trans HE1.out.2.2⟩
end Go.Proofs.YtnnpoodcdibpiaaGreatDoor
