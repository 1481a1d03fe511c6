/-
  syntax.Header, syntax.Sequence.
-/
import Derived.Test.YthednemlahioeaaGreatDoorH24
import Derived.Test.YthednemlahioeaaGreatDoorH11
import Derived.Test.YthednemlahioeaaGreatDoorH4
import Derived.Test.YthednemlahioeaaGreatDoorH1
import Derived.Test.YthednemlahioeaaGreatDoorH14
import Derived.Deep.DeepCutAuto
import Derived.BigQuiet
namespace Go.Proofs.YthednemlahioeaaGreatDoor
open Go.RowKit
set_option maxRecDepth 100000
set_option maxHeartbeats 8000000
def hdrFl (K:Bool) (N Q:Nat):List (Nat × Nat):=[(if K then 1 else 0,1),(N,0),(Q,5)]
def hdrB (K:Bool) (N Q:Nat):List UInt8:=packL (fldsB (hdrFl K N Q))
theorem hdrFl_ok (K:Bool) {N Q:Nat} (hN:N ≤ 64) (hQ:Q ≤ 31):∀ p ∈ hdrFl K N Q,FldOk p:=by
 intro p hp
 simp only [hdrFl,List.mem_cons,List.not_mem_nil,or_false] at hp
 rcases hp with rfl | rfl | rfl
 ·cases K <;> exact ⟨by decide,by decide,fun _=>by decide⟩
 ·exact ⟨show N ≤ 60000 by omega,show 0 ≤ 32 by decide,fun h=>absurd (show 0 < 0 from h) (by decide)⟩
 ·exact ⟨show Q ≤ 60000 by omega,show 5 ≤ 32 by decide,fun _=>Nat.div_eq_of_lt (show Q < 2 ^ 5 by omega)⟩
def RowPost (w:World) (l:List UInt8) (e:Ending) (w':World):Prop:=∃ g,e = .returned (.tuple #[.slice (some ⟨g,0,none⟩) l.length l.length,.int .i64 0]) ∧ Blk w' g 5 (u8s l).toArray ∧ w.heap.size ≤ g ∧ Mod (fun _=>False) w w'
theorem synHeader (w:World) (K:Bool) (N Q:Nat) (W H G:Int) (hf:hdrFits K (N:Int) (Q:Int) W H G = true) (hN:N ≤ 64) (hQ:Q ≤ 31) :
  Calls Tryz.prog 149 #[.agg #[.bool K,.int .i64 (N:Int),.int .i64 (Q:Int)],.agg #[.int .i64 W,.int .i64 H,.int .i64 G]] w (RowPost w (hdrB K N Q)):=by
 have HS0:=((Sat.nil (fun _=>False) w).alloc 195 #[.bool K,.int .i64 (N:Int),.int .i64 (Q:Int)] rfl).alloc (g:=w.heap.size + 1) 40 #[.int .i64 W,.int .i64 H,.int .i64 G] (by simp)
 have hw:=fun K' (_:K' = K) (w':World) (fb:Nat) (hb:Blk w' fb 326 (fldC (hdrFl K' N Q)).toArray)=>synWrite w' fb 326 3 (hdrFl K' N Q) rfl (by omega) (hdrFl_ok K' hN hQ) hb
 have H0:=Lib.hid (And.intro HS0 (And.intro (synFits_yes ((w.alloc (.cells #[.bool K,.int .i64 (N:Int),.int .i64 (Q:Int)] 195)).alloc (.cells #[.int .i64 W,.int .i64 H,.int .i64 G] 40)) K N Q W H G hf) hw))
 clear HS0 hw hf
 go_enter Tryz.func149,Tryz.ntmps149
 go_upto_region 1 with (fail)
 go_wp2_with fail
 refine H0.out.2.1.mono ?_
 rintro e w1 ⟨rfl,hm1⟩
 have HS1:=Lib.hid (Sat.after hm1 H0.out.1)
 obtain ⟨hc,hfz⟩:=(HS1.out.own_ 1 rfl).both
 dsimp only at hc
 clear hm1
 cases K
 ·go_upto_region 7 with (fail)
  have hfb:Blk (w1.alloc (.cells (fldC (hdrFl false N Q)).toArray 326)) w1.heap.size 326 (fldC (hdrFl false N Q)).toArray:=Blk.new _ _ _
  have hma:Mod (fun _=>False) w1 (w1.alloc (.cells (fldC (hdrFl false N Q)).toArray 326)):=(Mod.refl _ w1).alloc _
  have HW:=Lib.hid (And.intro (H0.out.2.2 false rfl _ _ hfb) (HS1.out.mod.trans hma))
  clear hfb hma hc hfz
  go_wp2_with fail
  refine HW.out.1.mono ?_
  rintro e w2 ⟨n,hn,g,rfl,hb,hg,hm⟩
  obtain rfl:n = (hdrB false N Q).length:=hn
  have HF:=Lib.hid (And.intro hb (And.intro (Nat.le_trans HW.out.2.size hg) (HW.out.2.trans hm)))
  clear hb hg hm
  go_wp2_with fail
  go_ret2
  exact ⟨g,rfl,HF.out.1,HF.out.2.1,HF.out.2.2⟩
 ·go_upto_region 7 with (fail)
  have hfb:Blk (w1.alloc (.cells (fldC (hdrFl true N Q)).toArray 326)) w1.heap.size 326 (fldC (hdrFl true N Q)).toArray:=Blk.new _ _ _
  have hma:Mod (fun _=>False) w1 (w1.alloc (.cells (fldC (hdrFl true N Q)).toArray 326)):=(Mod.refl _ w1).alloc _
  have HW:=Lib.hid (And.intro (H0.out.2.2 true rfl _ _ hfb) (HS1.out.mod.trans hma))
  clear hfb hma hc hfz
  go_wp2_with fail
  refine HW.out.1.mono ?_
  rintro e w2 ⟨n,hn,g,rfl,hb,hg,hm⟩
  obtain rfl:n = (hdrB true N Q).length:=hn
  have HF:=Lib.hid (And.intro hb (And.intro (Nat.le_trans HW.out.2.size hg) (HW.out.2.trans hm)))
  clear hb hg hm
  go_wp2_with fail
  go_ret2
  exact ⟨g,rfl,HF.out.1,HF.out.2.1,HF.out.2.2⟩
def newQ (q tg G n:Nat):Nat:=if 0 < tg then (if 5 * (tg / G) < 4 * n then min (q + 1) 31 else if 4 * n < 3 * (tg / G) then q - 1 else q) else q
def newN (nu G:Nat):Nat:=if nu + 1 < G then nu + 1 else 0
def GoCut (w:World) (g:Nat) (cs:Array Value) (wr:World):Prop:=Blk wr g 250 cs ∧ Mod (· = g) w wr
theorem encGoOn (w:World) (g:Nat) (W H:Int) (G q tg nu n:Nat) (fr:List Value) (hG:1 ≤ G ∧ G ≤ 64) (hq:q ≤ 31) (ht:tg ≤ 1048576) (hn:n ≤ 2097152) (hnu:nu ≤ 64) (h:Blk w g 250 (encV W H (G:Int) (q:Int) (tg:Int) (nu:Int) fr)) :
  Calls Tryz.prog 156 #[.pointer (some ⟨g,0,none⟩),.int .i64 (n:Int)] w fun e w'=>e = .returned (.tuple #[]) ∧ Blk w' g 250 (encV W H (G:Int) ((newQ q tg G n:Nat):Int) (tg:Int) ((newN nu G:Nat):Int) fr) ∧ Mod (· = g) w w':=by
 obtain ⟨hG1,hG2⟩:=hG
 obtain ⟨Q2,hQ2⟩:∃ Q2,Q2 = newQ q tg G n:=⟨_,rfl⟩
 obtain ⟨sh,hsh⟩:∃ sh,sh = tg / G:=⟨_,rfl⟩
 have hshl:sh ≤ 1048576:=by rw [hsh];exact Nat.le_trans (Nat.div_le_self _ _) ht
 have t1:(tg:Int).tdiv (G:Int) = (sh:Int):=by rw [Int.tdiv_eq_ediv_of_nonneg (by omega),hsh];exact (Int.natCast_ediv tg G).symm
 have HQ:Hid (Q2 = if 0 < tg then (if 5 * sh < 4 * n then min (q + 1) 31 else if 4 * n < 3 * sh then q - 1 else q) else q):=by show _ = _;rw [hQ2,hsh];rfl
 rw [← hQ2]
 have hG0:((G:Int) == 0) = false:=by simp;omega
 obtain ⟨bc,bf⟩:=h.both
 have bl:=h.lt
 have hc2:w.cell? ⟨g,2,none⟩ = some (.int .i64 (G:Int)):=bc 2
 have hc3:w.cell? ⟨g,3,none⟩ = some (.int .i64 (q:Int)):=bc 3
 have hc4:w.cell? ⟨g,4,none⟩ = some (.int .i64 (tg:Int)):=bc 4
 have H0:=Lib.hid h
 clear h hQ2 hsh bc
 go_enter Tryz.func156,Tryz.ntmps156
 go_upto_if 9 with (fail)
 go_cut [] (fun wx=>GoCut w g (encV W H (G:Int) (Q2:Int) (tg:Int) (nu:Int) fr) wx)
 case first=>
  by_cases h0:0 < tg
  ·have d0:decide (0 < (tg:Int)) = true:=decide_eq_true (by omega)
   have HQ1:=Lib.hid (HQ.out.trans (if_pos h0))
   go_upto_region 1 with (fail)
   go_quiet (fail)
   have hc3':(w.drewN nq).cell? ⟨g,3,none⟩ = some (.int .i64 (q:Int)):=hc3
   have bf':∀ i,(w.drewN nq).frozen? ⟨g,i,none⟩ = false:=bf
   have bl':g < (w.drewN nq).heap.size:=bl
   have H1:=Lib.hid (And.intro (H0.out.drewN nq) ((Mod.refl (fun j=>j = g) w).drewN nq))
   clear hc2 hc3 hc4 bf bl
   generalize w.drewN nq = w1 at *
   by_cases h1:5 * sh < 4 * n
   ·have d1:decide (5 * (sh:Int) < 4 * (n:Int)) = true:=decide_eq_true (by omega)
    have HQ2:=Lib.hid (HQ1.out.trans (if_pos h1))
    go_wp2_with fail
    all_goals
     go_meet
     refine ⟨H1.out.1.put (i:=3) ?_,H1.out.2.setCell (p:=⟨g,3,none⟩) (.inl rfl) _⟩
     refine Eq.trans (b:=(encV W H (G:Int) (q:Int) (tg:Int) (nu:Int) fr).setIfInBounds 3 (.int .i64 (Q2:Int))) (congrArg _ (congrArg (Value.int .i64) ?_)) rfl
     rw [HQ2.out]
     first | omega | (split <;> omega)
   ·have d1:decide (5 * (sh:Int) < 4 * (n:Int)) = false:=decide_eq_false (by omega)
    have HQ2:=Lib.hid (HQ1.out.trans (if_neg h1))
    by_cases h2:4 * n < 3 * sh
    ·have d2:decide (4 * (n:Int) < 3 * (sh:Int)) = true:=decide_eq_true (by omega)
     have HQ3:=Lib.hid (HQ2.out.trans (if_pos h2))
     go_wp2_with fail
     all_goals
      go_meet
      refine ⟨H1.out.1.put (i:=3) ?_,H1.out.2.setCell (p:=⟨g,3,none⟩) (.inl rfl) _⟩
      refine Eq.trans (b:=(encV W H (G:Int) (q:Int) (tg:Int) (nu:Int) fr).setIfInBounds 3 (.int .i64 (Q2:Int))) (congrArg _ (congrArg (Value.int .i64) ?_)) rfl
      rw [HQ3.out]
      first | omega | (split <;> omega)
    ·have d2:decide (4 * (n:Int) < 3 * (sh:Int)) = false:=decide_eq_false (by omega)
     have HQ3:=Lib.hid (HQ2.out.trans (if_neg h2))
     go_wp2_with fail
     go_meet
     exact ⟨by rw [HQ3.out];exact H1.out.1,H1.out.2⟩
  ·have d0:decide (0 < (tg:Int)) = false:=decide_eq_false (by omega)
   have HQ1:=Lib.hid (HQ.out.trans (if_neg h0))
   go_wp2_with fail
   go_meet
   exact ⟨by rw [HQ1.out];exact H0.out,Mod.refl _ _⟩
 case rest=>
  clear hc2 hc3 hc4 bf bl t1
  obtain ⟨hb,hm⟩:=hcut
  rename World=>w2
  obtain ⟨bc,bf⟩:=hb.both
  have bl:=hb.lt
  have hc5:w2.cell? ⟨g,5,none⟩ = some (.int .i64 (nu:Int)):=bc 5
  have wn:IntKind.i64.wrap ((nu:Int) + 1) = (nu:Int) + 1:=IntWalk.i64_in _ ⟨by omega,by omega⟩
  have H2:=Lib.hid (And.intro hb hm)
  clear hb hm bc
  go_upto_region 7 with (fail)
  have hb3:=H2.out.1.put (i:=5) (u:=.int .i64 ((nu:Int) + 1)) (cs':=encV W H (G:Int) (Q2:Int) (tg:Int) ((nu:Int) + 1) fr) rfl
  have hm3:=H2.out.2.setCell (p:=⟨g,5,none⟩) (.inl rfl) (.int .i64 ((nu:Int) + 1))
  generalize w2.setCell ⟨g,5,none⟩ (.int .i64 ((nu:Int) + 1)) = w3 at *
  obtain ⟨bc3,bf3⟩:=hb3.both
  have bl3:=hb3.lt
  have hd2:w3.cell? ⟨g,2,none⟩ = some (.int .i64 (G:Int)):=bc3 2
  have hd5:w3.cell? ⟨g,5,none⟩ = some (.int .i64 ((nu:Int) + 1)):=bc3 5
  have H3:=Lib.hid (And.intro hb3 hm3)
  clear hb3 hm3 bc3 hc5 bf bl
  go_quiet (fail)
  have bf4:∀ i,(w3.drewN nq).frozen? ⟨g,i,none⟩ = false:=bf3
  have bl4:g < (w3.drewN nq).heap.size:=bl3
  have he5:(w3.drewN nq).cell? ⟨g,5,none⟩ = some (.int .i64 ((nu:Int) + 1)):=hd5
  have H4:=Lib.hid (And.intro (H3.out.1.drewN nq) (H3.out.2.drewN nq))
  clear hd2 hd5 bf3 bl3
  generalize w3.drewN nq = w4 at *
  by_cases h1:nu + 1 < G
  ·have d1:decide ((G:Int) ≤ (nu:Int) + 1) = false:=decide_eq_false (by omega)
   have d2:¬ G ≤ nu + 1:=by omega
   go_wp2_with fail
   go_end0
   refine ⟨rfl,?_,H4.out.2⟩
   unfold newN
   rw [if_pos h1]
   exact H4.out.1
  ·have d1:decide ((G:Int) ≤ (nu:Int) + 1) = true:=decide_eq_true (by omega)
   have d2:G ≤ nu + 1:=by omega
   go_wp2_with fail
   go_end0
   refine ⟨rfl,?_,H4.out.2.setCell (p:=⟨g,5,none⟩) (.inl rfl) _⟩
   unfold newN
   rw [if_neg h1]
   exact H4.out.1.put (i:=5) (u:=.int .i64 0) rfl
def encArgs (q tg:Int):Bool:=decide ((0 ≤ q ∧ q ≤ 31) ∧ 0 ≤ tg ∧ tg ≤ 1048576)
def zeroFr:List Value:=[.int .i64 0,.int .i64 0,.slice none 0 0,.int .i64 0,.int .i64 0,.slice none 0 0,.int .i64 0,.int .i64 0,.slice none 0 0]
def EncNewPost (w:World) (W H G q tg:Int) (e:Ending) (w':World):Prop:=
 Mod (fun _=>False) w w' ∧ ((seqRight W H G = false ∧ e = .returned (.tuple #[.pointer none,.int .i64 121])) ∨ (seqRight W H G = true ∧ encArgs q tg = false ∧ e = .returned (.tuple #[.pointer none,.int .i64 1])) ∨
  ∃ g,seqRight W H G = true ∧ encArgs q tg = true ∧ e = .returned (.tuple #[.pointer (some ⟨g,0,none⟩),.int .i64 0]) ∧ Blk w' g 250 (encV W H G q tg 0 zeroFr) ∧ w.heap.size ≤ g)
theorem encNew (w:World) (W H G q tg:Int):Calls Tryz.prog 95 #[.agg #[.int .i64 W,.int .i64 H,.int .i64 G],.int .i64 q,.int .i64 tg] w (EncNewPost w W H G q tg):=by
 have hM:Mod (fun _=>False) w (w.alloc (.cells #[.int .i64 W,.int .i64 H,.int .i64 G] 40)):=(Mod.refl _ _).alloc _
 have hb:=Blk.new w 40 #[.int .i64 W,.int .i64 H,.int .i64 G]
 have H0:=Lib.hid (And.intro hM hb)
 clear hM hb
 cases hr:seqRight W H G with
 | false=>
  have HR:=Lib.hid hr
  clear hr
  go_enter Tryz.func95,Tryz.ntmps95
  go_wp2_with fail
  refine (synRight_no _ W H G HR.out).mono ?_
  rintro e w1 ⟨rfl,hm⟩
  have H1:=Lib.hid (H0.out.1.trans hm)
  clear hm
  go_wp2_with fail
  go_ret2
  exact ⟨H1.out,.inl ⟨HR.out,rfl⟩⟩
 | true=>
  have HR:=Lib.hid hr
  clear hr
  by_cases ha:encArgs q tg = true
  ·have ha2:=of_decide_eq_true ha
   have d1:decide (q < 0) = false:=decide_eq_false (by omega)
   have d2:decide (31 < q) = false:=decide_eq_false (by omega)
   have d3:decide (tg < 0) = false:=decide_eq_false (by omega)
   have d4:decide (1048576 < tg) = false:=decide_eq_false (by omega)
   have HA:=Lib.hid ha
   clear ha ha2
   go_enter Tryz.func95,Tryz.ntmps95
   go_wp2_with fail
   refine (synRight_yes _ W H G HR.out).mono ?_
   rintro e w1 ⟨rfl,hm⟩
   have hb1:=H0.out.2.keep hm (fun h=>h)
   obtain ⟨bc,bf⟩:=hb1.both
   have H1:=Lib.hid (H0.out.1.trans hm)
   clear hm hb1
   go_wp2_with fail
   go_ret2
   exact ⟨H1.out.alloc _,.inr (.inr ⟨_,HR.out,HA.out,rfl,Blk.new _ _ _,H1.out.size⟩)⟩
  ·have ha2:¬ ((0 ≤ q ∧ q ≤ 31) ∧ 0 ≤ tg ∧ tg ≤ 1048576):=fun h=>ha (decide_eq_true h)
   have hcase:q < 0 ∨ (0 ≤ q ∧ 31 < q) ∨ (0 ≤ q ∧ q ≤ 31 ∧ tg < 0) ∨ (0 ≤ q ∧ q ≤ 31 ∧ 0 ≤ tg ∧ 1048576 < tg):=by omega
   have HA:=Lib.hid (show encArgs q tg = false by simpa using ha)
   clear ha ha2
   rcases hcase with h | ⟨h,h2⟩ | ⟨h,h2,h3⟩ | ⟨h,h2,h3,h4⟩
   all_goals
    have d1:decide (q < 0) = decide (q < 0):=rfl
    go_enter Tryz.func95,Tryz.ntmps95
    go_wp2_with fail
    refine (synRight_yes _ W H G HR.out).mono ?_
    rintro e w1 ⟨rfl,hm⟩
    have H1:=Lib.hid (H0.out.1.trans hm)
    clear hm
    go_wp2_with fail
    go_ret2
    exact ⟨H1.out,.inr (.inl ⟨HR.out,HA.out,rfl⟩)⟩
theorem ePlanes (w:World) (a0 a1 a3 a4 a6 a7:Int) (A B C:Option Addr) (n0 c0 n1 c1 n2 c2:Nat) :
  Calls Tryz.prog 150 #[.agg #[.int .i64 a0,.int .i64 a1,.slice A n0 c0,.int .i64 a3,.int .i64 a4,.slice B n1 c1,.int .i64 a6,.int .i64 a7,.slice C n2 c2]] w fun e w'=>
   e = .returned (.agg #[.int .i64 a0,.int .i64 a1,.slice A n0 c0,.int .i64 a3,.int .i64 a4,.slice B n1 c1,.int .i64 a6,.int .i64 a7,.slice C n2 c2]) ∧ Mod (fun _=>False) w w':=by
 go_enter Tryz.func150,Tryz.ntmps150
 go_wp2_with fail
 first
 | exact bodyPost_ret (v:=.agg #[.int .i64 a0,.int .i64 a1,.slice A n0 c0,.int .i64 a3,.int .i64 a4,.slice B n1 c1,.int .i64 a6,.int .i64 a7,.slice C n2 c2]) (by simp [results,Tryz.results150,go_sem]) rfl ⟨rfl,((Mod.refl _ _).alloc _).alloc _⟩
 | (go_ret;exact ⟨rfl,(Mod.refl _ _).alloc _⟩)
 | (go_ret;exact ⟨rfl,Mod.refl _ _⟩)
theorem eBytes (w:World) (g:Nat) (v:Value) (code:List UInt8) (wide:Nat) (h:EAt w g v code wide) (hl:code.length ≤ 1048576) :
  Calls Tryz.prog 155 #[.pointer (some ⟨g,0,none⟩)] w fun e w'=>∃ A n,e = .returned (.slice A n n) ∧ BytesIn w' A n n code ∧ Mod (fun _=>False) w w':=by
 obtain ⟨r,k,rfl,hrg⟩:=h.shape
 obtain ⟨bc,bf⟩:=h.blk.both
 obtain ⟨n,hn⟩:∃ n,n = code.length:=⟨_,rfl⟩
 have hin:=h.own.in_
 have hEB:=eBegin w g _ code wide h
 rw [← hn] at hin bc hl
 have H:=Lib.hid (And.intro hin (And.intro hEB hn))
 clear hin hEB hn h
 go_enter Tryz.func155,Tryz.ntmps155
 go_wp2_with fail
 refine H.out.2.1.mono ?_
 rintro e w1 ⟨rfl,rfl⟩
 go_wp2_with (at_builtin;have _t:=H;refine wpList_app_u8s _ rfl _ (.tmp 11) rfl w.heap.size (.slice none 0 0) [] _ n k code rfl rfl (Bytes.nil _ _) H.out.1 (Nat.le_refl _) (by simp;omega) ?_;intro v1 w1 hown1 hMa hMb hF;obtain ⟨A1,c1,hv1⟩:=own_shape hown1;obtain ⟨m1,hm1⟩:∃ m1,m1 = ([] ++ code).length:=⟨_,rfl⟩;rw [← hm1] at hv1;subst hv1;have hcap:=hown1.cap;have HO:=Lib.hid (And.intro hown1 (And.intro (hMb w (fun _=>False) (Nat.le_refl _) (Mod.refl _ _)) hm1));clear hown1 hMa hMb hF hm1)
 go_ret
 have hi:=HO.out.1.in_
 exact ⟨A1,m1,rfl,⟨hi.1,fun e=>by have:=hi.2.1 e;omega,hi.2.2⟩,HO.out.2.1⟩
end Go.Proofs.YthednemlahioeaaGreatDoor

