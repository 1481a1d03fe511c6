/-
  The reference's search of a vector, of 16 times 16.
-/
import Derived.Test.YtmkopcojnibhlaaGreatDoorP25
import Derived.Test.YtmkopcojnibhlaaGreatDoorP26
import Derived.Test.YtmkopcojnibhlaaGreatDoorP10
namespace Go.Proofs.YtmkopcojnibhlaaGreatDoor
open Go.RowKit
set_option maxRecDepth 100000
set_option maxHeartbeats 8000000
def GseL (p r bb:Nat) (pv:Array Value) (f:Found):List Ent:=
 [⟨bb,156,#[.int .i64 f.vx,.int .i64 f.vy]⟩,⟨r,156,#[.int .i64 0,.int .i64 0]⟩,⟨p,38,pv⟩]
def GseRel (w:World) (p r bb:Nat) (pv:Array Value) (F:Nat → Found) (v17 v18:Value) (wr:World):Prop:=
 ∃ (j:Nat) (e:Int),j ≤ 9 ∧ e = (j:Int) - 4 ∧ v18 = .int .i64 e ∧ v17 = .int .i64 ((F (9 * j)).far:Int) ∧ Sat (fun _=>False) w wr (GseL p r bb pv (F (9 * j))) []
def GseRel2 (w:World) (p r bb j:Nat) (pv:Array Value) (F:Nat → Found) (v17 v19:Value) (wr:World):Prop:=
 ∃ (i:Nat) (a:Int),i ≤ 9 ∧ a = (i:Int) - 4 ∧ v19 = .int .i64 a ∧ v17 = .int .i64 ((F (9 * j + i)).far:Int) ∧ Sat (fun _=>False) w wr (GseL p r bb pv (F (9 * j + i))) []
def iof:Value → Nat
 | .int _ n=>(5 - n).toNat
 | _=>0
theorem reSearch (w:World) (W H:Nat) (A:Option Addr) (n c:Nat) (pix:List UInt8) (h:sidesB W H = true) (hn:n = W * H) (hin:BytesIn w A n c pix) (x y:Nat) (hx:x + 16 ≤ W) (hy:y + 16 ≤ H)
  (A2:Option Addr) (c2:Nat) (b:List UInt8) (hb:BytesIn w A2 256 c2 b) :
  Calls Tryz.prog 156 #[.agg #[.int .i64 (W:Int),.int .i64 (H:Int),.slice A n c],.int .i64 (x:Int),.int .i64 (y:Int),.int .i64 16,.slice A2 256 c2,.int .i64 4] w
   fun e w'=>∃ v,e = .returned (.tuple #[.agg #[.int .i64 (searchS W H pix x y b).vx,.int .i64 (searchS W H pix x y b).vy],v,.int .i64 ((searchS W H pix x y b).far:Int)]) ∧ Mod (fun _=>False) w w':=by
 obtain ⟨_,_,hW,_,hH,_⟩:=area_le h
 have HI:=Lib.hid (And.intro h (And.intro hn (And.intro hin hb)))
 have h0:=((Sat.nil (fun _=>False) w).alloc 38 #[.int .i64 (W:Int),.int .i64 (H:Int),.slice A n c] rfl).alloc (g:=w.heap.size + 1) 156 #[.int .i64 0,.int .i64 0] (by simp)
 have HS:=Lib.hid h0
 clear h hn hin hb h0
 go_enter Tryz.func156,Tryz.ntmps156
 go_upto_region 1 with (fail)
 generalize (w.alloc (.cells #[.int .i64 (W:Int),.int .i64 (H:Int),.slice A n c] 38)).alloc (.cells #[.int .i64 0,.int .i64 0] 156) = w1 at *
 obtain ⟨pc,pf⟩:=(HS.out.own_ 1 rfl).both
 dsimp only at pc
 have B0:=Lib.hid (reMvBlock w1 W H A n c pix HI.out.1 HI.out.2.1 (HI.out.2.2.1.quiet HS.out.mod) x y 0 0 (by omega) (by omega) ⟨by omega,by omega⟩ ⟨by omega,by omega⟩)
 go_wp2_with fail
 refine B0.out.mono ?_
 rintro e w2 ⟨v2,rfl,hbg,hm2⟩
 obtain ⟨A5,c5,hv5⟩:=own_shape hbg
 subst hv5
 have hl2:(mvL W H pix (x:Int) (y:Int) 16 0 0).length = 256:=mvL_length _ _ _ _ _ _ _ _
 rw [hl2] at hbg ⊢
 have HS2:=Lib.hid ((Sat.after hm2 HS.out).alloc 156 #[.int .i64 0,.int .i64 0] rfl)
 have HB2:=Lib.hid (And.intro hbg.in_ hm2)
 clear hm2 hbg HS pc pf B0 hl2
 go_upto_region 5 with (fail)
 obtain ⟨bb,hbb⟩:∃ bb,bb = w2.heap.size:=⟨_,rfl⟩
 have HMa:=Lib.hid ((Mod.refl (fun _=>False) w2).alloc (.cells #[.int .i64 0,.int .i64 0] 156))
 rw [← hbb] at HS2 ⊢
 clear hbb
 generalize w2.alloc (.cells #[.int .i64 0,.int .i64 0] 156) = w3 at *
 have F0:=Lib.hid (reFar w3 A5 256 c5 _ A2 c2 b (HB2.out.1.quiet HMa.out) (HI.out.2.2.2.quiet HS2.out.mod) (by omega) (by omega))
 go_wp2_with fail
 refine F0.out.mono ?_
 rintro e w4 ⟨rfl,m4,rfl⟩
 obtain ⟨F,hF⟩:∃ F,F = seTo W H pix x y b:=⟨_,rfl⟩
 have hs4:Sat (fun _=>False) w (w3.drewN m4) (GseL w.heap.size (w.heap.size + 1) bb #[.int .i64 (W:Int),.int .i64 (H:Int),.slice A n c] (F 0)) []:=by rw [hF];exact HS2.out.drewN m4
 have e4:farTo (mvL W H pix (x:Int) (y:Int) 16 0 0) b 256 = (F 0).far:=by rw [hF];rfl
 rw [e4]
 have HF:Hid (F = seTo W H pix x y b ∧ searchS W H pix x y b = F 81 ∧ (∀ k,k ≤ 81 → (-4 ≤ (F k).vx ∧ (F k).vx ≤ 4) ∧ (-4 ≤ (F k).vy ∧ (F k).vy ≤ 4) ∧ (F k).far ≤ 65280)):=by rw [hF];exact ⟨rfl,rfl,seTo_bd W H pix x y b⟩
 have HS3:=Lib.hid hs4
 clear hF hs4 e4 HS2 HB2 HMa F0
 go_wp2_with fail
 go_loopw [17,18] (GseRel w w.heap.size (w.heap.size + 1) bb #[.int .i64 (W:Int),.int .i64 (H:Int),.slice A n c] F) (fun _ s _=>iof s)
 case atStart=>exact ⟨0,-4,by omega,by omega,rfl,rfl,HS3.out⟩
 case round=>
  clear HS3
  obtain ⟨j,e,hj,hje,rfl,rfl,hs⟩:=hrel
  rename World=>w4
  by_cases hlt:j < 9
  ·have d1:decide (e ≤ 4) = true:=decide_eq_true (by omega)
   have he1:-4 ≤ e:=by omega
   have he2:e ≤ 4:=by omega
   have HJ:=Lib.hid hs
   have HJE:=Lib.hid hje
   clear hs hje
   go_wp2_with fail
   go_loopw [17,19] (GseRel2 w w.heap.size (w.heap.size + 1) bb j #[.int .i64 (W:Int),.int .i64 (H:Int),.slice A n c] F) (fun _ s _=>iof s)
   case atStart=>exact ⟨0,-4,by omega,by omega,rfl,rfl,HJ.out⟩
   case round=>
    clear HJ
    obtain ⟨i,a,hi,hia,rfl,rfl,hs⟩:=hrel
    rename World=>w5
    by_cases hli:i < 9
    ·have d2:decide (a ≤ 4) = true:=decide_eq_true (by omega)
     have ha1:-4 ≤ a:=by omega
     have ha2:a ≤ 4:=by omega
     obtain ⟨fb,hfb⟩:∃ fb,fb = F (9 * j + i):=⟨_,rfl⟩
     rw [← hfb] at hs ⊢
     have hbd:=HF.out.2.2 (9 * j + i) (by omega)
     rw [← hfb] at hbd
     obtain ⟨⟨bd1,bd2⟩,⟨bd3,bd4⟩,bd5⟩:=hbd
     have HZ:Hid (F (9 * j + (i + 1)) = rsStep W H pix x y b a e fb):=by
      show _ = _
      have e1:(((9 * j + i) % 9:Nat):Int) - 4 = a:=by omega
      have e2:(((9 * j + i) / 9:Nat):Int) - 4 = e:=by have:=HJE.out;omega
      rw [show 9 * j + (i + 1) = 9 * j + i + 1 by omega,HF.out.1,seTo_next,← HF.out.1,← hfb,e1,e2]
     have HFB:=Lib.hid (And.intro hfb hia)
     clear hfb hia
     have h5:=hs.alloc (g:=w5.heap.size) 156 #[.int .i64 a,.int .i64 e] rfl
     have HK:=Lib.hid h5
     clear h5 hs
     go_upto_region 13 with (fail)
     generalize w5.alloc (.cells #[.int .i64 a,.int .i64 e] 156) = w6 at *
     obtain ⟨vb,hvb⟩:∃ vb,vb = w5.heap.size:=⟨_,rfl⟩
     rw [← hvb] at HK ⊢
     clear hvb
     obtain ⟨vc,vf⟩:=(HK.out.own_ 0 rfl).both
     obtain ⟨pc,pf⟩:=(HK.out.own_ 3 rfl).both
     dsimp only at vc pc
     have B1:=Lib.hid (reMvBlock w6 W H A n c pix HI.out.1 HI.out.2.1 (HI.out.2.2.1.quiet HK.out.mod) x y a e (by omega) (by omega) ⟨by omega,by omega⟩ ⟨by omega,by omega⟩)
     go_wp2_with fail
     refine B1.out.mono ?_
     rintro e7 w7 ⟨v7,rfl,hbg,hm7⟩
     obtain ⟨A7,c7,hv7⟩:=own_shape hbg
     subst hv7
     have hl7:(mvL W H pix (x:Int) (y:Int) 16 a e).length = 256:=mvL_length _ _ _ _ _ _ _ _
     rw [hl7] at hbg ⊢
     have HS7:=Lib.hid (Sat.after hm7 HK.out)
     have F1:=reFar w7 A7 256 c7 _ A2 c2 b hbg.in_ (HI.out.2.2.2.quiet HS7.out.mod) (by omega) (by omega)
     have HD:farTo (mvL W H pix (x:Int) (y:Int) 16 a e) b 256 = mvFar W H pix x y b a e:=rfl
     rw [HD] at F1
     have HF1:=Lib.hid F1
     clear hm7 hbg HK pc pf vc vf B1 hl7 F1 HD
     go_wp2_with fail
     refine HF1.out.mono ?_
     rintro e8 w8 ⟨rfl,m8,rfl⟩
     have HS8:=Lib.hid (HS7.out.drewN m8)
     clear HS7 HF1
     have hdl:=mvFar_le W H pix x y b a e
     have HZ2:Hid (F (9 * j + (i + 1)) = if mvFar W H pix x y b a e < fb.far ∨ mvFar W H pix x y b a e = fb.far ∧ aheadB a e fb.vx fb.vy = true then ⟨a,e,mvFar W H pix x y b a e⟩ else fb):=HZ.out
     clear HZ
     generalize mvFar W H pix x y b a e = D at *
     generalize w7.drewN m8 = w8 at *
     have hst:D < fb.far ∨ fb.far < D ∨ D = fb.far:=by omega
     rcases hst with hlt2 | hlt2 | heq
     ·have HZ3:=Lib.hid (HZ2.out.trans (if_pos (.inl hlt2)))
      have d3:decide ((D:Int) < (fb.far:Int)) = true:=decide_eq_true (by omega)
      clear HZ2
      go_upto_region 14 with (fail)
      go_quiet (fail)
      have HS9:=Lib.hid (HS8.out.drewN nq)
      clear HS8
      generalize w8.drewN nq = w9 at *
      obtain ⟨vc,vf⟩:=(HS9.out.own_ 0 rfl).both
      obtain ⟨bc,bf⟩:=(HS9.out.own_ 1 rfl).both
      have bl:=(HS9.out.own_ 1 rfl).lt
      dsimp only at vc bc bf bl
      go_wp2_with fail
      go_roundw
      case rel=>exact ⟨i + 1,a + 1,by omega,by have:=HFB.out.2;omega,by go_num,by rw [HZ3.out],by rw [HZ3.out];exact ((HS9.out.put (.there (.here rfl))).put (.there (.here rfl))).drop_own⟩
      case measure=>simp [iof];omega
     ·have HZ3:=Lib.hid (HZ2.out.trans (if_neg (by omega)))
      have d3:decide ((D:Int) < (fb.far:Int)) = false:=decide_eq_false (by omega)
      have d4:((D:Int) == (fb.far:Int)) = false:=by simp;omega
      have d5:¬ D < fb.far:=by omega
      have d6:¬ D = fb.far:=by omega
      clear HZ2
      go_upto_region 14 with (fail)
      go_quiet (fail)
      have HS9:=Lib.hid (HS8.out.drewN nq)
      clear HS8
      generalize w8.drewN nq = w9 at *
      go_wp2_with fail
      go_roundw
      case rel=>
       exact ⟨i + 1,a + 1,by omega,by have:=HFB.out.2;omega,by go_num,by rw [HZ3.out],by rw [HZ3.out];exact HS9.out.drop_own⟩
      case measure=>simp [iof];omega
     ·subst heq
      have d5:¬ fb.far < fb.far:=by omega
      have d3:decide ((fb.far:Int) < (fb.far:Int)) = false:=decide_eq_false (by omega)
      have d4:((fb.far:Int) == (fb.far:Int)) = true:=by simp
      obtain ⟨sa,hsa⟩:∃ sa,sa = a.natAbs + e.natAbs:=⟨_,rfl⟩
      obtain ⟨sf,hsf⟩:∃ sf,sf = fb.vx.natAbs + fb.vy.natAbs:=⟨_,rfl⟩
      have S1:∀ w,Calls Tryz.prog 219 #[.agg #[.int .i64 a,.int .i64 e]] w fun e w'=>e = .returned (.int .i64 (sa:Int)) ∧ Mod (fun _=>False) w w':=fun w=>by rw [hsa];exact reSize w a e ⟨by omega,by omega⟩ ⟨by omega,by omega⟩
      have S2:∀ w,Calls Tryz.prog 219 #[.agg #[.int .i64 fb.vx,.int .i64 fb.vy]] w fun e w'=>e = .returned (.int .i64 (sf:Int)) ∧ Mod (fun _=>False) w w':=fun w=>by rw [hsf];exact reSize w fb.vx fb.vy ⟨by omega,by omega⟩ ⟨by omega,by omega⟩
      have hah:aheadB a e fb.vx fb.vy = if sa ≠ sf then decide (sa < sf) else if e ≠ fb.vy then decide (e < fb.vy) else decide (a < fb.vx):=by rw [hsa,hsf];rfl
      have HSZ:=Lib.hid (And.intro S1 S2)
      have HAH:=Lib.hid hah
      have sa8:sa ≤ 8:=by omega
      have sf8:sf ≤ 8:=by omega
      clear hsa hsf S1 S2 hah
      have h3:sa < sf ∨ sf < sa ∨ sa = sf:=by omega
      rcases h3 with h3 | h3 | h3
      ·have HZ3:=Lib.hid (HZ2.out.trans (if_pos (.inr ⟨rfl,HAH.out.trans ((if_pos (by omega)).trans (decide_eq_true h3))⟩)))
       have g1:decide ((sa:Int) < (sf:Int)) = true:=decide_eq_true (by omega)
       clear HZ2
       go_upto_region 14 with (fail)
       refine wp_region_planS [9,11,15,17] [10,16] (0 :: 1 :: 2 :: 3 :: 4 :: 5 :: 6 :: 7 :: 8 :: 10 :: 9 :: 11 :: 12 :: 13 :: 14 :: 16 :: 15 :: 17 :: 18 :: 19 :: 20 :: 21 :: 22 :: 23 :: 24 :: 25 :: 26 :: 27 :: 28 :: 29 :: 30 :: 31 :: 32 :: 33 :: 34 :: 35 :: 36 :: 37 :: 38 :: 39 :: 40 :: 41 :: 42 :: []) (fun w'=>Blk w' vb 156 #[.int .i64 a,.int .i64 e] ∧ Blk w' bb 156 #[.int .i64 fb.vx,.int .i64 fb.vy]) (by kernel_rfl) (by kernel_rfl) (fun _ _ _ d _ h=>by cases d <;> exact h) ⟨HS8.out.drew.own_ 0 rfl,HS8.out.drew.own_ 1 rfl⟩ ?_
       have HSd:=Lib.hid HS8.out.drew
       clear HS8
       obtain ⟨vc,vf⟩:=(HSd.out.own_ 0 rfl).both
       obtain ⟨bc,bf⟩:=(HSd.out.own_ 1 rfl).both
       dsimp only at vc bc
       iterate 9 (refine planS_still rfl rfl (fun K hK=>?_);go_simp;refine hK _ ?_;clear hK K)
       refine planS_pure (v:=.agg #[.int .i64 fb.vx,.int .i64 fb.vy]) rfl rfl rfl (fun w' hS=>?_) ?_
       ·have cS:=hS.2.cell
        go_simp
       refine planS_loud rfl rfl (fun K hK=>?_)
       go_simp
       refine (HSZ.out.1 _).mono ?_
       rintro e9 w9 ⟨rfl,hm9⟩
       dsimp only []
       have HSa:=Lib.hid (Sat.after hm9 HSd.out)
       refine hK _ _ ⟨HSa.out.own_ 0 rfl,HSa.out.own_ 1 rfl⟩ ?_
       clear hK K hm9 vc bc
       obtain ⟨vc,vf⟩:=(HSa.out.own_ 0 rfl).both
       obtain ⟨bc,bf⟩:=(HSa.out.own_ 1 rfl).both
       dsimp only at vc bc
       clear HSd vf bf
       refine planS_loud rfl rfl (fun K hK=>?_)
       go_simp
       refine (HSZ.out.2 _).mono ?_
       rintro e10 w10 ⟨rfl,hm10⟩
       dsimp only []
       have HSb:=Lib.hid (Sat.after hm10 HSa.out)
       refine hK _ _ ⟨HSb.out.own_ 0 rfl,HSb.out.own_ 1 rfl⟩ ?_
       clear hK K hm10 vc bc
       obtain ⟨vc,vf⟩:=(HSb.out.own_ 0 rfl).both
       obtain ⟨bc,bf⟩:=(HSb.out.own_ 1 rfl).both
       dsimp only at vc bc
       clear HSa
       iterate 2 (refine planS_still rfl rfl (fun K hK=>?_);go_simp;refine hK _ ?_;clear hK K)
       refine planS_still rfl rfl (fun K hK=>?_);go_simp;refine hK _ ?_;clear hK K
       refine planS_not rfl rfl rfl ?_
       refine planS_loud rfl rfl (fun K hK=>?_)
       go_simp
       refine hK _ _ ⟨HSb.out.own_ 0 rfl,HSb.out.own_ 1 rfl⟩ ?_
       clear hK K
       refine planS_loud rfl rfl (fun K hK=>?_)
       go_simp
       refine hK _ _ ⟨HSb.out.own_ 0 rfl,HSb.out.own_ 1 rfl⟩ ?_
       clear hK K
       have HSe:=Lib.hid HSb.out
       iterate 25 (refine planS_still rfl rfl (fun K hK=>?_);go_simp;refine hK _ ?_;clear hK K)
       refine planS_done ?_
       have bl:=(HSe.out.own_ 1 rfl).lt
       dsimp only at bl
       go_wp2_with fail
       go_roundw
       case rel=>exact ⟨i + 1,a + 1,by omega,by have:=HFB.out.2;omega,by go_num,by rw [HZ3.out],by rw [HZ3.out];exact ((HSe.out.put (.there (.here rfl))).put (.there (.here rfl))).drop_own⟩
       case measure=>simp [iof];omega
      ·have hq:aheadB a e fb.vx fb.vy = false:=HAH.out.trans ((if_pos (by omega)).trans (decide_eq_false (by omega)))
       have HZ3:=Lib.hid (HZ2.out.trans (if_neg (by rw [hq];rintro (h | ⟨_,h⟩);exact absurd h d5;cases h)))
       have g1:decide ((sa:Int) < (sf:Int)) = false:=decide_eq_false (by omega)
       have g2:((sa:Int) == (sf:Int)) = false:=by simp;omega
       have g3:¬ sa < sf:=by omega
       have g4:¬ sa = sf:=by omega
       clear HZ2 h3 hq
       go_upto_region 14 with (fail)
       refine wp_region_planS [9,11,15,17] [10,16] (0 :: 1 :: 2 :: 3 :: 4 :: 5 :: 6 :: 7 :: 8 :: 10 :: 9 :: 11 :: 12 :: 13 :: 14 :: 16 :: 15 :: 17 :: 18 :: 19 :: 20 :: 21 :: 22 :: 23 :: 24 :: 25 :: 26 :: 27 :: 28 :: 29 :: 30 :: 31 :: 32 :: 33 :: 34 :: 35 :: 36 :: 37 :: 38 :: 39 :: 40 :: 41 :: 42 :: []) (fun w'=>Blk w' vb 156 #[.int .i64 a,.int .i64 e] ∧ Blk w' bb 156 #[.int .i64 fb.vx,.int .i64 fb.vy]) (by kernel_rfl) (by kernel_rfl) (fun _ _ _ d _ h=>by cases d <;> exact h) ⟨HS8.out.drew.own_ 0 rfl,HS8.out.drew.own_ 1 rfl⟩ ?_
       have HSd:=Lib.hid HS8.out.drew
       clear HS8
       obtain ⟨vc,vf⟩:=(HSd.out.own_ 0 rfl).both
       obtain ⟨bc,bf⟩:=(HSd.out.own_ 1 rfl).both
       dsimp only at vc bc
       iterate 9 (refine planS_still rfl rfl (fun K hK=>?_);go_simp;refine hK _ ?_;clear hK K)
       refine planS_pure (v:=.agg #[.int .i64 fb.vx,.int .i64 fb.vy]) rfl rfl rfl (fun w' hS=>?_) ?_
       ·have cS:=hS.2.cell
        go_simp
       refine planS_loud rfl rfl (fun K hK=>?_)
       go_simp
       refine (HSZ.out.1 _).mono ?_
       rintro e9 w9 ⟨rfl,hm9⟩
       dsimp only []
       have HSa:=Lib.hid (Sat.after hm9 HSd.out)
       refine hK _ _ ⟨HSa.out.own_ 0 rfl,HSa.out.own_ 1 rfl⟩ ?_
       clear hK K hm9 vc bc
       obtain ⟨vc,vf⟩:=(HSa.out.own_ 0 rfl).both
       obtain ⟨bc,bf⟩:=(HSa.out.own_ 1 rfl).both
       dsimp only at vc bc
       clear HSd vf bf
       refine planS_loud rfl rfl (fun K hK=>?_)
       go_simp
       refine (HSZ.out.2 _).mono ?_
       rintro e10 w10 ⟨rfl,hm10⟩
       dsimp only []
       have HSb:=Lib.hid (Sat.after hm10 HSa.out)
       refine hK _ _ ⟨HSb.out.own_ 0 rfl,HSb.out.own_ 1 rfl⟩ ?_
       clear hK K hm10 vc bc
       obtain ⟨vc,vf⟩:=(HSb.out.own_ 0 rfl).both
       obtain ⟨bc,bf⟩:=(HSb.out.own_ 1 rfl).both
       dsimp only at vc bc
       clear HSa
       iterate 2 (refine planS_still rfl rfl (fun K hK=>?_);go_simp;refine hK _ ?_;clear hK K)
       refine planS_still rfl rfl (fun K hK=>?_);go_simp;refine hK _ ?_;clear hK K
       refine planS_pure (v:=.agg #[.int .i64 fb.vx,.int .i64 fb.vy]) rfl rfl rfl (fun w' hS=>?_) ?_
       ·have cS:=hS.2.cell
        go_simp
       refine planS_loud rfl rfl (fun K hK=>?_)
       go_simp
       refine (HSZ.out.1 _).mono ?_
       rintro e11 w11 ⟨rfl,hm11⟩
       dsimp only []
       have HSc:=Lib.hid (Sat.after hm11 HSb.out)
       refine hK _ _ ⟨HSc.out.own_ 0 rfl,HSc.out.own_ 1 rfl⟩ ?_
       clear hK K hm11 vc bc
       obtain ⟨vc,vf⟩:=(HSc.out.own_ 0 rfl).both
       obtain ⟨bc,bf⟩:=(HSc.out.own_ 1 rfl).both
       dsimp only at vc bc
       clear HSb
       refine planS_loud rfl rfl (fun K hK=>?_)
       go_simp
       refine (HSZ.out.2 _).mono ?_
       rintro e12 w12 ⟨rfl,hm12⟩
       dsimp only []
       have HSe:=Lib.hid (Sat.after hm12 HSc.out)
       refine hK _ _ ⟨HSe.out.own_ 0 rfl,HSe.out.own_ 1 rfl⟩ ?_
       clear hK K hm12 vc bc
       obtain ⟨vc,vf⟩:=(HSe.out.own_ 0 rfl).both
       obtain ⟨bc,bf⟩:=(HSe.out.own_ 1 rfl).both
       dsimp only at vc bc
       clear HSc
       iterate 25 (refine planS_still rfl rfl (fun K hK=>?_);go_simp;refine hK _ ?_;clear hK K)
       refine planS_done ?_
       go_wp2_with fail
       go_roundw
       case rel=>exact ⟨i + 1,a + 1,by omega,by have:=HFB.out.2;omega,by go_num,by rw [HZ3.out],by rw [HZ3.out];exact HSe.out.drop_own⟩
       case measure=>simp [iof];omega
      ·subst h3
       have g1:decide ((sa:Int) < (sa:Int)) = false:=decide_eq_false (by omega)
       have g2:((sa:Int) == (sa:Int)) = true:=by simp
       have hq0:aheadB a e fb.vx fb.vy = if e ≠ fb.vy then decide (e < fb.vy) else decide (a < fb.vx):=HAH.out.trans (if_neg (by omega))
       have HQ0:=Lib.hid hq0
       clear hq0 HAH
       have h3:e < fb.vy ∨ fb.vy < e ∨ e = fb.vy:=by omega
       rcases h3 with h3 | h3 | h3
       ·have HZ3:=Lib.hid (HZ2.out.trans (if_pos (.inr ⟨rfl,HQ0.out.trans ((if_pos (by omega)).trans (decide_eq_true h3))⟩)))
        have g3:decide (e < fb.vy) = true:=decide_eq_true h3
        clear HZ2 HQ0
        go_upto_region 14 with (fail)
        refine wp_region_planS [9,11,15,17] [10,16] (0 :: 1 :: 2 :: 3 :: 4 :: 5 :: 6 :: 7 :: 8 :: 10 :: 9 :: 11 :: 12 :: 13 :: 14 :: 16 :: 15 :: 17 :: 18 :: 19 :: 20 :: 21 :: 22 :: 23 :: 24 :: 25 :: 26 :: 27 :: 28 :: 29 :: 30 :: 31 :: 32 :: 33 :: 34 :: 35 :: 36 :: 37 :: 38 :: 39 :: 40 :: 41 :: 42 :: []) (fun w'=>Blk w' vb 156 #[.int .i64 a,.int .i64 e] ∧ Blk w' bb 156 #[.int .i64 fb.vx,.int .i64 fb.vy]) (by kernel_rfl) (by kernel_rfl) (fun _ _ _ d _ h=>by cases d <;> exact h) ⟨HS8.out.drew.own_ 0 rfl,HS8.out.drew.own_ 1 rfl⟩ ?_
        have HSd:=Lib.hid HS8.out.drew
        clear HS8
        obtain ⟨vc,vf⟩:=(HSd.out.own_ 0 rfl).both
        obtain ⟨bc,bf⟩:=(HSd.out.own_ 1 rfl).both
        dsimp only at vc bc
        iterate 9 (refine planS_still rfl rfl (fun K hK=>?_);go_simp;refine hK _ ?_;clear hK K)
        refine planS_pure (v:=.agg #[.int .i64 fb.vx,.int .i64 fb.vy]) rfl rfl rfl (fun w' hS=>?_) ?_
        ·have cS:=hS.2.cell
         go_simp
        refine planS_loud rfl rfl (fun K hK=>?_)
        go_simp
        refine (HSZ.out.1 _).mono ?_
        rintro e9 w9 ⟨rfl,hm9⟩
        dsimp only []
        have HSa:=Lib.hid (Sat.after hm9 HSd.out)
        refine hK _ _ ⟨HSa.out.own_ 0 rfl,HSa.out.own_ 1 rfl⟩ ?_
        clear hK K hm9 vc bc
        obtain ⟨vc,vf⟩:=(HSa.out.own_ 0 rfl).both
        obtain ⟨bc,bf⟩:=(HSa.out.own_ 1 rfl).both
        dsimp only at vc bc
        clear HSd vf bf
        refine planS_loud rfl rfl (fun K hK=>?_)
        go_simp
        refine (HSZ.out.2 _).mono ?_
        rintro e10 w10 ⟨rfl,hm10⟩
        dsimp only []
        have HSb:=Lib.hid (Sat.after hm10 HSa.out)
        refine hK _ _ ⟨HSb.out.own_ 0 rfl,HSb.out.own_ 1 rfl⟩ ?_
        clear hK K hm10 vc bc
        obtain ⟨vc,vf⟩:=(HSb.out.own_ 0 rfl).both
        obtain ⟨bc,bf⟩:=(HSb.out.own_ 1 rfl).both
        dsimp only at vc bc
        clear HSa
        iterate 2 (refine planS_still rfl rfl (fun K hK=>?_);go_simp;refine hK _ ?_;clear hK K)
        refine planS_still rfl rfl (fun K hK=>?_);go_simp;refine hK _ ?_;clear hK K
        refine planS_pure (v:=.agg #[.int .i64 fb.vx,.int .i64 fb.vy]) rfl rfl rfl (fun w' hS=>?_) ?_
        ·have cS:=hS.2.cell
         go_simp
        refine planS_loud rfl rfl (fun K hK=>?_)
        go_simp
        refine (HSZ.out.1 _).mono ?_
        rintro e11 w11 ⟨rfl,hm11⟩
        dsimp only []
        have HSc:=Lib.hid (Sat.after hm11 HSb.out)
        refine hK _ _ ⟨HSc.out.own_ 0 rfl,HSc.out.own_ 1 rfl⟩ ?_
        clear hK K hm11 vc bc
        obtain ⟨vc,vf⟩:=(HSc.out.own_ 0 rfl).both
        obtain ⟨bc,bf⟩:=(HSc.out.own_ 1 rfl).both
        dsimp only at vc bc
        clear HSb
        refine planS_loud rfl rfl (fun K hK=>?_)
        go_simp
        refine (HSZ.out.2 _).mono ?_
        rintro e12 w12 ⟨rfl,hm12⟩
        dsimp only []
        have HSe:=Lib.hid (Sat.after hm12 HSc.out)
        refine hK _ _ ⟨HSe.out.own_ 0 rfl,HSe.out.own_ 1 rfl⟩ ?_
        clear hK K hm12 vc bc
        obtain ⟨vc,vf⟩:=(HSe.out.own_ 0 rfl).both
        obtain ⟨bc,bf⟩:=(HSe.out.own_ 1 rfl).both
        dsimp only at vc bc
        clear HSc
        iterate 25 (refine planS_still rfl rfl (fun K hK=>?_);go_simp;refine hK _ ?_;clear hK K)
        refine planS_done ?_
        have bl:=(HSe.out.own_ 1 rfl).lt
        dsimp only at bl
        go_wp2_with fail
        go_roundw
        case rel=>exact ⟨i + 1,a + 1,by omega,by have:=HFB.out.2;omega,by go_num,by rw [HZ3.out],by rw [HZ3.out];exact ((HSe.out.put (.there (.here rfl))).put (.there (.here rfl))).drop_own⟩
        case measure=>simp [iof];omega
       ·have hq:aheadB a e fb.vx fb.vy = false:=HQ0.out.trans ((if_pos (by omega)).trans (decide_eq_false (by omega)))
        have HZ3:=Lib.hid (HZ2.out.trans (if_neg (by rw [hq];rintro (h | ⟨_,h⟩);exact absurd h d5;cases h)))
        have g3:decide (e < fb.vy) = false:=decide_eq_false (by omega)
        have g4:(e == fb.vy) = false:=by simp;omega
        have g5:¬ e < fb.vy:=by omega
        have g6:¬ e = fb.vy:=by omega
        clear HZ2 h3 hq HQ0
        go_upto_region 14 with (fail)
        refine wp_region_planS [9,11,15,17] [10,16] (0 :: 1 :: 2 :: 3 :: 4 :: 5 :: 6 :: 7 :: 8 :: 10 :: 9 :: 11 :: 12 :: 13 :: 14 :: 16 :: 15 :: 17 :: 18 :: 19 :: 20 :: 21 :: 22 :: 23 :: 24 :: 25 :: 26 :: 27 :: 28 :: 29 :: 30 :: 31 :: 32 :: 33 :: 34 :: 35 :: 36 :: 37 :: 38 :: 39 :: 40 :: 41 :: 42 :: []) (fun w'=>Blk w' vb 156 #[.int .i64 a,.int .i64 e] ∧ Blk w' bb 156 #[.int .i64 fb.vx,.int .i64 fb.vy]) (by kernel_rfl) (by kernel_rfl) (fun _ _ _ d _ h=>by cases d <;> exact h) ⟨HS8.out.drew.own_ 0 rfl,HS8.out.drew.own_ 1 rfl⟩ ?_
        have HSd:=Lib.hid HS8.out.drew
        clear HS8
        obtain ⟨vc,vf⟩:=(HSd.out.own_ 0 rfl).both
        obtain ⟨bc,bf⟩:=(HSd.out.own_ 1 rfl).both
        dsimp only at vc bc
        iterate 9 (refine planS_still rfl rfl (fun K hK=>?_);go_simp;refine hK _ ?_;clear hK K)
        refine planS_pure (v:=.agg #[.int .i64 fb.vx,.int .i64 fb.vy]) rfl rfl rfl (fun w' hS=>?_) ?_
        ·have cS:=hS.2.cell
         go_simp
        refine planS_loud rfl rfl (fun K hK=>?_)
        go_simp
        refine (HSZ.out.1 _).mono ?_
        rintro e9 w9 ⟨rfl,hm9⟩
        dsimp only []
        have HSa:=Lib.hid (Sat.after hm9 HSd.out)
        refine hK _ _ ⟨HSa.out.own_ 0 rfl,HSa.out.own_ 1 rfl⟩ ?_
        clear hK K hm9 vc bc
        obtain ⟨vc,vf⟩:=(HSa.out.own_ 0 rfl).both
        obtain ⟨bc,bf⟩:=(HSa.out.own_ 1 rfl).both
        dsimp only at vc bc
        clear HSd vf bf
        refine planS_loud rfl rfl (fun K hK=>?_)
        go_simp
        refine (HSZ.out.2 _).mono ?_
        rintro e10 w10 ⟨rfl,hm10⟩
        dsimp only []
        have HSb:=Lib.hid (Sat.after hm10 HSa.out)
        refine hK _ _ ⟨HSb.out.own_ 0 rfl,HSb.out.own_ 1 rfl⟩ ?_
        clear hK K hm10 vc bc
        obtain ⟨vc,vf⟩:=(HSb.out.own_ 0 rfl).both
        obtain ⟨bc,bf⟩:=(HSb.out.own_ 1 rfl).both
        dsimp only at vc bc
        clear HSa
        iterate 2 (refine planS_still rfl rfl (fun K hK=>?_);go_simp;refine hK _ ?_;clear hK K)
        refine planS_still rfl rfl (fun K hK=>?_);go_simp;refine hK _ ?_;clear hK K
        refine planS_pure (v:=.agg #[.int .i64 fb.vx,.int .i64 fb.vy]) rfl rfl rfl (fun w' hS=>?_) ?_
        ·have cS:=hS.2.cell
         go_simp
        refine planS_loud rfl rfl (fun K hK=>?_)
        go_simp
        refine (HSZ.out.1 _).mono ?_
        rintro e11 w11 ⟨rfl,hm11⟩
        dsimp only []
        have HSc:=Lib.hid (Sat.after hm11 HSb.out)
        refine hK _ _ ⟨HSc.out.own_ 0 rfl,HSc.out.own_ 1 rfl⟩ ?_
        clear hK K hm11 vc bc
        obtain ⟨vc,vf⟩:=(HSc.out.own_ 0 rfl).both
        obtain ⟨bc,bf⟩:=(HSc.out.own_ 1 rfl).both
        dsimp only at vc bc
        clear HSb
        refine planS_loud rfl rfl (fun K hK=>?_)
        go_simp
        refine (HSZ.out.2 _).mono ?_
        rintro e12 w12 ⟨rfl,hm12⟩
        dsimp only []
        have HSe:=Lib.hid (Sat.after hm12 HSc.out)
        refine hK _ _ ⟨HSe.out.own_ 0 rfl,HSe.out.own_ 1 rfl⟩ ?_
        clear hK K hm12 vc bc
        obtain ⟨vc,vf⟩:=(HSe.out.own_ 0 rfl).both
        obtain ⟨bc,bf⟩:=(HSe.out.own_ 1 rfl).both
        dsimp only at vc bc
        clear HSc
        iterate 25 (refine planS_still rfl rfl (fun K hK=>?_);go_simp;refine hK _ ?_;clear hK K)
        refine planS_done ?_
        go_wp2_with fail
        go_roundw
        case rel=>exact ⟨i + 1,a + 1,by omega,by have:=HFB.out.2;omega,by go_num,by rw [HZ3.out],by rw [HZ3.out];exact HSe.out.drop_own⟩
        case measure=>simp [iof];omega
       ·have hq1:aheadB a e fb.vx fb.vy = decide (a < fb.vx):=HQ0.out.trans (if_neg (by omega))
        have HQ1:=Lib.hid hq1
        have g3:decide (e < fb.vy) = false:=decide_eq_false (by omega)
        have g4:(e == fb.vy) = true:=by simp;omega
        have H3:=Lib.hid h3
        have g5:¬ e < fb.vy:=by omega
        clear hq1 HQ0 h3
        by_cases h7:a < fb.vx
        ·have HZ3:=Lib.hid (HZ2.out.trans (if_pos (.inr ⟨rfl,HQ1.out.trans (decide_eq_true h7)⟩)))
         have g7:decide (a < fb.vx) = true:=decide_eq_true h7
         clear HZ2 HQ1
         go_upto_region 14 with (fail)
         refine wp_region_planS [9,11,15,17] [10,16] (0 :: 1 :: 2 :: 3 :: 4 :: 5 :: 6 :: 7 :: 8 :: 10 :: 9 :: 11 :: 12 :: 13 :: 14 :: 16 :: 15 :: 17 :: 18 :: 19 :: 20 :: 21 :: 22 :: 23 :: 24 :: 25 :: 26 :: 27 :: 28 :: 29 :: 30 :: 31 :: 32 :: 33 :: 34 :: 35 :: 36 :: 37 :: 38 :: 39 :: 40 :: 41 :: 42 :: []) (fun w'=>Blk w' vb 156 #[.int .i64 a,.int .i64 e] ∧ Blk w' bb 156 #[.int .i64 fb.vx,.int .i64 fb.vy]) (by kernel_rfl) (by kernel_rfl) (fun _ _ _ d _ h=>by cases d <;> exact h) ⟨HS8.out.drew.own_ 0 rfl,HS8.out.drew.own_ 1 rfl⟩ ?_
         have HSd:=Lib.hid HS8.out.drew
         clear HS8
         obtain ⟨vc,vf⟩:=(HSd.out.own_ 0 rfl).both
         obtain ⟨bc,bf⟩:=(HSd.out.own_ 1 rfl).both
         dsimp only at vc bc
         iterate 9 (refine planS_still rfl rfl (fun K hK=>?_);go_simp;refine hK _ ?_;clear hK K)
         refine planS_pure (v:=.agg #[.int .i64 fb.vx,.int .i64 fb.vy]) rfl rfl rfl (fun w' hS=>?_) ?_
         ·have cS:=hS.2.cell
          go_simp
         refine planS_loud rfl rfl (fun K hK=>?_)
         go_simp
         refine (HSZ.out.1 _).mono ?_
         rintro e9 w9 ⟨rfl,hm9⟩
         dsimp only []
         have HSa:=Lib.hid (Sat.after hm9 HSd.out)
         refine hK _ _ ⟨HSa.out.own_ 0 rfl,HSa.out.own_ 1 rfl⟩ ?_
         clear hK K hm9 vc bc
         obtain ⟨vc,vf⟩:=(HSa.out.own_ 0 rfl).both
         obtain ⟨bc,bf⟩:=(HSa.out.own_ 1 rfl).both
         dsimp only at vc bc
         clear HSd vf bf
         refine planS_loud rfl rfl (fun K hK=>?_)
         go_simp
         refine (HSZ.out.2 _).mono ?_
         rintro e10 w10 ⟨rfl,hm10⟩
         dsimp only []
         have HSb:=Lib.hid (Sat.after hm10 HSa.out)
         refine hK _ _ ⟨HSb.out.own_ 0 rfl,HSb.out.own_ 1 rfl⟩ ?_
         clear hK K hm10 vc bc
         obtain ⟨vc,vf⟩:=(HSb.out.own_ 0 rfl).both
         obtain ⟨bc,bf⟩:=(HSb.out.own_ 1 rfl).both
         dsimp only at vc bc
         clear HSa
         iterate 2 (refine planS_still rfl rfl (fun K hK=>?_);go_simp;refine hK _ ?_;clear hK K)
         refine planS_still rfl rfl (fun K hK=>?_);go_simp;refine hK _ ?_;clear hK K
         refine planS_pure (v:=.agg #[.int .i64 fb.vx,.int .i64 fb.vy]) rfl rfl rfl (fun w' hS=>?_) ?_
         ·have cS:=hS.2.cell
          go_simp
         refine planS_loud rfl rfl (fun K hK=>?_)
         go_simp
         refine (HSZ.out.1 _).mono ?_
         rintro e11 w11 ⟨rfl,hm11⟩
         dsimp only []
         have HSc:=Lib.hid (Sat.after hm11 HSb.out)
         refine hK _ _ ⟨HSc.out.own_ 0 rfl,HSc.out.own_ 1 rfl⟩ ?_
         clear hK K hm11 vc bc
         obtain ⟨vc,vf⟩:=(HSc.out.own_ 0 rfl).both
         obtain ⟨bc,bf⟩:=(HSc.out.own_ 1 rfl).both
         dsimp only at vc bc
         clear HSb
         refine planS_loud rfl rfl (fun K hK=>?_)
         go_simp
         refine (HSZ.out.2 _).mono ?_
         rintro e12 w12 ⟨rfl,hm12⟩
         dsimp only []
         have HSe:=Lib.hid (Sat.after hm12 HSc.out)
         refine hK _ _ ⟨HSe.out.own_ 0 rfl,HSe.out.own_ 1 rfl⟩ ?_
         clear hK K hm12 vc bc
         obtain ⟨vc,vf⟩:=(HSe.out.own_ 0 rfl).both
         obtain ⟨bc,bf⟩:=(HSe.out.own_ 1 rfl).both
         dsimp only at vc bc
         clear HSc
         iterate 25 (refine planS_still rfl rfl (fun K hK=>?_);go_simp;refine hK _ ?_;clear hK K)
         refine planS_done ?_
         have bl:=(HSe.out.own_ 1 rfl).lt
         dsimp only at bl
         go_wp2_with fail
         go_roundw
         case rel=>exact ⟨i + 1,a + 1,by omega,by have:=HFB.out.2;omega,by go_num,by rw [HZ3.out],by rw [HZ3.out];exact ((HSe.out.put (.there (.here rfl))).put (.there (.here rfl))).drop_own⟩
         case measure=>simp [iof];omega
        ·have hq:aheadB a e fb.vx fb.vy = false:=HQ1.out.trans (decide_eq_false h7)
         have HZ3:=Lib.hid (HZ2.out.trans (if_neg (by rw [hq];rintro (h | ⟨_,h⟩);exact absurd h d5;cases h)))
         have g7:decide (a < fb.vx) = false:=decide_eq_false h7
         clear HZ2 hq HQ1
         go_upto_region 14 with (fail)
         refine wp_region_planS [9,11,15,17] [10,16] (0 :: 1 :: 2 :: 3 :: 4 :: 5 :: 6 :: 7 :: 8 :: 10 :: 9 :: 11 :: 12 :: 13 :: 14 :: 16 :: 15 :: 17 :: 18 :: 19 :: 20 :: 21 :: 22 :: 23 :: 24 :: 25 :: 26 :: 27 :: 28 :: 29 :: 30 :: 31 :: 32 :: 33 :: 34 :: 35 :: 36 :: 37 :: 38 :: 39 :: 40 :: 41 :: 42 :: []) (fun w'=>Blk w' vb 156 #[.int .i64 a,.int .i64 e] ∧ Blk w' bb 156 #[.int .i64 fb.vx,.int .i64 fb.vy]) (by kernel_rfl) (by kernel_rfl) (fun _ _ _ d _ h=>by cases d <;> exact h) ⟨HS8.out.drew.own_ 0 rfl,HS8.out.drew.own_ 1 rfl⟩ ?_
         have HSd:=Lib.hid HS8.out.drew
         clear HS8
         obtain ⟨vc,vf⟩:=(HSd.out.own_ 0 rfl).both
         obtain ⟨bc,bf⟩:=(HSd.out.own_ 1 rfl).both
         dsimp only at vc bc
         iterate 9 (refine planS_still rfl rfl (fun K hK=>?_);go_simp;refine hK _ ?_;clear hK K)
         refine planS_pure (v:=.agg #[.int .i64 fb.vx,.int .i64 fb.vy]) rfl rfl rfl (fun w' hS=>?_) ?_
         ·have cS:=hS.2.cell
          go_simp
         refine planS_loud rfl rfl (fun K hK=>?_)
         go_simp
         refine (HSZ.out.1 _).mono ?_
         rintro e9 w9 ⟨rfl,hm9⟩
         dsimp only []
         have HSa:=Lib.hid (Sat.after hm9 HSd.out)
         refine hK _ _ ⟨HSa.out.own_ 0 rfl,HSa.out.own_ 1 rfl⟩ ?_
         clear hK K hm9 vc bc
         obtain ⟨vc,vf⟩:=(HSa.out.own_ 0 rfl).both
         obtain ⟨bc,bf⟩:=(HSa.out.own_ 1 rfl).both
         dsimp only at vc bc
         clear HSd vf bf
         refine planS_loud rfl rfl (fun K hK=>?_)
         go_simp
         refine (HSZ.out.2 _).mono ?_
         rintro e10 w10 ⟨rfl,hm10⟩
         dsimp only []
         have HSb:=Lib.hid (Sat.after hm10 HSa.out)
         refine hK _ _ ⟨HSb.out.own_ 0 rfl,HSb.out.own_ 1 rfl⟩ ?_
         clear hK K hm10 vc bc
         obtain ⟨vc,vf⟩:=(HSb.out.own_ 0 rfl).both
         obtain ⟨bc,bf⟩:=(HSb.out.own_ 1 rfl).both
         dsimp only at vc bc
         clear HSa
         iterate 2 (refine planS_still rfl rfl (fun K hK=>?_);go_simp;refine hK _ ?_;clear hK K)
         refine planS_still rfl rfl (fun K hK=>?_);go_simp;refine hK _ ?_;clear hK K
         refine planS_pure (v:=.agg #[.int .i64 fb.vx,.int .i64 fb.vy]) rfl rfl rfl (fun w' hS=>?_) ?_
         ·have cS:=hS.2.cell
          go_simp
         refine planS_loud rfl rfl (fun K hK=>?_)
         go_simp
         refine (HSZ.out.1 _).mono ?_
         rintro e11 w11 ⟨rfl,hm11⟩
         dsimp only []
         have HSc:=Lib.hid (Sat.after hm11 HSb.out)
         refine hK _ _ ⟨HSc.out.own_ 0 rfl,HSc.out.own_ 1 rfl⟩ ?_
         clear hK K hm11 vc bc
         obtain ⟨vc,vf⟩:=(HSc.out.own_ 0 rfl).both
         obtain ⟨bc,bf⟩:=(HSc.out.own_ 1 rfl).both
         dsimp only at vc bc
         clear HSb
         refine planS_loud rfl rfl (fun K hK=>?_)
         go_simp
         refine (HSZ.out.2 _).mono ?_
         rintro e12 w12 ⟨rfl,hm12⟩
         dsimp only []
         have HSe:=Lib.hid (Sat.after hm12 HSc.out)
         refine hK _ _ ⟨HSe.out.own_ 0 rfl,HSe.out.own_ 1 rfl⟩ ?_
         clear hK K hm12 vc bc
         obtain ⟨vc,vf⟩:=(HSe.out.own_ 0 rfl).both
         obtain ⟨bc,bf⟩:=(HSe.out.own_ 1 rfl).both
         dsimp only at vc bc
         clear HSc
         iterate 25 (refine planS_still rfl rfl (fun K hK=>?_);go_simp;refine hK _ ?_;clear hK K)
         refine planS_done ?_
         go_wp2_with fail
         go_roundw
         case rel=>exact ⟨i + 1,a + 1,by omega,by have:=HFB.out.2;omega,by go_num,by rw [HZ3.out],by rw [HZ3.out];exact HSe.out.drop_own⟩
         case measure=>simp [iof];omega
    ·obtain rfl:i = 9:=by omega
     have d2:decide (a ≤ 4) = false:=decide_eq_false (by omega)
     have HI9:=Lib.hid (And.intro hs (And.intro HJE.out hia))
     clear hs hia
     go_wp2_with fail
     go_roundw
     case rel=>exact ⟨j + 1,e + 1,by omega,by have:=HI9.out.2.1;omega,by go_num,by rw [show 9 * (j + 1) = 9 * j + 9 by omega],by rw [show 9 * (j + 1) = 9 * j + 9 by omega];exact HI9.out.1⟩
     case measure=>simp [iof];omega
  ·obtain rfl:j = 9:=by omega
   have d1:decide (e ≤ 4) = false:=decide_eq_false (by omega)
   have HR:=HF.out.2.1
   have hbd:=HF.out.2.2 81 (by omega)
   rw [show (81:Nat) = 9 * 9 by omega] at HR hbd
   generalize F (9 * 9) = fz at *
   have HS9:=Lib.hid (And.intro hs HR)
   clear hs HR
   obtain ⟨⟨bd1,bd2⟩,⟨bd3,bd4⟩,bd5⟩:=hbd
   go_upto_region 17 with (fail)
   refine wp_region_planS [6,8] [0,7] (1 :: 2 :: 3 :: 4 :: 5 :: 0 :: 7 :: 6 :: 8 :: 9 :: 10 :: []) (fun w'=>Blk w' bb 156 #[.int .i64 fz.vx,.int .i64 fz.vy]) (by kernel_rfl) (by kernel_rfl) (fun _ _ _ d _ h=>by cases d <;> exact h) (HS9.out.1.drew.own_ 0 rfl) ?_
   obtain ⟨pc,pf⟩:=(HS9.out.1.drew.own_ 2 rfl).both
   obtain ⟨bc,bf⟩:=(HS9.out.1.drew.own_ 0 rfl).both
   dsimp only at pc bc
   iterate 5 (refine planS_still rfl rfl (fun K hK=>?_);go_simp;refine hK _ ?_;clear hK K)
   refine planS_pure (v:=.agg #[.int .i64 fz.vx,.int .i64 fz.vy]) rfl rfl rfl (fun w' hS=>?_) ?_
   ·have cS:=hS.cell
    go_simp
   refine planS_pure rfl rfl rfl (fun _ _=>rfl) ?_
   have B9:=Lib.hid (reMvBlock w4.drew W H A n c pix HI.out.1 HI.out.2.1 (HI.out.2.2.1.quiet HS9.out.1.drew.mod) x y fz.vx fz.vy (by omega) (by omega) ⟨by omega,by omega⟩ ⟨by omega,by omega⟩)
   refine planS_loud rfl rfl (fun K hK=>?_)
   go_simp
   refine B9.out.mono ?_
   rintro e5 w5 ⟨v5,rfl,hb5,hm5⟩
   dsimp only []
   have HS5:=Lib.hid (Sat.after hm5 HS9.out.1.drew)
   refine hK _ _ (HS5.out.own_ 0 rfl) ?_
   clear hK K hm5 hb5 pc pf bc bf
   obtain ⟨rc,rf⟩:=(HS5.out.own_ 1 rfl).both
   have rl:=(HS5.out.own_ 1 rfl).lt
   dsimp only at rc rf rl
   refine planS_loud rfl rfl (fun K hK=>?_)
   go_simp
   have hs6:=(HS5.out.put (i:=0) (u:=.int .i64 fz.vx) (.there (.here rfl))).put (i:=1) (u:=.int .i64 fz.vy) (.there (.here rfl))
   generalize (w5.setCell ⟨w.heap.size + 1,0,none⟩ (.int .i64 fz.vx)).setCell ⟨w.heap.size + 1,1,none⟩ (.int .i64 fz.vy) = w6 at *
   refine hK _ _ (hs6.own_ 0 rfl) ?_
   clear hK K rc rf rl
   iterate 2 (refine planS_still rfl rfl (fun K hK=>?_);go_simp;refine hK _ ?_;clear hK K)
   refine planS_done ?_
   obtain ⟨rc2,rf2⟩:=(hs6.own_ 1 rfl).both
   dsimp only at rc2
   have HS6:=Lib.hid hs6.mod
   clear hs6
   go_wp2_with fail
   exact bodyPost_ret (v:=.tuple #[.agg #[.int .i64 fz.vx,.int .i64 fz.vy],v5,.int .i64 (fz.far:Int)]) (by simp [results,Tryz.results156,go_sem,rc2]) rfl ⟨⟨v5,by rw [HS9.out.2]⟩,HS6.out⟩
end Go.Proofs.YtmkopcojnibhlaaGreatDoor
