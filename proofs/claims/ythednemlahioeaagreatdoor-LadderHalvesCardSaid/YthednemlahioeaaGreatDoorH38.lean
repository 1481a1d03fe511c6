/-
  ladder.Make.
-/
import Derived.Test.YthednemlahioeaaGreatDoorH36
import Derived.Test.YthednemlahioeaaGreatDoorH37
namespace Go.Proofs.YthednemlahioeaaGreatDoor
open Go.RowKit
set_option maxRecDepth 100000
set_option maxHeartbeats 8000000
def MakePost (w:World) (fs:List FrX) (G:Int) (rs:List Rg) (e:Ending) (w':World):Prop:=
 Mod (fun _=>False) w w' ∧ ((makeB fs G rs = false ∧ e = .returned (.tuple #[.slice none 0 0,.int .i64 151])) ∨ (makeB fs G rs = true ∧ ∃ v,e = .returned (.tuple #[v,.int .i64 0]) ∧ MadesIn w' (fun k=>w.heap.size ≤ k) v (rs.map (madeX fs G))))
theorem md_info:(Tryz.prog.info? 43).map (fun i=>(i.zero,i.size,i.bytes)) = some (some (.agg #[.string (strOf []),.int .i64 0,.int .i64 0,.int .i64 0,.int .i64 0,.int .i64 0,.int .i64 0,.slice none 0 0]),8,88):=by kernel_rfl
theorem ladderE_b (W H G:Int) (rs:List Rg):ladderE W H G rs = if ladderB W H G rs then 0 else 151:=rfl
def MakeRel (w:World) (fs:List FrX) (G:Int) (rs:List Rg) (v8 v37:Value) (wr:World):Prop:=
 ∃ i:Nat,i ≤ rs.length ∧ v37 = .int .i64 (i:Int) ∧ ListOwn wr w.heap.size 43 8 (MadeR wr (FM w.heap.size v8)) v8 ((rs.take i).map (madeX fs G)) ∧ Mod (fun _=>False) w wr
theorem lMake (w:World) (he:EnvP w) (A:Option Addr) (n c:Nat) (fs:List FrX) (hin:FrsIn w A n fs) (hnc:n ≤ c) (hc:c ≤ 9223372036854775807) (G:Int) (A2:Option Addr) (m c2:Nat) (rs:List Rg) (hr:RgsIn w A2 m c2 rs) (hm:m ≤ 9223372036854775807)
  (hW:(fs.getD 0 FrX.zero).W0 ≤ 64) (hH:(fs.getD 0 FrX.zero).H0 ≤ 64) :
  Calls Tryz.prog 16 #[.slice A n c,.int .i64 G,.slice A2 m c2] w (MakePost w fs G rs):=by
 have H0:=Lib.hid (And.intro he (And.intro hin (And.intro hr hin.len)))
 clear he
 cases hcl:clipB fs with
 | false=>
  have hmk:makeB fs G rs = false:=by unfold makeB;rw [hcl,Bool.false_and]
  have HB:=Lib.hid (And.intro hcl hmk)
  clear hcl hmk hin hr
  go_enter Tryz.func16,Tryz.ntmps16
  go_upto_region 1 with (fail)
  refine wp_region_planS [1,16] [] [0,1,2,3,4,5,6,7,8,9,10,11,12,13,14,15,16,17,18] (fun _=>True) (by kernel_rfl) (by kernel_rfl) (fun _ _ _ d _ h=>by cases d <;> exact h) trivial ?_
  refine planS_still rfl rfl (fun K hK=>?_);go_simp;refine hK _ ?_;clear hK K
  refine planS_loud rfl rfl (fun K hK=>?_)
  go_simp
  refine (lRightClip w.drew A n c fs (H0.out.2.1.quiet ((Mod.refl _ w).drew)) (by omega)).mono ?_
  rintro e w1 ⟨rfl,hm1⟩
  rw [HB.out.1]
  have H1:=Lib.hid (((Mod.refl (fun _=>False) w).drew).trans hm1)
  clear hm1
  dsimp only []
  refine hK _ _ trivial ?_
  clear hK K
  (iterate 14 (refine planS_still rfl rfl (fun K hK=>?_);go_simp;refine hK _ ?_;clear hK K))
  refine planS_loud rfl rfl (fun K hK=>?_)
  go_simp
  refine hK _ _ trivial ?_
  clear hK K
  (iterate 2 (refine planS_still rfl rfl (fun K hK=>?_);go_simp;refine hK _ ?_;clear hK K))
  refine planS_done ?_
  go_wp2_with fail
  go_ret2
  exact ⟨H1.out,.inl ⟨HB.out.2,rfl⟩⟩
 | true=>
  obtain ⟨hdo,w0e,h0e,hl,hgood⟩:=clip_good hcl
  have hlen:=hin.len
  have hn0:0 < n:=by omega
  obtain ⟨b,o,hA,hlb,hcells,_⟩:=hin.at_ 0 hn0
  subst hA
  obtain ⟨W0,hW0⟩:∃ x,x = (fs.getD 0 FrX.zero).W0:=⟨_,rfl⟩
  obtain ⟨H0',hH0⟩:∃ x,x = (fs.getD 0 FrX.zero).H0:=⟨_,rfl⟩
  have c0:w.cell? ⟨b,o,none⟩ = some (.int .i64 W0):=by have:=hcells 0 _ rfl;rw [hW0];simpa using this
  have c1:w.cell? ⟨b,o + 1,none⟩ = some (.int .i64 H0'):=by have:=hcells 1 _ rfl;rw [hH0];simpa using this
  have bW:(0:Int) ≤ W0 ∧ W0 ≤ 64:=by rw [hW0];exact ⟨by rw [← w0e];omega,hW⟩
  have bH:(0:Int) ≤ H0' ∧ H0' ≤ 64:=by rw [hH0];exact ⟨by rw [← h0e];omega,hH⟩
  have lC:∀ w',Mod (fun _=>False) w w' → Calls Tryz.prog 13 #[.int .i64 W0,.int .i64 H0',.int .i64 G,.slice A2 m c2] w' fun e w''=>e = .returned (.int .i64 (ladderE W0 H0' G rs)) ∧ Mod (fun _=>False) w' w'':=
   fun w' hm'=>lCheck w' W0 H0' G A2 m c2 rs (hr.quiet hm') hm ⟨by omega,by omega⟩ ⟨by omega,by omega⟩
  have HL:=Lib.hid (And.intro lC (And.intro c0 (And.intro c1 hlb)))
  have HC:=Lib.hid (And.intro hcl (And.intro hdo (And.intro hgood (And.intro hW0 (And.intro hH0 hlen)))))
  clear lC c0 c1 hlb hcells hcl hdo hgood hin hr w0e h0e bW bH
  go_enter Tryz.func16,Tryz.ntmps16
  go_upto_region 1 with (fail)
  cases hlad:ladderB W0 H0' G rs with
  | false=>
   have hE:ladderE W0 H0' G rs = 151:=by rw [ladderE_b,hlad];rfl
   have hmk:makeB fs G rs = false:=by unfold makeB;rw [HC.out.1,← HC.out.2.2.2.1,← HC.out.2.2.2.2.1,hlad];rfl
   have HB:=Lib.hid (And.intro hE hmk)
   clear hE hmk hlad hlen hW0 hH0
   refine wp_region_planS [1,16] [] [0,1,2,3,4,5,6,7,8,9,10,11,12,13,14,15,16,17,18] (fun _=>True) (by kernel_rfl) (by kernel_rfl) (fun _ _ _ d _ h=>by cases d <;> exact h) trivial ?_
   refine planS_still rfl rfl (fun K hK=>?_);go_simp;refine hK _ ?_;clear hK K
   refine planS_loud rfl rfl (fun K hK=>?_)
   go_simp
   refine (lRightClip w.drew (some ⟨b,o,none⟩) n c fs (H0.out.2.1.quiet ((Mod.refl _ w).drew)) (by omega)).mono ?_
   rintro e w1 ⟨rfl,hm1⟩
   rw [HC.out.1]
   have hM1:=((Mod.refl (fun _=>False) w).drew).trans hm1
   have c0:w1.cell? ⟨b,o,none⟩ = some (.int .i64 W0):=(cellqL hM1 HL.out.2.2.2).trans HL.out.2.1
   have c1:w1.cell? ⟨b,o + 1,none⟩ = some (.int .i64 H0'):=(cellqL hM1 HL.out.2.2.2).trans HL.out.2.2.1
   have H1:=Lib.hid hM1
   clear hm1 hM1
   dsimp only []
   refine hK _ _ trivial ?_
   clear hK K
   (iterate 14 (refine planS_still rfl rfl (fun K hK=>?_);go_simp;refine hK _ ?_;clear hK K))
   refine planS_loud rfl rfl (fun K hK=>?_)
   go_simp
   refine (HL.out.1 w1 H1.out).mono ?_
   rintro e w2 ⟨rfl,hm2⟩
   rw [HB.out.1]
   have H2:=Lib.hid (H1.out.trans hm2)
   clear hm2 c0 c1
   dsimp only []
   refine hK _ _ trivial ?_
   clear hK K
   (iterate 2 (refine planS_still rfl rfl (fun K hK=>?_);go_simp;refine hK _ ?_;clear hK K))
   refine planS_done ?_
   go_wp2_with fail
   go_ret2
   exact ⟨H2.out,.inl ⟨HB.out.2,rfl⟩⟩
  | true=>
   have hE:ladderE W0 H0' G rs = 0:=by rw [ladderE_b,hlad];rfl
   have hmk:makeB fs G rs = true:=by unfold makeB;rw [HC.out.1,← HC.out.2.2.2.1,← HC.out.2.2.2.2.1,hlad];rfl
   have hm18:1 ≤ m ∧ m ≤ 8:=by
    unfold ladderB at hlad
    rw [Bool.and_eq_true,decide_eq_true_eq,H0.out.2.2.1.len] at hlad
    exact hlad.1
   have HB:=Lib.hid (And.intro hE (And.intro hmk hlad))
   clear hE hmk hlad hlen hW0 hH0
   refine wp_region_planS [1,16] [] [0,1,2,3,4,5,6,7,8,9,10,11,12,13,14,15,16,17,18] (fun _=>True) (by kernel_rfl) (by kernel_rfl) (fun _ _ _ d _ h=>by cases d <;> exact h) trivial ?_
   refine planS_still rfl rfl (fun K hK=>?_);go_simp;refine hK _ ?_;clear hK K
   refine planS_loud rfl rfl (fun K hK=>?_)
   go_simp
   refine (lRightClip w.drew (some ⟨b,o,none⟩) n c fs (H0.out.2.1.quiet ((Mod.refl _ w).drew)) (by omega)).mono ?_
   rintro e w1 ⟨rfl,hm1⟩
   rw [HC.out.1]
   have hM1:=((Mod.refl (fun _=>False) w).drew).trans hm1
   have c0:w1.cell? ⟨b,o,none⟩ = some (.int .i64 W0):=(cellqL hM1 HL.out.2.2.2).trans HL.out.2.1
   have c1:w1.cell? ⟨b,o + 1,none⟩ = some (.int .i64 H0'):=(cellqL hM1 HL.out.2.2.2).trans HL.out.2.2.1
   have H1:=Lib.hid hM1
   clear hm1 hM1
   dsimp only []
   refine hK _ _ trivial ?_
   clear hK K
   (iterate 14 (refine planS_still rfl rfl (fun K hK=>?_);go_simp;refine hK _ ?_;clear hK K))
   refine planS_loud rfl rfl (fun K hK=>?_)
   go_simp
   refine (HL.out.1 w1 H1.out).mono ?_
   rintro e w2 ⟨rfl,hm2⟩
   rw [HB.out.1]
   have H2:=Lib.hid (H1.out.trans hm2)
   clear hm2 c0 c1
   dsimp only []
   refine hK _ _ trivial ?_
   clear hK K
   (iterate 2 (refine planS_still rfl rfl (fun K hK=>?_);go_simp;refine hK _ ?_;clear hK K))
   refine planS_done ?_
   go_wp2_with (at_make;refine Hid.out ?_)
   refine Lib.hid ?_
   obtain ⟨i0,hi0,hz0,hz1,hz2⟩:=info_parts md_info
   refine wpList_make_own w2 rfl (.const (.int .i64 0)) (.tmp 33) 31 rfl w.heap.size 43 i0 _ 8 Tryz.underlying31 hi0 hz0 hz1 .i64 .i64 (m:Int) m rfl rfl rfl (by rw [hz2];omega) (by unfold maxLen;omega) H2.out.size ?_
   intro w3 hown hgr
   have H3:=Lib.hid (And.intro hown (H2.out.grown hgr (fun k hk=>by cases hk)))
   clear hi0 hz0 hz1 hz2 hown hgr
   go_wp2_with fail
   go_loopw [8,37] (MakeRel w fs G rs) (fun _ i _=>m - (intOf i).toNat)
   case atStart=>exact ⟨0,Nat.zero_le _,rfl,⟨[],H3.out.1,.nil⟩,H3.out.2⟩
   case round=>
    clear H3
    obtain ⟨i,hi,rfl,hL,hM⟩:=hrel
    rename World=>wr
    have hrl:=H0.out.2.2.1.len
    obtain ⟨Ao,co,hv8⟩:=hL.shape
    have hli:((rs.take i).map (madeX fs G)).length = i:=by rw [List.length_map,List.length_take];omega
    rw [hli] at hv8
    subst hv8
    by_cases hlt:i < m
    ·have d3:decide ((i:Int) < (m:Int)) = true:=decide_eq_true (by omega)
     obtain ⟨b2,o2,rfl,hbw,hcells⟩:=(H0.out.2.2.1.quiet hM).at_ i hlt
     obtain ⟨r,hr⟩:∃ r,r = rs.getD i Rg.zero:=⟨_,rfl⟩
     have hrb:=ladder_at HB.out.2.2 (show i < rs.length by omega)
     rw [← hr] at hcells hrb
     rw [HC.out.2.2.2.1,HC.out.2.2.2.2.1] at hrb
     obtain ⟨dn,q,tg,g,x1,x2,x3,x4,y1,y2,y3,y4,y5,y6,y7,y8,y9⟩:=rung_parts HC.out.1 hrb hW hH
     subst x4
     have k0:wr.cell? ⟨b2,o2 + i * 4,none⟩ = some (.string (strOf r.name)):=hcells 0 _ rfl
     have k1:wr.cell? ⟨b2,o2 + i * 4 + 1,none⟩ = some (.int .i64 (dn:Int)):=by rw [← x1];exact hcells 1 _ rfl
     have k2:wr.cell? ⟨b2,o2 + i * 4 + 2,none⟩ = some (.int .i64 (q:Int)):=by rw [← x2];exact hcells 2 _ rfl
     have k3:wr.cell? ⟨b2,o2 + i * 4 + 3,none⟩ = some (.int .i64 (tg:Int)):=by rw [← x3];exact hcells 3 _ rfl
     obtain ⟨d,hd⟩:∃ d,d = (dim0 fs).downs dn:=⟨_,rfl⟩
     have hma:Mod (fun _=>False) wr (wr.alloc (.cells #[.string (strOf r.name),.int .i64 (dn:Int),.int .i64 (q:Int),.int .i64 (tg:Int)] 38)):=(Mod.refl _ wr).alloc _
     have hone:=lMakeOne (wr.alloc (.cells #[.string (strOf r.name),.int .i64 (dn:Int),.int .i64 (q:Int),.int .i64 (tg:Int)] 38)) (H0.out.1.quiet (hM.trans hma)) b o n c fs (H0.out.2.1.quiet (hM.trans hma)) (by have:=HC.out.2.2.2.2.2;omega) hnc hc g y4 r.name dn q tg y1 y2 y3 (dim0 fs) d y5 y6 hd (by rw [hd];exact y7) (by rw [hd];exact y8) (by rw [hd];exact y9) (fun k hk=>HC.out.2.2.1 k (by rw [HC.out.2.2.2.2.2];exact hk))
     have hmx:madeX fs (g:Int) r = ⟨⟨r.name,(dn:Int),(q:Int),(tg:Int)⟩,(g:Int),d,segsOf d g tg q (fs.map fun f=>downsPix (dim0 fs) f.pix dn)⟩:=by
      obtain ⟨nm,rd,rq,rt⟩:=r
      dsimp only at x1 x2 x3
      subst x1 x2 x3 hd
      rfl
     have HQ:=Lib.hid (And.intro hone (And.intro hmx (And.intro hr (And.intro hL (And.intro hM hma)))))
     clear hone hmx hr hL hM hma hcells hrb hbw x1 x2 x3 y1 y2 y3 y4 y5 y6 y7 y8 y9 hd
     go_wp2_with fail
     refine HQ.out.1.mono ?_
     rintro e w5 ⟨cells,rfl,hmd,hc8,hm5⟩
     have hmd2:=hmd
     obtain ⟨sv,hceq,hsegs⟩:=hmd2
     obtain ⟨Av,cv,rfl,hcv⟩:=hsegs.shape
     obtain ⟨nv,hnv⟩:∃ n,n = (segsOf d g tg q (fs.map fun f=>downsPix (dim0 fs) f.pix dn)).length:=⟨_,rfl⟩
     have hc88:cells = [.string (strOf r.name),.int .i64 (dn:Int),.int .i64 (q:Int),.int .i64 (tg:Int),.int .i64 (d.W:Int),.int .i64 (d.H:Int),.int .i64 (g:Int),.slice Av nv cv]:=by rw [hceq,hnv];rfl
     subst hc88
     have hm56:Mod (fun _=>False) w5 (w5.alloc (.cells #[.string (strOf r.name),.int .i64 (dn:Int),.int .i64 (q:Int),.int .i64 (tg:Int),.int .i64 (d.W:Int),.int .i64 (d.H:Int),.int .i64 (g:Int),.slice Av nv cv] 43)):=(Mod.refl _ w5).alloc _
     have hq6:=HQ.out.2.2.2.2.2.trans (hm5.trans hm56)
     have hL6:ListOwn (w5.alloc (.cells #[.string (strOf r.name),.int .i64 (dn:Int),.int .i64 (q:Int),.int .i64 (tg:Int),.int .i64 (d.W:Int),.int .i64 (d.H:Int),.int .i64 (g:Int),.slice Av nv cv] 43)) w.heap.size 43 8 (MadeR (w5.alloc (.cells #[.string (strOf r.name),.int .i64 (dn:Int),.int .i64 (q:Int),.int .i64 (tg:Int),.int .i64 (d.W:Int),.int .i64 (d.H:Int),.int .i64 (g:Int),.slice Av nv cv] 43)) (FM w.heap.size (.slice Ao i co))) (.slice Ao i co) ((rs.take i).map (madeX fs (g:Int))):=
      HQ.out.2.2.2.1.turn hq6 (fun _ _ h=>h) (fun _ _ _ hx=>hx.turn hq6 (fun _ _ _ h=>h) (fun _ hk _=>hk))
     have hx6:MadeR (w5.alloc (.cells #[.string (strOf r.name),.int .i64 (dn:Int),.int .i64 (q:Int),.int .i64 (tg:Int),.int .i64 (d.W:Int),.int .i64 (d.H:Int),.int .i64 (g:Int),.slice Av nv cv] 43)) (FM w.heap.size (.slice Ao i co)) (madeX fs (g:Int) r) [.string (strOf r.name),.int .i64 (dn:Int),.int .i64 (q:Int),.int .i64 (tg:Int),.int .i64 (d.W:Int),.int .i64 (d.H:Int),.int .i64 (g:Int),.slice Av nv cv]:=by
      rw [HQ.out.2.1]
      refine hmd.turn hm56 (fun _ _ _ h=>h) (fun k hk _=>⟨?_,fun e=>?_⟩)
      ·have h1:=HQ.out.2.2.2.2.1.size
       have h2:=HQ.out.2.2.2.2.2.size
       omega
      ·have h1:=(HQ.out.2.2.2.1.lt k e).2
       have h2:wr.heap.size + 1 ≤ k:=by simpa using hk
       omega
     obtain ⟨xs,hrow,hcel⟩:=hL6
     rw [hli] at hrow
     have hsz6:w.heap.size ≤ (w5.alloc (.cells #[.string (strOf r.name),.int .i64 (dn:Int),.int .i64 (q:Int),.int .i64 (tg:Int),.int .i64 (d.W:Int),.int .i64 (d.H:Int),.int .i64 (g:Int),.slice Av nv cv] 43)).heap.size:=Nat.le_trans HQ.out.2.2.2.2.1.size hq6.size
     have H6:=Lib.hid (And.intro hrow (And.intro hcel (And.intro hx6 (HQ.out.2.2.2.2.1.trans hq6))))
     have hi8:i ≤ 8:=by omega
     clear hmd hceq hsegs hcv hnv hc8 hm5 hm56 hq6 hrow hcel hx6 k0 k1 k2 k3
     go_wp2_with (at_builtin;refine Hid.out ?_)
     refine Lib.hid ?_
     refine wpList_app_one (w5.alloc (.cells #[.string (strOf r.name),.int .i64 (dn:Int),.int .i64 (q:Int),.int .i64 (tg:Int),.int .i64 (d.W:Int),.int .i64 (d.H:Int),.int .i64 (g:Int),.slice Av nv cv] 43)) rfl (.tmp 51) (.tmp 53) 31 43 rfl Tryz.underlying31 (.agg #[.string (strOf []),.int .i64 0,.int .i64 0,.int .i64 0,.int .i64 0,.int .i64 0,.int .i64 0,.slice none 0 0]) 8 88 md_info rfl (by decide) w.heap.size (.slice Ao i co) i xs [.string (strOf r.name),.int .i64 (dn:Int),.int .i64 (q:Int),.int .i64 (tg:Int),.int .i64 (d.W:Int),.int .i64 (d.H:Int),.int .i64 (g:Int),.slice Av nv cv] rfl (by intro u hu;simp only [List.mem_cons,List.not_mem_nil,or_false] at hu;rcases hu with rfl | rfl | rfl | rfl | rfl | rfl | rfl | rfl <;> rfl) (w5.heap.size + 1) (by simp) rfl rfl H6.out.1 hsz6 (by unfold maxLen;omega) (by omega) ?_
     intro v2 w9 y1 y2 y3 y4
     obtain ⟨As,cs2,rfl⟩:=own_shape y1
     have hmod9:=y3 w (fun _=>False) (Nat.le_refl _) H6.out.2.2.2
     have HA:=Lib.hid (And.intro y1 (And.intro y2 (And.intro y4 hmod9)))
     clear y1 y2 y3 y4 hmod9
     go_wp2_with fail
     refine ⟨⟨i + 1,by omega,rfl,?_,HA.out.2.2.2⟩,half_meas hlt⟩
     rw [take_one (by omega)]
     have hpush:=make_push (x:=madeX fs (g:Int) r) H6.out.2.1 (by rw [hli];exact HA.out.1) HA.out.2.1 HA.out.2.2.1 H6.out.2.2.1 rfl
     rw [← HQ.out.2.2.1]
     exact hpush
    ·obtain rfl:i = m:=by omega
     have d3:decide ((i:Int) < (i:Int)) = false:=decide_eq_false (by omega)
     have HR:=Lib.hid (And.intro hL hM)
     clear hL hM
     go_wp2_with fail
     go_ret2
     refine ⟨HR.out.2,.inr ⟨HB.out.2.1,_,rfl,?_⟩⟩
     have hfin:=HR.out.1.in_ (F:=fun k=>w.heap.size ≤ k) (fun k hk=>(HR.out.1.lt k hk).1)
     rw [List.take_of_length_le (by omega)] at hfin
     exact hfin.turn (Mod.refl (fun _=>False) _) (fun _ _ _ h=>h) (fun _ h _=>h) (fun _ _ _ hx=>hx.turn (Mod.refl (fun _=>False) _) (fun _ _ _ h=>h) (fun _ hk _=>hk.1))
def d32:Dim:=⟨32,32,16,16,1024,256⟩
theorem d32_ok:d32.Ok:=⟨by decide,by decide,by decide,by decide,by decide,by decide,by decide⟩
def grey32:Pix:=blankPix d32 128
def frx32 (gy gu gv:Nat):FrX:=FrX.mk 32 32 (some ⟨gy,0,none⟩) 1024 1024 16 16 (some ⟨gu,0,none⟩) 256 256 16 16 (some ⟨gv,0,none⟩) 256 256 grey32.Y grey32.U grey32.V
def rungs15:List Rg:=[⟨[104,105],0,5,0⟩,⟨[108,111],1,20,0⟩]
theorem frx32_in {w:World} {gy gu gv:Nat} (hf:FrameAt w d32 gy gu gv grey32):(frx32 gy gu gv).In w:=
 ⟨blkIn hf.by_ hf.ly d32_ok.nyle,blkIn hf.bu hf.lu d32_ok.ncle,blkIn hf.bv hf.lv d32_ok.ncle,Nat.le_refl _,Nat.le_refl _,Nat.le_refl _,(by decide:1024 ≤ 9223372036854775807),(by decide:256 ≤ 9223372036854775807),(by decide:256 ≤ 9223372036854775807)⟩
theorem frs32 {w:World} {gy gu gv fb:Nat} (hf:FrameAt w d32 gy gu gv grey32) (hb:Blk w fb 58 #[.int .i64 32,.int .i64 32,.slice (some ⟨gy,0,none⟩) 1024 1024,.int .i64 16,.int .i64 16,.slice (some ⟨gu,0,none⟩) 256 256,.int .i64 16,.int .i64 16,.slice (some ⟨gv,0,none⟩) 256 256,.int .i64 32,.int .i64 32,.slice (some ⟨gy,0,none⟩) 1024 1024,.int .i64 16,.int .i64 16,.slice (some ⟨gu,0,none⟩) 256 256,.int .i64 16,.int .i64 16,.slice (some ⟨gv,0,none⟩) 256 256,.int .i64 32,.int .i64 32,.slice (some ⟨gy,0,none⟩) 1024 1024,.int .i64 16,.int .i64 16,.slice (some ⟨gu,0,none⟩) 256 256,.int .i64 16,.int .i64 16,.slice (some ⟨gv,0,none⟩) 256 256]):FrsIn w (some ⟨fb,0,none⟩) 3 [frx32 gy gu gv,frx32 gy gu gv,frx32 gy gu gv]:=by
 refine ⟨rfl,fun i hi=>⟨fb,0,rfl,hb.lt,fun j v hv=>?_,?_⟩⟩
 ·have h3:i = 0 ∨ i = 1 ∨ i = 2:=by omega
  have hj:j < 9:=(List.getElem?_eq_some_iff.1 hv).1
  have h9:j = 0 ∨ j = 1 ∨ j = 2 ∨ j = 3 ∨ j = 4 ∨ j = 5 ∨ j = 6 ∨ j = 7 ∨ j = 8:=by omega
  rcases h3 with rfl | rfl | rfl <;> rcases h9 with rfl | rfl | rfl | rfl | rfl | rfl | rfl | rfl | rfl <;> exact (hb.cell _).trans hv
 ·have h3:i = 0 ∨ i = 1 ∨ i = 2:=by omega
  rcases h3 with rfl | rfl | rfl <;> exact frx32_in hf
theorem rgs15 {w:World} {rb:Nat} (hb:Blk w rb 38 #[.string ⟨#[104,105]⟩,.int .i64 0,.int .i64 5,.int .i64 0,.string ⟨#[108,111]⟩,.int .i64 1,.int .i64 20,.int .i64 0]):RgsIn w (some ⟨rb,0,none⟩) 2 2 rungs15:=by
 refine ⟨rfl,Nat.le_refl _,fun i=>?_,fun i hi=>⟨rb,0,rfl,hb.lt,fun j v hv=>?_⟩⟩
 ·by_cases h:i < 2
  ·have h2:i = 0 ∨ i = 1:=by omega
   rcases h2 with rfl | rfl <;> decide
  ·rw [List.getD_eq_getElem?_getD,List.getElem?_eq_none (show rungs15.length ≤ i by show 2 ≤ i;omega)]
   decide
 ·have h2:i = 0 ∨ i = 1:=by omega
  have hj:j < 4:=(List.getElem?_eq_some_iff.1 hv).1
  have h4:j = 0 ∨ j = 1 ∨ j = 2 ∨ j = 3:=by omega
  rcases h2 with rfl | rfl <;> rcases h4 with rfl | rfl | rfl | rfl <;> exact (hb.cell _).trans hv
theorem rg1_in {w:World} {rb:Nat} (hb:Blk w rb 38 #[.string ⟨#[108,111]⟩,.int .i64 1,.int .i64 0,.int .i64 0]):RgsIn w (some ⟨rb,0,none⟩) 1 1 [⟨[108,111],1,0,0⟩]:=by
 refine ⟨rfl,Nat.le_refl _,fun i=>?_,fun i hi=>⟨rb,0,rfl,hb.lt,fun j v hv=>?_⟩⟩
 ·by_cases h:i = 0
  ·subst h;decide
  ·rw [List.getD_eq_getElem?_getD,List.getElem?_eq_none (show 1 ≤ i by omega)]
   decide
 ·obtain rfl:i = 0:=by omega
  have hj:j < 4:=(List.getElem?_eq_some_iff.1 hv).1
  have h4:j = 0 ∨ j = 1 ∨ j = 2 ∨ j = 3:=by omega
  rcases h4 with rfl | rfl | rfl | rfl <;> exact (hb.cell _).trans hv
theorem make32 (gy gu gv:Nat):makeB [frx32 gy gu gv,frx32 gy gu gv,frx32 gy gu gv] 2 rungs15 = true:=by kernel_rfl
theorem segs_see {fs:List FrX} (hl:fs.length = 3) (r:Rg):(madeX fs 2 r).segs.length = 2 ∧ ∃ s0 s1,(madeX fs 2 r).segs[0]? = some s0 ∧ (madeX fs 2 r).segs[1]? = some s1 ∧ s0.length = 2 ∧ s1.length = 1:=by
 unfold madeX segsOf
 dsimp only
 rw [List.length_map,List.length_range,List.length_map,hl]
 refine ⟨by decide,_,_,by rw [List.getElem?_map,List.getElem?_range (by decide)];rfl,by rw [List.getElem?_map,List.getElem?_range (by decide)];rfl,?_,?_⟩
 ·unfold segOf segLen
  rw [List.length_map,List.length_range,List.length_map,hl]
  decide
 ·unfold segOf segLen
  rw [List.length_map,List.length_range,List.length_map,hl]
  decide
theorem dim32 (gy gu gv:Nat):((dim0 [frx32 gy gu gv,frx32 gy gu gv,frx32 gy gu gv]).downs 1).W = 16 ∧ ((dim0 [frx32 gy gu gv,frx32 gy gu gv,frx32 gy gu gv]).downs 1).H = 16:=⟨by kernel_rfl,by kernel_rfl⟩
theorem mades_see {w:World} {F:Nat → Prop} {v:Value} {fs:List FrX} (hl:fs.length = 3) (hd:((dim0 fs).downs 1).W = 16 ∧ ((dim0 fs).downs 1).H = 16) (h:MadesIn w F v (rungs15.map (madeX fs 2))) :
  ∃ vb vo cp sb so c0 A1 c1 As cs Af cf,v = .slice (some ⟨vb,vo,none⟩) 2 cp ∧ 2 ≤ cp ∧ w.cell? ⟨vb,vo + 7,none⟩ = some (.slice (some ⟨sb,so,none⟩) 2 c0) ∧ w.cell? ⟨vb,vo + 8 + 7,none⟩ = some (.slice A1 2 c1) ∧
   w.cell? ⟨vb,vo + 8 + 4,none⟩ = some (.int .i64 16) ∧ w.cell? ⟨vb,vo + 8 + 5,none⟩ = some (.int .i64 16) ∧ w.cell? ⟨vb,vo + 8 + 6,none⟩ = some (.int .i64 2) ∧
   w.cell? ⟨sb,so,none⟩ = some (.slice As 2 cs) ∧ w.cell? ⟨sb,so + 2 + 1,none⟩ = some (.slice Af 1 cf):=by
 obtain ⟨vb,vo,cp,c0,hv,hcp,_,_,⟨sv0,hc0,hs0⟩,_,hx0⟩:=ListIn.at_ (i:=0) h rfl (by decide)
 obtain ⟨vb',vo',cp',c1,hv',_,_,_,⟨sv1,hc1,hs1⟩,_,hx1⟩:=ListIn.at_ (i:=1) h rfl (by decide)
 rw [hv] at hv'
 injection hv' with e1
 injection e1 with e1
 injection e1 with e1 e2
 subst e1 e2
 obtain ⟨l0,s0,s1,q0,q1,n0,n1⟩:=segs_see hl ⟨[104,105],0,5,0⟩
 obtain ⟨l1,_⟩:=segs_see hl ⟨[108,111],1,20,0⟩
 obtain ⟨sb,so,cap0,k0,hsv0,_,_,_,⟨sm0,fr0,hk0,hsm0,hfr0⟩,_,hy0⟩:=hs0.at_ (i:=0) q0 (by decide)
 obtain ⟨sb',so',cap1,k1,hsv1,_,_,_,⟨sm1,fr1,hk1,hsm1,hfr1⟩,_,hy1⟩:=hs0.at_ (i:=1) q1 (by decide)
 rw [hsv0] at hsv1
 injection hsv1 with e1
 injection e1 with e1
 injection e1 with e1 e2
 subst e1 e2
 obtain ⟨A1,ca1,hsv1',_⟩:=hs1.shape
 obtain ⟨As,ca,hsm,_⟩:=hsm0.shape
 obtain ⟨Af,cf,hfr,_⟩:=hfr1.shape
 rw [l0] at hsv0
 rw [l1] at hsv1'
 rw [List.length_map,n0] at hsm
 rw [List.length_map,n1] at hfr
 subst hc0 hc1 hk0 hk1 hsv0 hsv1' hsm hfr
 have z1:=hx0 7 _ rfl
 have z2:=hx1 7 _ rfl
 have z3:=hx1 4 _ rfl
 have z4:=hx1 5 _ rfl
 have z5:=hx1 6 _ rfl
 have z6:=hy0 0 _ rfl
 have z7:=hy1 1 _ rfl
 rw [show vo + 0 * 8 + 7 = vo + 7 by omega] at z1
 rw [show vo + 1 * 8 + 7 = vo + 8 + 7 by omega] at z2
 rw [show vo + 1 * 8 + 4 = vo + 8 + 4 by omega] at z3
 rw [show vo + 1 * 8 + 5 = vo + 8 + 5 by omega] at z4
 rw [show vo + 1 * 8 + 6 = vo + 8 + 6 by omega] at z5
 rw [show so + 0 * 2 + 0 = so by omega] at z6
 rw [show so + 1 * 2 + 1 = so + 2 + 1 by omega] at z7
 have w1:(((madeX fs 2 ⟨[108,111],1,20,0⟩).d.W:Nat):Int) = 16:=by show ((((dim0 fs).downs 1).W:Nat):Int) = 16;rw [hd.1];rfl
 have w2:(((madeX fs 2 ⟨[108,111],1,20,0⟩).d.H:Nat):Int) = 16:=by show ((((dim0 fs).downs 1).H:Nat):Int) = 16;rw [hd.2];rfl
 rw [w1] at z3
 rw [w2] at z4
 exact ⟨vb,vo,cp,sb,so,cap0,A1,ca1,As,ca,Af,cf,hv,hcp,z1,z2,z3,z4,z5,z6,z7⟩
theorem alive15 (w:World) (he:EnvP w):Calls Tryz.prog 12 #[] w fun e w'=>e = .returned (.bool true) ∧ Mod (fun _=>False) w w':=by
 have HE0:=Lib.hid he
 clear he
 go_enter Tryz.func12,Tryz.ntmps12
 go_wp2_with fail
 refine (pBlank _ d32 d32_ok 128).mono ?_
 rintro e w1 ⟨p,rfl,⟨gy,gu,gv,rfl,hf,_,_,_⟩,hm1⟩
 have hf':FrameAt w1 d32 gy gu gv grey32:=hf
 have H1:=Lib.hid (And.intro hf' hm1)
 clear hf hf' hm1
 unfold frameV d32
 go_upto_region 2 with (fail)
 have hb:=Blk.new w1 58 #[.int .i64 32,.int .i64 32,.slice (some ⟨gy,0,none⟩) 1024 1024,.int .i64 16,.int .i64 16,.slice (some ⟨gu,0,none⟩) 256 256,.int .i64 16,.int .i64 16,.slice (some ⟨gv,0,none⟩) 256 256]
 have hma:Mod (fun _=>False) w1 (w1.alloc (.cells #[.int .i64 32,.int .i64 32,.slice (some ⟨gy,0,none⟩) 1024 1024,.int .i64 16,.int .i64 16,.slice (some ⟨gu,0,none⟩) 256 256,.int .i64 16,.int .i64 16,.slice (some ⟨gv,0,none⟩) 256 256] 58)):=(Mod.refl _ w1).alloc _
 obtain ⟨fb,hfb⟩:∃ b,b = w1.heap.size:=⟨_,rfl⟩
 rw [← hfb] at hb ⊢
 clear hfb
 generalize w1.alloc (.cells #[.int .i64 32,.int .i64 32,.slice (some ⟨gy,0,none⟩) 1024 1024,.int .i64 16,.int .i64 16,.slice (some ⟨gu,0,none⟩) 256 256,.int .i64 16,.int .i64 16,.slice (some ⟨gv,0,none⟩) 256 256] 58) = w2 at hb hma ⊢
 obtain ⟨fc,ff⟩:=hb.both
 have fl:=hb.lt
 have H2:=Lib.hid (And.intro (H1.out.1.quiet hma) (H1.out.2.trans hma))
 clear hb hma H1
 go_wp2_with fail
 have hb3:=Blk.new w2 58 #[.int .i64 32,.int .i64 32,.slice (some ⟨gy,0,none⟩) 1024 1024,.int .i64 16,.int .i64 16,.slice (some ⟨gu,0,none⟩) 256 256,.int .i64 16,.int .i64 16,.slice (some ⟨gv,0,none⟩) 256 256,.int .i64 32,.int .i64 32,.slice (some ⟨gy,0,none⟩) 1024 1024,.int .i64 16,.int .i64 16,.slice (some ⟨gu,0,none⟩) 256 256,.int .i64 16,.int .i64 16,.slice (some ⟨gv,0,none⟩) 256 256,.int .i64 32,.int .i64 32,.slice (some ⟨gy,0,none⟩) 1024 1024,.int .i64 16,.int .i64 16,.slice (some ⟨gu,0,none⟩) 256 256,.int .i64 16,.int .i64 16,.slice (some ⟨gv,0,none⟩) 256 256]
 have hm3:Mod (fun _=>False) w2 (w2.alloc (.cells #[.int .i64 32,.int .i64 32,.slice (some ⟨gy,0,none⟩) 1024 1024,.int .i64 16,.int .i64 16,.slice (some ⟨gu,0,none⟩) 256 256,.int .i64 16,.int .i64 16,.slice (some ⟨gv,0,none⟩) 256 256,.int .i64 32,.int .i64 32,.slice (some ⟨gy,0,none⟩) 1024 1024,.int .i64 16,.int .i64 16,.slice (some ⟨gu,0,none⟩) 256 256,.int .i64 16,.int .i64 16,.slice (some ⟨gv,0,none⟩) 256 256,.int .i64 32,.int .i64 32,.slice (some ⟨gy,0,none⟩) 1024 1024,.int .i64 16,.int .i64 16,.slice (some ⟨gu,0,none⟩) 256 256,.int .i64 16,.int .i64 16,.slice (some ⟨gv,0,none⟩) 256 256] 58)):=(Mod.refl _ w2).alloc _
 have hb4:=Blk.new (w2.alloc (.cells #[.int .i64 32,.int .i64 32,.slice (some ⟨gy,0,none⟩) 1024 1024,.int .i64 16,.int .i64 16,.slice (some ⟨gu,0,none⟩) 256 256,.int .i64 16,.int .i64 16,.slice (some ⟨gv,0,none⟩) 256 256,.int .i64 32,.int .i64 32,.slice (some ⟨gy,0,none⟩) 1024 1024,.int .i64 16,.int .i64 16,.slice (some ⟨gu,0,none⟩) 256 256,.int .i64 16,.int .i64 16,.slice (some ⟨gv,0,none⟩) 256 256,.int .i64 32,.int .i64 32,.slice (some ⟨gy,0,none⟩) 1024 1024,.int .i64 16,.int .i64 16,.slice (some ⟨gu,0,none⟩) 256 256,.int .i64 16,.int .i64 16,.slice (some ⟨gv,0,none⟩) 256 256] 58)) 38 #[.string ⟨#[104,105]⟩,.int .i64 0,.int .i64 5,.int .i64 0,.string ⟨#[108,111]⟩,.int .i64 1,.int .i64 20,.int .i64 0]
 have hm4:Mod (fun _=>False) (w2.alloc (.cells #[.int .i64 32,.int .i64 32,.slice (some ⟨gy,0,none⟩) 1024 1024,.int .i64 16,.int .i64 16,.slice (some ⟨gu,0,none⟩) 256 256,.int .i64 16,.int .i64 16,.slice (some ⟨gv,0,none⟩) 256 256,.int .i64 32,.int .i64 32,.slice (some ⟨gy,0,none⟩) 1024 1024,.int .i64 16,.int .i64 16,.slice (some ⟨gu,0,none⟩) 256 256,.int .i64 16,.int .i64 16,.slice (some ⟨gv,0,none⟩) 256 256,.int .i64 32,.int .i64 32,.slice (some ⟨gy,0,none⟩) 1024 1024,.int .i64 16,.int .i64 16,.slice (some ⟨gu,0,none⟩) 256 256,.int .i64 16,.int .i64 16,.slice (some ⟨gv,0,none⟩) 256 256] 58)) ((w2.alloc (.cells #[.int .i64 32,.int .i64 32,.slice (some ⟨gy,0,none⟩) 1024 1024,.int .i64 16,.int .i64 16,.slice (some ⟨gu,0,none⟩) 256 256,.int .i64 16,.int .i64 16,.slice (some ⟨gv,0,none⟩) 256 256,.int .i64 32,.int .i64 32,.slice (some ⟨gy,0,none⟩) 1024 1024,.int .i64 16,.int .i64 16,.slice (some ⟨gu,0,none⟩) 256 256,.int .i64 16,.int .i64 16,.slice (some ⟨gv,0,none⟩) 256 256,.int .i64 32,.int .i64 32,.slice (some ⟨gy,0,none⟩) 1024 1024,.int .i64 16,.int .i64 16,.slice (some ⟨gu,0,none⟩) 256 256,.int .i64 16,.int .i64 16,.slice (some ⟨gv,0,none⟩) 256 256] 58)).alloc (.cells #[.string ⟨#[104,105]⟩,.int .i64 0,.int .i64 5,.int .i64 0,.string ⟨#[108,111]⟩,.int .i64 1,.int .i64 20,.int .i64 0] 38)):=(Mod.refl _ _).alloc _
 have hM:=H2.out.2.trans (hm3.trans hm4)
 rw [World.size_alloc] at hb4
 refine (lMake _ (HE0.out.quiet hM) (some ⟨w2.heap.size,0,none⟩) 3 3 [frx32 gy gu gv,frx32 gy gu gv,frx32 gy gu gv] (frs32 (H2.out.1.quiet (hm3.trans hm4)) (hb3.keep hm4 (fun h=>h))) (Nat.le_refl _) (by decide) 2 (some ⟨w2.heap.size + 1,0,none⟩) 2 2 rungs15 (rgs15 hb4) (by decide) (show (32:Int) ≤ 64 by decide) (show (32:Int) ≤ 64 by decide)).mono ?_
 rintro e w5 ⟨hm5,⟨h,_⟩ | ⟨_,v,rfl,hmd⟩⟩
 ·exact absurd (h.symm.trans (make32 gy gu gv)) (by decide)
 obtain ⟨vb,vo,cp,sb,so,c0,A1,c1,As,cs,Af,cf,rfl,hcp,z1,z2,z3,z4,z5,z6,z7⟩:=mades_see rfl (dim32 gy gu gv) hmd
 have H5:=Lib.hid (hM.trans hm5)
 clear hb3 hm3 hb4 hm4 hM hm5 hmd fc ff fl H2
 go_wp2_with fail
 have hb6:=Blk.new w5 38 #[.string ⟨#[108,111]⟩,.int .i64 1,.int .i64 0,.int .i64 0]
 have hm6:Mod (fun _=>False) w5 (w5.alloc (.cells #[.string ⟨#[108,111]⟩,.int .i64 1,.int .i64 0,.int .i64 0] 38)):=(Mod.refl _ w5).alloc _
 refine (lCheck _ 48 48 2 (some ⟨w5.heap.size,0,none⟩) 1 1 [⟨[108,111],1,0,0⟩] (rg1_in hb6) (by decide) ⟨by decide,by decide⟩ ⟨by decide,by decide⟩).mono ?_
 rintro e w7 ⟨rfl,hm7⟩
 have hE:ladderE 48 48 2 [⟨[108,111],1,0,0⟩] = 151:=by kernel_rfl
 rw [hE]
 have H7:=Lib.hid (H5.out.trans (hm6.trans hm7))
 clear hE hb6 hm6 hm7 z1 z2 z3 z4 z5 z6 z7
 go_wp2_with fail
 go_ret
 exact ⟨rfl,H7.out⟩
end Go.Proofs.YthednemlahioeaaGreatDoor

