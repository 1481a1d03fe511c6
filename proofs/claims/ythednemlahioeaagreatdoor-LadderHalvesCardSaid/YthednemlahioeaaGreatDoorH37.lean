/-
  ladder.makeOne: the rendition of one rung.
-/
import Derived.Test.YthednemlahioeaaGreatDoorH35
import Derived.Test.YthednemlahioeaaGreatDoorH31
import Derived.Test.YthednemlahioeaaGreatDoorH36
import Derived.Test.YthednemlahioeaaGreatDoorH23
namespace Go.Proofs.YthednemlahioeaaGreatDoor
open Go.RowKit Go.Shelf
set_option maxRecDepth 100000
set_option maxHeartbeats 8000000
attribute [local go_sem] Oper.semAt_some
def onlyN (Q:Exit → Act → World → Prop):Exit → Act → World → Prop
 | .normal,a,w=>Q .normal a w
 | _,_,_=>False
theorem wp_region_planN {P:Program} {ops:Array Oper} {Q:Exit → Act → World → Prop} {id:Nat} {a:Act} {w:World} (loud pure_:List Nat) (is:PTree) (S:World → Prop) (hm:P.follows .mixedOrders = true) (hB:planFB ops loud pure_ is = true)
  (hS:S w.drew) (h:PlanF P ops loud pure_ S (onlyN Q) is a w.drew):(Code.region id ops true).wp P Q a w:=
 Go.wp_mono (wp_region_planF loud pure_ is S hm hB (fun _ _ _ _ _ h=>h) hS h) (fun e _ _ h=>by cases e <;> first | exact h | exact h.elim)
def MkC1 (B:Nat) (w:World) (d:Dim) (G:Nat) (rc zm:Array Value) (v8:Value) (wx:World):Prop:=
 ∃ sb,v8 = .pointer (some ⟨sb,0,none⟩) ∧ Sat (fun _=>False) w wx [⟨sb,40,#[.int .i64 (d.W:Int),.int .i64 (d.H:Int),.int .i64 (G:Int)]⟩,⟨B + 1 + 1,26,#[.int .i64 0]⟩,⟨B + 1,43,zm⟩,⟨B,38,rc⟩] []
structure MkS1 (w':World) (b o rb:Nat) (W0 H0:Int) (rc:Array Value):Prop where
 c0:w'.cell? ⟨b,o,none⟩ = some (.int .i64 W0)
 c1:w'.cell? ⟨b,o + 1,none⟩ = some (.int .i64 H0)
 rg:Blk w' rb 38 rc
 lb:b < w'.heap.size
theorem MkS1.quiet {w w':World} {b o rb:Nat} {W0 H0:Int} {rc:Array Value} (h:MkS1 w b o rb W0 H0 rc) (hm:Mod (fun _=>False) w w'):MkS1 w' b o rb W0 H0 rc:=
 ⟨(World.cell?_of_block (hm.block b h.lb (fun h=>h))).trans h.c0,(World.cell?_of_block (hm.block b h.lb (fun h=>h))).trans h.c1,h.rg.keep hm (fun h=>h),Nat.lt_of_lt_of_le h.lb hm.size⟩
theorem mkNew (w:World) (d:Dim) (G q tg:Nat) (hs:seqRight (d.W:Int) (d.H:Int) (G:Int) = true) (hq:q ≤ 31) (ht:tg ≤ 1048576) :
  Calls Tryz.prog 95 #[.agg #[.int .i64 (d.W:Int),.int .i64 (d.H:Int),.int .i64 (G:Int)],.int .i64 (q:Int),.int .i64 (tg:Int)] w fun e w'=>∃ g,e = .returned (.tuple #[.pointer (some ⟨g,0,none⟩),.int .i64 0]) ∧ (∀ ahd,EncAt w' g d G q tg 0 ahd) ∧ w.heap.size ≤ g ∧ Mod (fun _=>False) w w':=by
 refine (encNew w (d.W:Int) (d.H:Int) (G:Int) (q:Int) (tg:Int)).mono ?_
 rintro e w' ⟨hm,⟨h,_⟩ | ⟨_,h,_⟩ | ⟨g,_,_,rfl,hb,hg⟩⟩
 ·exact absurd (h.symm.trans hs) (by decide)
 ·exact absurd (h.symm.trans (show encArgs (q:Int) (tg:Int) = true by unfold encArgs;exact decide_eq_true (by omega))) (by decide)
 ·exact ⟨g,rfl,fun _=>⟨zeroFr,hb,.inl ⟨rfl,rfl⟩⟩,hg,hm⟩
theorem lMakeOne (w:World) (he:EnvP w) (b o n c:Nat) (fs:List FrX) (hin:FrsIn w (some ⟨b,o,none⟩) n fs) (hn:1 ≤ n ∧ n ≤ 1024) (hnc:n ≤ c) (hc:c ≤ 9223372036854775807)
  (G:Nat) (hG:1 ≤ G ∧ G ≤ 64) (nm:List UInt8) (dn q tg:Nat) (hdn:dn ≤ 3) (hq:q ≤ 31) (ht:tg ≤ 1048576)
  (d0 d:Dim) (hd0:∀ m,m ≤ dn → (d0.downs m).Ok) (hdd:∀ m,m < dn → (d0.downs m).W % 32 = 0 ∧ (d0.downs m).H % 32 = 0) (hd:d = d0.downs dn) (hsr:seqRight (d.W:Int) (d.H:Int) (G:Int) = true) (hW:d.W ≤ 64) (hH:d.H ≤ 64)
  (hgood:∀ i,i < n → (fs.getD i FrX.zero).goodB d0 = true) :
  Calls Tryz.prog 54 #[.slice (some ⟨b,o,none⟩) n c,.int .i64 (G:Int),.agg #[.string (strOf nm),.int .i64 (dn:Int),.int .i64 (q:Int),.int .i64 (tg:Int)]] w fun e w'=>∃ cells:List Value,e = .returned (.tuple #[.agg cells.toArray,.int .i64 0]) ∧ MadeR w' (fun k=>w.heap.size ≤ k) ⟨⟨nm,(dn:Int),(q:Int),(tg:Int)⟩,(G:Int),d,segsOf d G tg q (fs.map fun f=>downsPix d0 f.pix dn)⟩ cells ∧ cells.length = 8 ∧ Mod (fun _=>False) w w':=by
 obtain ⟨W0,hW0⟩:∃ x,x = (fs.getD 0 FrX.zero).W0:=⟨_,rfl⟩
 obtain ⟨H0,hH0⟩:∃ x,x = (fs.getD 0 FrX.zero).H0:=⟨_,rfl⟩
 have hg0:=hgood 0 (by omega)
 have hS1:W0 = (d0.W:Int) ∧ H0 = (d0.H:Int):=by
  unfold FrX.goodB at hg0
  rw [Bool.and_eq_true,Bool.and_eq_true,decide_eq_true_eq,decide_eq_true_eq] at hg0
  exact ⟨hW0.trans hg0.2.1,hH0.trans hg0.2.2⟩
 obtain ⟨b',o',hA',hlb,hcells,_⟩:=hin.at_ 0 (by omega)
 injection hA' with hA'
 injection hA' with e1' e2'
 subst e1' e2'
 have c0:w.cell? ⟨b,o,none⟩ = some (.int .i64 W0):=by have:=hcells 0 _ rfl;rw [hW0];simpa using this
 have c1:w.cell? ⟨b,o + 1,none⟩ = some (.int .i64 H0):=by have:=hcells 1 _ rfl;rw [hH0];simpa using this
 have hdk:d0.Ok:=hd0 0 (Nat.zero_le _)
 have hls:∀ w:World,Calls Tryz.prog 92 #[.int .i64 W0,.int .i64 H0,.int .i64 (G:Int),.int .i64 (dn:Int)] w fun e w'=>e = .returned (.agg #[.int .i64 (d.W:Int),.int .i64 (d.H:Int),.int .i64 (G:Int)]) ∧ Mod (fun _=>False) w w':=fun w=>by
  obtain ⟨_,_,z1,_,z2,_⟩:=area_le hdk.sides
  obtain ⟨x1,x2⟩:=halved_down d0 ⟨by have:=hdk.w2;omega,by have:=hdk.h2;omega⟩ dn
  have:=lSequence w W0 H0 (G:Int) (dn:Int) ⟨by omega,by omega⟩ ⟨by have:=hS1.1;omega,by have:=hS1.1;omega⟩ ⟨by have:=hS1.2;omega,by have:=hS1.2;omega⟩
  unfold seqV at this
  rw [hS1.1,hS1.2,x1,x2,← hd] at this
  rw [hS1.1,hS1.2]
  exact this
 have LS:=Lib.hid hls
 have h0:=(((Sat.nil (fun _=>False) w).alloc 38 #[.string (strOf nm),.int .i64 (dn:Int),.int .i64 (q:Int),.int .i64 (tg:Int)] rfl).alloc (g:=w.heap.size + 1) 43 #[.string ⟨#[]⟩,.int .i64 0,.int .i64 0,.int .i64 0,.int .i64 0,.int .i64 0,.int .i64 0,.slice none 0 0] (by simp)).alloc (g:=w.heap.size + 1 + 1) 26 #[.int .i64 0] (by simp)
 have hs1:MkS1 w b o 0 W0 H0 #[] → True:=fun _=>trivial
 have H0':=Lib.hid (And.intro h0 (And.intro hin (And.intro he (And.intro hgood (And.intro hd0 (And.intro hdd hd))))))
 have HC:=Lib.hid (And.intro c0 (And.intro c1 hlb))
 have hn0:0 < n:=by omega
 have HSR:=Lib.hid hsr
 obtain ⟨fsP,hfsP⟩:∃ l,l = fs.map fun f=>downsPix d0 f.pix dn:=⟨_,rfl⟩
 have hfl:fsP.length = n:=by rw [hfsP,List.length_map];exact hin.len
 rw [← hfsP]
 have HFP:=Lib.hid hfsP
 clear hfsP
 clear h0 hin he hgood hd0 hdd hd hls hcells c0 c1 hlb hg0 hW0 hH0 hs1 hdk hsr hS1
 refine (callsIn_wide (n:=4)).1 ?_
 refine callsIn_of_wp_marks Tryz.func54 rfl trivial ?_ rfl
 simp only [Tryz.ntmps54,List.size_toArray,List.length_cons,List.length_nil,Nat.reduceAdd,Nat.reduceSub,Array.replicate_succ,Array.replicate_zero,List.push_toArray,List.append_toArray,List.nil_append,List.cons_append]
 refine wpIn_wide.2 ?_
 go_upto_region 1 with (fail)
 go_cut [8] from 19 to 32 (fun v8 wx=>MkC1 w.heap.size w d G #[.string (strOf nm),.int .i64 (dn:Int),.int .i64 (q:Int),.int .i64 (tg:Int)] #[.string ⟨#[]⟩,.int .i64 0,.int .i64 0,.int .i64 0,.int .i64 0,.int .i64 0,.int .i64 0,.slice none 0 0] v8 wx)
 case first=>
  have hpl:MkS1 (((w.alloc (.cells #[.string (strOf nm),.int .i64 (dn:Int),.int .i64 (q:Int),.int .i64 (tg:Int)] 38)).alloc (.cells #[.string ⟨#[]⟩,.int .i64 0,.int .i64 0,.int .i64 0,.int .i64 0,.int .i64 0,.int .i64 0,.slice none 0 0] 43)).alloc (.cells #[.int .i64 0] 26)) b o w.heap.size W0 H0 #[.string (strOf nm),.int .i64 (dn:Int),.int .i64 (q:Int),.int .i64 (tg:Int)]:=by
   have hq:=H0'.out.1.own_ 2 rfl
   dsimp only at hq
   have hm:=H0'.out.1.mod
   exact ⟨(World.cell?_of_block (hm.block b HC.out.2.2 (fun h=>h))).trans HC.out.1,(World.cell?_of_block (hm.block b HC.out.2.2 (fun h=>h))).trans HC.out.2.1,hq,Nat.lt_of_lt_of_le HC.out.2.2 hm.size⟩
  have hs3:=H0'.out.1
  have HS3:=Lib.hid hs3
  have HPL:=Lib.hid hpl
  clear hpl hs3
  generalize (((w.alloc (.cells #[.string (strOf nm),.int .i64 (dn:Int),.int .i64 (q:Int),.int .i64 (tg:Int)] 38)).alloc (.cells #[.string ⟨#[]⟩,.int .i64 0,.int .i64 0,.int .i64 0,.int .i64 0,.int .i64 0,.int .i64 0,.slice none 0 0] 43)).alloc (.cells #[.int .i64 0] 26)) = w3 at HS3 HPL ⊢
  refine wp_region_planN [13,14,15] [0,1,2,3,4,5,6,7,8,9,10,11,12] (PTree.after [0,1,2,3,4,5,6,7,8,9,10,11,12] (.fork 13 14 (.seq 14 (.seq 15 .nil)) (.seq 13 (.seq 15 .nil)))) (fun w'=>MkS1 w' b o w.heap.size W0 H0 #[.string (strOf nm),.int .i64 (dn:Int),.int .i64 (q:Int),.int .i64 (tg:Int)]) (by kernel_rfl) (by kernel_rfl) (HPL.out.quiet ((Mod.refl _ _).drew)) ?_
  refine planF_read (v:=.slice (some ⟨b,o,none⟩) n c) rfl rfl rfl (fun _ _=>rfl) (fun K hK=>?_);go_simp;refine hK _ ?_;clear hK K
  refine planF_read (v:=.pointer (some ⟨b,o,none⟩)) rfl rfl rfl (fun w' _=>by go_simp) (fun K hK=>?_);go_simp;refine hK _ ?_;clear hK K
  refine planF_read (v:=.pointer (some ⟨b,o,none⟩)) rfl rfl rfl (fun _ _=>rfl) (fun K hK=>?_);go_simp;refine hK _ ?_;clear hK K
  refine planF_read (v:=.pointer (some ⟨b,o,none⟩)) rfl rfl rfl (fun _ _=>rfl) (fun K hK=>?_);go_simp;refine hK _ ?_;clear hK K
  refine planF_one rfl rfl _ _ rfl rfl b o rfl (.int .i64 W0) _ (fun w' hS=>hS.c0) Tryz.underlying3 rfl (fun K hK=>?_);go_simp;refine hK _ ?_;clear hK K
  refine planF_read (v:=.slice (some ⟨b,o,none⟩) n c) rfl rfl rfl (fun _ _=>rfl) (fun K hK=>?_);go_simp;refine hK _ ?_;clear hK K
  refine planF_read (v:=.pointer (some ⟨b,o,none⟩)) rfl rfl rfl (fun w' _=>by go_simp) (fun K hK=>?_);go_simp;refine hK _ ?_;clear hK K
  refine planF_read (v:=.pointer (some ⟨b,o,none⟩)) rfl rfl rfl (fun _ _=>rfl) (fun K hK=>?_);go_simp;refine hK _ ?_;clear hK K
  refine planF_read (v:=.pointer (some ⟨b,o + 1,none⟩)) rfl rfl rfl (fun _ _=>rfl) (fun K hK=>?_);go_simp;refine hK _ ?_;clear hK K
  refine planF_one rfl rfl _ _ rfl rfl b (o + 1) rfl (.int .i64 H0) _ (fun w' hS=>hS.c1) Tryz.underlying3 rfl (fun K hK=>?_);go_simp;refine hK _ ?_;clear hK K
  refine planF_read (v:=.int .i64 (G:Int)) rfl rfl rfl (fun _ _=>rfl) (fun K hK=>?_);go_simp;refine hK _ ?_;clear hK K
  refine planF_read (v:=.pointer (some ⟨w.heap.size,1,none⟩)) rfl rfl rfl (fun _ _=>rfl) (fun K hK=>?_);go_simp;refine hK _ ?_;clear hK K
  refine planF_one rfl rfl _ _ rfl rfl w.heap.size 1 rfl (.int .i64 (dn:Int)) _ (fun w' hS=>hS.rg.cell 1) Tryz.underlying3 rfl (fun K hK=>?_);go_simp;refine hK _ ?_;clear hK K
  have HS3:=Lib.hid (HS3.out.drew)
  have HPL:=Lib.hid (HPL.out.quiet ((Mod.refl (fun _=>False) w3).drew))
  generalize w3.drew = w3 at HS3 HPL ⊢
  refine planF_fork rfl rfl (fun K hK=>?_) (fun K hK=>?_)
  ·go_simp
   refine (LS.out w3).mono ?_
   rintro e w4 ⟨rfl,hm4⟩
   have HS4:=Lib.hid (HS3.out.quiet hm4)
   have HPL4:=Lib.hid (HPL.out.quiet hm4)
   clear hm4
   dsimp only []
   refine hK _ _ HPL4.out ?_
   clear hK K
   refine planF_loud rfl rfl (fun K hK=>?_)
   go_simp
   have HS5:=Lib.hid (HS4.out.alloc (g:=w4.heap.size) 40 #[.int .i64 0,.int .i64 0,.int .i64 0] rfl)
   have HPL5:=Lib.hid (HPL4.out.quiet ((Mod.refl (fun _=>False) w4).alloc (.cells #[.int .i64 0,.int .i64 0,.int .i64 0] 40)))
   obtain ⟨sb,esb⟩:∃ q,q = w4.heap.size:=⟨_,rfl⟩
   rw [← esb] at HS5 ⊢
   clear esb
   generalize w4.alloc (.cells #[.int .i64 0,.int .i64 0,.int .i64 0] 40) = w5 at *
   refine hK _ _ HPL5.out ?_
   clear hK K
   refine planF_last rfl rfl (fun K hK=>?_)
   rw [if_pos (by rfl)]
   have hsb:=HS5.out.own_ 0 rfl
   dsimp only at hsb
   refine wp_store_row 40 (.tmp 8) (.tmp 32) rfl sb [.int .i64 (d.W:Int),.int .i64 (d.H:Int),.int .i64 (G:Int)] rfl rfl 40 [.int .i64 0,.int .i64 0,.int .i64 0] hsb rfl (by kernel_rfl) (by kernel_rfl) (fun w11 hb11 hm11=>?_)
   go_simp
   refine hK _ _ ?_
   clear hK K
   refine planF_done ?_
   unfold onlyN
   have HF:=Lib.hid (HS5.out.turn hm11 hb11 .here)
   clear hb11 hm11 hsb
   go_wp2_with fail
   go_meet
   exact ⟨sb,rfl,HF.out⟩
  ·go_simp
   have HS4:=Lib.hid (HS3.out.alloc (g:=w3.heap.size) 40 #[.int .i64 0,.int .i64 0,.int .i64 0] rfl)
   have HPL4:=Lib.hid (HPL.out.quiet ((Mod.refl (fun _=>False) w3).alloc (.cells #[.int .i64 0,.int .i64 0,.int .i64 0] 40)))
   obtain ⟨sb,esb⟩:∃ q,q = w3.heap.size:=⟨_,rfl⟩
   rw [← esb] at HS4 ⊢
   clear esb
   generalize w3.alloc (.cells #[.int .i64 0,.int .i64 0,.int .i64 0] 40) = w4 at *
   refine hK _ _ HPL4.out ?_
   clear hK K
   refine planF_loud rfl rfl (fun K hK=>?_)
   go_simp
   refine (LS.out w4).mono ?_
   rintro e w5 ⟨rfl,hm5⟩
   have HS5:=Lib.hid (HS4.out.quiet hm5)
   have HPL5:=Lib.hid (HPL4.out.quiet hm5)
   clear hm5
   dsimp only []
   refine hK _ _ HPL5.out ?_
   clear hK K
   refine planF_last rfl rfl (fun K hK=>?_)
   rw [if_pos (by rfl)]
   have hsb:=HS5.out.own_ 0 rfl
   dsimp only at hsb
   refine wp_store_row 40 (.tmp 8) (.tmp 32) rfl sb [.int .i64 (d.W:Int),.int .i64 (d.H:Int),.int .i64 (G:Int)] rfl rfl 40 [.int .i64 0,.int .i64 0,.int .i64 0] hsb rfl (by kernel_rfl) (by kernel_rfl) (fun w11 hb11 hm11=>?_)
   go_simp
   refine hK _ _ ?_
   clear hK K
   refine planF_done ?_
   unfold onlyN
   have HF:=Lib.hid (HS5.out.turn hm11 hb11 .here)
   clear hb11 hm11 hsb
   go_wp2_with fail
   go_meet
   exact ⟨sb,rfl,HF.out⟩
 case rest=>
  obtain ⟨sb,rfl,hs4⟩:=hcut
  rename World=>w4
  have hsb:=hs4.own_ 0 rfl
  have hrb:=hs4.own_ 3 rfl
  dsimp only at hsb hrb
  obtain ⟨sc,sf⟩:=hsb.both
  obtain ⟨rc,rf⟩:=hrb.both
  have HS4:=Lib.hid hs4
  clear hs4 hsb hrb
  go_wp2_with fail
  refine (mkNew _ d G q tg HSR.out hq ht).mono ?_
  rintro e w5 ⟨g,rfl,hE,hg,hm5⟩
  have hs5:=HS4.out.quiet hm5
  clear sc sf rc rf
  have hsb:=hs5.own_ 0 rfl
  have hrb:=hs5.own_ 3 rfl
  dsimp only at hsb hrb
  obtain ⟨sc,sf⟩:=hsb.both
  obtain ⟨rc,rf⟩:=hrb.both
  have sl:=hsb.lt
  have rl:=hrb.lt
  have HS5:=Lib.hid (And.intro hs5 (And.intro hE hg))
  clear hs5 hsb hrb hE hg hm5
  go_wp2_with fail
  refine (lSegments _ (some ⟨b,o,none⟩) n c (G:Int)).mono ?_
  rintro e w6 ⟨rfl,rfl⟩
  clear sc sf rc rf sl rl
  go_wp2_with fail
  have hz:=HS5.out.1
  have hs6:=((((hz.alloc (g:=w5.heap.size) 186 #[.pointer (some ⟨g,0,none⟩)] rfl).alloc (g:=w5.heap.size + 1) 26 #[.int .i64 0] (by simp)).alloc (g:=w5.heap.size + 1 + 1) 43 #[.string (strOf nm),.int .i64 (dn:Int),.int .i64 (q:Int),.int .i64 (tg:Int),.int .i64 (d.W:Int),.int .i64 (d.H:Int),.int .i64 (G:Int),.slice none 0 0] (by simp)).alloc (g:=w5.heap.size + 1 + 1 + 1) 29 #[.slice (some ⟨b,o,none⟩) n c] (by simp)).alloc (g:=w5.heap.size + 1 + 1 + 1 + 1) 3 #[.int .i64 (G:Int)] (by simp)
  have hm6:Mod (fun _=>False) w5 (((((w5.alloc (.cells #[.pointer (some ⟨g,0,none⟩)] 186)).alloc (.cells #[.int .i64 0] 26)).alloc (.cells #[.string (strOf nm),.int .i64 (dn:Int),.int .i64 (q:Int),.int .i64 (tg:Int),.int .i64 (d.W:Int),.int .i64 (d.H:Int),.int .i64 (G:Int),.slice none 0 0] 43)).alloc (.cells #[.slice (some ⟨b,o,none⟩) n c] 29)).alloc (.cells #[.int .i64 (G:Int)] 3)):=(((((Mod.refl _ w5).alloc _).alloc _).alloc _).alloc _).alloc _
  have hz6:(((((w5.alloc (.cells #[.pointer (some ⟨g,0,none⟩)] 186)).alloc (.cells #[.int .i64 0] 26)).alloc (.cells #[.string (strOf nm),.int .i64 (dn:Int),.int .i64 (q:Int),.int .i64 (tg:Int),.int .i64 (d.W:Int),.int .i64 (d.H:Int),.int .i64 (G:Int),.slice none 0 0] 43)).alloc (.cells #[.slice (some ⟨b,o,none⟩) n c] 29)).alloc (.cells #[.int .i64 (G:Int)] 3)).heap.size = w5.heap.size + 5:=by simp only [World.size_alloc]
  refine (wpIn_wide (n:=4)).1 ?_
  clear hz
  generalize (((((w5.alloc (.cells #[.pointer (some ⟨g,0,none⟩)] 186)).alloc (.cells #[.int .i64 0] 26)).alloc (.cells #[.string (strOf nm),.int .i64 (dn:Int),.int .i64 (q:Int),.int .i64 (tg:Int),.int .i64 (d.W:Int),.int .i64 (d.H:Int),.int .i64 (G:Int),.slice none 0 0] 43)).alloc (.cells #[.slice (some ⟨b,o,none⟩) n c] 29)).alloc (.cells #[.int .i64 (G:Int)] 3)) = w6 at hs6 hm6 hz6 ⊢
  obtain ⟨p,hp⟩:∃ p:MkP,p = ⟨⟨nm,(dn:Int),(q:Int),(tg:Int)⟩,G,tg,d,w.heap.size,w.heap.size + 1,w.heap.size + 1 + 1,w5.heap.size,w5.heap.size + 1,w5.heap.size + 1 + 1,g,w5.heap.size + 1 + 1 + 1,w5.heap.size + 1 + 1 + 1 + 1,w6.heap.size⟩:=⟨_,rfl⟩
  have hI0:MkI w p fsP q 0 w6:=by
   have b0:=hs6.own_ 8 rfl
   have b1:=hs6.own_ 7 rfl
   have b2:=hs6.own_ 6 rfl
   have b3:=hs6.own_ 4 rfl
   have b4:=hs6.own_ 3 rfl
   have b5:=hs6.own_ 2 rfl
   have b6:=hs6.own_ 1 rfl
   dsimp only at b0 b1 b2 b3 b4 b5 b6
   have e4:=(HS4.out.own_ 1 rfl).lt
   dsimp only at e4
   have eg:=(HS5.out.2.1 noPix).lt
   have hgw:=HS5.out.2.2
   have hw4:=HS4.out.mod.size
   subst hp
   refine ⟨⟨.slice none 0 0,b0,b1,b2,b3,b5,.nil _ _,fun k hk=>by simp [Value.ownBlock] at hk,⟨?_,?_,?_,?_,?_,?_⟩,⟨Nat.le_refl _,Nat.le_refl _⟩⟩,b4,?_,⟨_,b6⟩,hs6.mod⟩
   ·dsimp only;omega
   ·dsimp only;omega
   ·dsimp only;omega
   ·dsimp only;omega
   ·dsimp only;omega
   ·dsimp only;omega
   ·rw [Nat.zero_mul,Nat.zero_min]
    exact (HS5.out.2.1 noPix).quiet hm6
  have hcb:=hs6.own_ 1 rfl
  have hgp:=hs6.own_ 0 rfl
  dsimp only at hcb hgp
  have HP:=Lib.hid hp
  have hL:p.L = w6.heap.size:=by rw [hp]
  have hpc:p.cb = w5.heap.size + 1 + 1 + 1:=by rw [hp]
  have hpg:p.gpb = w5.heap.size + 1 + 1 + 1 + 1:=by rw [hp]
  have hI:=MkI.turn (p:=p) (fsP:=fsP) (q0:=q) (B:=w6.heap.size) hs6.mod.size
  have HI:=Lib.hid hI
  have hsg:=segIter (E:=fun _=>True) 3 (by decide) w6 b o n c G (w5.heap.size + 1 + 1 + 1) (w5.heap.size + 1 + 1 + 1 + 1) hG hnc hc hcb hgp (by omega)
  have HSG:=Lib.hid (And.intro hsg (And.intro hI0 hs6.mod.size))
  clear hsg hI0 hI hcb hgp hp hs6 hm6
  refine wpIn_rangeD (α:=Nat) (E:=fun _=>True) (n:=4) (by decide) (gf:=148) (lb:=#[.pointer (some ⟨w5.heap.size + 1 + 1 + 1,0,none⟩),.pointer (some ⟨w5.heap.size + 1 + 1 + 1 + 1,0,none⟩)]) rfl (enters_of Tryz.func148 (by kernel_rfl) rfl) (fun _=>rfl)
   HSG.out.1 (by omega) (fun h k=>h.trans k) (fun W l o hl=>Keep2.put (by omega) (by omega))
   (fun pre W=>MkI w p fsP q pre.length W) (fun _=>False) HI.out (fun _ _ _ _ h _ _=>h.elim) (fun _ _ _=>trivial) (fun pre W W' h hm=>h.quiet hm) (fun pre W v h=>by rw [← hpc];exact h.state v) HSG.out.2.1
   (fun x=>{ tmps:=#[.slice (some ⟨b,o,none⟩) n c,.int .i64 (G:Int),.agg #[.string (strOf nm),.int .i64 (dn:Int),.int .i64 (q:Int),.int .i64 (tg:Int)],undef,undef,.pointer (some ⟨w.heap.size,0,none⟩),.pointer (some ⟨w.heap.size + 1,0,none⟩),.pointer (some ⟨w.heap.size + 1 + 1,0,none⟩),.pointer (some ⟨sb,0,none⟩),.pointer (some ⟨w5.heap.size,0,none⟩),.pointer (some ⟨w5.heap.size + 1,0,none⟩),.pointer (some ⟨w5.heap.size + 1 + 1,0,none⟩),segV b o c G n x,undef,undef,undef,undef,undef,undef,u19,u20,u21,u22,u23,u24,u25,u26,u27,u28,u29,u30,u31,u32,.tuple #[.pointer (some ⟨g,0,none⟩),.int .i64 0],.agg #[.int .i64 (d.W:Int),.int .i64 (d.H:Int),.int .i64 (G:Int)],.pointer (some ⟨w.heap.size,2,none⟩),.int .i64 (q:Int),.pointer (some ⟨w.heap.size,3,none⟩),.int .i64 (tg:Int),.tuple #[.pointer (some ⟨g,0,none⟩),.int .i64 0],.pointer (some ⟨g,0,none⟩),.int .i64 0,.int .i64 0,.bool false,undef,undef,.agg #[.string (strOf nm),.int .i64 (dn:Int),.int .i64 (q:Int),.int .i64 (tg:Int)],.agg #[.int .i64 (d.W:Int),.int .i64 (d.H:Int),.int .i64 (G:Int)],.agg #[.string (strOf nm),.int .i64 (dn:Int),.int .i64 (q:Int),.int .i64 (tg:Int),.int .i64 (d.W:Int),.int .i64 (d.H:Int),.int .i64 (G:Int),.slice none 0 0],.slice (some ⟨b,o,none⟩) n c,.int .i64 (G:Int),.func (.func 148) #[] #[.pointer (some ⟨w5.heap.size + 1 + 1 + 1,0,none⟩),.pointer (some ⟨w5.heap.size + 1 + 1 + 1 + 1,0,none⟩)],segV b o c G n x,undef,undef,undef,undef,undef,undef,undef,undef,undef,undef,undef,undef,undef,undef,undef,undef,undef,undef,undef,undef,undef,undef,undef,undef,undef,undef,undef,undef,undef,undef,undef,undef,undef,undef,undef,undef,undef,undef,undef,undef,undef,undef,undef,undef,undef,undef,undef,undef,undef,undef,undef,undef,undef],defers:=[] }) ?assign ?body ?done ?stop
  case assign=>
   intro l x W K hK
   gi_wp2_with fail
   exact hK
  case body=>
   rintro l pre i W hIp ⟨i',hpre,hiN⟩
   have hpi:pre.length = i ∧ i' = i:=by
    have h1:(pre ++ [i]).length = i' + 1:=by rw [hpre,List.length_range]
    have h2:(pre ++ [i])[pre.length]? = (List.range (i' + 1))[pre.length]?:=by rw [hpre]
    rw [List.length_append,List.length_singleton] at h1
    rw [List.getElem?_append_right (Nat.le_refl _),Nat.sub_self,List.getElem?_range (by omega)] at h2
    simp at h2
    omega
   obtain ⟨hp1,rfl⟩:=hpi
   rw [hp1] at hIp
   obtain ⟨v,hK0⟩:=hIp.start
   have hiG:i' * G < n:=(segN_lt hG.1).1 hiN
   have hpG:p.G = G:=by rw [HP.out]
   have hpd:p.d = d:=by rw [HP.out]
   have hpt:p.tg = tg:=by rw [HP.out]
   have hsl:segLen G n i' = min G (n - i' * G):=rfl
   have hlen:(pre ++ [i']).length = i' + 1:=by rw [List.length_append,List.length_singleton,hp1]
   have HB:=Lib.hid (And.intro hIp (And.intro hiN (And.intro hp1 (And.intro hpG (And.intro hpd (And.intro hpt hlen))))))
   have HK0:=Lib.hid hK0
   clear hIp hiN hpre hp1 hK0 hpG hpd hpt hlen
   obtain ⟨N,hN⟩:∃ N,N = segLen G n i':=⟨_,rfl⟩
   unfold segV
   rw [← hN]
   have hNle:1 ≤ N ∧ N ≤ G ∧ N ≤ n - i' * G:=by omega
   obtain ⟨C,hC⟩:∃ C,C = c - i' * G:=⟨_,rfl⟩
   rw [← hC]
   have hNC:N ≤ C:=by omega
   have HN:=Lib.hid (And.intro hN hC)
   clear hN hC hsl
   gi_wp2_with fail
   gi_loopw [55] (OneRel w.heap.size W p v W.heap.size ((List.range i').map (segOf p.d p.G p.tg q fsP)) W.heap.size fsP q i') (fun s _=>N - (intOf s).toNat)
   case atStart=>
    refine ⟨0,W.heap.size + 1,.slice none 0 0,.slice none 0 0,Nat.zero_le _,rfl,?_⟩
    have h:=HK0.out
    have e:min (i' * p.G) fsP.length = i' * p.G:=by rw [HB.out.2.2.2.1,hfl];omega
    rw [e] at h
    rw [Nat.add_zero,Nat.zero_mod]
    exact h
   case round=>
    clear HK0
    obtain ⟨j,T,sv,fv,hj,rfl,hK⟩:=hrel
    rename World=>wj
    have hjN:j ≤ N:=by rw [HN.out.1,← HB.out.2.2.2.1,← hfl];exact hj
    have HJ:=Lib.hid hj
    clear hj
    by_cases hlt:j < N
    ·have d1:decide ((j:Int) < (N:Int)) = true:=decide_eq_true (by omega)
     have hold:=hK.old HB.out.1.old
     have hkn:i' * G + j < n:=by omega
     obtain ⟨b',o',hA',hbw,hcells,hfi⟩:=(H0'.out.2.1.quiet hold).at_ (i' * G + j) hkn
     have hfw:(fs.getD (i' * G + j) FrX.zero).In w:=by
      obtain ⟨_,_,_,_,_,h⟩:=H0'.out.2.1.at_ (i' * G + j) hkn
      exact h
     injection hA' with hA'
     injection hA' with e1' e2'
     rw [← e1',← e2'] at hcells
     clear e1' e2' hbw
     obtain ⟨f,hf⟩:∃ f,f = fs.getD (i' * G + j) FrX.zero:=⟨_,rfl⟩
     have hfg:=H0'.out.2.2.2.1 (i' * G + j) hkn
     rw [← hf] at hcells hfi hfw hfg
     have eo:o + (i' * G + j) * 9 = o + i' * G * 9 + j * 9:=by rw [Nat.add_mul];omega
     rw [eo] at hcells
     have k0:wj.cell? ⟨b,o + i' * G * 9 + j * 9,none⟩ = some (.int .i64 f.W0):=hcells 0 _ rfl
     have k1:=hcells 1 _ rfl
     have k2:=hcells 2 _ rfl
     have k3:=hcells 3 _ rfl
     have k4:=hcells 4 _ rfl
     have k5:=hcells 5 _ rfl
     have k6:=hcells 6 _ rfl
     have k7:=hcells 7 _ rfl
     have k8:=hcells 8 _ rfl
     have hrg:Blk wj w.heap.size 38 #[.string (strOf nm),.int .i64 (dn:Int),.int .i64 (q:Int),.int .i64 (tg:Int)]:=by have:=hK.bs.rg;rw [HP.out] at this;exact this
     obtain ⟨rc,rf⟩:=hrg.both
     have rl:=hrg.lt
     have hlow:=FrX.low (H0'.out.2.2.2.2.1 0 (Nat.zero_le _)) hfg hfw
     have hma:Mod (fun _=>False) wj (wj.alloc (.cells f.cells.toArray 58)):=(Mod.refl _ wj).alloc _
     have hfx:FxAt (wj.alloc (.cells f.cells.toArray 58)) wj.heap.size p.eb (d0.downs 0) (downsPix d0 f.pix 0) f:=by
      refine ⟨Blk.new _ _ _,hfi.quiet' hma,hfg,rfl,fun ad e=>?_⟩
      have z1:=hlow ad e
      have z2:=hold.size
      have z3:=hK.bs.ok.low
      omega
     have hK1:=(hK.raise).quiet hma
     have HK:=Lib.hid (And.intro hK1 (And.intro hfx (And.intro hf (And.intro hold hK.raise.zt))))
     clear hK hold hcells hfi hfw hfg hrg hlow hma hfx hK1 hf eo
     gi_wp2_with fail
     gi_loopw [61] (DownRel w.heap.size W p v W.heap.size ((List.range i').map (segOf p.d p.G p.tg q fsP)) W.heap.size wj.heap.size sv fv ((outsN p.d p.G p.tg q fsP i' j).map Prod.fst) ((outsN p.d p.G p.tg q fsP i' j).map Prod.snd) (encSt p.d p.G p.tg q fsP (i' * p.G + j)).1 (j % p.G) (encSt p.d p.G p.tg q fsP (i' * p.G + j)).2 wj.heap.size dn d0 f.pix) (fun s _=>dn - (intOf s).toNat)
     case atStart=>exact ⟨0,f,Nat.zero_le _,rfl,HK.out.2.1,HK.out.1⟩
     case round=>
      clear k0 k1 k2 k3 k4 k5 k6 k7 k8 rc rf rl
      obtain ⟨m,fx,hm,rfl,hfx,hKq⟩:=hrel
      rename World=>wq
      have hbk:=hfx.blk
      unfold FrX.cells at hbk
      obtain ⟨bc,bf⟩:=hbk.both
      have bl:=hbk.lt
      by_cases hlm:m < dn
      ·have d2:decide ((m:Int) < (dn:Int)) = true:=decide_eq_true (by omega)
       have hdm:=H0'.out.2.2.2.2.2.1 m hlm
       have hdd1:=H0'.out.2.2.2.2.1 (m + 1) (by omega)
       have hCD:=pDownX wq (d0.downs m) (H0'.out.2.2.2.2.1 m hm) hdd1 hdm.1 hdm.2 fx hfx.good hfx.in_
       unfold FrX.cells at hCD
       have HQ:=Lib.hid (And.intro hKq (And.intro hfx (And.intro hbk hCD)))
       clear hKq hfx hbk hCD hdm hdd1
       gi_wp2_with fail
       refine ⟨trivial,(CallsIn.inRound l (callsIn_wide.2 HQ.out.2.2.2)).mono ?_⟩
       rintro e w7 ⟨fy,rfl,hin7,hg7,hp7,ho7,hm7⟩
       have hK7:=HQ.out.1.quiet hm7
       have hb7:=HQ.out.2.2.1.keep hm7 (fun h=>h)
       have he7:Blk w7 (w5.heap.size + 1) 26 #[.int .i64 0]:=by have:=hK7.e0;rw [HP.out] at this;exact this
       clear bc bf bl
       obtain ⟨bc,bf⟩:=hb7.both
       have bl:=hb7.lt
       obtain ⟨ec,ef⟩:=he7.both
       have el:=he7.lt
       have nfe:wj.heap.size ≠ w5.heap.size + 1:=by have:=(HK.out.1.ne_ (Nat.le_refl _)).1;rw [HP.out] at this;exact this
       have HE:=Lib.hid (And.intro hK7 (And.intro hb7 (And.intro hin7 (And.intro hg7 (And.intro hp7 ho7)))))
       clear hK7 hb7 he7 hin7 hg7 hp7 ho7 hm7
       gi_wp2_with fail
       have hst:=down_step (P:=downsPix d0 f.pix (m + 1)) (d:=d0.downs (m + 1)) HE.out.1 (Nat.le_refl _) HE.out.2.1 HE.out.2.2.1 HE.out.2.2.2.1 (by rw [HE.out.2.2.2.2.1,HQ.out.2.1.pix];rfl) (fun ad e=>Nat.lt_of_lt_of_le HQ.out.2.2.1.lt (HE.out.2.2.2.2.2 ad e))
       have hpe:p.eb = w5.heap.size + 1:=by rw [HP.out]
       rw [← hpe]
       exact ⟨⟨m + 1,fy,hlm,rfl,hst.1,hst.2⟩,half_meas hlm⟩
      ·obtain rfl:dn = m:=by omega
       have d2:decide ((dn:Int) < (dn:Int)) = false:=decide_eq_false (by omega)
       have hxp:Blk wq w5.heap.size 186 #[.pointer (some ⟨g,0,none⟩)]:=by have:=hKq.bs.xp;rw [HP.out] at this;exact this
       obtain ⟨xc,xf⟩:=hxp.both
       have xl:=hxp.lt
       have hCF:Calls Tryz.prog 97 #[.pointer (some ⟨g,0,none⟩),.agg fx.cells.toArray] wq (FramePost15 wq g d G (encSt d G tg q fsP (i' * G + j)).1 tg (j % G) (outSt d G tg q fsP (i' * G + j))):=by
        have hE:EncAt wq g d G (encSt d G tg q fsP (i' * G + j)).1 tg (j % G) (encSt d G tg q fsP (i' * G + j)).2:=by have:=hKq.enc;rw [HP.out] at this;exact this
        have hfg:=hfx.good
        rw [← H0'.out.2.2.2.2.2.2] at hfg
        have hdO:=H0'.out.2.2.2.2.1 dn (Nat.le_refl _)
        rw [← H0'.out.2.2.2.2.2.2] at hdO
        refine encFrameGood (r:=outSt d G tg q fsP (i' * G + j)) hE (H0'.out.2.2.1.quiet (hKq.old HB.out.1.old)) hdO hW hH hG (encSt_q hq _) ht (Nat.mod_lt _ (by omega)) fx hfx.in_ hfg ?_
        unfold outSt
        rw [Nat.mul_comm i' G,Nat.mul_add_mod,hfx.pix,HFP.out,map_getD (by rw [H0'.out.2.1.len,Nat.mul_comm];exact hkn),Nat.mul_comm G i',← HK.out.2.2.1]
       unfold FrX.cells at hCF
       have HQ:=Lib.hid (And.intro hKq hCF)
       clear hKq hfx hbk hCF hxp
       gi_wp2_with fail
       refine ⟨trivial,(CallsIn.inRound l (callsIn_wide.2 HQ.out.2)).mono ?_⟩
       rintro e w7 ⟨A7,c7,g0,g1,g2,rfl,hB7,hf7,hl7,hE7,hm7⟩
       clear bc bf bl xc xf xl
       obtain ⟨r,hr⟩:∃ r,r = outSt d G tg q fsP (i' * G + j):=⟨_,rfl⟩
       rw [← hr] at hB7 hf7 hE7 ⊢
       have hgp:p.g = g:=by rw [HP.out]
       have hK7:=HQ.out.1.coded (by rw [HB.out.2.2.2.1];exact hG.1) (by rw [hgp];exact hm7) (by rw [HP.out];rw [hr] at hE7;exact hE7)
       have hma:Mod (fun _=>False) w7 (w7.alloc (.cells #[.int .i64 (d.W:Int),.int .i64 (d.H:Int),.slice (some ⟨g0,0,none⟩) d.nY d.nY,.int .i64 (d.W2:Int),.int .i64 (d.H2:Int),.slice (some ⟨g1,0,none⟩) d.nC d.nC,.int .i64 (d.W2:Int),.int .i64 (d.H2:Int),.slice (some ⟨g2,0,none⟩) d.nC d.nC] 58)):=(Mod.refl _ w7).alloc _
       have hK8:=hK7.quiet hma
       have htb:Blk (w7.alloc (.cells #[.int .i64 (d.W:Int),.int .i64 (d.H:Int),.slice (some ⟨g0,0,none⟩) d.nY d.nY,.int .i64 (d.W2:Int),.int .i64 (d.H2:Int),.slice (some ⟨g1,0,none⟩) d.nC d.nC,.int .i64 (d.W2:Int),.int .i64 (d.H2:Int),.slice (some ⟨g2,0,none⟩) d.nC d.nC] 58)) w7.heap.size 58 #[.int .i64 (d.W:Int),.int .i64 (d.H:Int),.slice (some ⟨g0,0,none⟩) d.nY d.nY,.int .i64 (d.W2:Int),.int .i64 (d.H2:Int),.slice (some ⟨g1,0,none⟩) d.nC d.nC,.int .i64 (d.W2:Int),.int .i64 (d.H2:Int),.slice (some ⟨g2,0,none⟩) d.nC d.nC]:=Blk.new _ _ _
       have hFS:∀ k,wq.heap.size ≤ k → k < w7.heap.size → FS W.heap.size w7.heap.size sv fv k:=fun k h1 h2=>by
        have z1:=HQ.out.1.zt
        have z2:=HQ.out.1.own
        exact ⟨by omega,h2,fun e=>by have:=z2.1 k e;omega,fun e=>by have:=z2.2 k e;omega⟩
       have hbv:BytesF (w7.alloc (.cells #[.int .i64 (d.W:Int),.int .i64 (d.H:Int),.slice (some ⟨g0,0,none⟩) d.nY d.nY,.int .i64 (d.W2:Int),.int .i64 (d.H2:Int),.slice (some ⟨g1,0,none⟩) d.nC d.nC,.int .i64 (d.W2:Int),.int .i64 (d.H2:Int),.slice (some ⟨g2,0,none⟩) d.nC d.nC] 58)) (FS W.heap.size w7.heap.size sv fv) (.slice A7 r.1.length c7) r.1:=
        BytesF.of_own (hB7.quiet hma) (fun k hk=>hFS k (hB7.lt k hk).1 (hB7.lt k hk).2)
       have hfF:FrameF (w7.alloc (.cells #[.int .i64 (d.W:Int),.int .i64 (d.H:Int),.slice (some ⟨g0,0,none⟩) d.nY d.nY,.int .i64 (d.W2:Int),.int .i64 (d.H2:Int),.slice (some ⟨g1,0,none⟩) d.nC d.nC,.int .i64 (d.W2:Int),.int .i64 (d.H2:Int),.slice (some ⟨g2,0,none⟩) d.nC d.nC] 58)) (FS W.heap.size w7.heap.size sv fv) d r.2 [.int .i64 (d.W:Int),.int .i64 (d.H:Int),.slice (some ⟨g0,0,none⟩) d.nY d.nY,.int .i64 (d.W2:Int),.int .i64 (d.H2:Int),.slice (some ⟨g1,0,none⟩) d.nC d.nC,.int .i64 (d.W2:Int),.int .i64 (d.H2:Int),.slice (some ⟨g2,0,none⟩) d.nC d.nC]:=
        FrameF.of_at (hf7.quiet hma) (hFS g0 hl7.1 hf7.by_.lt) (hFS g1 hl7.2.1 hf7.bu.lt) (hFS g2 hl7.2.2 hf7.bv.lt)
       obtain ⟨xs,hrow,hcel⟩:=hK8.smp
       have hgb8:=hK8.gbx
       obtain ⟨gc,gf⟩:=hgb8.both
       have gl:=hgb8.lt
       obtain ⟨tc,tf⟩:=htb.both
       have tl:=htb.lt
       have nss:((outsN p.d p.G p.tg q fsP i' j).map Prod.fst).length = j:=by simp [outsN]
       have nff:((outsN p.d p.G p.tg q fsP i' j).map Prod.snd).length = j:=by simp [outsN]
       rw [nss] at hrow
       have hsz8:W.heap.size + 1 ≤ (w7.alloc (.cells #[.int .i64 (d.W:Int),.int .i64 (d.H:Int),.slice (some ⟨g0,0,none⟩) d.nY d.nY,.int .i64 (d.W2:Int),.int .i64 (d.H2:Int),.slice (some ⟨g1,0,none⟩) d.nC d.nC,.int .i64 (d.W2:Int),.int .i64 (d.H2:Int),.slice (some ⟨g2,0,none⟩) d.nC d.nC] 58)).heap.size:=by have:=hK8.zt;omega
       have hj64:j ≤ 64:=by omega
       have ntg:w7.heap.size ≠ W.heap.size:=by have:=hK7.zt;omega
       have H8:=Lib.hid (And.intro hK8 (And.intro hrow (And.intro hcel (And.intro hbv (And.intro hfF (And.intro hgb8 (And.intro htb (And.intro hr (And.intro nff nss)))))))))
       clear hB7 hf7 hl7 hE7 hm7 hK7 hma hK8 htb hFS hbv hfF hrow hcel hgb8 hr nss nff hgp
       unfold frameV
       gi_wp2_with (gi_at_builtin;refine Hid.out ?_)
       refine Lib.hid ?_
       refine wpListIn_app_one (w7.alloc (.cells #[.int .i64 (d.W:Int),.int .i64 (d.H:Int),.slice (some ⟨g0,0,none⟩) d.nY d.nY,.int .i64 (d.W2:Int),.int .i64 (d.H2:Int),.slice (some ⟨g1,0,none⟩) d.nC d.nC,.int .i64 (d.W2:Int),.int .i64 (d.H2:Int),.slice (some ⟨g2,0,none⟩) d.nC d.nC] 58)) rfl (.tmp 85) (.tmp 87) 47 54 rfl Tryz.underlying47 (.slice none 0 0) 1 24 bs_info rfl (by decide) (W.heap.size + 1) sv j xs [.slice A7 r.1.length c7] rfl (fun u hu=>by rw [List.mem_singleton.1 hu];rfl) (w7.heap.size + 1) (by simp) rfl rfl H8.out.2.1 hsz8 (by unfold maxLen;omega) (by omega) ?_
       intro sv2 w9 y1 y2 _ y4
       obtain ⟨As,cs2,rfl⟩:=own_shape y1
       have HA:=Lib.hid (And.intro y1 (And.intro y2 y4))
       clear y1 y2 y4 gc gf gl tc tf tl
       have hpd:p.d = d:=by rw [HP.out]
       have hK10:=MkIn.push1 H8.out.1 H8.out.2.2.2.1 H8.out.2.2.1 (by rw [H8.out.2.2.2.2.2.2.2.2.2];exact HA.out.1) HA.out.2.1 HA.out.2.2
       have hfF10:=MkIn.push1_fr H8.out.1 (by rw [hpd];exact H8.out.2.2.2.2.1) HA.out.2.1 HA.out.2.2
       have hgb9:=H8.out.2.2.2.2.2.1.keep HA.out.2.1 (fun e=>by have:=(H8.out.1.smp.blk e).1;omega)
       have htb9:=H8.out.2.2.2.2.2.2.1.keep HA.out.2.1 (fun e=>by obtain ⟨_,cs,hq⟩:=H8.out.1.smp.blk e;exact hq.ne_ H8.out.2.2.2.2.2.2.1 (by decide) rfl)
       obtain ⟨gc,gf⟩:=hgb9.both
       have gl:=hgb9.lt
       obtain ⟨tc,tf⟩:=htb9.both
       have tl:=htb9.lt
       obtain ⟨xs2,hrow2,hcel2⟩:=hK10.frs
       rw [H8.out.2.2.2.2.2.2.2.2.1] at hrow2
       have hsz10:W.heap.size + 1 ≤ (w9.setCell ⟨W.heap.size,0,none⟩ (.slice As (j + 1) cs2)).heap.size:=by have:=hK10.zt;omega
       have H10:=Lib.hid (And.intro hK10 (And.intro hfF10 (And.intro hrow2 (And.intro hcel2 (And.intro hgb9 hpd)))))
       clear hK10 hfF10 hgb9 htb9 hrow2 hcel2 hpd
       gi_wp2_with (gi_at_builtin;refine Hid.out ?_)
       refine Lib.hid ?_
       refine wpListIn_app_one (w9.setCell ⟨W.heap.size,0,none⟩ (.slice As (j + 1) cs2)) rfl (.tmp 91) (.tmp 93) 29 58 rfl Tryz.underlying29 (.agg #[.int .i64 0,.int .i64 0,.slice none 0 0,.int .i64 0,.int .i64 0,.slice none 0 0,.int .i64 0,.int .i64 0,.slice none 0 0]) 9 120 fr_info rfl (by decide) (W.heap.size + 1) fv j xs2 [.int .i64 (d.W:Int),.int .i64 (d.H:Int),.slice (some ⟨g0,0,none⟩) d.nY d.nY,.int .i64 (d.W2:Int),.int .i64 (d.H2:Int),.slice (some ⟨g1,0,none⟩) d.nC d.nC,.int .i64 (d.W2:Int),.int .i64 (d.H2:Int),.slice (some ⟨g2,0,none⟩) d.nC d.nC] rfl (frameV_one d g0 g1 g2) w9.heap.size (by simp) rfl rfl H10.out.2.2.1 hsz10 (by unfold maxLen;omega) (by omega) ?_
       intro fv2 w11 y1 y2 _ y4
       obtain ⟨Af,cf2,rfl⟩:=own_shape y1
       have HA2:=Lib.hid (And.intro y1 (And.intro y2 y4))
       clear y1 y2 y4 gc gf gl tc tf tl
       have hK12:=MkIn.push2 H10.out.1 H10.out.2.1 rfl H10.out.2.2.2.1 (by rw [H8.out.2.2.2.2.2.2.2.2.1];exact HA2.out.1) HA2.out.2.1 HA2.out.2.2
       have hgb11:=H10.out.1.gbx.keep HA2.out.2.1 (fun e=>by have:=(H10.out.1.frs.blk e).1;omega)
       obtain ⟨gc,gf⟩:=hgb11.both
       have gl:=hgb11.lt
       have H12:=Lib.hid hK12
       clear hK12 hgb11
       gi_wp2_with fail
       have hpr:outSt p.d p.G p.tg q fsP (i' * p.G + j) = r:=by rw [H8.out.2.2.2.2.2.2.2.1,HP.out]
       have hrel:OneRel w.heap.size W p v W.heap.size ((List.range i').map (segOf p.d p.G p.tg q fsP)) W.heap.size fsP q i' (.int .i64 ((j + 1:Nat):Int)) (w11.setCell ⟨W.heap.size,1,none⟩ (.slice Af (j + 1) cf2)):=by
        refine ⟨j + 1,w11.heap.size,.slice As (j + 1) cs2,.slice Af (j + 1) cf2,by rw [hfl,HB.out.2.2.2.1,← HN.out.1];exact hlt,rfl,?_⟩
        rw [outsN_succ,List.map_append,List.map_append,hpr]
        exact H12.out
       exact ⟨hrel,half_meas hlt⟩
    ·obtain rfl:N = j:=by omega
     have d1:decide ((N:Int) < (N:Int)) = false:=decide_eq_false (by omega)
     have hxp:Blk wj w5.heap.size 186 #[.pointer (some ⟨g,0,none⟩)]:=by have:=hK.bs.xp;rw [HP.out] at this;exact this
     obtain ⟨xc,xf⟩:=hxp.both
     have xl:=hxp.lt
     have hE:EncAt wj g d G (encSt d G tg q fsP (i' * G + N)).1 tg (N % G) (encSt d G tg q fsP (i' * G + N)).2:=by have:=hK.enc;rw [HP.out] at this;exact this
     have HE:=Lib.hid (And.intro hK hE.end_)
     clear hK hxp hE
     gi_wp2_with fail
     refine ⟨trivial,(CallsIn.inRound l (callsIn_wide.2 HE.out.2)).mono ?_⟩
     rintro e w7 ⟨rfl,hE7,hm7⟩
     clear xc xf xl
     have hgp:p.g = g:=by rw [HP.out]
     have hK7:=HE.out.1.code (by rw [hgp];exact hm7) (by rw [HP.out];exact hE7)
     have hgb:=hK7.gbx
     obtain ⟨gc,gf⟩:=hgb.both
     have gl:=hgb.lt
     have hmb:Blk w7 (w5.heap.size + 1 + 1) 43 (made8 ⟨nm,(dn:Int),(q:Int),(tg:Int)⟩ d G v).toArray:=by have:=hK7.bs.mbk;rw [HP.out] at this;exact this
     unfold made8 Rg.cells at hmb
     obtain ⟨mc,mf⟩:=hmb.both
     have ml:=hmb.lt
     obtain ⟨xs,hrow,hcel⟩:=hK7.bs.segs
     rw [List.length_map,List.length_range] at hrow
     have hN64:i' ≤ 1024:=by
      have h1:=HB.out.2.1
      have h2:=(segN_lt (n:=n) hG.1).1 h1
      have h3:i' * 1 ≤ i' * G:=Nat.mul_le_mul (Nat.le_refl _) hG.1
      omega
     have hsz7:p.L ≤ w7.heap.size:=by have:=hK7.zt;have:=hK7.bs.lz;omega
     have hone:∀ u ∈ [sv,fv],u.oneCell' = true:=by
      obtain ⟨_,_,h1⟩:=hK7.smp.shape
      obtain ⟨_,_,h2⟩:=hK7.frs.shape
      intro u hu
      rcases List.mem_cons.1 hu with rfl | hu
      ·rw [h1];rfl
      ·rw [List.mem_singleton.1 hu,h2];rfl
     have H7:=Lib.hid (And.intro hK7 (And.intro hrow (And.intro hcel (And.intro hmb hone))))
     clear hK7 hgb hmb hrow hcel hE7 hm7 hgp hone
     gi_wp2_with (gi_at_builtin;refine Hid.out ?_)
     refine Lib.hid ?_
     refine wpListIn_app_one w7 rfl (.tmp 100) (.tmp 102) 41 49 rfl Tryz.underlying41 (.agg #[.slice none 0 0,.slice none 0 0]) 2 48 sg_info rfl (by decide) p.L v i' xs [sv,fv] rfl H7.out.2.2.2.2 w7.heap.size rfl rfl rfl H7.out.2.1 hsz7 (by unfold maxLen;omega) (by omega) ?_
     intro v2 w9 y1 y2 _ y4
     obtain ⟨As,cs2,rfl⟩:=own_shape y1
     have HA:=Lib.hid (And.intro y1 (And.intro y2 y4))
     clear y1 y2 y4 gc gf gl mc mf ml
     have hmb9:=H7.out.2.2.2.1.keep HA.out.2.1 (fun e=>by have:=(H7.out.1.bs.vz _ e).1;omega)
     obtain ⟨mc,mf⟩:=hmb9.both
     have ml:=hmb9.lt
     have hseg:outsN p.d p.G p.tg q fsP i' N = segOf p.d p.G p.tg q fsP i':=by
      unfold outsN segOf
      rw [hfl,HB.out.2.2.2.1,← HN.out.1]
     have hKs:=H7.out.1
     rw [hseg] at hKs
     have hix:i' * p.G + N = min ((i' + 1) * p.G) fsP.length:=by
      rw [HB.out.2.2.2.1,hfl,Nat.add_mul,Nat.one_mul]
      have:=HN.out.1
      unfold segLen at this
      omega
     have hfin:=MkIn.seg_ (fsP:=fsP) (q0:=q) (i:=i') hKs HB.out.1.old HB.out.1.cbk (by rw [← hix,HP.out]) (by rw [← hix,HP.out]) H7.out.2.2.1 (by rw [List.length_map,List.length_range];exact HA.out.1) HA.out.2.1 HA.out.2.2
     have hpm:p.mb = w5.heap.size + 1 + 1:=by rw [HP.out]
     rw [hpm,hpc,hpg,hL] at hfin
     have HFN:=Lib.hid hfin
     clear hmb9 hseg hKs hix hfin
     gi_wp2_with fail
     exact ⟨HFN.out.2.1,HFN.out.2.2,by rw [HB.out.2.2.2.2.2.2];exact HFN.out.1⟩
  case done=>
   rintro D xs W hD rfl hM hK
   rw [List.length_range] at hM
   obtain ⟨⟨v,hv⟩,_,_,_,hold⟩:=hM
   obtain ⟨Av,cv,rfl⟩:=hv.segs.shape
   rw [List.length_map,List.length_range] at hv
   have hmb:Blk W (w5.heap.size + 1 + 1) 43 (made8 ⟨nm,(dn:Int),(q:Int),(tg:Int)⟩ d G (.slice Av (segN G n) cv)).toArray:=by have:=hv.mbk;rw [HP.out] at this;exact this
   unfold made8 Rg.cells at hmb
   have hres:Blk W (w.heap.size + 1) 43 noMade:=by have:=hv.res;rw [HP.out] at this;exact this
   have her:Blk W (w.heap.size + 1 + 1) 26 #[.int .i64 0]:=by have:=hv.er;rw [HP.out] at this;exact this
   obtain ⟨mc,mf⟩:=hmb.both
   have ml:=hmb.lt
   have hres':=hres
   unfold noMade at hres'
   obtain ⟨rc,rf⟩:=hres'.both
   have rl:=hres.lt
   obtain ⟨ec,ef⟩:=her.both
   have el:=her.lt
   have HD:=Lib.hid (And.intro hv (And.intro hold (And.intro hres (And.intro her hK))))
   clear hv hold hres her hK hmb hres'
   go_wp2_with fail
   obtain ⟨b1,b2,b3⟩:=made_lay HD.out.2.2.1 HD.out.2.2.2.1 (by omega) (.string (strOf nm)) (.int .i64 (dn:Int)) (.int .i64 (q:Int)) (.int .i64 (tg:Int)) (.int .i64 (d.W:Int)) (.int .i64 (d.H:Int)) (.int .i64 (G:Int)) (.slice Av (segN G n) cv)
   have hKF:=(keepsFrom_mod (KeepsFrom.refl w6.heap.size W) b3 (fun k e _=>by
    rcases e with e | e
    ·exact ⟨_,_,by rw [e];exact HD.out.2.2.1⟩
    ·exact ⟨_,_,by rw [e];exact HD.out.2.2.2.1⟩)).same D _ hD HD.out.2.2.2.2 rfl
   refine ⟨by simp,.inl ⟨_,_,rfl,run_takeDeferred hKF,?_⟩⟩
   have hsc:=SameC.of_grown (grownBy_putObj' _ D (.deferred none)) (fun r e=>by injection e with e;subst e;exact ⟨_,hKF,rfl⟩)
   have r1:=b1.sc hsc
   have r2:=b2.sc hsc
   have s0:=r1.cell 0
   have s1:=r1.cell 1
   have s2:=r1.cell 2
   have s3:=r1.cell 3
   have s4:=r1.cell 4
   have s5:=r1.cell 5
   have s6:=r1.cell 6
   have s7:=r1.cell 7
   have s8:=r2.cell 0
   have hrM:p.resb = w.heap.size + 1 ∧ p.erb = w.heap.size + 1 + 1:=by rw [HP.out];exact ⟨rfl,rfl⟩
   have hhi:=HD.out.1.ok.high
   have hlo:=HD.out.1.ok.low
   have hMF:Mod (fun _=>False) w _:=(HD.out.2.1.into b3 (fun i e=>.inr (by omega))).grown (grownBy_putObj' _ D (.deferred none)) (fun k hk=>.inr (by injection hk with hk;have:=HD.out.2.1.size;have:=HSG.out.2.2;omega))
   have hsegs:=(HD.out.1.segs.turn b3 (fun k hk e=>by have:=(HD.out.1.vz k hk).1;omega) (fun _ _ _ hx=>hx.turn b3 (fun k hk _ e=>by have:=hk.1;omega) (fun _ hk _=>hk))).sc hsc (fun _ _ _ hx=>hx.sc hsc)
   have hsin:=(hsegs.in_ (F:=fun k=>w.heap.size ≤ k) (fun k hk=>by have:=(HD.out.1.vz k hk).1;omega)).turn (Mod.refl (fun _=>False) _) (fun _ _ _ h=>h) (fun _ h _=>h) (fun _ _ _ hx=>hx.turn (Mod.refl (fun _=>False) _) (fun _ _ _ h=>h) (fun k hk _=>show w.heap.size ≤ k by have:=hk.1;omega))
   refine ⟨.tuple #[.agg #[.string (strOf nm),.int .i64 (dn:Int),.int .i64 (q:Int),.int .i64 (tg:Int),.int .i64 (d.W:Int),.int .i64 (d.H:Int),.int .i64 (G:Int),.slice Av (segN G n) cv],.int .i64 0],?_,[.string (strOf nm),.int .i64 (dn:Int),.int .i64 (q:Int),.int .i64 (tg:Int),.int .i64 (d.W:Int),.int .i64 (d.H:Int),.int .i64 (G:Int),.slice Av (segN G n) cv],rfl,⟨_,rfl,?_⟩,rfl,hMF⟩
   ·simp [results,Tryz.f54,go_sem,s0,s1,s2,s3,s4,s5,s6,s7,s8]
   ·unfold segsOf
    rw [hfl]
    rw [HP.out] at hsin
    exact hsin
  case stop=>
   rintro D W hD hB hK
   exact hB.elim
end Go.Proofs.YthednemlahioeaaGreatDoor
