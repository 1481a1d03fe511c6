/-
  kinoralaw15.LadderHalves, walked.
-/
import Derived.Test.YthednemlahioeaaGreatDoorH28
import Derived.Test.YthednemlahioeaaGreatDoorH36
import Derived.Test.YthednemlahioeaaGreatDoorH38
import Derived.Test.YthednemlahioeaaGreatDoorH31
import Derived.Test.YthednemlahioeaaGreatDoorH1
import Derived.Test.YthednemlahioeaaGreatDoorH13
import Derived.Test.YthednemlahioeaaGreatDoorH30
import Derived.Test.YthednemlahioeaaGreatDoorH11
import Derived.ProofKit
import Derived.OpenShut
import Derived.Lib.SmallJoins
import Derived.Test.YthednemlahioeaaGreatDoorRows
import Derived.Laws.IdiomArrays
import Derived.Deep.Slices
import Derived.Deep.Strs
import Derived.ChangeArms
import Derived.ShutString
import Derived.ChangeOld
import Derived.JoinedCond
import Derived.Lib.LaidIn
import Derived.Lib.LaidTab
import Derived.Deep.DeepWitnessRowRef
import Derived.Deep.DeepHandedRow
import Derived.MakeChecks
import Derived.FnData
import Derived.Test.YthednemlahioeaaGreatDoorCards
import Derived.Test.YthednemlahioeaaGreatDoorTie
import Derived.SevenTiedAt
namespace Go.Proofs.YthednemlahioeaaGreatDoor
open Go.RowKit
set_option maxRecDepth 100000
set_option maxHeartbeats 8000000
theorem rg_one {w:World} {rb:Nat} {r:Rg} (hb:Blk w rb 38 r.cells.toArray) (hn:r.name.length ≤ 9223372036854775807):RgsIn w (some ⟨rb,0,none⟩) 1 1 [r]:=by
 refine ⟨rfl,Nat.le_refl _,fun i=>?_,fun i hi=>⟨rb,0,rfl,hb.lt,fun j v hv=>?_⟩⟩
 ·by_cases h:i = 0
  ·subst h;exact hn
  ·rw [List.getD_eq_getElem?_getD,List.getElem?_eq_none (show [r].length ≤ i by show 1 ≤ i;omega)]
   decide
 ·obtain rfl:i = 0:=by omega
  have hc:=hb.cell j
  rw [Nat.zero_mul,Nat.zero_add]
  have hv':r.cells[j]? = some v:=hv
  rw [hc,List.getElem?_toArray,hv']
def FrR (w:World) (F:Nat → Prop) (f:FrX) (c:List Value):Prop:=c = f.cells ∧ f.In w ∧ ∀ ad,(f.A0 = some ad ∨ f.A1 = some ad ∨ f.A2 = some ad) → F ad.block ∧ ad.block < w.heap.size
theorem FrR.turn {w w':World} {F F' S:Nat → Prop} {f:FrX} {c:List Value} (h:FrR w F f c) (hm:Mod S w w') (hS:∀ k,F k → k < w.heap.size → ¬ S k) (hF:∀ k,F k → k < w.heap.size → F' k):FrR w' F' f c:=
 ⟨h.1,h.2.1.mod hm (fun ad e=>hS _ (h.2.2 ad e).1 (h.2.2 ad e).2),fun ad e=>⟨hF _ (h.2.2 ad e).1 (h.2.2 ad e).2,Nat.lt_of_lt_of_le (h.2.2 ad e).2 hm.size⟩⟩
theorem frx_push {w w':World} {B:Nat} {e:TypeId} {v v':Value} {l:List FrX} {x:FrX} {xs cells:List Value} (hc:CellsOf 9 (FrR w (FM B v)) l xs) (h1:w'.ownsRow B e 9 v' (l.length + 1) (xs ++ cells)) (hm:Mod (fun j=>v.ownBlock = some j) w w')
  (hg:∀ k,v'.ownBlock = some k → v.ownBlock = some k ∨ w.heap.size ≤ k) (hx:FrR w (FM B v) x cells) (hl:cells.length = 9):ListOwn w' B e 9 (FrR w' (FM B v')) v' (l ++ [x]):=by
 have hFn:∀ k,FM B v k → k < w.heap.size → ¬ v.ownBlock = some k:=fun k hk _=>hk.2
 have hFF:∀ k,FM B v k → k < w.heap.size → FM B v' k:=fun k hk hl=>⟨hk.1,fun e=>(hg k e).elim hk.2 (by omega)⟩
 exact ListOwn.push h1 (hc.mono (fun _ _ _ k=>k.turn hm hFn hFF)) (hx.turn hm hFn hFF) hl
theorem frs_own {w:World} {B:Nat} {e:TypeId} {v:Value} {F:Nat → Prop} {gs:List FrX} (h:ListOwn w B e 9 (FrR w F) v gs):∃ A c,v = .slice A gs.length c ∧ gs.length ≤ c ∧ c ≤ 9223372036854775807 ∧ FrsIn w A gs.length gs:=by
 have hcap:∀ A c,v = .slice A gs.length c → c ≤ 9223372036854775807:=fun A c e=>by
  obtain ⟨xs,h1,_⟩:=h
  rcases h1.2 with ⟨e2,_⟩ | ⟨g,cap,cur,e2,_,_,_,hc,_⟩
  ·rw [e2] at e
   injection e with _ _ e3
   omega
  ·rw [e2] at e
   injection e with _ _ e3
   unfold maxLen at hc
   omega
 have hi:=h.in_ (F:=fun _=>True) (fun _ _=>trivial)
 obtain ⟨A,c,hv,hl⟩:=hi.shape
 refine ⟨A,c,hv,hl,hcap A c hv,rfl,fun i hi2=>?_⟩
 obtain ⟨b,o,cp,cc,hv2,_,hb,_,⟨rfl,hin,_⟩,_,hx⟩:=hi.at_ (i:=i) (x:=gs[i]) (List.getElem?_eq_getElem hi2) (by decide)
 have hg:gs.getD i FrX.zero = gs[i]:=by rw [List.getD_eq_getElem?_getD,List.getElem?_eq_getElem hi2];rfl
 rw [hv] at hv2
 injection hv2 with e1
 exact ⟨b,o,e1,hb,fun j u hu=>hx j u (by rw [← hg];exact hu),by rw [hg];exact hin⟩
def MkOut (w:World) (F:Nat → Prop) (b:Bool) (X:Value) (E:Int) (m:MadeX):Prop:=(b = false ∧ E = 151) ∨ (b = true ∧ E = 0 ∧ MadesIn w F X [m])
theorem MkOut.of {w w':World} {fs:List FrX} {G:Int} {r:Rg} {e:Ending} (h:MakePost w fs G [r] e w'):∃ X E,e = .returned (.tuple #[X,.int .i64 E]) ∧ MkOut w' (fun k=>w.heap.size ≤ k) (makeB fs G [r]) X E (madeX fs G r) ∧ Mod (fun _=>False) w w':=by
 rcases h with ⟨hm,⟨h1,rfl⟩ | ⟨h1,v,rfl,h2⟩⟩
 ·exact ⟨_,_,rfl,.inl ⟨h1,rfl⟩,hm⟩
 ·exact ⟨_,_,rfl,.inr ⟨h1,rfl,h2⟩,hm⟩
def HvRel (w:World) (n:Nat) (fs:List FrX) (v10 v11:Value) (wr:World):Prop:=
 ∃ (k:Nat) (gs:List FrX),k ≤ n ∧ v11 = .int .i64 (k:Int) ∧ gs.length = k ∧ (∀ i,i < k → HalfOf (fs.getD i FrX.zero) (gs.getD i FrX.zero)) ∧ ListOwn wr w.heap.size 58 9 (FrR wr (FM w.heap.size v10)) v10 gs ∧ Mod (fun _=>False) w wr
theorem halves_snoc {fs gs:List FrX} {k:Nat} {g:FrX} (hg:gs.length = k) (h:∀ i,i < k → HalfOf (fs.getD i FrX.zero) (gs.getD i FrX.zero)) (h1:HalfOf (fs.getD k FrX.zero) g):∀ i,i < k + 1 → HalfOf (fs.getD i FrX.zero) ((gs ++ [g]).getD i FrX.zero):=fun i hi=>by
 by_cases e:i = k
 ·subst e
  rw [List.getD_eq_getElem?_getD (l:=gs ++ [g]),List.getElem?_append_right (by omega),hg,Nat.sub_self]
  exact h1
 ·rw [List.getD_eq_getElem?_getD (l:=gs ++ [g]),List.getElem?_append_left (by omega),← List.getD_eq_getElem?_getD]
  exact h i (by omega)
theorem side_of {fs:List FrX} (h:∀ j,j < fs.length → (fs.getD j FrX.zero).small):(fs.getD 0 FrX.zero).W0 ≤ 32 ∧ (fs.getD 0 FrX.zero).H0 ≤ 32:=by
 by_cases h0:0 < fs.length
 ·exact (h 0 h0).2
 ·rw [List.getD_eq_getElem?_getD,List.getElem?_eq_none (by omega)]
  decide
theorem half_side {fs gs:List FrX} (hh:HalvesOf fs gs) (h:∀ j,j < fs.length → (fs.getD j FrX.zero).small):(gs.getD 0 FrX.zero).W0 ≤ 64 ∧ (gs.getD 0 FrX.zero).H0 ≤ 64:=by
 by_cases h0:0 < fs.length
 ·rcases hh.at_ 0 h0 with ⟨_,hg,_⟩ | ⟨_,e⟩
  ·obtain ⟨_,h1,h2⟩:=good_parts hg
   have:=(h 0 h0).2
   rw [h1,h2]
   constructor
   ·show ((((fs.getD 0 FrX.zero).W0.toNat / 2:Nat)):Int) ≤ 64
    omega
   ·show ((((fs.getD 0 FrX.zero).H0.toNat / 2:Nat)):Int) ≤ 64
    omega
  ·rw [e]
   decide
 ·have:gs.length ≤ 0:=by have:=hh.len;omega
  rw [List.getD_eq_getElem?_getD,List.getElem?_eq_none this]
  decide
theorem made_small {fs:List FrX} {G:Int} {r:Rg} (h:makeB fs G [r] = true) (hn:fs.length ≤ 5):(madeX fs G r).segs.length ≤ 9223372036854775807 ∧ ∀ s ∈ (madeX fs G r).segs,s.length ≤ 9223372036854775807:=by
 have hG:1 ≤ G ∧ G ≤ 64:=by
  rw [makeB_one,Bool.and_eq_true] at h
  have h2:=h.2
  unfold rungB seqRight at h2
  simp only [Bool.and_eq_true,decide_eq_true_eq] at h2
  omega
 unfold madeX segsOf
 dsimp only
 rw [List.length_map,List.length_range,List.length_map]
 constructor
 ·unfold segN
  have:(fs.length + G.toNat - 1) / G.toNat ≤ fs.length + G.toNat - 1:=Nat.div_le_self _ _
  omega
 ·intro s hs
  obtain ⟨i,_,rfl⟩:=List.mem_map.1 hs
  unfold segOf segLen
  rw [List.length_map,List.length_range,List.length_map]
  omega
theorem ladderHalves_walk (w:World) (he:EnvP w) (A:Option Addr) (n c:Nat) (fs:List FrX) (hin:FrsIn w A n fs) (hnc:n ≤ c) (hc:c ≤ 9223372036854775807) (G:Int) (nm:List UInt8) (dn q tg:Int) (hnm:nm.length ≤ 9223372036854775807) (hd1:-9223372036854775808 ≤ dn) (hd2:dn ≤ 9223372036854775807) :
  Calls Tryz.prog 5 #[.slice A n c,.int .i64 G,.agg #[.string (strOf nm),.int .i64 dn,.int .i64 q,.int .i64 tg]] w fun e w'=>e = .returned (.bool true) ∧ Mod (fun _=>False) w w':=by
 have h0:=(Sat.nil (fun _=>False) w).alloc 38 #[.string (strOf nm),.int .i64 dn,.int .i64 q,.int .i64 tg] rfl
 have hn63:n ≤ 9223372036854775807:=Nat.le_trans hnc hc
 have hln:=hin.len
 obtain ⟨rc,rf⟩:=(h0.own_ 0 rfl).both
 dsimp only at rc
 have H0:=Lib.hid (And.intro h0 (And.intro he (And.intro hin (And.intro hnc (And.intro hc (And.intro hnm hln))))))
 clear h0 he hin hnc hc hnm hln
 go_enter Tryz.func5,Tryz.ntmps5
 go_wp2_with fail
 have h1:=H0.out.1.alloc (g:=w.heap.size + 1) 38 #[.string (strOf nm),.int .i64 dn,.int .i64 q,.int .i64 tg] (by simp)
 have q1:=h1.own_ 0 rfl
 dsimp only at q1
 refine (lFits15 _ A n c fs (H0.out.2.2.1.quiet h1.mod) hn63 (some ⟨w.heap.size + 1,0,none⟩) 1 1 [⟨nm,dn,q,tg⟩] (rg_one (r:=⟨nm,dn,q,tg⟩) q1 H0.out.2.2.2.2.2.1) (by decide)).mono ?_
 rintro e w1 ⟨t,rfl,ht,hm1⟩
 have hs1:=h1.quiet hm1
 clear rc rf q1 h1 hm1
 obtain ⟨rc,rf⟩:=(hs1.own_ 1 rfl).both
 dsimp only at rc
 have HE:=Lib.hid hs1.mod
 have H1:=Lib.hid hs1
 clear hs1
 cases t with
 | false=>
  clear ht
  go_wp2_with fail
  refine (alive15 _ (H0.out.2.1.quiet HE.out)).mono ?_;rintro e w9 ⟨rfl,hm9⟩;have H9:=Lib.hid (HE.out.trans hm9);clear hm9;go_wp2_with fail;go_ret;exact ⟨rfl,H9.out⟩
 | true=>
 obtain ⟨hn5,hsm,_⟩:=ht rfl
 rw [← H0.out.2.2.2.2.2.2] at hsm
 have HS:=Lib.hid hsm
 clear ht hsm
 by_cases hdn:dn < 1
 ·have d1:decide (dn < 1) = true:=decide_eq_true hdn
  go_wp2_with fail
  refine (alive15 _ (H0.out.2.1.quiet HE.out)).mono ?_;rintro e w9 ⟨rfl,hm9⟩;have H9:=Lib.hid (HE.out.trans hm9);clear hm9;go_wp2_with fail;go_ret;exact ⟨rfl,H9.out⟩
 have d1:decide (dn < 1) = false:=decide_eq_false hdn
 have hdn1:1 ≤ dn:=by omega
 go_wp2_with fail
 have h2:=H1.out.alloc (g:=w1.heap.size) 38 #[.string (strOf nm),.int .i64 dn,.int .i64 q,.int .i64 tg] rfl
 have q2:=h2.own_ 0 rfl
 dsimp only at q2
 refine (lMake _ (H0.out.2.1.quiet h2.mod) A n c fs (H0.out.2.2.1.quiet h2.mod) H0.out.2.2.2.1 H0.out.2.2.2.2.1 G (some ⟨w1.heap.size,0,none⟩) 1 1 [⟨nm,dn,q,tg⟩] (rg_one (r:=⟨nm,dn,q,tg⟩) q2 H0.out.2.2.2.2.2.1) (by decide) (by have:=(side_of HS.out).1;omega) (by have:=(side_of HS.out).2;omega)).mono ?_
 intro e w2 hmk
 obtain ⟨X,E,rfl,hX,hm2⟩:=MkOut.of hmk
 have hs2:=h2.quiet hm2
 clear rc rf q2 h2 hm2 hmk HE H1
 obtain ⟨rc,rf⟩:=(hs2.own_ 2 rfl).both
 dsimp only at rc
 have H2:=Lib.hid (And.intro hs2 hX)
 clear hs2 hX
 go_wp2_with fail
 go_loopw [10,11] (HvRel w2 n fs) (fun _ v _=>n - (intOf v).toNat)
 case atStart=>exact ⟨0,[],by omega,rfl,rfl,fun i hi=>absurd hi (by omega),.nil _ _,Mod.refl _ _⟩
 case round=>
  rename World=>wr
  obtain ⟨k,gs,hk,rfl,hgl,hall,hL,hM⟩:=hrel
  obtain ⟨Ao,co,hv10⟩:=hL.shape
  rw [hgl] at hv10
  subst hv10
  have hM2:=H2.out.1.mod.trans hM
  by_cases hlt:k < n
  ·obtain ⟨b,o,hA,hb,hcells,hfin⟩:=(H0.out.2.2.1.quiet hM2).at_ k hlt
   subst hA
   have d3:decide ((k:Int) < (n:Int)) = true:=decide_eq_true (by omega)
   obtain ⟨f,hf⟩:∃ f,f = fs.getD k FrX.zero:=⟨_,rfl⟩
   rw [← hf] at hcells hfin
   have hdown:=pDownAny wr f hfin
   unfold FrX.cells at hdown
   have k0:wr.cell? ⟨b,o + k * 9,none⟩ = some (.int .i64 f.W0):=hcells 0 _ rfl
   have k1:=hcells 1 _ rfl
   have k2:=hcells 2 _ rfl
   have k3:=hcells 3 _ rfl
   have k4:=hcells 4 _ rfl
   have k5:=hcells 5 _ rfl
   have k6:=hcells 6 _ rfl
   have k7:=hcells 7 _ rfl
   have k8:=hcells 8 _ rfl
   have HQ:=Lib.hid (And.intro hdown (And.intro hf (And.intro hall (And.intro hL (And.intro hM hgl)))))
   clear hdown hf hall hL hM hcells hfin hM2 hb hgl
   go_wp2_with fail
   refine HQ.out.1.mono ?_
   rintro e w5 ⟨g,er,rfl,hhalf,hgin,hgF,hm5⟩
   clear k0 k1 k2 k3 k4 k5 k6 k7 k8 rc rf
   unfold FrX.cells
   have H5:=Lib.hid (And.intro hhalf (And.intro hgin (And.intro hgF hm5)))
   clear hhalf hgin hgF hm5
   go_upto_region 10 with (fail)
   have b9:=Blk.new w5 58 #[.int .i64 g.W0,.int .i64 g.H0,.slice g.A0 g.n0 g.c0,.int .i64 g.W1,.int .i64 g.H1,.slice g.A1 g.n1 g.c1,.int .i64 g.W2,.int .i64 g.H2,.slice g.A2 g.n2 g.c2]
   have hM9:Mod (fun _=>False) w5 (w5.alloc (.cells #[.int .i64 g.W0,.int .i64 g.H0,.slice g.A0 g.n0 g.c0,.int .i64 g.W1,.int .i64 g.H1,.slice g.A1 g.n1 g.c1,.int .i64 g.W2,.int .i64 g.H2,.slice g.A2 g.n2 g.c2] 58)):=(Mod.refl _ w5).alloc _
   obtain ⟨fb,hfb⟩:∃ x,x = w5.heap.size:=⟨_,rfl⟩
   rw [← hfb] at b9 ⊢
   clear hfb
   generalize w5.alloc (.cells #[.int .i64 g.W0,.int .i64 g.H0,.slice g.A0 g.n0 g.c0,.int .i64 g.W1,.int .i64 g.H1,.slice g.A1 g.n1 g.c1,.int .i64 g.W2,.int .i64 g.H2,.slice g.A2 g.n2 g.c2] 58) = w6 at b9 hM9 ⊢
   obtain ⟨fc,ff⟩:=b9.both
   have fl:=b9.lt
   have hq6:=H5.out.2.2.2.trans hM9
   have hM26:=HQ.out.2.2.2.2.1.trans hq6
   have hL6:ListOwn w6 w2.heap.size 58 9 (FrR w6 (FM w2.heap.size (.slice Ao k co))) (.slice Ao k co) gs:=
    HQ.out.2.2.2.1.turn hq6 (fun _ _ h=>h) (fun _ _ _ hx=>hx.turn hq6 (fun _ _ _ h=>h) (fun _ hk _=>hk))
   have hx6:FrR w6 (FM w2.heap.size (.slice Ao k co)) g [.int .i64 g.W0,.int .i64 g.H0,.slice g.A0 g.n0 g.c0,.int .i64 g.W1,.int .i64 g.H1,.slice g.A1 g.n1 g.c1,.int .i64 g.W2,.int .i64 g.H2,.slice g.A2 g.n2 g.c2]:=by
    refine ⟨rfl,H5.out.2.1.quiet hM9,fun ad e=>⟨⟨?_,fun e2=>?_⟩,?_⟩⟩
    ·have h1:=(H5.out.2.2.1 ad e).1
     have h2:=HQ.out.2.2.2.2.1.size
     omega
    ·have h1:=(H5.out.2.2.1 ad e).1
     have h2:=(HQ.out.2.2.2.1.lt _ e2).2
     omega
    ·have h1:=(H5.out.2.2.1 ad e).2
     have h2:=hM9.size
     omega
   obtain ⟨xs,hrow,hcel⟩:=hL6
   rw [HQ.out.2.2.2.2.2] at hrow
   have hsz6:=hM26.size
   have H6:=Lib.hid (And.intro hrow (And.intro hcel (And.intro hx6 hM26)))
   clear b9 hM9 hq6 hM26 hrow hcel hx6
   go_wp2_with (at_builtin;refine Hid.out ?_)
   refine Lib.hid ?_
   refine wpList_app_one w6 rfl (.tmp 51) (.tmp 53) 29 58 rfl Tryz.underlying29 (.agg #[.int .i64 0,.int .i64 0,.slice none 0 0,.int .i64 0,.int .i64 0,.slice none 0 0,.int .i64 0,.int .i64 0,.slice none 0 0]) 9 120 fr_info rfl (by decide) w2.heap.size (.slice Ao k co) k xs [.int .i64 g.W0,.int .i64 g.H0,.slice g.A0 g.n0 g.c0,.int .i64 g.W1,.int .i64 g.H1,.slice g.A1 g.n1 g.c1,.int .i64 g.W2,.int .i64 g.H2,.slice g.A2 g.n2 g.c2] rfl (by intro u hu;simp only [List.mem_cons,List.not_mem_nil,or_false] at hu;rcases hu with rfl | rfl | rfl | rfl | rfl | rfl | rfl | rfl | rfl <;> rfl) w6.heap.size rfl rfl rfl H6.out.1 hsz6 (by unfold maxLen;omega) (by omega) ?_
   intro v2 w9 y1 y2 y3 y4
   obtain ⟨As,cs2,rfl⟩:=own_shape y1
   have hmod9:=y3 w2 (fun _=>False) (Nat.le_refl _) H6.out.2.2.2
   have HA:=Lib.hid (And.intro y1 (And.intro y2 (And.intro y4 hmod9)))
   clear y1 y2 y3 y4 hmod9 fc ff fl
   go_wp2_with fail
   refine ⟨⟨k + 1,gs ++ [g],by omega,rfl,by rw [List.length_append,HQ.out.2.2.2.2.2];rfl,halves_snoc HQ.out.2.2.2.2.2 HQ.out.2.2.1 (by rw [← HQ.out.2.1];exact H5.out.1),?_,HA.out.2.2.2⟩,half_meas hlt⟩
   exact frx_push H6.out.2.1 (by rw [HQ.out.2.2.2.2.2];exact HA.out.1) HA.out.2.1 HA.out.2.2.1 H6.out.2.2.1 rfl
  ·obtain rfl:k = n:=by omega
   have d3:decide ((k:Int) < (k:Int)) = false:=decide_eq_false (by omega)
   have hsR:=H2.out.1.quiet hM
   clear rc rf
   obtain ⟨rc,rf⟩:=(hsR.own_ 2 rfl).both
   dsimp only at rc
   obtain ⟨A4,c4,hv4,hl4,hc4,hfr4⟩:=frs_own hL
   rw [hgl] at hv4 hl4 hfr4
   injection hv4 with e1 _ e2
   subst e1 e2
   have hh:HalvesOf fs gs:=⟨by rw [hgl,H0.out.2.2.2.2.2.2],fun i hi=>hall i (by rw [← H0.out.2.2.2.2.2.2];exact hi)⟩
   have HL:=Lib.hid (And.intro hfr4 (And.intro hl4 (And.intro hc4 (And.intro hh (And.intro hM hsR)))))
   clear hL hall hgl hM hsR hl4 hc4 hfr4 hh hM2
   go_upto_region 13 with (fail)
   have h5:=HL.out.2.2.2.2.2.alloc (g:=wr.heap.size) 38 #[.string (strOf nm),.int .i64 (dn - 1),.int .i64 q,.int .i64 tg] rfl
   obtain ⟨lc,lf⟩:=(h5.own_ 0 rfl).both
   dsimp only at lc
   have H5:=Lib.hid h5
   clear h5 rc rf
   go_wp2_with fail
   have h6:=H5.out.alloc (g:=wr.heap.size + 1) 38 #[.string (strOf nm),.int .i64 (dn - 1),.int .i64 q,.int .i64 tg] (by simp)
   have q6:=h6.own_ 0 rfl
   dsimp only at q6
   have hMM:Mod (fun _=>False) wr ((wr.alloc (.cells #[.string (strOf nm),.int .i64 (dn - 1),.int .i64 q,.int .i64 tg] 38)).alloc (.cells #[.string (strOf nm),.int .i64 (dn - 1),.int .i64 q,.int .i64 tg] 38)):=((Mod.refl _ wr).alloc _).alloc _
   refine (lMake _ (H0.out.2.1.quiet h6.mod) Ao k co gs (HL.out.1.quiet hMM) HL.out.2.1 HL.out.2.2.1 G (some ⟨wr.heap.size + 1,0,none⟩) 1 1 [⟨nm,dn - 1,q,tg⟩] (rg_one (r:=⟨nm,dn - 1,q,tg⟩) q6 H0.out.2.2.2.2.2.1) (by decide) (half_side HL.out.2.2.2.1 HS.out).1 (half_side HL.out.2.2.2.1 HS.out).2).mono ?_
   intro e w7 hmk
   obtain ⟨Y,E2,rfl,hY,hm7⟩:=MkOut.of hmk
   have hmm:makeB gs G [⟨nm,dn - 1,q,tg⟩] = makeB fs G [⟨nm,dn,q,tg⟩]:=halves_make HL.out.2.2.2.1 G ⟨nm,dn,q,tg⟩ hdn1 (fun i hi=>(HS.out i hi).2.1)
   have hx0:=H2.out.2
   have HE:=Lib.hid (h6.quiet hm7).mod
   have HF:=Lib.hid (HL.out.2.2.2.2.1.trans (hMM.trans hm7))
   clear lc lf h6 q6 hMM hm7 hmk
   rcases hx0 with ⟨b1,rfl⟩ | ⟨b1,rfl,hx⟩
   ·rcases hY with ⟨b2,rfl⟩ | ⟨b2,_⟩
    ·clear b1 b2 hmm
     go_wp2_with fail
     refine (alive15 _ (H0.out.2.1.quiet HE.out)).mono ?_;rintro e w9 ⟨rfl,hm9⟩;have H9:=Lib.hid (HE.out.trans hm9);clear hm9;go_wp2_with fail;go_ret;exact ⟨rfl,H9.out⟩
    ·exact absurd (b2.symm.trans (hmm.trans b1)) (by decide)
   ·rcases hY with ⟨b2,_⟩ | ⟨b2,rfl,hy⟩
    ·exact absurd (b1.symm.trans (hmm.symm.trans b2)) (by decide)
    ·obtain ⟨e1,e2⟩:=halves_made HL.out.2.2.2.1 (r:=⟨nm,dn,q,tg⟩) hdn1 b1
     obtain ⟨s1,s2⟩:=made_small b1 (by have:=H0.out.2.2.2.2.2.2;omega)
     have HX:=Lib.hid (And.intro hx (And.intro hy (And.intro e1 (And.intro e2 (And.intro s1 s2)))))
     clear b1 b2 hmm hx hy e1 e2 s1 s2
     go_wp2_with fail
     refine (alive15 _ (H0.out.2.1.quiet HE.out)).mono ?_
     rintro e w8 ⟨rfl,hm8⟩
     have H8:=Lib.hid hm8
     clear hm8
     go_wp2_with fail
     refine (lOne15 w8 _ _ X Y _ _ (HX.out.1.turn (HF.out.trans H8.out) (fun _ _ _ h=>h) (fun _ h _=>h)) (HX.out.2.1.turn H8.out (fun _ _ _ h=>h) (fun _ h _=>h)) HX.out.2.2.1 HX.out.2.2.2.1 rfl HX.out.2.2.2.2.1 HX.out.2.2.2.2.2).mono ?_
     rintro e w9 ⟨rfl,hm9⟩
     have H9:=Lib.hid (HE.out.trans (H8.out.trans hm9))
     clear hm9
     go_wp2_with fail
     go_ret
     exact ⟨rfl,H9.out⟩
end Go.Proofs.YthednemlahioeaaGreatDoor
namespace Go.Proofs.YthednemlahioeaaGreatDoor
open Go.RowKit Go.ChangeShapes Go.WideShapes Go.ChangeAt Go.Joins
set_option maxRecDepth 100000
set_option maxHeartbeats 8000000
section
variable {H : Type} {enc : TypeId × Value → H} {w : World} {base : Nat} {held : Bool}
theorem u8_back (zs:List Int) (h:∀ n ∈ zs,(Lit.int .u8 n).wf = true):u8s (zs.map fun n=>UInt8.ofNat n.toNat) = zs.map (Value.int .u8):=by
 unfold u8s
 rw [List.map_map]
 refine List.map_congr_left fun n hn=>?_
 have hb:=bounds_u8 (h n hn)
 have e:((UInt8.ofNat n.toNat).toNat:Int) = n:=by
  rw [UInt8.toNat_ofNat',Nat.mod_eq_of_lt (by omega)]
  omega
 simp only [Function.comp,e]
theorem bytes_form {fuel:Nat} {v:Value} {x:DataW H × List MemPlace} (h:DataW.trod enc Tryz.prog w base (fun _=>true) held fuel 54 [v] = some x) :
  ∃ (A:Option Addr) (n c:Nat) (l:List UInt8),v = .slice A n c ∧ n ≤ maxLen ∧ BytesIn w A n c l:=by
 rcases open_ints Tryz.underlying54 Tryz.underlying5 (by kernel_rfl) h with ⟨hcs,_⟩ | ⟨a,n,c,zs,hcs,_,hl,hm,hz,_,hcell,hwz⟩
 ·injection hcs with hcs
  exact ⟨none,0,0,[],hcs,by decide,rfl,fun _=>rfl,Src.nil,fun h0=>absurd h0 (by omega)⟩
 ·injection hcs with hcs
  have hz':zs.length = c:=by simpa using hz
  have hb:=u8_back (zs.take n) (fun m hm=>hwz m (List.mem_of_mem_take hm))
  refine ⟨some a,n,c,(zs.take n).map fun m=>UInt8.ofNat m.toNat,hcs,by omega,?_,(fun h=>by cases h),?_,fun h0 ad e=>?_⟩
  ·simp;omega
  ·rw [hb]
   refine ⟨by simp;omega,(fun h=>by cases h),fun ad e j u hu=>?_⟩
   injection e with e
   subst e
   have hj:j < n:=by
    have:=(List.getElem?_eq_some_iff.1 hu).1
    simp at this
    omega
   have:=hcell j (by omega)
   rw [this,← hu]
   simp [List.getD_eq_getElem?_getD,hj,show j < zs.length by omega]
  ·injection e with e
   subst e
   have:=World.block_lt_of_cell? w _ (hcell 0 (by omega))
   rwa [addr_block] at this
theorem bytes_cap {fuel:Nat} {A:Option Addr} {n c:Nat} {x:DataW H × List MemPlace} (h:DataW.trod enc Tryz.prog w base (fun _=>true) held fuel 54 [.slice A n c] = some x):n ≤ c:=by
 rcases open_ints Tryz.underlying54 Tryz.underlying5 (by kernel_rfl) h with ⟨hcs,_⟩ | ⟨a,n',c',zs,hcs,_,hl,_⟩
 ·injection hcs with hcs
  injection hcs with _ e2 e3
  omega
 ·injection hcs with hcs
  injection hcs with _ e2 e3
  omega
end
end Go.Proofs.YthednemlahioeaaGreatDoor
namespace Go.Proofs.YthednemlahioeaaGreatDoor
open Go.RowKit Go.ChangeShapes Go.WideShapes Go.ChangeAt Go.Joins Go.Deep
set_option maxRecDepth 100000
set_option maxHeartbeats 8000000
section
variable {H : Type} {enc : TypeId × Value → H} {w : World} {base : Nat} {held : Bool}
theorem cellsIN:Tryz.prog.cellsOf 3 = 1:=by kernel_rfl
theorem cellsBS:Tryz.prog.cellsOf 54 = 1:=by kernel_rfl
theorem cellsPL:Tryz.prog.cellsOf 56 = 3:=by kernel_rfl
theorem cellsFRT:Tryz.prog.cellsOf 58 = 9:=by kernel_rfl
theorem int_form {fuel:Nat} {v:Value} {x:DataW H × List MemPlace} (h:DataW.trod enc Tryz.prog w base (fun _=>true) held fuel 3 [v] = some x):∃ n,v = .int .i64 n ∧ -9223372036854775808 ≤ n ∧ n ≤ 9223372036854775807:=by
 obtain ⟨n,e,_,hw⟩:=DataW.trod_int Tryz.underlying3 h
 injection e with e
 exact ⟨n,e,bounds_i64 hw⟩
theorem pl_form {fuel:Nat} {cs:List Value} {x:DataW H × List MemPlace} (h:DataW.trod enc Tryz.prog w base (fun _=>true) held fuel 56 cs = some x) :
  ∃ (W Y:Int) (A:Option Addr) (n c:Nat) (l:List UInt8),cs = [.int .i64 W,.int .i64 Y,.slice A n c] ∧ BytesIn w A n c l ∧ n ≤ c ∧ n ≤ 9223372036854775807:=by
 obtain ⟨y0,y1,y2,n,_,hl,h0,h1,h2⟩:=trod_struct3 Tryz.underlying56 h
 rw [cellsPL] at hl
 rw [cellsIN] at h0 h1
 rw [cellsBS] at h2
 match cs,hl with
 | [a,b,c],_=>
  obtain ⟨x0,rfl,_⟩:=int_form h0
  obtain ⟨x1,rfl,_⟩:=int_form h1
  obtain ⟨A,n,k,l,rfl,hn,hin⟩:=bytes_form h2
  exact ⟨x0,x1,A,n,k,l,rfl,hin,bytes_cap h2,by unfold maxLen at hn;omega⟩
theorem fr_form {fuel:Nat} {cs:List Value} {x:DataW H × List MemPlace} (h:DataW.trod enc Tryz.prog w base (fun _=>true) held fuel 58 cs = some x):∃ f:FrX,f.In w ∧ cs = f.cells:=by
 obtain ⟨y0,y1,y2,n,_,hl,h0,h1,h2⟩:=trod_struct3 Tryz.underlying58 h
 rw [cellsFRT] at hl
 rw [cellsPL] at h0 h1 h2
 match cs,hl with
 | [a0,a1,a2,a3,a4,a5,a6,a7,a8],_=>
  obtain ⟨W0,Y0,A0,n0,c0,l0,e0,b0,k0,m0⟩:=pl_form h0
  obtain ⟨W1,Y1,A1,n1,c1,l1,e1,b1,k1,m1⟩:=pl_form h1
  obtain ⟨W2,Y2,A2,n2,c2,l2,e2,b2,k2,m2⟩:=pl_form h2
  have e0':[a0,a1,a2] = [.int .i64 W0,.int .i64 Y0,.slice A0 n0 c0]:=e0
  have e1':[a3,a4,a5] = [.int .i64 W1,.int .i64 Y1,.slice A1 n1 c1]:=e1
  have e2':[a6,a7,a8] = [.int .i64 W2,.int .i64 Y2,.slice A2 n2 c2]:=e2
  simp only [List.cons.injEq,and_true] at e0' e1' e2'
  obtain ⟨rfl,rfl,rfl⟩:=e0'
  obtain ⟨rfl,rfl,rfl⟩:=e1'
  obtain ⟨rfl,rfl,rfl⟩:=e2'
  exact ⟨⟨W0,Y0,A0,n0,c0,W1,Y1,A1,n1,c1,W2,Y2,A2,n2,c2,l0,l1,l2⟩,⟨b0,b1,b2,k0,k1,k2,m0,m1,m2⟩,rfl⟩
theorem fr_choose (n:Nat) (P:Nat → FrX → Prop) (h:∀ i,i < n → ∃ l,P i l):∃ ls:List FrX,ls.length = n ∧ ∀ i,i < n → P i (ls.getD i FrX.zero):=by
 induction n with
 | zero=>exact ⟨[],rfl,fun i h=>absurd h (by omega)⟩
 | succ n ih=>
  obtain ⟨ls,h1,h2⟩:=ih (fun i hi=>h i (by omega))
  obtain ⟨l,hl⟩:=h n (by omega)
  refine ⟨ls ++ [l],by simp [h1],fun i hi=>?_⟩
  rw [List.getD_eq_getElem?_getD]
  by_cases e:i = n
  ·subst e
   rw [List.getElem?_append_right (by omega),h1,Nat.sub_self]
   exact hl
  ·rw [List.getElem?_append_left (by omega),← List.getD_eq_getElem?_getD]
   exact h2 i (by omega)
theorem frs_form {fuel:Nat} {v:Value} {x:DataW H × List MemPlace} (h:DataW.trod enc Tryz.prog w base (fun _=>true) held fuel 29 [v] = some x):∃ A n c fs,v = .slice A n c ∧ n ≤ 9223372036854775807 ∧ FrsIn w A n fs:=by
 rcases open_slice Tryz.underlying29 h with ⟨hcs,_⟩ | ⟨a,len,cap,m,n,D,Pl,hcs,_,hl,hm,hmm,_,hall⟩
 ·injection hcs with hcs
  exact ⟨none,0,0,[],hcs,by omega,rfl,fun i hi=>absurd hi (by omega)⟩
 ·injection hcs with hcs
  rw [if_pos rfl] at hmm
  subst hmm
  have each:∀ i,i < len → ∃ f:FrX,∃ b o,some a = some ⟨b,o,none⟩ ∧ b < w.heap.size ∧ (∀ (j:Nat) (v:Value),f.cells[j]? = some v → w.cell? ⟨b,o + i * 9 + j,none⟩ = some v) ∧ f.In w:=by
   intro i hi
   obtain ⟨cs',hc,ht⟩:=hall i (by omega)
   rw [cellsFRT] at hc
   obtain ⟨_,hcl,hat⟩:=World.cells?_some hc
   obtain ⟨f,hf,rfl⟩:=fr_form ht
   obtain ⟨b,off,spot⟩:=a
   have hspot:spot = none:=by
    obtain ⟨cs0,hc0,ht0⟩:=hall 0 (by omega)
    obtain ⟨_,hcl0,hat0⟩:=World.cells?_some hc0
    have z0:=hat0 0 (by have:=cellsFRT;omega)
    rw [Nat.zero_mul] at z0
    obtain ⟨v0,hv0⟩:∃ v,cs0[0]? = some v:=⟨_,List.getElem?_eq_getElem (by have:=cellsFRT;omega)⟩
    rw [hv0] at z0
    exact World.cell?_spot z0
   subst hspot
   have hk:∀ (j:Nat) (v:Value),f.cells[j]? = some v → w.cell? ⟨b,off + i * 9 + j,none⟩ = some v:=by
    intro j v hv
    have hj:j < 9:=by
     have:=(List.getElem?_eq_some_iff.1 hv).1
     exact this
    have k:=hat j (by omega)
    rw [addr_add',addr_add'] at k
    rw [k]
    exact hv
   have k0:=hk 0 _ rfl
   exact ⟨f,b,off,rfl,World.block_lt_of_cell? w _ k0,hk,hf⟩
  obtain ⟨ls,e1,e2⟩:=fr_choose len (fun i f=>∃ b o,some a = some ⟨b,o,none⟩ ∧ b < w.heap.size ∧ (∀ (j:Nat) (v:Value),f.cells[j]? = some v → w.cell? ⟨b,o + i * 9 + j,none⟩ = some v) ∧ f.In w) each
  exact ⟨some a,len,_,ls,hcs,by unfold maxLen at hm;omega,e1,e2⟩
theorem open_frs {r:Reach} {b0:Nat} {v:Value} {d:DataW H} {p:List MemPlace} (hv:Value.okWide Tryz.prog w r b0 29 v) (h:DataW.Trod enc Tryz.prog w base (fun _=>true) held 29 v d p):∃ A n c fs,v = .slice A n c ∧ n ≤ 9223372036854775807 ∧ FrsIn w A n fs:=by
 obtain ⟨a0,len0,cap0,rfl⟩:=okWide_slice Tryz.underlying29 hv
 obtain ⟨fuel,hf⟩:=h
 have hf':DataW.trod enc Tryz.prog w base (fun _=>true) held fuel 29 [.slice a0 len0 cap0] = some (d,p):=by simpa [Value.cells] using hf
 exact frs_form hf'
end
section
variable {H : Type} {enc : TypeId × Value → H} {w : World} {base : Nat} {held : Bool}
theorem rcellsS:Tryz.prog.cellsOf 9 = 1:=by kernel_rfl
theorem rcellsRG:Tryz.prog.cellsOf 38 = 4:=by kernel_rfl
theorem rstr_back (s:ByteArray):s = strOf s.data.toList:=by cases s;simp [strOf]
theorem rstr_at {fuel:Nat} {v:Value} {x:DataW H × List MemPlace} (h:DataW.trod enc Tryz.prog w base (fun _=>true) held fuel 9 [v] = some x):∃ s:List UInt8,v = .string (strOf s) ∧ s.length ≤ 9223372036854775807:=by
 obtain ⟨s,e,_,hw⟩:=DataW.trod_string Tryz.underlying9 h
 injection e with e
 refine ⟨s.data.toList,?_,?_⟩
 ·rw [e];exact congrArg Value.string (rstr_back s)
 ·have hz:s.data.toList.length = s.size:=Array.length_toList
  unfold maxLen at hw
  omega
theorem rg_form {fuel:Nat} {cs:List Value} {x:DataW H × List MemPlace} (h:DataW.trod enc Tryz.prog w base (fun _=>true) held fuel 38 cs = some x):∃ r:Rg,r.name.length ≤ 9223372036854775807 ∧ cs = r.cells:=by
 obtain ⟨xs,n,_,_,hl,hxl,hf⟩:=DataW.trod_struct Tryz.underlying38 h
 rw [rcellsRG] at hl
 have g0:DataW.trod enc Tryz.prog w base (fun _=>true) held n 9 ((cs.drop 0).take (Tryz.prog.cellsOf 9)) = xs[0]?:=hf 0 _ rfl
 have g1:DataW.trod enc Tryz.prog w base (fun _=>true) held n 3 ((cs.drop 1).take (Tryz.prog.cellsOf 3)) = xs[1]?:=hf 1 _ rfl
 have g2:DataW.trod enc Tryz.prog w base (fun _=>true) held n 3 ((cs.drop 2).take (Tryz.prog.cellsOf 3)) = xs[2]?:=hf 2 _ rfl
 have g3:DataW.trod enc Tryz.prog w base (fun _=>true) held n 3 ((cs.drop 3).take (Tryz.prog.cellsOf 3)) = xs[3]?:=hf 3 _ rfl
 clear hf
 rw [cellsIN] at g1 g2 g3
 rw [rcellsS] at g0
 have hne:∀ i,i < 4 → ∃ x,xs[i]? = some x:=fun i hi=>⟨_,List.getElem?_eq_getElem (by have:xs.length = 4:=hxl;omega)⟩
 obtain ⟨y0,e0⟩:=hne 0 (by omega)
 obtain ⟨y1,e1⟩:=hne 1 (by omega)
 obtain ⟨y2,e2⟩:=hne 2 (by omega)
 obtain ⟨y3,e3⟩:=hne 3 (by omega)
 rw [e0] at g0
 rw [e1] at g1
 rw [e2] at g2
 rw [e3] at g3
 clear hne e0 e1 e2 e3
 match cs,hl with
 | [a0,a1,a2,a3],_=>
  obtain ⟨s,rfl,hs⟩:=rstr_at g0
  obtain ⟨x1,rfl,_⟩:=int_form (v:=a1) g1
  obtain ⟨x2,rfl,_⟩:=int_form (v:=a2) g2
  obtain ⟨x3,rfl,_⟩:=int_form (v:=a3) g3
  exact ⟨⟨s,x1,x2,x3⟩,hs,rfl⟩
end
section
variable {H : Type} {enc : TypeId × Value → H} {w : World} {base : Nat} {held : Bool}
theorem frs_cap {A:Option Addr} {n c:Nat} {d:DataW H} {p:List MemPlace} (h:DataW.Trod enc Tryz.prog w base (fun _=>true) held 29 (.slice A n c) d p):n ≤ c ∧ c ≤ 9223372036854775807:=by
 obtain ⟨fuel,hf⟩:=h
 have hf':DataW.trod enc Tryz.prog w base (fun _=>true) held fuel 29 [.slice A n c] = some (d,p):=by simpa [Value.cells] using hf
 rcases open_slice Tryz.underlying29 hf' with ⟨hcs,_⟩ | ⟨a,len,cap,m,k,D,Pl,hcs,_,hl,hm,_⟩
 ·injection hcs with hcs
  injection hcs with e1 e2 e3
  omega
 ·injection hcs with hcs
  injection hcs with e1 e2 e3
  unfold maxLen at hm
  omega
theorem open_rung {r:Reach} {b0:Nat} {v:Value} {d:DataW H} {p:List MemPlace} (hv:Value.okWide Tryz.prog w r b0 38 v) (h:DataW.Trod enc Tryz.prog w base (fun _=>true) held 38 v d p) :
  ∃ g:Rg,v = .agg g.cells.toArray ∧ g.name.length ≤ 9223372036854775807 ∧ -9223372036854775808 ≤ g.down ∧ g.down ≤ 9223372036854775807:=by
 obtain ⟨cs,rfl,_⟩:=okWide_struct Tryz.underlying38 hv
 obtain ⟨fuel,hf⟩:=h
 have hf':DataW.trod enc Tryz.prog w base (fun _=>true) held fuel 38 cs.toList = some (d,p):=hf
 obtain ⟨g,hg,e⟩:=rg_form hf'
 obtain ⟨xs,n,_,_,hl,hxl,hall⟩:=DataW.trod_struct Tryz.underlying38 hf'
 have g1:DataW.trod enc Tryz.prog w base (fun _=>true) held n 3 ((cs.toList.drop 1).take (Tryz.prog.cellsOf 3)) = xs[1]?:=hall 1 _ rfl
 rw [cellsIN,e] at g1
 obtain ⟨y,hy⟩:∃ y,xs[1]? = some y:=⟨_,List.getElem?_eq_getElem (by have:xs.length = 4:=hxl;omega)⟩
 rw [hy] at g1
 obtain ⟨z,hz,b1,b2⟩:=int_form (v:=.int .i64 g.down) g1
 injection hz with _ hz
 subst hz
 refine ⟨g,?_,hg,b1,b2⟩
 rw [← e]
end
end Go.Proofs.YthednemlahioeaaGreatDoor

namespace Go.Proofs.YthednemlahioeaaGreatDoor
open Go Go.RowKit Go.ChangeShapes Go.WideShapes Go.ChangeAt Go.Joins Go.Deep
set_option maxRecDepth 100000
set_option maxHeartbeats 8000000
def laidAll : List (String × DataW Unit) := [("kinora/encoder.places", Rows.laid_kinora_encoder_places)]
theorem laid_plain {W:World} (h:laidMetH Tryz.prog laidAll W):laidMet Tryz.prog laidAll W:=by
 rw [Go.MakeChecks.laidMetH_plain Tryz.prog laidAll W (by kernel_rfl)] at h
 exact h
section
variable {H : Type} {enc : TypeId × Value → H} {w : World} {base : Nat} {sp : Nat → Bool} {held : Bool}
theorem cellsPLC:Tryz.prog.cellsOf 343 = 3:=by kernel_rfl
theorem cellsINT1:Tryz.prog.cellsOf 3 = 1:=by kernel_rfl
theorem int_lit {fuel:Nat} {v:Value} {x:DataW H × List MemPlace} (h:DataW.trod enc Tryz.prog w base sp held fuel 3 [v] = some x):∃ n,v = .int .i64 n ∧ x = (.lit (.int .i64 n),[]):=by
 obtain ⟨n,e,e2,_⟩:=DataW.trod_int Tryz.underlying3 h
 injection e with e
 exact ⟨n,e,e2⟩
theorem place_lit {fuel:Nat} {L:List Value} {a b c:Int} {ps:List MemPlace} (h:DataW.trod enc Tryz.prog w base sp held fuel 343 L = some (.agg [.lit (.int .i64 a),.lit (.int .i64 b),.lit (.int .i64 c)],ps)):L = [.int .i64 a,.int .i64 b,.int .i64 c]:=by
 obtain ⟨y0,y1,y2,n,hx,hl,h0,h1,h2⟩:=trod_struct3 Tryz.underlying343 h
 rw [cellsPLC] at hl
 rw [cellsINT1] at h0 h1 h2
 match L,hl with
 | [v0,v1,v2],_=>
  obtain ⟨n0,rfl,rfl⟩:=int_lit h0
  obtain ⟨n1,rfl,rfl⟩:=int_lit h1
  obtain ⟨n2,rfl,rfl⟩:=int_lit h2
  simp only [Prod.mk.injEq,DataW.agg.injEq,List.cons.injEq,DataW.lit.injEq,Lit.int.injEq,true_and,and_true] at hx
  obtain ⟨⟨rfl,rfl,rfl⟩,_⟩:=hx
  rfl
theorem places_cells {fuel:Nat} {cs:List Value} {p:List MemPlace} (h:DataW.trod enc Tryz.prog w base sp held fuel 344 cs = some (Rows.laid_kinora_encoder_places,p)):∀ i,i < 18 → cs[i]? = placesV[i]?:=by
 obtain ⟨xs,m,rfl,hx,hl,hxl,hall⟩:=DataW.trod_array Tryz.underlying344 h
 rw [cellsPLC] at hall
 have hm:(Rows.laid_kinora_encoder_places:DataW H) = .agg (xs.map (·.1)):=congrArg Prod.fst hx
 unfold Rows.laid_kinora_encoder_places at hm
 injection hm with hm
 have key:∀ k a b c,k < 6 → (xs.map (·.1))[k]? = some (.agg [.lit (.int .i64 a),.lit (.int .i64 b),.lit (.int .i64 c)]) → ∀ j,j < 3 → cs[k * 3 + j]? = [Value.int .i64 a,.int .i64 b,.int .i64 c][j]?:=by
  intro k a b c hk he j hj
  rw [List.getElem?_map,Option.map_eq_some_iff] at he
  obtain ⟨y,hy,hy1⟩:=he
  have h1:=hall k hk
  rw [hy] at h1
  obtain ⟨y1,y2⟩:=y
  dsimp only at hy1
  subst hy1
  rw [← place_lit h1,List.getElem?_take_of_lt hj,List.getElem?_drop]
 intro i hi
 have e0:=key 0 0 0 0 (by omega) (by rw [← hm];rfl)
 have e1:=key 1 0 8 0 (by omega) (by rw [← hm];rfl)
 have e2:=key 2 0 0 8 (by omega) (by rw [← hm];rfl)
 have e3:=key 3 0 8 8 (by omega) (by rw [← hm];rfl)
 have e4:=key 4 1 0 0 (by omega) (by rw [← hm];rfl)
 have e5:=key 5 2 0 0 (by omega) (by rw [← hm];rfl)
 clear key hm hall hx
 match i,hi with
 | 0,_=>exact e0 0 (by omega)
 | 1,_=>exact e0 1 (by omega)
 | 2,_=>exact e0 2 (by omega)
 | 3,_=>exact e1 0 (by omega)
 | 4,_=>exact e1 1 (by omega)
 | 5,_=>exact e1 2 (by omega)
 | 6,_=>exact e2 0 (by omega)
 | 7,_=>exact e2 1 (by omega)
 | 8,_=>exact e2 2 (by omega)
 | 9,_=>exact e3 0 (by omega)
 | 10,_=>exact e3 1 (by omega)
 | 11,_=>exact e3 2 (by omega)
 | 12,_=>exact e4 0 (by omega)
 | 13,_=>exact e4 1 (by omega)
 | 14,_=>exact e4 2 (by omega)
 | 15,_=>exact e5 0 (by omega)
 | 16,_=>exact e5 1 (by omega)
 | 17,_=>exact e5 2 (by omega)
 | n + 18,h=>exact absurd h (by omega)
end
theorem env_of_laid {W:World} (h:laidMet Tryz.prog laidAll W):EnvP W:=by
 obtain ⟨ps,⟨g',t',cs,fuel,p,q,hg',ht',hvar,hd,_,_⟩,_⟩:=h
 have hg : Tryz.prog.globalNamed "kinora/encoder.places" = some 5 := by kernel_rfl
 obtain rfl:=Option.some.inj (hg.symm.trans hg')
 have hty:(Tryz.prog.globals[5]?).map (·.type) = some 344:=by kernel_rfl
 obtain rfl:=Option.some.inj (hty.symm.trans ht')
 have hcs:=places_cells hd
 have hc:∀ i,i < 18 → W.cell? ⟨5,i,none⟩ = placesV[i]?:=fun i hi=>by
  rw [World.var?_cell hg hvar i,← hcs i hi,Array.getElem?_toList]
 exact ⟨hc,World.block_lt_of_cell? W _ (hc 0 (by omega))⟩
/-! ### One start that fits -/
noncomputable def laidWorld (os:Os):World:=
 let w0:=World.holding Tryz.prog os ⟨#[],#[],[]⟩
 let put (h:Array Obj) (g:Nat) (cs:Array Value):Array Obj:=h.modify g fun
  | .cells _ t frozen=>.cells cs t frozen
  | o=>o
 { w0 with heap:=put w0.heap 5 placesV }
theorem laid_met (os:Os) (args:Array Value):laidMet Tryz.prog laidAll ((laidWorld os).forCall (fun _ _=>0) ⟨#[],args,[]⟩).memory:=
 LaidIn.met (LaidIn.of_run [5] 8 (by kernel_rfl) (by kernel_rfl) (by kernel_rfl) (by kernel_rfl))
end Go.Proofs.YthednemlahioeaaGreatDoor
namespace Go.Proofs.YthednemlahioeaaGreatDoor
open Go.ChangeShapes Go.WideShapes Go.ChangeAt Go.RowKit
set_option maxRecDepth 100000
set_option maxHeartbeats 8000000
theorem s_laid:laidOutB Tryz.prog = true:=by kernel_rfl
theorem s_rowed:mapsRowed Tryz.prog = true:=by kernel_rfl
theorem s_enter:Tryz.prog.mayEnter = true:=by kernel_rfl
theorem s_heard:Tryz.prog.stopsHeard = true:=by kernel_rfl
theorem s_main : Tryz.pinned.checked.prog.mainIs = some (true, ("0901637a7163c00ab74897054a05ebfc26105b53c584f0ed4435d1a232147e76" : String).toList) := by kernel_rfl
theorem s_looks:true = Tryz.pinned.checked.prog.looks []:=by kernel_rfl
end Go.Proofs.YthednemlahioeaaGreatDoor
namespace Go.Proofs.YthednemlahioeaaGreatDoor.ladderHalves
open Go.ChangeShapes Go.WideShapes Go.ChangeAt Go.RowKit
set_option maxRecDepth 100000
set_option maxHeartbeats 8000000
theorem c_wf:Rows.ladderHalvesRow.wf (OpenSpec.ofChange (OpenSpec.ofChange Rows.ladderHalvesSpec).bare) = true:=by kernel_rfl
theorem c_place:Tryz.prog.inPlace 5 = Rows.ladderHalvesRow.inPlace:=by kernel_rfl
theorem c_unf:Tryz.prog.unfollowed 5 = Rows.ladderHalvesRow.unfollowed:=by kernel_rfl
theorem c_rec:Tryz.prog.recurses 5 = Rows.ladderHalvesRow.recurses:=by kernel_rfl
theorem c_named:Tryz.prog.varsNamed 5 = Rows.ladderHalvesRow.named:=by kernel_rfl
theorem c_lift:Tryz.prog.liftsFinal = Rows.ladderHalvesRow.lifted:=by kernel_rfl
theorem joined:joinedFacts Tryz.prog 5 Tryz.f5 (OpenSpec.ofChange Rows.ladderHalvesSpec).bare Rows.ladderHalvesRow = true:=by
 unfold joinedFacts
 rw [c_wf,s_laid,s_rowed,c_place,c_unf,c_rec,c_named,s_enter,c_lift,s_heard]
 kernel_rfl
theorem f_wf:Rows.ladderHalvesRow.wfByText (OpenSpec.ofChange Rows.ladderHalvesSpec) = true:=by kernel_rfl
theorem f_main : Tryz.pinned.checked.prog.mainIs = some (true, ("0901637a7163c00ab74897054a05ebfc26105b53c584f0ed4435d1a232147e76" : String).toList) := s_main
theorem f_looks:true = Tryz.pinned.checked.prog.looks []:=s_looks
theorem f_goes:false = Rows.ladderHalvesRow.goesBy Tryz.pinned.checked.prog:=by kernel_rfl
theorem f_named : Tryz.prog.funcNamed "kinora/kinoralaw15.LadderHalves" = some 5 := by kernel_rfl
end Go.Proofs.YthednemlahioeaaGreatDoor.ladderHalves
