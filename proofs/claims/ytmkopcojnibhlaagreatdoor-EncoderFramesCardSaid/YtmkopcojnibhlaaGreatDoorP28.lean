/-
  The reference's deblock: apart, eighth, Line.
-/
import Derived.Test.YtmkopcojnibhlaaGreatDoorP25
import Derived.Test.YtmkopcojnibhlaaGreatDoorP6
import Derived.Test.YtmkopcojnibhlaaGreatDoorP23
import Derived.Test.YtmkopcojnibhlaaGreatDoorP7
import Derived.Test.YtmkopcojnibhlaaGreatDoorP20
import Derived.Test.YtmkopcojnibhlaaGreatDoorP10
import Derived.Test.YtmkopcojnibhlaaGreatDoorP9
namespace Go.Proofs.YtmkopcojnibhlaaGreatDoor
open Go.RowKit
set_option maxRecDepth 100000
set_option maxHeartbeats 8000000
theorem fApart (w:World) (a b:Nat) (ha:a < 256) (hb:b < 256):Calls Tryz.prog 263 #[.int .i64 (a:Int),.int .i64 (b:Int)] w fun e w'=>e = .returned (.int .i64 ((apartN a b:Nat):Int)) ∧ w = w':=by
 unfold apartN
 by_cases h:a ≤ b
 ·go_enter Tryz.func263,Tryz.ntmps263
  go_wp2_with fail
  all_goals (try go_ret)
  all_goals first | exact ⟨congrArg (fun z=>Ending.returned (.int .i64 z)) (by omega),rfl⟩ | omega
 ·go_enter Tryz.func263,Tryz.ntmps263
  go_wp2_with fail
  all_goals (try go_ret)
  all_goals first | exact ⟨congrArg (fun z=>Ending.returned (.int .i64 z)) (by omega),rfl⟩ | omega
theorem fEighth (w:World) (v:Int) (hv:-1048576 ≤ v ∧ v ≤ 1048576):Calls Tryz.prog 264 #[.int .i64 v] w fun e w'=>e = .returned (.int .i64 (v / 8)) ∧ w = w':=by
 obtain ⟨hv1,hv2⟩:=hv
 by_cases h:0 ≤ v
 ·have d1:decide (0 ≤ v) = true:=decide_eq_true h
  go_enter Tryz.func264,Tryz.ntmps264
  go_wp2_with fail
  go_ret
  exact ⟨congrArg (fun z=>Ending.returned (.int .i64 z)) (by omega),rfl⟩
 ·have d1:decide (0 ≤ v) = false:=decide_eq_false h
  go_enter Tryz.func264,Tryz.ntmps264
  go_wp2_with fail
  go_ret
  exact ⟨congrArg (fun z=>Ending.returned (.int .i64 z)) (by omega),rfl⟩
theorem ret2_i {a b a' b':Int} (h:a = a') (k:b = b'):Ending.returned (.tuple #[.int .u8 a,.int .u8 b]) = .returned (.tuple #[.int .u8 a',.int .u8 b']):=by rw [h,k]
theorem fLine (w:World) (a b c d q:Nat) (ha:a < 256) (hb:b < 256) (hc:c < 256) (hd:d < 256) (hq:q ≤ 31) :
  Calls Tryz.prog 230 #[.int .u8 (a:Int),.int .u8 (b:Int),.int .u8 (c:Int),.int .u8 (d:Int),.int .i64 (q:Int)] w
   fun e w'=>e = .returned (.tuple #[.int .u8 (((lineN a b c d q).1:Nat):Int),.int .u8 (((lineN a b c d q).2:Nat):Int)]) ∧ w = w':=by
 have q1:decide ((q:Int) < 0) = false:=decide_eq_false (by omega)
 have q2:decide (31 < (q:Int)) = false:=decide_eq_false (by omega)
 by_cases h0:q / 2 = 0
 ·have HR:=Lib.hid (show lineN a b c d q = (b,c) from if_pos (.inl (by omega)))
  have d0:((q:Int) / 2 == 0) = true:=by rw [beq_iff_eq];omega
  clear h0
  go_enter Tryz.func230,Tryz.ntmps230
  go_wp2_with fail
  go_ret2
  exact ⟨by rw [HR.out];rfl,rfl⟩
 have d0:((q:Int) / 2 == 0) = false:=by rw [beq_eq_false_iff_ne];omega
 by_cases h1:4 * (q / 2) ≤ apartN b c
 ·have HR:=Lib.hid (show lineN a b c d q = (b,c) from if_pos (.inl h1))
  have d1:decide (4 * ((q:Int) / 2) ≤ (apartN b c:Int)) = true:=decide_eq_true (by omega)
  clear h1 h0
  go_enter Tryz.func230,Tryz.ntmps230
  go_wp2_with fail
  refine (fApart _ b c hb hc).mono ?_
  rintro e w1 ⟨rfl,rfl⟩
  go_wp2_with fail
  go_ret2
  exact ⟨by rw [HR.out];rfl,rfl⟩
 ·have d1:decide (4 * ((q:Int) / 2) ≤ (apartN b c:Int)) = false:=decide_eq_false (by omega)
  by_cases h2:2 * (q / 2) ≤ apartN a b
  ·have HR:=Lib.hid (show lineN a b c d q = (b,c) from if_pos (.inr (.inl h2)))
   have d2:decide (2 * ((q:Int) / 2) ≤ (apartN a b:Int)) = true:=decide_eq_true (by omega)
   clear h1 h2 h0
   go_enter Tryz.func230,Tryz.ntmps230
   go_wp2_with fail
   refine (fApart _ b c hb hc).mono ?_
   rintro e w1 ⟨rfl,rfl⟩
   go_wp2_with fail
   refine (fApart _ a b ha hb).mono ?_
   rintro e w1 ⟨rfl,rfl⟩
   go_wp2_with fail
   go_ret2
   exact ⟨by rw [HR.out];rfl,rfl⟩
  ·have d2:decide (2 * ((q:Int) / 2) ≤ (apartN a b:Int)) = false:=decide_eq_false (by omega)
   by_cases h3:2 * (q / 2) ≤ apartN c d
   ·have HR:=Lib.hid (show lineN a b c d q = (b,c) from if_pos (.inr (.inr h3)))
    have d3:decide (2 * ((q:Int) / 2) ≤ (apartN c d:Int)) = true:=decide_eq_true (by omega)
    clear h1 h2 h3 h0
    go_enter Tryz.func230,Tryz.ntmps230
    go_wp2_with fail
    refine (fApart _ b c hb hc).mono ?_
    rintro e w1 ⟨rfl,rfl⟩
    go_wp2_with fail
    refine (fApart _ a b ha hb).mono ?_
    rintro e w1 ⟨rfl,rfl⟩
    go_wp2_with fail
    refine (fApart _ c d hc hd).mono ?_
    rintro e w1 ⟨rfl,rfl⟩
    go_wp2_with fail
    go_ret2
    exact ⟨by rw [HR.out];rfl,rfl⟩
   ·have HR:=Lib.hid (show lineN a b c d q = _ from if_neg (by omega))
    have d3:decide (2 * ((q:Int) / 2) ≤ (apartN c d:Int)) = false:=decide_eq_false (by omega)
    clear h1 h2 h3 h0
    go_enter Tryz.func230,Tryz.ntmps230
    go_wp2_with fail
    refine (fApart _ b c hb hc).mono ?_
    rintro e w1 ⟨rfl,rfl⟩
    go_wp2_with fail
    refine (fApart _ a b ha hb).mono ?_
    rintro e w1 ⟨rfl,rfl⟩
    go_wp2_with fail
    refine (fApart _ c d hc hd).mono ?_
    rintro e w1 ⟨rfl,rfl⟩
    go_wp2_with fail
    refine (fEighth _ _ ⟨by omega,by omega⟩).mono ?_
    rintro e w1 ⟨rfl,rfl⟩
    clear d1 d2 d3 q1 q2 d0
    go_wp2_with fail
    all_goals
     go_ret2
     refine ⟨ret2_i ?_ ?_,rfl⟩
     ·rw [HR.out]
      show _ = ((clipN _:Nat):Int)
      unfold lineM clipN
      (repeat' split) <;> omega
     ·rw [HR.out]
      show _ = ((clipN _:Nat):Int)
      unfold lineM clipN
      (repeat' split) <;> omega
theorem fPNew (w:World) (W H:Nat) (v:UInt8) (h:sidesB W H = true):Calls Tryz.prog 99 #[.int .i64 (W:Int),.int .i64 (H:Int),.int .u8 (v.toNat:Int)] w (NewPlane w W H v):=by
 obtain ⟨ha,h1,h2,h3,h4,h5⟩:=area_le h
 obtain ⟨n,hn⟩:∃ n,n = W * H:=⟨_,rfl⟩
 unfold NewPlane PlaneMade
 rw [← hn] at ha h5 ⊢
 have e1:wrap64 ((W:Int) * (H:Int)) = (n:Int):=by
  rw [show (W:Int) * (H:Int) = (n:Int) by rw [hn];simp]
  exact IntWalk.wrap64_in _ ⟨by omega,by omega⟩
 have HE:=Lib.hid e1
 clear hn e1
 go_enter Tryz.func99,Tryz.ntmps99
 go_wp2_with fail
 refine (fPSide _ W h1 h2).mono ?_
 rintro e w1 ⟨rfl,rfl⟩
 go_wp2_with fail
 refine (fPSide _ H h3 h4).mono ?_
 rintro e w1 ⟨rfl,rfl⟩
 have hr0:Blk (w.alloc (.cells #[.int .i64 0,.int .i64 0,.slice none 0 0] 38)) w.heap.size 38 #[.int .i64 0,.int .i64 0,.slice none 0 0]:=Blk.new _ _ _
 have m0:Mod (fun _=>False) w (w.alloc (.cells #[.int .i64 0,.int .i64 0,.slice none 0 0] 38)):=(Mod.refl _ _).alloc _
 have HR:=Lib.hid (And.intro hr0 m0)
 clear hr0 m0
 go_upto_region 6 with (refine wpList_mk_u8 _ rfl (.tmp 27) (.tmp 27) rfl n (congrArg (Value.int .i64) HE.out) (congrArg (Value.int .i64) HE.out) (by omega) ?_;intro w3 hb3 hm3;have HO:=Lib.hid (And.intro hb3 hm3);clear hb3 hm3)
 have hg3:Blk w3 (w.heap.size + 1) 5 (u8s (fillU n v 0)).toArray:=by
  have h:=HO.out.1
  rw [← fillU_zero n v] at h
  simpa using h
 have hr3:=HR.out.1.keep HO.out.2 (fun h=>h)
 have M3:=HR.out.2.trans HO.out.2
 have hgl:=hg3.lt
 have hrl:=hr3.lt
 have hs3:=M3.size
 obtain ⟨pc,hpc⟩:∃ pc:Array Value,pc = #[.int .i64 (W:Int),.int .i64 (H:Int),.slice (some ⟨w.heap.size + 1,0,none⟩) n n]:=⟨_,rfl⟩
 have hp4:Blk (w3.alloc (.cells pc 38)) w3.heap.size 38 pc:=Blk.new _ _ _
 have hg4:=hg3.alloc (.cells pc 38)
 have hr4:=hr3.alloc (.cells pc 38)
 have M4:=M3.alloc (.cells pc 38)
 have c0:(w3.alloc (.cells pc 38)).cell? ⟨w3.heap.size,2,none⟩ = some (.slice (some ⟨w.heap.size + 1,0,none⟩) n n):=by rw [hp4.cell,hpc];rfl
 have HP:=Lib.hid hpc
 rw [← hpc]
 obtain ⟨res,hres⟩:∃ res,res = w.heap.size:=⟨_,rfl⟩
 obtain ⟨g,hge⟩:∃ g,g = w.heap.size + 1:=⟨_,rfl⟩
 obtain ⟨pb,hpb⟩:∃ pb,pb = w3.heap.size:=⟨_,rfl⟩
 rw [← hge] at hgl hg4 HP c0 ⊢
 rw [← hpb] at hp4 c0 ⊢
 rw [← hres] at hrl hr4 ⊢
 have n1:res ≠ g:=by omega
 have n2:res ≠ pb:=by omega
 have n3:g ≠ pb:=by omega
 have n4:w.heap.size ≤ res:=by omega
 have n5:w.heap.size ≤ g:=by omega
 have HB:=Lib.hid (And.intro hr4 (And.intro hp4 (And.intro hg4 M4)))
 clear hr4 hp4 hg4 M4 hg3 hr3 M3 HO HR hpc hres hge hpb
 generalize w3.alloc (.cells pc 38) = w4 at *
 go_wp2_with fail
 clear c0
 go_loopw [11] (NewRel w res pb g pc n v) (fun i _=>n - (intOf i).toNat)
 case atStart=>exact ⟨0,by omega,rfl,HB.out.1,HB.out.2.1,HB.out.2.2.1,HB.out.2.2.2⟩
 case round=>
  clear HB
  obtain ⟨k,hk,rfl,hr,hp,hg,hM⟩:=hrel
  by_cases hlt:k < n
  ·have c2:wr.cell? ⟨pb,2,none⟩ = some (.slice (some ⟨g,0,none⟩) n n):=by rw [hp.cell,HP.out];rfl
   have p1:(0:Int) ≤ (k:Int):=by omega
   have p2:(k:Int) < (n:Int):=by omega
   have k3:wr.cell? ⟨g,k,none⟩ = some (.int .u8 ((fillU n v k).getD k 0).toNat):=by rw [hg.cell];simp [u8s,List.getD_eq_getElem?_getD,fillU_length n v k hk,hlt]
   have f3:=hg.frozen k
   have hl:=hg.lt
   generalize ((fillU n v k).getD k 0).toNat = old at *
   have HB:=Lib.hid (And.intro hr (And.intro hp (And.intro hg hM)))
   clear hr hp hg hM
   go_wp2_with fail
   go_roundw
   case rel=>exact ⟨k + 1,by omega,by go_num,HB.out.1.far n1 _,HB.out.2.1.far (fun h=>n3 h.symm) _,HB.out.2.2.1.put (by simpa using fillU_set n v k hlt),HB.out.2.2.2.setCell (.inr n5) _⟩
   case measure=>simp [intOf];omega
  ·obtain rfl:k = n:=by omega
   obtain ⟨hpc',hpf'⟩:=hp.both
   rw [HP.out] at hpc'
   obtain ⟨hrc',hrf'⟩:=hr.both
   have hrl':=hr.lt
   have hpl':=hp.lt
   have HB:=Lib.hid (And.intro hr (And.intro hg hM))
   clear hr hp hg hM
   go_wp2_with fail
   obtain ⟨hr,hg,hM⟩:=HB.out
   rw [fillU_full] at hg
   refine bodyPost_ret (v:=.tuple #[.agg #[.int .i64 (W:Int),.int .i64 (H:Int),.slice (some ⟨g,0,none⟩) k k],.int .i64 0]) (by simp [results,Tryz.results99,go_sem,hrc']) rfl ⟨_,rfl,⟨g,rfl,?_,by simp,n5⟩,?_⟩
   ·exact (by repeat' (first | with_reducible exact hg | with_reducible refine Blk.far ?_ n1.symm _))
   ·exact (by repeat' (first | with_reducible exact hM | with_reducible refine Mod.setCell ?_ (.inr n4) _))
theorem fPNew' (w:World) (W H n:Nat) (v:UInt8) (h:sidesB W H = true) (hn:n = W * H):Calls Tryz.prog 99 #[.int .i64 (W:Int),.int .i64 (H:Int),.int .u8 (v.toNat:Int)] w (NewPlane' w W H n v):=by
 refine (fPNew w W H v h).mono ?_
 rintro e w' ⟨p,rfl,⟨g,rfl,hb,_,hg⟩,hm⟩
 rw [← hn] at hb ⊢
 exact ⟨g,rfl,hb,hg,hm⟩
theorem fPCopy (w:World) (W H:Int) (A:Option Addr) (n c:Nat) (pix:List UInt8) (h0:0 < n) (hn:n ≤ 1048576) (hin:BytesIn w A n c pix) :
  Calls Tryz.prog 179 #[.agg #[.int .i64 W,.int .i64 H,.slice A n c]] w fun e w'=>∃ b k,e = .returned (.agg #[.int .i64 W,.int .i64 H,.slice (some ⟨b,0,none⟩) n k]) ∧ Bytes w' w.heap.size (.slice (some ⟨b,0,none⟩) n k) pix ∧ Mod (fun _=>False) w w':=by
 have HS:=((Sat.nil (fun _=>False) w).alloc 38 #[.int .i64 W,.int .i64 H,.slice A n c] rfl).alloc (g:=w.heap.size + 1) 38 #[.int .i64 0,.int .i64 0,.slice none 0 0] (by simp)
 have HS3:=HS.alloc (g:=w.heap.size + 1 + 1) 5 #[] (by simp)
 have ho1:Bytes (((w.alloc (.cells #[.int .i64 W,.int .i64 H,.slice A n c] 38)).alloc (.cells #[.int .i64 0,.int .i64 0,.slice none 0 0] 38)).alloc (.cells #[] 5)) w.heap.size (.slice (some ⟨w.heap.size + 1 + 1,0,none⟩) 0 0) []:=by
  have h:=World.ownsRow_made (base:=w.heap.size) (e:=5) (size:=1) ((w.alloc (.cells #[.int .i64 W,.int .i64 H,.slice A n c] 38)).alloc (.cells #[.int .i64 0,.int .i64 0,.slice none 0 0] 38)) #[] 0 (by simp;omega) (by decide) rfl
  have e:((w.alloc (.cells #[.int .i64 W,.int .i64 H,.slice A n c] 38)).alloc (.cells #[.int .i64 0,.int .i64 0,.slice none 0 0] 38)).heap.size = w.heap.size + 1 + 1:=by simp
  rw [e] at h
  exact h
 have hin3:=hin.quiet HS3.mod
 have hl:=hin.1
 have hsz:w.heap.size ≤ (((w.alloc (.cells #[.int .i64 W,.int .i64 H,.slice A n c] 38)).alloc (.cells #[.int .i64 0,.int .i64 0,.slice none 0 0] 38)).alloc (.cells #[] 5)).heap.size:=HS3.mod.size
 have H0:=Lib.hid (And.intro HS3 (And.intro ho1 (And.intro hin3 (And.intro hl hsz))))
 clear HS HS3 hin ho1 hin3 hl hsz
 go_enter Tryz.func179,Tryz.ntmps179
 go_wp2_with (at_builtin;have _t:=H0;refine wpList_app_u8s _ rfl (.tmp 3) (.tmp 5) rfl w.heap.size (.slice (some ⟨w.heap.size + 1 + 1,0,none⟩) 0 0) [] A n c pix rfl rfl H0.out.2.1 H0.out.2.2.1 H0.out.2.2.2.2 (by simp;omega) ?_;intro v1 w1 hown1 hMa hMb hF;have HS1:=Sat.beside hMa H0.out.1.drop_own (fun j hj=>by simp [Value.ownBlock] at hj;omega) (fun e he hj=>by simp [Value.ownBlock] at hj;simp at he;rcases he with rfl | rfl <;> simp at hj <;> omega);rw [List.nil_append] at hown1;obtain ⟨A1,c1,hv1⟩:=own_shape hown1;rw [H0.out.2.2.2.1] at hv1;subst hv1;obtain ⟨b1,hb1,_⟩:=hown1.some_ (by rw [H0.out.2.2.2.1];exact h0);subst hb1;have HO:=Lib.hid (And.intro hown1 HS1);clear hown1 hMa hMb hF HS1;obtain ⟨pc,pf⟩:=(HO.out.2.own_ 1 rfl).both;obtain ⟨rc,rf⟩:=(HO.out.2.own_ 0 rfl).both;have rl:=(HO.out.2.own_ 0 rfl).lt;have pl:=(HO.out.2.own_ 1 rfl).lt)
 have n1:=HO.out.1.ne_ (HO.out.2.own_ 0 rfl) (show 38 ≠ 5 by decide)
 have n2:=HO.out.1.ne_ (HO.out.2.own_ 1 rfl) (show 38 ≠ 5 by decide)
 dsimp only at n1 n2
 have HE:=(((HO.out.2.put (g:=w.heap.size) (i:=2) (u:=.slice (some ⟨b1,0,none⟩) n c1) (.there (.here rfl))).put (g:=w.heap.size + 1) (i:=0) (u:=.int .i64 W) (.here rfl)).put (g:=w.heap.size + 1) (i:=1) (u:=.int .i64 H) (.here rfl)).put (g:=w.heap.size + 1) (i:=2) (u:=.slice (some ⟨b1,0,none⟩) n c1) (.here rfl)
 have hB:=(((HO.out.1.far (p:=⟨w.heap.size,2,none⟩) n2 (.slice (some ⟨b1,0,none⟩) n c1)).far (p:=⟨w.heap.size + 1,0,none⟩) n1 (.int .i64 W)).far (p:=⟨w.heap.size + 1,1,none⟩) n1 (.int .i64 H)).far (p:=⟨w.heap.size + 1,2,none⟩) n1 (.slice (some ⟨b1,0,none⟩) n c1)
 exact bodyPost_ret (v:=.agg #[.int .i64 W,.int .i64 H,.slice (some ⟨b1,0,none⟩) n c1]) (by simp [results,Tryz.results179,go_sem,rc]) rfl ⟨b1,c1,rfl,hB,HE.mod⟩
def rowTo (L:List UInt8) (p:Nat) (r:List UInt8):Nat → List UInt8
 | 0=>L
 | i + 1=>(rowTo L p r i).set (p + i) (r.getD i 0)
theorem rowTo_length (L:List UInt8) (p:Nat) (r:List UInt8):∀ i,(rowTo L p r i).length = L.length
 | 0=>rfl
 | i + 1=>by unfold rowTo;rw [List.length_set,rowTo_length L p r i]
theorem rowTo_get (L:List UInt8) (p:Nat) (r:List UInt8) (h:p + r.length ≤ L.length):∀ i,i ≤ r.length → ∀ k,k < L.length → (rowTo L p r i)[k]? = if p ≤ k ∧ k < p + i then r[k - p]? else L[k]?
 | 0,_,k,hk=>by rw [if_neg (by omega)];rfl
 | i + 1,hi,k,hk=>by
  unfold rowTo
  rw [List.getElem?_set,rowTo_get L p r h i (by omega) k hk]
  by_cases e:p + i = k
  ·subst e
   rw [if_pos rfl,if_pos (by rw [rowTo_length];exact hk),if_pos (by omega),List.getD_eq_getElem?_getD,show p + i - p = i by omega,List.getElem?_eq_getElem (by omega)]
   rfl
  ·rw [if_neg e]
   by_cases h2:p ≤ k ∧ k < p + i
   ·rw [if_pos h2,if_pos (by omega)]
   ·rw [if_neg h2,if_neg (by omega)]
theorem rowTo_all (L:List UInt8) (p:Nat) (r:List UInt8) (h:p + r.length ≤ L.length):rowTo L p r r.length = splice L p r:=by
 apply List.ext_getElem?
 intro k
 by_cases hk:k < L.length
 ·rw [rowTo_get L p r h _ (Nat.le_refl _) k hk]
  unfold splice
  by_cases h1:k < p
  ·rw [if_neg (by omega),List.getElem?_append_left (by rw [List.length_take];omega),List.getElem?_take,if_pos h1]
  ·by_cases h2:k < p + r.length
   ·rw [if_pos (by omega),List.getElem?_append_right (by rw [List.length_take];omega),List.getElem?_append_left (by rw [List.length_take];omega),List.length_take,Nat.min_eq_left (by omega)]
   ·rw [if_neg (by omega),List.getElem?_append_right (by rw [List.length_take];omega),List.getElem?_append_right (by rw [List.length_take];omega),List.getElem?_drop,List.length_take,Nat.min_eq_left (by omega)]
    congr 1
    omega
 ·rw [List.getElem?_eq_none (by rw [rowTo_length];omega),List.getElem?_eq_none (by unfold splice;simp;omega)]
structure LayT (w wr:World) (q r p b n k:Nat) (W H:Int) (A:Option Addr) (c:Nat) (cur:List UInt8):Prop where
 sat:Sat (fun _=>False) w wr [⟨q,38,#[.int .i64 W,.int .i64 H,.slice (some ⟨b,0,none⟩) n k]⟩,⟨r,38,#[.int .i64 0,.int .i64 0,.slice none 0 0]⟩,⟨p,38,#[.int .i64 W,.int .i64 H,.slice A n c]⟩] []
 own:Bytes wr w.heap.size (.slice (some ⟨b,0,none⟩) n k) cur
theorem LayT.drew {w wr:World} {q r p b n k:Nat} {W H:Int} {A:Option Addr} {c:Nat} {cur:List UInt8} (h:LayT w wr q r p b n k W H A c cur):LayT w wr.drew q r p b n k W H A c cur:=⟨h.sat.drew,h.own.quiet (Mod.refl _ _).drew⟩
theorem LayT.put {w wr:World} {q r p b n k:Nat} {W H:Int} {A:Option Addr} {c:Nat} {cur:List UInt8} (h:LayT w wr q r p b n k W H A c cur) (i:Nat) (x:UInt8):LayT w (wr.setCell ⟨b,i,none⟩ (.int .u8 (x.toNat:Int))) q r p b n k W H A c (cur.set i x):=by
 have hm:Mod (· = b) wr (wr.setCell ⟨b,i,none⟩ (.int .u8 (x.toNat:Int))):=(Mod.refl (· = b) wr).setCell (.inl rfl) _
 refine ⟨Sat.beside hm h.sat (fun j e=>.inr (e ▸ h.own.low.1)) (fun e he hb=>?_),h.own.put i x⟩
 have hb':e.g = b:=hb
 have ht:e.t ≠ 5:=by
  simp at he
  rcases he with rfl | rfl | rfl <;> (dsimp only;decide)
 exact h.own.ne_ (h.sat.blk e (by simpa using he)) ht hb'.symm
def FLay1 (w:World) (q r p b n k:Nat) (W H:Nat) (A:Option Addr) (c x y:Nat) (l pix:List UInt8) (v:Value) (wr:World):Prop:=
 ∃ j:Nat,j ≤ 8 ∧ v = .int .i64 (j:Int) ∧ LayT w wr q r p b n k (W:Int) (H:Int) A c (layTo W x y l pix j)
def FLay2 (w:World) (q r p b n k:Nat) (W H:Nat) (A:Option Addr) (c:Nat) (L row:List UInt8) (at_:Nat) (v:Value) (wr:World):Prop:=
 ∃ i:Nat,i ≤ 8 ∧ v = .int .i64 (i:Int) ∧ LayT w wr q r p b n k (W:Int) (H:Int) A c (rowTo L at_ row i)
theorem fPLay (w:World) (W H:Nat) (A:Option Addr) (n c:Nat) (pix:List UInt8) (h:sidesB W H = true) (hn:n = W * H) (hs:n ≤ 1048576) (hin:BytesIn w A n c pix) (B:Option Addr) (bc:Nat) (l:List UInt8) (hbin:BytesIn w B 64 bc l) (x y:Nat) (hx:x + 8 ≤ W) (hy:y + 8 ≤ H) :
  Calls Tryz.prog 165 #[.agg #[.int .i64 (W:Int),.int .i64 (H:Int),.slice A n c],.int .i64 (x:Int),.int .i64 (y:Int),.int .i64 8,.slice B 64 bc] w fun e w'=>∃ b k,e = .returned (.tuple #[.agg #[.int .i64 (W:Int),.int .i64 (H:Int),.slice (some ⟨b,0,none⟩) n k],.int .i64 0]) ∧ Bytes w' w.heap.size (.slice (some ⟨b,0,none⟩) n k) (layTo W x y l pix 8) ∧ Mod (fun _=>False) w w':=by
 obtain ⟨ha,hW1,hW2,hH1,hH2,hn1⟩:=area_le h
 rw [← hn] at hn1 ha
 obtain ⟨lb,lo,hlB,hlb,hlc⟩:=hbin.place (by omega)
 subst hlB
 have hll:=hbin.1
 have hpl:=hin.1
 have HS:=((Sat.nil (fun _=>False) w).alloc 38 #[.int .i64 (W:Int),.int .i64 (H:Int),.slice A n c] rfl).alloc (g:=w.heap.size + 1) 38 #[.int .i64 0,.int .i64 0,.slice none 0 0] (by simp)
 have H0:=Lib.hid (And.intro HS (And.intro h (And.intro hn (And.intro hin (And.intro hlc hlb)))))
 have HL:=Lib.hid (And.intro hll hpl)
 clear HS h hn hin hlc hlb hbin hll hpl
 go_enter Tryz.func165,Tryz.ntmps165
 go_wp2_with fail
 refine (fPRight _ W H A n c H0.out.2.1 H0.out.2.2.1).mono ?_
 rintro e w1 ⟨rfl,hm1⟩
 have hS1:=Sat.after hm1 H0.out.1
 obtain ⟨pc,pf⟩:=(hS1.own_ 1 rfl).both
 have H1:=Lib.hid hS1
 clear hm1 hS1
 go_wp2_with fail
 refine (fPCopy _ (W:Int) (H:Int) A n c pix (by omega) hs (H0.out.2.2.2.1.quiet H1.out.mod)).mono ?_
 rintro e w2 ⟨b,k,rfl,hb2,hm2⟩
 have hS2:=(H1.out.quiet hm2).alloc 38 #[.int .i64 (W:Int),.int .i64 (H:Int),.slice (some ⟨b,0,none⟩) n k] rfl
 have hb3:Bytes (w2.alloc (.cells #[.int .i64 (W:Int),.int .i64 (H:Int),.slice (some ⟨b,0,none⟩) n k] 38)) w.heap.size (.slice (some ⟨b,0,none⟩) n k) pix:=by
  have hq:=hb2.quiet ((Mod.refl (fun _=>False) w2).alloc (.cells #[.int .i64 (W:Int),.int .i64 (H:Int),.slice (some ⟨b,0,none⟩) n k] 38))
  obtain ⟨e1,e2⟩:=hq
  refine ⟨e1,e2.imp id ?_⟩
  rintro ⟨g,cap,cur,a1,a2,a3⟩
  exact ⟨g,cap,cur,a1,Nat.le_trans H1.out.mod.size a2,a3⟩
 obtain ⟨q,hq⟩:∃ q,q = w2.heap.size:=⟨_,rfl⟩
 rw [← hq] at hS2
 have H2:=Lib.hid (LayT.mk hS2 hb3)
 clear hb2 hb3 hm2 hS2 pc pf H1
 go_wp2_with fail
 rw [← hq]
 generalize w2.alloc (.cells #[.int .i64 (W:Int),.int .i64 (H:Int),.slice (some ⟨b,0,none⟩) n k] 38) = w3 at *
 clear hq
 go_loopw [14] (FLay1 w q (w.heap.size + 1) w.heap.size b n k W H A c x y l pix) (fun i _=>8 - (intOf i).toNat)
 case atStart=>exact ⟨0,by omega,rfl,H2.out⟩
 case round=>
  clear H2
  rename World=>wr
  obtain ⟨j,hj,rfl,hT⟩:=hrel
  by_cases hlt:j < 8
  ·have d1:decide ((j:Int) < 8) = true:=decide_eq_true (by omega)
   have hlen:(layTo W x y l pix j).length = n:=by rw [H0.out.2.2.1];exact layTo_length hx hy (HL.out.2.trans H0.out.2.2.1) HL.out.1 j hj
   have hrl:=lay_row HL.out.1 hlt
   have hli:=lay_in hx hy hlt
   rw [← H0.out.2.2.1] at hli
   obtain ⟨mW,hmW⟩:∃ mW,mW = (y + j) * W:=⟨_,rfl⟩
   obtain ⟨L,hL⟩:∃ L,L = layTo W x y l pix j:=⟨_,rfl⟩
   obtain ⟨row,hrow⟩:∃ row,row = (l.drop (j * 8)).take 8:=⟨_,rfl⟩
   rw [← hL] at hlen hT
   rw [← hrow] at hrl
   rw [← hmW] at hli
   have hst:layTo W x y l pix (j + 1) = rowTo L (mW + x) row 8:=by
    rw [← hrl,rowTo_all L (mW + x) row (by omega),hL,hrow,hmW]
    rfl
   have HT:=Lib.hid hT
   have HK:=Lib.hid (And.intro hst (And.intro hmW (And.intro hrow (And.intro hrl hlen))))
   clear hst hmW hrow hrl hlen hT hL
   go_wp2_with fail
   go_loopw [15] (FLay2 w q (w.heap.size + 1) w.heap.size b n k W H A c L row (mW + x)) (fun i _=>8 - (intOf i).toNat)
   case atStart=>exact ⟨0,by omega,rfl,HT.out⟩
   case round=>
    clear HT
    rename World=>w6
    obtain ⟨i,hi,rfl,hT⟩:=hrel
    have HT:=Lib.hid hT
    clear hT
    by_cases hli2:i < 8
    ·have d2:decide ((i:Int) < 8) = true:=decide_eq_true (by omega)
     go_wp2_with fail
     refine (fShifted _ (x:Int) (i:Int) (by omega) (by omega)).mono ?_
     rintro e w7 ⟨rfl,rfl⟩
     go_wp2_with fail
     refine (fShifted _ (y:Int) (j:Int) (by omega) (by omega)).mono ?_
     rintro e w7 ⟨rfl,rfl⟩
     obtain ⟨pc,pf⟩:=(HT.out.sat.own_ 2 rfl).both
     have t1:decide (0 ≤ (x:Int) + (i:Int)) = true:=decide_eq_true (by omega)
     have t2:decide ((x:Int) + (i:Int) < (W:Int)) = true:=decide_eq_true (by omega)
     have t3:decide (0 ≤ (y:Int) + (j:Int)) = true:=decide_eq_true (by omega)
     have t4:decide ((y:Int) + (j:Int) < (H:Int)) = true:=decide_eq_true (by omega)
     clear pf
     go_upto_region 16 with (fail)
     clear pc t1 t2 t3 t4
     have hD:=HT.out.drew
     obtain ⟨pc,pf⟩:=(hD.sat.own_ 2 rfl).both
     obtain ⟨qc,qf⟩:=(hD.sat.own_ 0 rfl).both
     obtain ⟨m8,hm8⟩:∃ m8,m8 = j * 8:=⟨_,rfl⟩
     obtain ⟨m,hm⟩:∃ m,m = m8 + i:=⟨_,rfl⟩
     obtain ⟨v,hv⟩:∃ v:UInt8,v = l.getD (j * 8 + i) 0:=⟨_,rfl⟩
     rw [← hm8,← hm] at hv
     have lc:w6.drew.cell? ⟨lb,lo + m,none⟩ = some (.int .u8 (v.toNat:Int)):=by
      rw [hv]
      exact (World.cell?_of_block (hD.sat.mod.block lb H0.out.2.2.2.2.2 (fun h=>h))).trans (H0.out.2.2.2.2.1 m (by omega))
     have hrv:row.getD i 0 = v:=by
      rw [HK.out.2.2.1,hv,hm,hm8,List.getD_eq_getElem?_getD,List.getD_eq_getElem?_getD,List.getElem?_take,if_pos hli2,List.getElem?_drop]
     have hix:mW + x + i < n:=by omega
     obtain ⟨ix,hixe⟩:∃ ix,ix = mW + x + i:=⟨_,rfl⟩
     rw [← hixe] at hix
     have hln:(rowTo L (mW + x) row i).length = n:=(rowTo_length _ _ _ _).trans HK.out.2.2.2.2
     have bc_:w6.drew.cell? ⟨b,ix,none⟩ = some (.int .u8 (((rowTo L (mW + x) row i).getD ix 0).toNat:Int)):=hD.own.cell ix (by rw [hln];exact hix)
     have bf:=hD.own.frozen ix
     have bl:=hD.own.low.2
     generalize ((rowTo L (mW + x) row i).getD ix 0).toNat = old at *
     have e1:IntKind.i64.wrap (((y:Int) + (j:Int)) * (W:Int)) = (mW:Int):=by
      rw [show ((y:Int) + (j:Int)) * (W:Int) = (mW:Int) by rw [HK.out.2.1];simp]
      exact IntWalk.i64_in _ ⟨by omega,by omega⟩
     have e2:IntKind.i64.wrap ((mW:Int) + ((x:Int) + (i:Int))) = (ix:Int):=by
      rw [IntWalk.i64_in _ ⟨by omega,by omega⟩]
      omega
     have q1:(0:Int) ≤ (ix:Int):=by omega
     have q2:(ix:Int) < (n:Int):=by omega
     have e3:IntKind.i64.wrap ((j:Int) * 8) = (m8:Int):=by rw [IntWalk.i64_in _ ⟨by omega,by omega⟩];omega
     have e4:IntKind.i64.wrap ((m8:Int) + (i:Int)) = (m:Int):=by rw [IntWalk.i64_in _ ⟨by omega,by omega⟩];omega
     have q3:(0:Int) ≤ (m:Int):=by omega
     have q4:(m:Int) < 64:=by omega
     clear hm hm8
     have HB:=Lib.hid (And.intro hD (And.intro hrv hixe))
     clear hD hrv hixe hln hv
     refine wp_region_planS [17] [] (0 :: 1 :: 2 :: 3 :: 4 :: 5 :: 6 :: 7 :: 8 :: 9 :: 10 :: 11 :: 12 :: 13 :: 14 :: 15 :: 16 :: 17 :: []) (fun _=>True) (by kernel_rfl) (by kernel_rfl) (fun _ _ _ d _ h=>by cases d <;> exact h) trivial ?_
     iterate 17 (refine planS_still rfl rfl (fun K hK=>?_);go_simp;refine hK _ ?_;clear hK K)
     refine planS_loud rfl rfl (fun K hK=>?_)
     go_simp
     refine hK _ _ trivial ?_
     clear hK K e1 e2 e3 e4
     refine planS_done ?_
     go_wp2_with fail
     go_roundw
     case rel=>
      refine ⟨i + 1,by omega,by go_num,?_⟩
      have h:=HB.out.1.put ix v
      rw [HB.out.2.2] at h
      show LayT _ _ _ _ _ _ _ _ _ _ _ _ ((rowTo L (mW + x) row i).set (mW + x + i) (row.getD i 0))
      rw [HB.out.2.1,HB.out.2.2]
      exact h
     case measure=>simp [intOf];omega
    ·obtain rfl:i = 8:=by omega
     go_wp2_with fail
     go_roundw
     case rel=>exact ⟨j + 1,by omega,by go_num,by rw [HK.out.1];exact HT.out⟩
     case measure=>simp [intOf];omega
  ·obtain rfl:j = 8:=by omega
   obtain ⟨qc,qf⟩:=(hT.sat.own_ 0 rfl).both
   obtain ⟨rc,rf⟩:=(hT.sat.own_ 1 rfl).both
   have rl:=(hT.sat.own_ 1 rfl).lt
   have HT:=Lib.hid hT
   clear hT
   go_wp2_with fail
   have hr:=HT.out.own.ne_ (HT.out.sat.own_ 1 rfl) (show 38 ≠ 5 by decide)
   dsimp only at hr
   have HE:=((HT.out.sat.put (g:=w.heap.size + 1) (i:=0) (u:=.int .i64 (W:Int)) (.there (.here rfl))).put (g:=w.heap.size + 1) (i:=1) (u:=.int .i64 (H:Int)) (.there (.here rfl))).put (g:=w.heap.size + 1) (i:=2) (u:=.slice (some ⟨b,0,none⟩) n k) (.there (.here rfl))
   have hB:=((HT.out.own.far (p:=⟨w.heap.size + 1,0,none⟩) hr (.int .i64 (W:Int))).far (p:=⟨w.heap.size + 1,1,none⟩) hr (.int .i64 (H:Int))).far (p:=⟨w.heap.size + 1,2,none⟩) hr (.slice (some ⟨b,0,none⟩) n k)
   exact bodyPost_ret (v:=.tuple #[.agg #[.int .i64 (W:Int),.int .i64 (H:Int),.slice (some ⟨b,0,none⟩) n k],.int .i64 0]) (by simp [results,Tryz.results165,go_sem,rc]) rfl ⟨b,k,rfl,hB,HE.mod⟩
end Go.Proofs.YtmkopcojnibhlaaGreatDoor

