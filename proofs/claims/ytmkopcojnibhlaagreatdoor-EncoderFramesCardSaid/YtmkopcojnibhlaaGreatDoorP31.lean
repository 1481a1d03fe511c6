/-
  A row of ints of one's own: its block, stores into it.
-/
import Derived.Test.YtmkopcojnibhlaaGreatDoorP1
import Derived.Test.YtmkopcojnibhlaaGreatDoorP10
import Derived.Test.YtmkopcojnibhlaaGreatDoorP0
import Derived.Test.YtmkopcojnibhlaaGreatDoorP11
import Derived.Test.YtmkopcojnibhlaaGreatDoorP6
import Derived.Test.YtmkopcojnibhlaaGreatDoorP20
import Derived.Deep.DeepCutAuto
namespace Go.Proofs.YtmkopcojnibhlaaGreatDoor
open Go.RowKit
set_option maxRecDepth 100000
set_option maxHeartbeats 8000000
theorem IntsOwn.ne_ {w:World} {B b n c:Nat} {l:List Int} (h:IntsOwn w B (.slice (some ⟨b,0,none⟩) n c) l) {g:Nat} {t:TypeId} {cs:Array Value} (hb:Blk w g t cs) (ht:t ≠ 3):b ≠ g:=by
 rintro rfl
 rcases h.2 with ⟨h',_⟩ | ⟨g',cap',cur,h',_,hg,_⟩
 ·cases h'
 ·injection h' with e1 e2 e3
  injection e1 with e1
  injection e1 with e1 _ _
  subst e1
  have h2:w.heap[b]? = some (.cells cs t (0,0)):=hb
  rw [hg] at h2
  injection h2 with h2
  injection h2 with _ h3 _
  exact ht h3.symm
theorem IntsOwn.far {w:World} {B b n c:Nat} {l:List Int} (h:IntsOwn w B (.slice (some ⟨b,0,none⟩) n c) l) {p:Addr} (hp:b ≠ p.block) (u:Value):IntsOwn (w.setCell p u) B (.slice (some ⟨b,0,none⟩) n c) l:=
 h.mod ((Mod.refl (· = p.block) w).setCell (.inl rfl) u) (fun g e=>by simp only [Value.ownBlock,Option.some.injEq] at e;subst e;exact hp)
theorem IntsOwn.put {w:World} {B b n c:Nat} {l:List Int} (h:IntsOwn w B (.slice (some ⟨b,0,none⟩) n c) l) (i:Nat) (x:Int):IntsOwn (w.setCell ⟨b,i,none⟩ (.int .i64 x)) B (.slice (some ⟨b,0,none⟩) n c) (l.set i x):=by
 have hn:n = l.length:=by
  rcases h.2 with ⟨h',_⟩ | ⟨g',cap',cur,h',_⟩
  ·cases h'
  ·injection h'
 subst hn
 have h1:=(World.ownsRow.stored h i (.int .i64 x)).1
 have e:i64s (l.set i x) = (i64s l).set i (.int .i64 x):=by simp [i64s,List.map_set]
 unfold IntsOwn
 rw [e,List.length_set]
 exact h1
theorem IntsOwn.low {w:World} {B b n c:Nat} {l:List Int} (h:IntsOwn w B (.slice (some ⟨b,0,none⟩) n c) l):B ≤ b ∧ b < w.heap.size:=World.ownsRow.lt h b rfl
theorem IntsOwn.frozen {w:World} {B b n c:Nat} {l:List Int} (h:IntsOwn w B (.slice (some ⟨b,0,none⟩) n c) l) (j:Nat):w.frozen? ⟨b,j,none⟩ = false:=by
 have hn:n = l.length:=by
  rcases h.2 with ⟨h',_⟩ | ⟨g',cap',cur,h',_⟩
  ·cases h'
  ·injection h'
 subst hn
 exact World.ownsRow.frozenAt h j
theorem IntsOwn.apart {w:World} {B:Nat} {v:Value} {l:List Int} (h:IntsOwn w B v l) {g:Nat} {t:TypeId} {cs:Array Value} (hb:Blk w g t cs) (ht:t ≠ 3):¬ v.ownBlock = some g:=by
 intro e
 rcases h.2 with ⟨h',_⟩ | ⟨g',cap',cur,h',_,hg,_⟩
 ·rw [h'] at e;cases e
 ·rw [h'] at e
  simp only [Value.ownBlock,Option.some.injEq] at e
  subst e
  have h2:w.heap[g']? = some (.cells cs t (0,0)):=hb
  rw [hg] at h2
  injection h2 with h2
  injection h2 with _ h3 _
  exact ht h3.symm
theorem IntsOwn.cell {w:World} {B r n c:Nat} {l:List Int} (h:IntsOwn w B (.slice (some ⟨r,0,none⟩) n c) l) (i:Nat) (hi:i < l.length):w.cell? ⟨r,i,none⟩ = some (.int .i64 (l.getD i 0)):=by
 have:=World.ownsRow.cells h (g:=r) rfl i (.int .i64 (l.getD i 0)) (by simp [i64s,List.getD_eq_getElem?_getD,hi])
 rwa [addr_add] at this
theorem IntsOwn.some_ {w:World} {B n c:Nat} {A:Option Addr} {l:List Int} (h:IntsOwn w B (.slice A n c) l) (h0:0 < l.length):∃ r,A = some ⟨r,0,none⟩ ∧ l.length ≤ c:=by
 rcases h.2 with ⟨_,h1⟩ | ⟨r,cap,cur,hv,_,_,hc,_⟩
 ·omega
 ·injection hv with e1 _ e3
  exact ⟨r,e1,by omega⟩
def bI (l:List UInt8):List Int:=l.map fun b=>(b.toNat:Int)
theorem bI_length (l:List UInt8):(bI l).length = l.length:=by simp [bI]
theorem bI_getD (l:List UInt8) (i:Nat):(bI l).getD i 0 = ((l.getD i 0).toNat:Int):=by
 unfold bI
 rw [List.getD_eq_getElem?_getD,List.getElem?_map,List.getD_eq_getElem?_getD]
 cases l[i]? <;> rfl
theorem bI_set (l:List UInt8) (i x:Nat) (hx:x < 256):bI (l.set i (UInt8.ofNat x)) = (bI l).set i (x:Int):=by
 unfold bI
 rw [List.map_set,UInt8.toNat_ofNat',Nat.mod_eq_of_lt hx]
theorem bI_app (l:List UInt8):bI (l ++ [0]) = bI l ++ [0]:=by simp [bI]
theorem gcRight (w:World) (c:Int):Calls Tryz.prog 257 #[.int .i64 c] w fun e w'=>e = .returned (.bool (decide (31 ≤ c ∧ c ≤ 2017))) ∧ w = w':=by
 by_cases h1:31 ≤ c
 ·by_cases h2:c ≤ 2017
  ·have d1:decide (31 ≤ c) = true:=decide_eq_true h1
   have d2:decide (c ≤ 2017) = true:=decide_eq_true h2
   have d3:decide (31 ≤ c ∧ c ≤ 2017) = true:=decide_eq_true ⟨h1,h2⟩
   rw [d3]
   go_enter Tryz.func257,Tryz.ntmps257
   go_wp2_with fail
   go_ret
   exact ⟨rfl,rfl⟩
  ·have d1:decide (31 ≤ c) = true:=decide_eq_true h1
   have d2:decide (c ≤ 2017) = false:=decide_eq_false h2
   have d3:decide (31 ≤ c ∧ c ≤ 2017) = false:=decide_eq_false (fun h=>h2 h.2)
   rw [d3]
   go_enter Tryz.func257,Tryz.ntmps257
   go_wp2_with fail
   go_ret
   exact ⟨rfl,rfl⟩
 ·have d1:decide (31 ≤ c) = false:=decide_eq_false h1
  have d3:decide (31 ≤ c ∧ c ≤ 2017) = false:=decide_eq_false (fun h=>h1 h.1)
  rw [d3]
  go_enter Tryz.func257,Tryz.ntmps257
  go_wp2_with fail
  go_ret
  exact ⟨rfl,rfl⟩
structure REAt (w:World) (g:Nat) (v:Value) (code:List UInt8) (wide:Nat):Prop where
 blk:Blk w g 173 #[v,.int .i64 (wide:Int)]
 own:IntsOwn w 0 v (bI code)
 four:4 ≤ code.length
 lo:16777216 ≤ wide
 hi:wide < 4294967296
theorem REAt.quiet {w w':World} {g:Nat} {v:Value} {code:List UInt8} {wide:Nat} (h:REAt w g v code wide) (hm:Mod (fun _=>False) w w'):REAt w' g v code wide:=⟨h.blk.keep hm (fun h=>h),h.own.quiet hm,h.four,h.lo,h.hi⟩
theorem REAt.shape {w:World} {g:Nat} {v:Value} {code:List UInt8} {wide:Nat} (h:REAt w g v code wide):∃ r k,v = .slice (some ⟨r,0,none⟩) code.length k ∧ r ≠ g:=by
 obtain ⟨A,k,rfl⟩:=own_shape h.own
 obtain ⟨r,rfl,_⟩:=h.own.some_ (by rw [bI_length];have:=h.four;omega)
 have ho:=h.own
 rw [bI_length]
 exact ⟨r,k,rfl,ho.ne_ h.blk (by decide)⟩
theorem reNew (w:World):Calls Tryz.prog 55 #[] w fun e w'=>∃ g v,e = .returned (.pointer (some ⟨g,0,none⟩)) ∧ REAt w' g v [0,0,0,0] 4294967295 ∧ w.heap.size ≤ g ∧ (∀ j,v.ownBlock = some j → w.heap.size ≤ j) ∧ Mod (fun _=>False) w w':=by
 have hr:=Blk.new w 3 #[.int .i64 0,.int .i64 0,.int .i64 0,.int .i64 0]
 have H:=Lib.hid hr
 clear hr
 go_enter Tryz.func55,Tryz.ntmps55
 go_wp2_with fail
 go_ret
 have hr:=H.out.alloc (.cells #[.slice (some ⟨w.heap.size,0,none⟩) 4 4,.int .i64 4294967295] 173)
 have hb:=Blk.new (w.alloc (.cells #[.int .i64 0,.int .i64 0,.int .i64 0,.int .i64 0] 3)) 173 #[.slice (some ⟨w.heap.size,0,none⟩) 4 4,.int .i64 4294967295]
 refine ⟨_,.slice (some ⟨w.heap.size,0,none⟩) 4 4,rfl,⟨by simpa using hb,IntsOwn.whole (l:=bI [0,0,0,0]) (Nat.zero_le _) hr (by decide),by decide,by omega,by omega⟩,by simp,fun j e=>?_,((Mod.refl (fun _=>False) w).alloc _).alloc _⟩
 simp only [Value.ownBlock,Option.some.injEq] at e
 omega
def RAddRel (w:World) (g r n k:Nat) (wide:Nat) (R:List UInt8) (v4 v5:Value) (wr:World):Prop:=
 ∃ (m c:Nat) (L:List UInt8),m ≤ n ∧ v4 = .int .i64 (c:Int) ∧ v5 = .int .i64 ((m:Int) - 1) ∧ L.length = n ∧ c < 4294967296 ∧ eaddAt m L c = R ∧ IntsOwn wr 0 (.slice (some ⟨r,0,none⟩) n k) (bI L) ∧ Blk wr g 173 #[.slice (some ⟨r,0,none⟩) n k,.int .i64 (wide:Int)] ∧ Mod (· = r) w wr
theorem reAdd (w:World) (g r k:Nat) (code:List UInt8) (wide:Nat) (h:REAt w g (.slice (some ⟨r,0,none⟩) code.length k) code wide) (hl:code.length ≤ 1048576) (c:Nat) (hc:c < 4294967296) :
  Calls Tryz.prog 258 #[.pointer (some ⟨g,0,none⟩),.int .i64 (c:Int)] w fun e w'=>e = .returned (.tuple #[]) ∧ REAt w' g (.slice (some ⟨r,0,none⟩) code.length k) (eadd code c) wide ∧ Mod (· = r) w w':=by
 obtain ⟨n,hn⟩:∃ n,n = code.length:=⟨_,rfl⟩
 rw [← hn] at h hl ⊢
 obtain ⟨bc,bf⟩:=h.blk.both
 have H:=Lib.hid (And.intro h hn)
 clear h hn
 go_enter Tryz.func258,Tryz.ntmps258
 go_wp2_with fail
 go_loopw [4,5] (RAddRel w g r n k wide (eadd code c)) (fun _ v _=>(intOf v + 1).toNat)
 case atStart=>exact ⟨n,c,code,Nat.le_refl _,rfl,rfl,H.out.2.symm,hc,by rw [H.out.2];rfl,H.out.1.own,H.out.1.blk,Mod.refl _ _⟩
 case round=>
  clear bc bf
  obtain ⟨m,cc,L,hm,rfl,rfl,hL,hcc,hR,ho,hb,hM⟩:=hrel
  rename World=>wr
  obtain ⟨bc,bf⟩:=hb.both
  by_cases hm0:m = 0
  ·subst hm0
   have HE:=Lib.hid (And.intro hR (And.intro ho (And.intro hb (And.intro hM hL))))
   clear hR ho hb hM hL
   go_wp2_with fail
   go_end0
   refine ⟨rfl,⟨HE.out.2.2.1,?_,?_,H.out.1.lo,H.out.1.hi⟩,HE.out.2.2.2.1⟩
   ·rw [← HE.out.1]
    exact HE.out.2.1
   ·rw [eadd_length]
    exact H.out.1.four
  ·obtain ⟨m,rfl⟩:∃ m',m = m' + 1:=⟨m - 1,by omega⟩
   have e1:(((m + 1:Nat):Int) - 1) = (m:Int):=by omega
   rw [e1]
   by_cases hc0:cc = 0
   ·subst hc0
    rw [eaddAt_0] at hR
    have HE:=Lib.hid (And.intro hR (And.intro ho (And.intro hb (And.intro hM hL))))
    clear hR ho hb hM hL e1
    go_wp2_with fail
    go_end0
    refine ⟨rfl,⟨HE.out.2.2.1,?_,?_,H.out.1.lo,H.out.1.hi⟩,HE.out.2.2.2.1⟩
    ·rw [← HE.out.1]
     exact HE.out.2.1
    ·rw [eadd_length]
     exact H.out.1.four
   ·have hml:m < L.length:=by omega
    have bcell:=ho.cell m (by rw [bI_length];exact hml)
    rw [bI_getD] at bcell
    have bfr:=ho.frozen m
    have brl:=ho.low.2
    obtain ⟨x,hx⟩:∃ x,x = (L.getD m 0).toNat:=⟨_,rfl⟩
    have hx8:x < 256:=by rw [hx];exact UInt8.toNat_lt _
    rw [← hx] at bcell
    have d1:decide (0 < (cc:Int)) = true:=decide_eq_true (by omega)
    unfold eaddAt at hR
    rw [if_neg hc0,← hx] at hR
    have hne:=ho.ne_ hb (by decide)
    have HX:=Lib.hid hx
    clear hx
    have HE:=Lib.hid (And.intro hR (And.intro ho (And.intro hb (And.intro hM hL))))
    clear hR ho hb hM hL e1
    go_wp2_with fail
    rw [show (cc:Int) / 256 + ((x:Int) + (cc:Int) % 256) / 256 = (((cc + x) / 256:Nat):Int) by omega,show ((x:Int) + (cc:Int)) % 256 = (((cc + x) % 256:Nat):Int) by omega]
    refine ⟨⟨m,(cc + x) / 256,L.set m (UInt8.ofNat ((cc + x) % 256)),by omega,rfl,rfl,by rw [List.length_set];exact HE.out.2.2.2.2,by omega,HE.out.1,?_,HE.out.2.2.1.far (p:=⟨r,m,none⟩) (Ne.symm hne) _,HE.out.2.2.2.1.setCell (p:=⟨r,m,none⟩) (.inl rfl) _⟩,?_⟩
    ·rw [bI_set L m _ (Nat.mod_lt _ (by omega))]
     exact HE.out.2.1.put m _
    ·simp only [intOf]
     omega
def REPost (w:World) (g:Nat) (v:Value) (x:List UInt8 × Nat) (e:Ending) (w':World):Prop:=
 ∃ v',e = .returned (.int .i64 0) ∧ REAt w' g v' x.1 x.2 ∧ (∀ j,v'.ownBlock = some j → v.ownBlock = some j ∨ w.heap.size ≤ j) ∧ Mod (fun j=>j = g ∨ v.ownBlock = some j) w w'
def RENorm (w:World) (g:Nat) (v:Value) (x:List UInt8 × Nat) (wr:World):Prop:=
 ∃ v1 code1 w1,Blk wr g 173 #[v1,.int .i64 ((w1:Nat):Int)] ∧ IntsOwn wr 0 v1 (bI code1) ∧ 4 ≤ code1.length ∧ (w1 < 16777216 → code1.length ≤ 1048575) ∧ 65536 ≤ w1 ∧ w1 < 4294967296 ∧ enorm code1 w1 = x ∧ (∀ j,v1.ownBlock = some j → v.ownBlock = some j ∨ w.heap.size ≤ j) ∧ Mod (fun j=>j = g ∨ v.ownBlock = some j) w wr
def reWide (g:Nat) (w:World):Nat:=match w.cell? ⟨g,1,none⟩ with | some (.int _ n)=>4294967296 - n.toNat | _=>0
theorem reWide_of {w:World} {g:Nat} {v:Value} {x:Nat} (h:Blk w g 173 #[v,.int .i64 (x:Int)]):reWide g w = 4294967296 - x:=by
 unfold reWide
 rw [show w.cell? ⟨g,1,none⟩ = some (.int .i64 (x:Int)) from h.cell 1]
 simp
theorem rePut (w:World) (g:Nat) (v:Value) (code:List UInt8) (wide c bit:Nat) (h:REAt w g v code wide) (hl:code.length ≤ 1048575) (hc:chanceOk c = true) (hb:bit ≤ 1) :
  Calls Tryz.prog 220 #[.pointer (some ⟨g,0,none⟩),.int .i64 (c:Int),.int .i64 (bit:Int)] w (REPost w g v (eput code wide c bit)):=by
 obtain ⟨r,k,rfl,hrg⟩:=h.shape
 have hcb:31 ≤ c ∧ c ≤ 2017:=by unfold chanceOk at hc;rwa [decide_eq_true_eq] at hc
 have hbd:=ebound_lt hcb ⟨h.lo,h.hi⟩
 have hlo:=h.lo
 have hhi:=h.hi
 obtain ⟨bd,hbe⟩:∃ bd,bd = wide / 2048 * c:=⟨_,rfl⟩
 rw [← hbe] at hbd
 obtain ⟨hb1,hb2⟩:=hbd
 have e1:(wide:Int) / 2048 * (c:Int) = (bd:Int):=by rw [hbe];simp
 have dc:decide (31 ≤ (c:Int) ∧ (c:Int) ≤ 2017) = true:=decide_eq_true (by omega)
 obtain ⟨bc,bf⟩:=h.blk.both
 have bl:=h.blk.lt
 obtain ⟨hc1,hc2⟩:=hcb
 have H:=Lib.hid (And.intro h (And.intro dc (And.intro e1 hbe)))
 clear h hc e1 hbe dc
 have hbit:bit = 0 ∨ bit = 1:=by omega
 refine Calls.mono (R:=REPost w g (.slice (some ⟨r,0,none⟩) code.length k) (eput code wide c bit)) ?_ (fun _ _ h=>h)
 go_enter Tryz.func220,Tryz.ntmps220
 go_wp2_with fail
 refine (gcRight _ (c:Int)).mono ?_
 rintro e w1 ⟨rfl,rfl⟩
 rw [H.out.2.1]
 go_upto_region 2 with (fail)
 go_cut [20] (fun v20 wx=>v20 = .bool false ∧ wx = w)
 case first=>
  rcases hbit with rfl | rfl
  ·go_wp2_with fail
   go_meet
   exact ⟨rfl,rfl⟩
  ·go_wp2_with fail
   go_meet
   exact ⟨rfl,rfl⟩
 case rest=>
  obtain ⟨rfl,rfl⟩:=hcut
  go_upto_region 5 with (fail)
  rw [H.out.2.2.1,IntWalk.wrap64_in (bd:Int) ⟨by omega,by omega⟩]
  rename World=>w
  go_cut [29] (fun v29 wx=>v29 = .bool ((bit:Int) == 0) ∧ wx = w)
  case first=>
   go_wp2_with fail
   go_meet
   exact ⟨rfl,rfl⟩
  case rest=>
   obtain ⟨rfl,rfl⟩:=hcut
   rename World=>w
   go_upto_if 29 with (fail)
   go_cut [] (fun wx=>RENorm w g (.slice (some ⟨r,0,none⟩) code.length k) (eput code wide c bit) wx)
   case first=>
    rcases hbit with rfl | rfl
    ·go_wp2_with fail
     go_meet
     exact ⟨_,code,bd,H.out.1.blk.put (i:=1) rfl,H.out.1.own.far (p:=⟨g,1,none⟩) hrg _,H.out.1.four,fun _=>hl,by omega,by omega,by rw [H.out.2.2.2];rfl,fun j e=>.inl e,(Mod.refl _ w).setCell (p:=⟨g,1,none⟩) (.inl (.inl rfl)) _⟩
    ·go_wp2_with fail
     refine (reAdd w g r k code wide H.out.1 (by omega) bd (by omega)).mono ?_
     rintro e w2 ⟨rfl,hE2,hm2⟩
     clear bc bf bl
     obtain ⟨bc,bf⟩:=hE2.blk.both
     have bl:=hE2.blk.lt
     have H2:=Lib.hid (And.intro hE2 hm2)
     clear hE2 hm2
     go_wp2_with fail
     go_meet
     rw [show (wide:Int) - (bd:Int) = ((wide - bd:Nat):Int) by omega]
     exact ⟨_,eadd code bd,wide - bd,H2.out.1.blk.put (i:=1) rfl,H2.out.1.own.far (p:=⟨g,1,none⟩) hrg _,H2.out.1.four,fun _=>by rw [eadd_length];exact hl,by omega,by omega,by rw [H.out.2.2.2];rfl,fun j e=>.inl e,(H2.out.2.mono (fun j e=>.inr (by subst e;rfl))).setCell (p:=⟨g,1,none⟩) (.inl (.inl rfl)) _⟩
   case rest=>
    have HN:=Lib.hid hcut
    clear hcut bc bf bl
    rename World=>w9
    go_wp2_with fail
    go_loopw [] (RENorm w g (.slice (some ⟨r,0,none⟩) code.length k) (eput code wide c bit)) (fun wr=>reWide g wr)
    case atStart=>exact HN.out
    case round=>
     clear HN
     obtain ⟨v1,code1,x1,hb1,ho1,h41,hl1,hlo1,hhi1,hx1,hap1,hm1⟩:=hrel
     rename World=>wr
     obtain ⟨bc,bf⟩:=hb1.both
     have bl:=hb1.lt
     by_cases hn:x1 < 16777216
     ·have hew:=reWide_of hb1
      obtain ⟨A1,k1,rfl⟩:=own_shape ho1
      obtain ⟨r1,rfl,_⟩:=ho1.some_ (by rw [bI_length];omega)
      rw [bI_length] at ho1 hb1 bc hap1
      have hr1:=ho1.ne_ hb1 (by decide)
      have hl2:=hl1 hn
      clear hl1
      have d9:decide ((x1:Int) < 16777216) = true:=decide_eq_true (by omega)
      obtain ⟨y,hy⟩:∃ y,y = x1 * 256:=⟨_,rfl⟩
      have hw8:256 * (x1:Int) = (y:Int):=by omega
      have hy1:16777216 ≤ y:=by omega
      have hy2:y < 4294967296:=by omega
      have hb2:=hb1.put (i:=1) (u:=.int .i64 (y:Int)) rfl
      have ho2:=ho1.far (p:=⟨g,1,none⟩) hr1 (.int .i64 (y:Int))
      have hm2:=hm1.setCell (p:=⟨g,1,none⟩) (.inl (.inl rfl)) (.int .i64 (y:Int))
      rw [enorm_more hn,← hy] at hx1
      have HA:=Lib.hid (And.intro ho2 (And.intro hb2 (And.intro hm2 (And.intro hap1 (And.intro hx1 (And.intro hew hy))))))
      have HW8:=Lib.hid hw8
      clear hy ho1 ho2 hb1 hb2 hm1 hm2 hap1 hx1 hew hw8
      go_upto_region 11 with (fail)
      rw [HW8.out]
      clear bc bf bl
      have hbz:Blk (wr.setCell ⟨g,1,none⟩ (.int .i64 (y:Int))) g 173 #[.slice (some ⟨r1,0,none⟩) code1.length k1,.int .i64 (y:Int)]:=HA.out.2.1
      generalize wr.setCell ⟨g,1,none⟩ (.int .i64 (y:Int)) = wz at *
      obtain ⟨bc,bf⟩:=hbz.both
      have bl:=hbz.lt
      have HZ:=Lib.hid hbz
      clear hbz
      go_wp2_with (at_builtin;have _t:=HA;refine wpList_app_int _ rfl (.tmp 63) (.tmp 64) rfl 0 (.slice (some ⟨r1,0,none⟩) code1.length k1) (bI code1) 0 rfl rfl HA.out.1 (Nat.zero_le _) (by rw [bI_length];omega) ?_;intro v5 w5 hown5 hM5 hJ5 hF5;clear hJ5;have HO:=Lib.hid (And.intro hown5 (And.intro hM5 hF5));have hb5:=HZ.out.keep hM5 (HA.out.1.apart HZ.out (by decide));obtain ⟨bc5,bf5⟩:=hb5.both;have bl5:=hb5.lt;have H5:=Lib.hid hb5;clear hb5 hown5 hM5 hF5;refine Hid.out ?_)
      refine Lib.hid ?_
      clear bc bf bl d9
      obtain ⟨A5,k5,hv5⟩:=own_shape HO.out.1
      obtain ⟨n5,hn5⟩:∃ n5,n5 = (bI code1 ++ [0]).length:=⟨_,rfl⟩
      rw [← hn5] at hv5
      subst hv5
      have HN5:=Lib.hid hn5
      clear hn5
      go_wp2_with fail
      have hb6:=H5.out.put (i:=0) (u:=.slice A5 n5 k5) rfl
      have hwz:=HA.out.2.2.1.size
      have ho6:=HO.out.1.mod ((Mod.refl (fun j=>j = g) w5).setCell (p:=⟨g,0,none⟩) (.inl rfl) (.slice A5 n5 k5)) (fun j e hj=>HO.out.1.apart H5.out (by decide) (hj ▸ e))
      rw [← bI_app] at ho6
      refine ⟨⟨_,code1 ++ [0],y,hb6,ho6,by simp;omega,fun h=>by omega,by omega,hy2,(enorm_done hy1).trans HA.out.2.2.2.2.1,fun j e=>?_,(HA.out.2.2.1.into HO.out.2.1 (fun j e=>?_)).setCell (p:=⟨g,0,none⟩) (.inl (.inl rfl)) _⟩,?_⟩
      ·rcases HO.out.2.2 j e with h1 | h1
       ·exact HA.out.2.2.2.1 j h1
       ·exact .inr (Nat.le_trans hwz h1)
      ·rcases HA.out.2.2.2.1 j e with h1 | h1
       ·exact .inl (.inr h1)
       ·exact .inr h1
      ·rw [reWide_of hb6,HA.out.2.2.2.2.2.1]
       omega
     ·have d9:decide ((x1:Int) < 16777216) = false:=decide_eq_false (by omega)
      rw [enorm_done (by omega)] at hx1
      have HX:=Lib.hid (And.intro hx1 (And.intro hb1 (And.intro ho1 (And.intro hap1 hm1))))
      clear hx1 hb1 ho1 hap1 hm1
      go_wp2_with fail
      go_ret
      rw [← HX.out.1]
      exact ⟨v1,rfl,⟨HX.out.2.1,HX.out.2.2.1,h41,by omega,hhi1⟩,HX.out.2.2.2.1,HX.out.2.2.2.2⟩
def n64s (l:List Nat):List Value:=l.map fun x=>.int .i64 ((x:Nat):Int)
theorem fNext (w:World) (c bit:Nat) (hb:bit ≤ 1) (h:chanceOk c = true):Calls Tryz.prog 221 #[.int .i64 (c:Int),.int .i64 (bit:Int)] w fun e w'=>e = .returned (.int .i64 ((cnext c bit:Nat):Int)) ∧ w = w':=by
 have hc:31 ≤ c ∧ c ≤ 2017:=by unfold chanceOk at h;rwa [decide_eq_true_eq] at h
 obtain ⟨h1,h2⟩:=hc
 have m0:decide ((c:Int) < 31) = false:=decide_eq_false (by omega)
 have m1:decide ((2017:Int) < (c:Int)) = false:=decide_eq_false (by omega)
 clear h
 have hb2:bit = 0 ∨ bit = 1:=by omega
 have e0:((cnext c 0:Nat):Int) = (c:Int) + (2048 - (c:Int)) / 32:=by unfold cnext;rw [if_pos rfl];omega
 have e1:((cnext c 1:Nat):Int) = (c:Int) - (c:Int) / 32:=by unfold cnext;rw [if_neg (by decide)];omega
 have HE:=Lib.hid (And.intro e0 e1)
 clear e0 e1
 cases d1:decide ((31:Int) < (c:Int)) <;> cases d2:decide ((c:Int) < 2017) <;> rcases hb2 with rfl | rfl <;> (
  go_enter Tryz.func221,Tryz.ntmps221
  go_wp2_with fail
  go_ret
  first
  | exact ⟨by rw [HE.out.1];rfl,rfl⟩
  | exact ⟨by rw [HE.out.2];rfl,rfl⟩)
theorem fPlace (w:World) (i ahead:Nat) (hi:i < 4) (ha:ahead < 1048576):Calls Tryz.prog 160 #[.int .i64 (i:Int),.int .i64 (ahead:Int)] w fun e w'=>e = .returned (.int .i64 ((atIdx i ahead:Nat):Int)) ∧ w = w':=by
 have h4:i = 0 ∨ i = 1 ∨ i = 2 ∨ i = 3:=by omega
 clear hi
 rcases h4 with rfl | rfl | rfl | rfl
 ·have e1:((atIdx 0 ahead:Nat):Int) = 20 + (ahead:Int):=by unfold atIdx;omega
  have HE:=Lib.hid e1
  clear e1
  go_enter Tryz.func160,Tryz.ntmps160
  go_wp2_with fail
  go_ret
  exact ⟨by rw [HE.out];rfl,rfl⟩
 ·have e1:((atIdx 1 ahead:Nat):Int) = 21 + (ahead:Int):=by unfold atIdx;omega
  have HE:=Lib.hid e1
  clear e1
  go_enter Tryz.func160,Tryz.ntmps160
  go_wp2_with fail
  go_ret
  exact ⟨by rw [HE.out];rfl,rfl⟩
 ·have e1:((atIdx 2 ahead:Nat):Int) = 23 + (ahead:Int):=by unfold atIdx;omega
  have HE:=Lib.hid e1
  clear e1
  go_enter Tryz.func160,Tryz.ntmps160
  go_wp2_with fail
  go_ret
  exact ⟨by rw [HE.out];rfl,rfl⟩
 ·have e1:((atIdx 3 ahead:Nat):Int) = 27 + (ahead:Int):=by unfold atIdx;omega
  have HE:=Lib.hid e1
  clear e1
  go_enter Tryz.func160,Tryz.ntmps160
  go_wp2_with fail
  go_ret
  exact ⟨by rw [HE.out];rfl,rfl⟩
theorem fPlace4 (w:World) (i ahead:Nat) (hi:4 ≤ i) (h2:i < 1048576):Calls Tryz.prog 160 #[.int .i64 (i:Int),.int .i64 (ahead:Int)] w fun e w'=>e = .returned (.int .i64 (-1)) ∧ w = w':=by
 have d1:decide ((4:Int) ≤ (i:Int)) = true:=decide_eq_true (by omega)
 go_enter Tryz.func160,Tryz.ntmps160
 go_wp2_with fail
 go_ret
 exact ⟨rfl,rfl⟩
def fillM (m:Nat):List Nat:=List.replicate m 1024 ++ List.replicate (592 - m) 0
theorem fillM_set (m:Nat) (h:m < 592):(n64s (fillM m)).set m (.int .i64 ((1024:Nat):Int)) = n64s (fillM (m + 1)):=by
 apply List.ext_getElem
 ·simp [n64s,fillM];omega
 ·intro i h1 h2
  have hi:i < 592:=by simp [n64s,fillM] at h2;omega
  rw [List.getElem_set]
  by_cases e:m = i
  ·subst e
   simp [n64s,fillM]
  ·rw [if_neg e]
   simp only [n64s,List.getElem_map,fillM,List.getElem_append,List.length_replicate,List.getElem_replicate]
   split <;> split <;> first | rfl | omega
theorem fillM_cell (m:Nat) (h:m < 592):(n64s (fillM m)).toArray[m]? = some (.int .i64 0):=by
 have h1:(fillM m)[m]? = some 0:=by
  unfold fillM
  rw [List.getElem?_append_right (by simp),List.length_replicate,Nat.sub_self,List.getElem?_replicate,if_pos (by omega)]
 simp [n64s,h1]
def FNewRel1 (w:World) (v:Value) (wr:World):Prop:=∃ t:Nat,t ≤ 16 ∧ v = .int .i64 (t:Int) ∧ Blk wr w.heap.size 177 (n64s (fillM (t * 37))).toArray ∧ Mod (fun _=>False) w wr
def FNewRel2 (w:World) (t:Nat) (v:Value) (wr:World):Prop:=∃ i:Nat,i ≤ 37 ∧ v = .int .i64 (i:Int) ∧ Blk wr w.heap.size 177 (n64s (fillM (t * 37 + i))).toArray ∧ Mod (fun _=>False) w wr
theorem fBookNew (w:World):Calls Tryz.prog 56 #[] w fun e w'=>∃ b,e = .returned (.pointer (some ⟨b,0,none⟩)) ∧ Blk w' b 177 (n64s (fillB 16)).toArray ∧ w.heap.size ≤ b ∧ Mod (fun _=>False) w w':=by
 have hz:Tryz.zeroCells177 = (n64s (fillM 0)).toArray:=by kernel_rfl
 have HZ:=Lib.hid hz
 clear hz
 have hb0:Blk (w.alloc (.cells (n64s (fillM 0)).toArray 177)) w.heap.size 177 (n64s (fillM 0)).toArray:=Blk.new _ _ _
 have m0:Mod (fun _=>False) w (w.alloc (.cells (n64s (fillM 0)).toArray 177)):=(Mod.refl _ _).alloc _
 have HM:=Lib.hid (And.intro hb0 m0)
 clear hb0 m0
 go_enter Tryz.func56,Tryz.ntmps56
 go_upto_region 2 with (fail)
 rw [HZ.out]
 generalize hw1:w.alloc (.cells (n64s (fillM 0)).toArray 177) = w1 at *
 clear hw1
 go_wp2_with fail
 go_loopw [2,3] (fun v _ wr=>FNewRel1 w v wr) (fun i _ _=>16 - (intOf i).toNat)
 case atStart=>exact ⟨0,by omega,rfl,HM.out.1,HM.out.2⟩
 case round=>
  clear HM
  obtain ⟨t,ht,rfl,hb,hM⟩:=hrel
  have HB:=Lib.hid (And.intro hb hM)
  clear hb hM
  by_cases hlt:t < 16
  ·have d1:decide ((t:Int) < 16) = true:=decide_eq_true (by omega)
   go_wp2_with fail
   go_loopw [3] (FNewRel2 w t) (fun i _=>37 - (intOf i).toNat)
   case atStart=>exact ⟨0,by omega,rfl,HB.out.1,HB.out.2⟩
   case round=>
    clear HB
    rename World=>w6
    obtain ⟨i,hi,rfl,hb,hM⟩:=hrel
    by_cases hli:i < 37
    ·have d2:decide ((i:Int) < 37) = true:=decide_eq_true (by omega)
     have p0:(0:Int) ≤ (t:Int):=by omega
     have p1:(t:Int) < 16:=by omega
     have p2:(0:Int) ≤ (i:Int):=by omega
     have p3:(i:Int) < 37:=by omega
     have ck:w6.cell? ⟨w.heap.size,t * 37 + i,none⟩ = some (.int .i64 0):=(hb.cell _).trans (fillM_cell (t * 37 + i) (by omega))
     have fk:=hb.frozen (t * 37 + i)
     have hl:=hb.lt
     have HB:=Lib.hid (And.intro hb hM)
     clear hb hM
     go_wp2_with fail
     go_roundw
     case rel=>exact ⟨i + 1,by omega,by go_num,HB.out.1.put (by rw [← Nat.add_assoc];simpa using fillM_set (t * 37 + i) (by omega)),HB.out.2.setCell (.inr (Nat.le_refl _)) _⟩
     case measure=>simp [intOf];omega
    ·obtain rfl:i = 37:=by omega
     have HB:=Lib.hid (And.intro hb hM)
     clear hb hM
     go_wp2_with fail
     go_roundw
     case rel=>exact ⟨t + 1,by omega,by go_num,by rw [Nat.add_mul];exact HB.out.1,HB.out.2⟩
     case measure=>simp [intOf];omega
  ·obtain rfl:t = 16:=by omega
   go_wp2_with fail
   go_ret
   exact ⟨_,rfl,HB.out.1,Nat.le_refl _,HB.out.2⟩
end Go.Proofs.YtmkopcojnibhlaaGreatDoor

