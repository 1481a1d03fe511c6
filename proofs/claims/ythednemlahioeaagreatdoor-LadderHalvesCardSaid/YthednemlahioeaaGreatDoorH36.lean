/-
  ladder.Make in plain Lean: which clips and ladders are made, and what is known of each rung.
-/
import Derived.Test.YthednemlahioeaaGreatDoorH31
import Derived.Test.YthednemlahioeaaGreatDoorH35
import Derived.Test.YthednemlahioeaaGreatDoorH28
import Derived.Test.YthednemlahioeaaGreatDoorH0
import Derived.Maps.OwnIn
namespace Go.Proofs.YthednemlahioeaaGreatDoor
open Go.RowKit
set_option maxRecDepth 100000
set_option maxHeartbeats 8000000
def makeB (fs:List FrX) (G:Int) (rs:List Rg):Bool:=clipB fs && ladderB (fs.getD 0 FrX.zero).W0 (fs.getD 0 FrX.zero).H0 G rs
def dim0 (fs:List FrX):Dim:=mkDim (fs.getD 0 FrX.zero).W0 (fs.getD 0 FrX.zero).H0
def madeX (fs:List FrX) (G:Int) (r:Rg):MadeX:=
 ⟨r,G,(dim0 fs).downs r.down.toNat,segsOf ((dim0 fs).downs r.down.toNat) G.toNat r.tg.toNat r.q.toNat (fs.map fun f=>downsPix (dim0 fs) f.pix r.down.toNat)⟩
theorem whole_parts {f:FrX} (h:f.wholeB = true):(1 ≤ f.W0 ∧ f.W0 ≤ 4096 ∧ f.W0 % 16 = 0) ∧ (1 ≤ f.H0 ∧ f.H0 ≤ 4096 ∧ f.H0 % 16 = 0):=by
 unfold FrX.wholeB wholeI at h
 rw [decide_eq_true_eq] at h
 obtain ⟨r0,_,_,e1,e2,_⟩:=h
 unfold rightI sidesI at r0
 simp only [Bool.and_eq_true,decide_eq_true_eq] at r0
 omega
theorem dim_whole {f:FrX} (h:f.wholeB = true):(mkDim f.W0 f.H0).Ok ∧ ((mkDim f.W0 f.H0).W:Int) = f.W0 ∧ ((mkDim f.W0 f.H0).H:Int) = f.H0:=by
 obtain ⟨⟨a1,a2,a3⟩,b1,b2,b3⟩:=whole_parts h
 refine ⟨⟨?_,?_,?_,?_,?_,rfl,rfl⟩,?_,?_⟩
 ·show sidesB f.W0.toNat f.H0.toNat = true
  unfold sidesB
  simp
  omega
 ·show f.W0.toNat % 16 = 0
  omega
 ·show f.H0.toNat % 16 = 0
  omega
 ·show f.W0.toNat = 2 * (f.W0.toNat / 2)
  omega
 ·show f.H0.toNat = 2 * (f.H0.toNat / 2)
  omega
 ·show ((f.W0.toNat:Nat):Int) = f.W0
  omega
 ·show ((f.H0.toNat:Nat):Int) = f.H0
  omega
theorem clip_good {fs:List FrX} (h:clipB fs = true):(dim0 fs).Ok ∧ ((dim0 fs).W:Int) = (fs.getD 0 FrX.zero).W0 ∧ ((dim0 fs).H:Int) = (fs.getD 0 FrX.zero).H0 ∧ (1 ≤ fs.length ∧ fs.length ≤ 1024) ∧ ∀ i,i < fs.length → (fs.getD i FrX.zero).goodB (dim0 fs) = true:=by
 unfold clipB at h
 rw [Bool.and_eq_true,decide_eq_true_eq] at h
 obtain ⟨hl,hc⟩:=h
 have h0:=clipsB_at hc (show 0 < fs.length by omega)
 unfold FrX.likeB at h0
 rw [Bool.and_eq_true] at h0
 obtain ⟨d1,d2,d3⟩:=dim_whole h0.1
 refine ⟨d1,d2,d3,hl,fun i hi=>?_⟩
 have hi2:=clipsB_at hc hi
 unfold FrX.likeB FrX.wholeB at hi2
 simp only [Bool.and_eq_true,decide_eq_true_eq] at hi2
 unfold FrX.goodB
 rw [hi2.1]
 unfold dim0
 rw [d2,d3,decide_eq_true hi2.2.1,decide_eq_true hi2.2.2]
 rfl
theorem downs_ok (d0:Dim) (n:Nat) (h:d0.Ok) (a b:Nat) (ha:d0.W = a * 2 ^ n) (hb:d0.H = b * 2 ^ n) (ha16:a % 16 = 0) (hb16:b % 16 = 0) :
  (∀ m,m ≤ n → (d0.downs m).Ok) ∧ (∀ m,m < n → (d0.downs m).W % 32 = 0 ∧ (d0.downs m).H % 32 = 0):=by
 have h2:d0.W2 = d0.W / 2 ∧ d0.H2 = d0.H / 2:=by have:=h.w2;have:=h.h2;omega
 have key:∀ m,m < n → (d0.downs m).W % 32 = 0 ∧ (d0.downs m).H % 32 = 0:=fun m hm=>by
  obtain ⟨e1,e2,_,_⟩:=Dim.downs_sides d0 m h2
  obtain ⟨k,rfl⟩:∃ k,n = m + (k + 1):=⟨n - m - 1,by omega⟩
  have f1:d0.W / 2 ^ m = a * 2 ^ k * 2:=by
   rw [ha,Nat.pow_add,Nat.pow_succ,← Nat.mul_assoc,Nat.mul_comm a,Nat.mul_assoc,Nat.mul_div_cancel_left _ (Nat.pow_pos (by omega)),← Nat.mul_assoc]
  have f2:d0.H / 2 ^ m = b * 2 ^ k * 2:=by
   rw [hb,Nat.pow_add,Nat.pow_succ,← Nat.mul_assoc,Nat.mul_comm b,Nat.mul_assoc,Nat.mul_div_cancel_left _ (Nat.pow_pos (by omega)),← Nat.mul_assoc]
  have g1:a * 2 ^ k % 16 = 0:=by rw [Nat.mul_mod,ha16];simp
  have g2:b * 2 ^ k % 16 = 0:=by rw [Nat.mul_mod,hb16];simp
  rw [e1,e2,f1,f2]
  omega
 refine ⟨fun m=>?_,key⟩
 induction m with
 | zero=>exact fun _=>h
 | succ m ih=>exact fun hm=>(ih (by omega)).down (key m (by omega)).1 (key m (by omega)).2
theorem rung_parts {fs:List FrX} {G:Int} {r:Rg} (hc:clipB fs = true) (h:rungB (fs.getD 0 FrX.zero).W0 (fs.getD 0 FrX.zero).H0 G r = true) (hW:(fs.getD 0 FrX.zero).W0 ≤ 64) (hH:(fs.getD 0 FrX.zero).H0 ≤ 64) :
  ∃ (dn q tg g:Nat),r.down = (dn:Int) ∧ r.q = (q:Int) ∧ r.tg = (tg:Int) ∧ G = (g:Int) ∧ dn ≤ 3 ∧ q ≤ 31 ∧ tg ≤ 1048576 ∧ (1 ≤ g ∧ g ≤ 64) ∧ (∀ m,m ≤ dn → ((dim0 fs).downs m).Ok) ∧ (∀ m,m < dn → ((dim0 fs).downs m).W % 32 = 0 ∧ ((dim0 fs).downs m).H % 32 = 0) ∧
   seqRight (((dim0 fs).downs dn).W:Int) (((dim0 fs).downs dn).H:Int) (g:Int) = true ∧ ((dim0 fs).downs dn).W ≤ 64 ∧ ((dim0 fs).downs dn).H ≤ 64:=by
 obtain ⟨hd,w0,h0,_,_⟩:=clip_good hc
 obtain ⟨nm,dn,q,tg⟩:=r
 unfold rungB at h
 dsimp only at h
 simp only [Bool.and_eq_true,decide_eq_true_eq] at h
 obtain ⟨_,ha,hs,m1,m2⟩:=h
 unfold rungArgsB at ha
 rw [decide_eq_true_eq] at ha
 dsimp only at ha
 have hsr:=hs
 unfold seqRight at hsr
 rw [decide_eq_true_eq] at hsr
 obtain ⟨n,rfl⟩:∃ n:Nat,dn = (n:Int):=⟨dn.toNat,by omega⟩
 have h2:(dim0 fs).W2 = (dim0 fs).W / 2 ∧ (dim0 fs).H2 = (dim0 fs).H / 2:=by have:=hd.w2;have:=hd.h2;omega
 obtain ⟨e1,e2⟩:=halved_down (dim0 fs) h2 n
 rw [← w0] at hs hsr m1
 rw [← h0] at hs hsr m2
 rw [e1,e2] at hs hsr
 rw [e1] at m1
 rw [e2] at m2
 have m1':(dim0 fs).W = ((dim0 fs).downs n).W * 2 ^ n:=by
  have:(n:Int).toNat = n:=rfl
  rw [this] at m1
  exact_mod_cast m1.symm
 have m2':(dim0 fs).H = ((dim0 fs).downs n).H * 2 ^ n:=by
  have:(n:Int).toNat = n:=rfl
  rw [this] at m2
  exact_mod_cast m2.symm
 obtain ⟨k1,k2⟩:=downs_ok (dim0 fs) n hd ((dim0 fs).downs n).W ((dim0 fs).downs n).H m1' m2' (by omega) (by omega)
 have p1:((dim0 fs).downs n).W * 1 ≤ ((dim0 fs).downs n).W * 2 ^ n:=Nat.mul_le_mul (Nat.le_refl _) (Nat.pow_pos (by omega))
 have p2:((dim0 fs).downs n).H * 1 ≤ ((dim0 fs).downs n).H * 2 ^ n:=Nat.mul_le_mul (Nat.le_refl _) (Nat.pow_pos (by omega))
 refine ⟨n,q.toNat,tg.toNat,G.toNat,rfl,show q = ((q.toNat:Nat):Int) by omega,show tg = ((tg.toNat:Nat):Int) by omega,by omega,by omega,by omega,by omega,by omega,k1,k2,?_,by omega,by omega⟩
 rw [show ((G.toNat:Nat):Int) = G by omega]
 exact hs
theorem ladder_at {W H G:Int} {rs:List Rg} (h:ladderB W H G rs = true) {i:Nat} (hi:i < rs.length):rungB W H G (rs.getD i Rg.zero) = true:=by
 unfold ladderB at h
 rw [Bool.and_eq_true] at h
 have h2:=h.2
 unfold rungsB at h2
 rw [List.all_eq_true] at h2
 have h3:=h2 i (List.mem_range.2 hi)
 rw [Bool.and_eq_true] at h3
 exact h3.1
def FM (B:Nat) (v:Value) (k:Nat):Prop:=B ≤ k ∧ v.ownBlock ≠ some k
theorem make_push {w w':World} {B:Nat} {e:TypeId} {v v':Value} {l:List MadeX} {x:MadeX} {xs cells:List Value} (hc:CellsOf 8 (MadeR w (FM B v)) l xs) (h1:w'.ownsRow B e 8 v' (l.length + 1) (xs ++ cells)) (hm:Mod (fun j=>v.ownBlock = some j) w w')
  (hg:∀ k,v'.ownBlock = some k → v.ownBlock = some k ∨ w.heap.size ≤ k) (hx:MadeR w (FM B v) x cells) (hl:cells.length = 8):ListOwn w' B e 8 (MadeR w' (FM B v')) v' (l ++ [x]):=by
 have hFn:∀ k,FM B v k → k < w.heap.size → ¬ v.ownBlock = some k:=fun k hk _=>hk.2
 have hFF:∀ k,FM B v k → k < w.heap.size → FM B v' k:=fun k hk hl=>⟨hk.1,fun e=>(hg k e).elim hk.2 (by omega)⟩
 exact ListOwn.push h1 (hc.mono (fun _ _ _ k=>k.turn hm hFn hFF)) (hx.turn hm hFn hFF) hl
theorem take_one {rs:List Rg} {i:Nat} (h:i < rs.length) (f:Rg → MadeX):(rs.take (i + 1)).map f = (rs.take i).map f ++ [f (rs.getD i Rg.zero)]:=by
 rw [List.take_add_one,List.map_append,List.getElem?_eq_getElem h,List.getD_eq_getElem?_getD,List.getElem?_eq_getElem h]
 rfl
end Go.Proofs.YthednemlahioeaaGreatDoor
namespace Go.Proofs.YthednemlahioeaaGreatDoor
set_option maxRecDepth 100000
set_option maxHeartbeats 8000000
def FrX.downB (f:FrX):Bool:=f.wholeB && decide (f.W0 % 32 = 0 ∧ f.H0 % 32 = 0)
def HalfOf (f g:FrX):Prop:=(f.downB = true ∧ g.goodB (mkDim f.W0 f.H0).down = true ∧ g.pix = downPix (mkDim f.W0 f.H0) f.pix) ∨ (f.downB = false ∧ g = FrX.zero)
structure HalvesOf (fs gs:List FrX):Prop where
 len:gs.length = fs.length
 at_:∀ i,i < fs.length → HalfOf (fs.getD i FrX.zero) (gs.getD i FrX.zero)
theorem good_parts {f:FrX} {d:Dim} (h:f.goodB d = true):f.wholeB = true ∧ f.W0 = (d.W:Int) ∧ f.H0 = (d.H:Int):=by
 unfold FrX.goodB at h
 simp only [Bool.and_eq_true,decide_eq_true_eq] at h
 exact ⟨h.1,h.2.1,h.2.2⟩
theorem half_true {f g:FrX} (h:HalfOf f g) (hg:g.wholeB = true):f.downB = true ∧ g.goodB (mkDim f.W0 f.H0).down = true ∧ g.pix = downPix (mkDim f.W0 f.H0) f.pix:=by
 rcases h with h | ⟨_,rfl⟩
 ·exact h
 ·exact absurd hg (by decide)
theorem half_yes {f g:FrX} (h:HalfOf f g) (hf:f.downB = true):g.goodB (mkDim f.W0 f.H0).down = true ∧ g.pix = downPix (mkDim f.W0 f.H0) f.pix:=by
 rcases h with h | ⟨h,_⟩
 ·exact h.2
 ·exact absurd (hf.symm.trans h) (by decide)
theorem like_parts {f0 f:FrX} (h:FrX.likeB f0 f = true):f.wholeB = true ∧ f.W0 = f0.W0 ∧ f.H0 = f0.H0:=by
 unfold FrX.likeB at h
 simp only [Bool.and_eq_true,decide_eq_true_eq] at h
 exact ⟨h.1,h.2.1,h.2.2⟩
theorem like_mk {f0 f:FrX} (h:f.wholeB = true) (h1:f.W0 = f0.W0) (h2:f.H0 = f0.H0):FrX.likeB f0 f = true:=by
 unfold FrX.likeB
 rw [h,decide_eq_true h1,decide_eq_true h2]
 rfl
theorem clip_parts {fs:List FrX} (h:clipB fs = true):(1 ≤ fs.length ∧ fs.length ≤ 1024) ∧ ∀ i,i < fs.length → FrX.likeB (fs.getD 0 FrX.zero) (fs.getD i FrX.zero) = true:=by
 unfold clipB at h
 rw [Bool.and_eq_true,decide_eq_true_eq] at h
 exact ⟨h.1,fun i hi=>clipsB_at h.2 hi⟩
theorem clip_mk {fs:List FrX} (h:1 ≤ fs.length ∧ fs.length ≤ 1024) (h2:∀ i,i < fs.length → FrX.likeB (fs.getD 0 FrX.zero) (fs.getD i FrX.zero) = true):clipB fs = true:=by
 unfold clipB clipsB
 rw [decide_eq_true h,Bool.true_and,List.all_eq_true]
 exact fun i hi=>h2 i (List.mem_range.1 hi)
theorem downB_mk {f:FrX} (h:f.wholeB = true) (h1:f.W0 % 32 = 0) (h2:f.H0 % 32 = 0):f.downB = true:=by
 unfold FrX.downB
 rw [h,decide_eq_true ⟨h1,h2⟩]
 rfl
theorem downB_parts {f:FrX} (h:f.downB = true):f.wholeB = true ∧ f.W0 % 32 = 0 ∧ f.H0 % 32 = 0:=by
 unfold FrX.downB at h
 simp only [Bool.and_eq_true,decide_eq_true_eq] at h
 exact h
theorem hv_fwd {fs gs:List FrX} (hh:HalvesOf fs gs) (hc:clipB fs = true) (hw:(fs.getD 0 FrX.zero).W0 % 32 = 0) (h_h:(fs.getD 0 FrX.zero).H0 % 32 = 0) :
  clipB gs = true ∧ (gs.getD 0 FrX.zero).W0 = (fs.getD 0 FrX.zero).W0 / 2 ∧ (gs.getD 0 FrX.zero).H0 = (fs.getD 0 FrX.zero).H0 / 2 ∧ dim0 gs = (dim0 fs).down ∧ ∀ i,i < fs.length → (gs.getD i FrX.zero).pix = downPix (dim0 fs) (fs.getD i FrX.zero).pix:=by
 obtain ⟨hl,ha⟩:=clip_parts hc
 have each:∀ i,i < fs.length → (gs.getD i FrX.zero).wholeB = true ∧ (gs.getD i FrX.zero).W0 = (fs.getD 0 FrX.zero).W0 / 2 ∧ (gs.getD i FrX.zero).H0 = (fs.getD 0 FrX.zero).H0 / 2 ∧ (gs.getD i FrX.zero).pix = downPix (dim0 fs) (fs.getD i FrX.zero).pix:=fun i hi=>by
  obtain ⟨p1,p2,p3⟩:=like_parts (ha i hi)
  obtain ⟨q1,q2⟩:=half_yes (hh.at_ i hi) (downB_mk p1 (by rw [p2];exact hw) (by rw [p3];exact h_h))
  rw [p2,p3] at q1 q2
  obtain ⟨r1,r2,r3⟩:=good_parts q1
  obtain ⟨⟨w1,w2,w3⟩,w4,w5,w6⟩:=whole_parts p1
  rw [p2] at w1 w2 w3
  rw [p3] at w4 w5 w6
  refine ⟨r1,r2.trans ?_,r3.trans ?_,q2⟩
  ·show ((((fs.getD 0 FrX.zero).W0.toNat / 2:Nat)):Int) = _
   omega
  ·show ((((fs.getD 0 FrX.zero).H0.toNat / 2:Nat)):Int) = _
   omega
 obtain ⟨z1,z2,z3,_⟩:=each 0 (by omega)
 refine ⟨clip_mk (by rw [hh.len];exact hl) (fun i hi=>?_),z2,z3,?_,fun i hi=>(each i hi).2.2.2⟩
 ·rw [hh.len] at hi
  obtain ⟨y1,y2,y3,_⟩:=each i hi
  exact like_mk y1 (y2.trans z2.symm) (y3.trans z3.symm)
 ·obtain ⟨p1,_⟩:=like_parts (ha 0 (by omega))
  obtain ⟨⟨w1,w2,w3⟩,w4,w5,w6⟩:=whole_parts p1
  unfold dim0
  rw [z2,z3]
  unfold mkDim Dim.down
  dsimp only
  have e1:((fs.getD 0 FrX.zero).W0 / 2).toNat = (fs.getD 0 FrX.zero).W0.toNat / 2:=by omega
  have e2:((fs.getD 0 FrX.zero).H0 / 2).toNat = (fs.getD 0 FrX.zero).H0.toNat / 2:=by omega
  rw [e1,e2]
theorem hv_bwd {fs gs:List FrX} (hh:HalvesOf fs gs) (hc:clipB gs = true):clipB fs = true ∧ (fs.getD 0 FrX.zero).W0 % 32 = 0 ∧ (fs.getD 0 FrX.zero).H0 % 32 = 0:=by
 obtain ⟨hl,ha⟩:=clip_parts hc
 rw [hh.len] at hl ha
 have each:∀ i,i < fs.length → (fs.getD i FrX.zero).wholeB = true ∧ (fs.getD i FrX.zero).W0 % 32 = 0 ∧ (fs.getD i FrX.zero).H0 % 32 = 0 ∧ (fs.getD i FrX.zero).W0 = 2 * (gs.getD 0 FrX.zero).W0 ∧ (fs.getD i FrX.zero).H0 = 2 * (gs.getD 0 FrX.zero).H0:=fun i hi=>by
  obtain ⟨p1,p2,p3⟩:=like_parts (ha i hi)
  obtain ⟨q1,q2,_⟩:=half_true (hh.at_ i hi) p1
  obtain ⟨t1,t2,t3⟩:=downB_parts q1
  obtain ⟨r1,r2,r3⟩:=good_parts q2
  obtain ⟨⟨w1,w2,w3⟩,w4,w5,w6⟩:=whole_parts t1
  have e1:(gs.getD i FrX.zero).W0 = ((((fs.getD i FrX.zero).W0.toNat / 2:Nat)):Int):=r2
  have e2:(gs.getD i FrX.zero).H0 = ((((fs.getD i FrX.zero).H0.toNat / 2:Nat)):Int):=r3
  refine ⟨t1,t2,t3,?_,?_⟩
  ·rw [← p2,e1]
   omega
  ·rw [← p3,e2]
   omega
 obtain ⟨z1,z2,z3,z4,z5⟩:=each 0 (by omega)
 refine ⟨clip_mk hl (fun i hi=>?_),z2,z3⟩
 obtain ⟨y1,y2,y3,y4,y5⟩:=each i hi
 exact like_mk y1 (y4.trans z4.symm) (y5.trans z5.symm)
theorem ladderB_one (W H G:Int) (r:Rg):ladderB W H G [r] = rungB W H G r:=by
 unfold ladderB rungsB
 simp
theorem rungB_sides {W H G:Int} {r:Rg} (h:rungB W H G r = true):(0 ≤ r.down ∧ r.down ≤ 3) ∧ 16 * (2 ^ r.down.toNat:Nat) ≤ W ∧ W % 16 = 0 ∧ H % 16 = 0 ∧ (1 ≤ r.down → W % 32 = 0 ∧ H % 32 = 0):=by
 unfold rungB rungArgsB seqRight at h
 simp only [Bool.and_eq_true,decide_eq_true_eq] at h
 obtain ⟨_,ha,hs,m1,m2⟩:=h
 have hd:r.down = 0 ∨ r.down = 1 ∨ r.down = 2 ∨ r.down = 3:=by omega
 refine ⟨by omega,?_⟩
 rcases hd with e | e | e | e
 ·rw [e] at hs m1 m2 ⊢
  have p:(((2 ^ (0:Int).toNat:Nat)):Int) = 1:=rfl
  rw [p] at m1 m2 ⊢
  omega
 ·rw [e] at hs m1 m2 ⊢
  have p:(((2 ^ (1:Int).toNat:Nat)):Int) = 2:=rfl
  rw [p] at m1 m2 ⊢
  omega
 ·rw [e] at hs m1 m2 ⊢
  have p:(((2 ^ (2:Int).toNat:Nat)):Int) = 4:=rfl
  rw [p] at m1 m2 ⊢
  omega
 ·rw [e] at hs m1 m2 ⊢
  have p:(((2 ^ (3:Int).toNat:Nat)):Int) = 8:=rfl
  rw [p] at m1 m2 ⊢
  omega
theorem makeB_one (fs:List FrX) (G:Int) (r:Rg):makeB fs G [r] = (clipB fs && rungB (fs.getD 0 FrX.zero).W0 (fs.getD 0 FrX.zero).H0 G r):=by
 unfold makeB
 rw [ladderB_one]
def Rg.less (r:Rg):Rg:={ r with down:=r.down - 1 }
theorem halves_make {fs gs:List FrX} (hh:HalvesOf fs gs) (G:Int) (r:Rg) (hr:1 ≤ r.down) (hs:∀ i,i < fs.length → (fs.getD i FrX.zero).W0 ≤ 32):makeB gs G [r.less] = makeB fs G [r]:=by
 rw [makeB_one,makeB_one,Bool.eq_iff_iff,Bool.and_eq_true,Bool.and_eq_true]
 constructor
 ·rintro ⟨hc,hg⟩
  obtain ⟨b1,b2,b3⟩:=hv_bwd hh hc
  obtain ⟨f1,f2,f3,_⟩:=hv_fwd hh b1 b2 b3
  refine ⟨b1,?_⟩
  rw [f2,f3] at hg
  obtain ⟨s1,s2,_⟩:=rungB_sides hg
  have hl:=(clip_parts b1).1
  have hw:=hs 0 (by omega)
  have hle:r.down ≤ 3:=by
   refine Classical.byContradiction fun h=>?_
   have e:r.less.down = 3:=by
    have h0:r.less.down = r.down - 1:=rfl
    omega
   rw [e] at s2
   have p:(((2 ^ (3:Int).toNat:Nat)):Int) = 8:=rfl
   rw [p] at s2
   omega
  rw [rungB_less _ _ G r hr hle (by omega) (by omega)]
  exact hg
 ·rintro ⟨hc,hg⟩
  obtain ⟨s1,_,_,_,s2⟩:=rungB_sides hg
  obtain ⟨t1,t2⟩:=s2 hr
  obtain ⟨f1,f2,f3,_⟩:=hv_fwd hh hc t1 t2
  refine ⟨f1,?_⟩
  rw [f2,f3]
  rw [rungB_less _ _ G r hr s1.2 (by omega) (by omega)] at hg
  exact hg
theorem halves_made {fs gs:List FrX} (hh:HalvesOf fs gs) {G:Int} {r:Rg} (hr:1 ≤ r.down) (hm:makeB fs G [r] = true):(madeX gs G r.less).d = (madeX fs G r).d ∧ (madeX gs G r.less).segs = (madeX fs G r).segs:=by
 rw [makeB_one,Bool.and_eq_true] at hm
 obtain ⟨hc,hg⟩:=hm
 obtain ⟨s1,_,_,_,s2⟩:=rungB_sides hg
 obtain ⟨t1,t2⟩:=s2 hr
 obtain ⟨f1,f2,f3,f4,f5⟩:=hv_fwd hh hc t1 t2
 obtain ⟨n,hn⟩:∃ n:Nat,r.down = (n:Int) + 1:=⟨(r.down - 1).toNat,by omega⟩
 have e1:r.down.toNat = n + 1:=by omega
 have e2:r.less.down.toNat = n:=by
  have h0:r.less.down = r.down - 1:=rfl
  omega
 have hd:(dim0 gs).downs n = (dim0 fs).downs (n + 1):=by
  rw [f4]
  exact (downs_down (dim0 fs) noPix n).1.symm
 have hp:(gs.map fun g=>downsPix (dim0 gs) g.pix n) = fs.map fun f=>downsPix (dim0 fs) f.pix (n + 1):=by
  refine List.ext_getElem (by rw [List.length_map,List.length_map,hh.len]) (fun i h1 h2=>?_)
  rw [List.getElem_map,List.getElem_map]
  rw [List.length_map] at h1 h2
  have g5:=f5 i h2
  rw [List.getD_eq_getElem?_getD,List.getD_eq_getElem?_getD,List.getElem?_eq_getElem h1,List.getElem?_eq_getElem h2] at g5
  have g6:gs[i].pix = downPix (dim0 fs) fs[i].pix:=g5
  have g7:downsPix (dim0 gs) (gs[i]'h1).pix n = downsPix (dim0 fs).down (downPix (dim0 fs) (fs[i]'h2).pix) n:=by rw [g6,f4]
  exact g7.trans (downs_down (dim0 fs) fs[i].pix n).2.symm
 unfold madeX
 dsimp only
 rw [e1,e2,hd,hp]
 exact ⟨rfl,rfl⟩
end Go.Proofs.YthednemlahioeaaGreatDoor
namespace Go.Proofs.YthednemlahioeaaGreatDoor
open Go.RowKit
set_option maxRecDepth 100000
set_option maxHeartbeats 8000000
def DownBad (w:World) (e:Ending) (w':World):Prop:=e = .returned (.tuple #[.agg #[.int .i64 0,.int .i64 0,.slice none 0 0,.int .i64 0,.int .i64 0,.slice none 0 0,.int .i64 0,.int .i64 0,.slice none 0 0],.int .i64 61]) ∧ Mod (fun _=>False) w w'
theorem pDownBad (w:World) (W0 Y0 W1 Y1 W2 Y2:Int) (A0 A1 A2:Option Addr) (n0 c0 n1 c1 n2 c2:Nat) (h:(wholeI W0 Y0 n0 W1 Y1 n1 W2 Y2 n2 && decide (W0 % 32 = 0 ∧ Y0 % 32 = 0)) = false) :
  Calls Tryz.prog 20 #[.agg #[.int .i64 W0,.int .i64 Y0,.slice A0 n0 c0,.int .i64 W1,.int .i64 Y1,.slice A1 n1 c1,.int .i64 W2,.int .i64 Y2,.slice A2 n2 c2]] w (DownBad w):=by
 have h0:=((Sat.nil (fun _=>False) w).alloc 58 #[.int .i64 W0,.int .i64 Y0,.slice A0 n0 c0,.int .i64 W1,.int .i64 Y1,.slice A1 n1 c1,.int .i64 W2,.int .i64 Y2,.slice A2 n2 c2] rfl).alloc (g:=w.heap.size + 1) 58 #[.int .i64 0,.int .i64 0,.slice none 0 0,.int .i64 0,.int .i64 0,.slice none 0 0,.int .i64 0,.int .i64 0,.slice none 0 0] (by simp)
 have K0:=Lib.hid h0
 obtain ⟨fc,ff⟩:=(h0.own_ 1 rfl).both
 dsimp only at fc
 clear h0
 cases hw:wholeI W0 Y0 n0 W1 Y1 n1 W2 Y2 n2 with
 | false=>
  have HW:=Lib.hid hw
  have H0:=K0
  clear hw h
  go_enter Tryz.func20,Tryz.ntmps20
  go_wp2_with fail;refine (pWholeI _ _ _ _ _ _ _ _ _ _ _ _ _ _ _ _).mono ?_;rintro e w1 ⟨rfl,hm1⟩;rw [HW.out];have hs1:=Sat.after hm1 H0.out;clear fc ff;obtain ⟨fc,ff⟩:=(hs1.own_ 1 rfl).both;dsimp only at fc;obtain ⟨rc,rf⟩:=(hs1.own_ 0 rfl).both;dsimp only at rc;have rl:=(hs1.own_ 0 rfl).lt;dsimp only at rl;have H2:=Lib.hid hs1;clear hs1 hm1
  go_wp2_with fail
  have hr8:=H2.out.own_ 0 rfl;dsimp only at hr8;obtain ⟨b9,m9⟩:=fr_lay9 hr8 (.int .i64 0) (.int .i64 0) (.slice none 0 0) (.int .i64 0) (.int .i64 0) (.slice none 0 0) (.int .i64 0) (.int .i64 0) (.slice none 0 0);clear fc ff rc rf rl;have hs9:=H2.out.turn m9 b9 .here;have hM:=hs9.mod;have HM:=Lib.hid hM;clear hs9 hM;have p0:=b9.cell 0;have p1:=b9.cell 1;have p2:=b9.cell 2;have p3:=b9.cell 3;have p4:=b9.cell 4;have p5:=b9.cell 5;have p6:=b9.cell 6;have p7:=b9.cell 7;have p8:=b9.cell 8;clear b9 m9 hr8;refine bodyPost_ret (v:=.tuple #[.agg #[.int .i64 0,.int .i64 0,.slice none 0 0,.int .i64 0,.int .i64 0,.slice none 0 0,.int .i64 0,.int .i64 0,.slice none 0 0],.int .i64 61]) ?_ rfl ?_;(simp [results,Tryz.results20,go_sem,p0,p1,p2,p3,p4,p5,p6,p7,p8]);exact ⟨rfl,HM.out⟩
 | true=>
  have hp:=hw
  unfold wholeI at hp
  rw [decide_eq_true_eq] at hp
  have r0:=hp.1
  clear hp
  unfold rightI sidesI at r0
  simp only [Bool.and_eq_true,decide_eq_true_eq] at r0
  obtain ⟨a,ha⟩:∃ a:Nat,W0 = (a:Int):=⟨W0.toNat,by omega⟩
  obtain ⟨b,hb⟩:∃ b:Nat,Y0 = (b:Int):=⟨Y0.toNat,by omega⟩
  have hab:a ≤ 4096 ∧ b ≤ 4096:=by omega
  rw [hw,Bool.true_and,decide_eq_false_iff_not] at h
  subst ha hb
  have HW:=Lib.hid hw
  have H0:=K0
  clear hw r0
  by_cases e1:a % 32 = 0
  ·have e2:¬ b % 32 = 0:=by omega
   have m1:((a:Int) % 32 != 0) = false:=by simp;omega
   have m2:((b:Int) % 32 != 0) = true:=by simp;omega
   clear e1 e2 h
   go_enter Tryz.func20,Tryz.ntmps20
   go_wp2_with fail;refine (pWholeI _ _ _ _ _ _ _ _ _ _ _ _ _ _ _ _).mono ?_;rintro e w1 ⟨rfl,hm1⟩;rw [HW.out];have hs1:=Sat.after hm1 H0.out;clear fc ff;obtain ⟨fc,ff⟩:=(hs1.own_ 1 rfl).both;dsimp only at fc;obtain ⟨rc,rf⟩:=(hs1.own_ 0 rfl).both;dsimp only at rc;have rl:=(hs1.own_ 0 rfl).lt;dsimp only at rl;have H2:=Lib.hid hs1;clear hs1 hm1
   go_wp2_with fail
   have hr8:=H2.out.own_ 0 rfl;dsimp only at hr8;obtain ⟨b9,m9⟩:=fr_lay9 hr8 (.int .i64 0) (.int .i64 0) (.slice none 0 0) (.int .i64 0) (.int .i64 0) (.slice none 0 0) (.int .i64 0) (.int .i64 0) (.slice none 0 0);clear fc ff rc rf rl;have hs9:=H2.out.turn m9 b9 .here;have hM:=hs9.mod;have HM:=Lib.hid hM;clear hs9 hM;have p0:=b9.cell 0;have p1:=b9.cell 1;have p2:=b9.cell 2;have p3:=b9.cell 3;have p4:=b9.cell 4;have p5:=b9.cell 5;have p6:=b9.cell 6;have p7:=b9.cell 7;have p8:=b9.cell 8;clear b9 m9 hr8;refine bodyPost_ret (v:=.tuple #[.agg #[.int .i64 0,.int .i64 0,.slice none 0 0,.int .i64 0,.int .i64 0,.slice none 0 0,.int .i64 0,.int .i64 0,.slice none 0 0],.int .i64 61]) ?_ rfl ?_;(simp [results,Tryz.results20,go_sem,p0,p1,p2,p3,p4,p5,p6,p7,p8]);exact ⟨rfl,HM.out⟩
  ·have m1:((a:Int) % 32 != 0) = true:=by simp;omega
   clear e1 h
   go_enter Tryz.func20,Tryz.ntmps20
   go_wp2_with fail;refine (pWholeI _ _ _ _ _ _ _ _ _ _ _ _ _ _ _ _).mono ?_;rintro e w1 ⟨rfl,hm1⟩;rw [HW.out];have hs1:=Sat.after hm1 H0.out;clear fc ff;obtain ⟨fc,ff⟩:=(hs1.own_ 1 rfl).both;dsimp only at fc;obtain ⟨rc,rf⟩:=(hs1.own_ 0 rfl).both;dsimp only at rc;have rl:=(hs1.own_ 0 rfl).lt;dsimp only at rl;have H2:=Lib.hid hs1;clear hs1 hm1
   go_wp2_with fail
   have hr8:=H2.out.own_ 0 rfl;dsimp only at hr8;obtain ⟨b9,m9⟩:=fr_lay9 hr8 (.int .i64 0) (.int .i64 0) (.slice none 0 0) (.int .i64 0) (.int .i64 0) (.slice none 0 0) (.int .i64 0) (.int .i64 0) (.slice none 0 0);clear fc ff rc rf rl;have hs9:=H2.out.turn m9 b9 .here;have hM:=hs9.mod;have HM:=Lib.hid hM;clear hs9 hM;have p0:=b9.cell 0;have p1:=b9.cell 1;have p2:=b9.cell 2;have p3:=b9.cell 3;have p4:=b9.cell 4;have p5:=b9.cell 5;have p6:=b9.cell 6;have p7:=b9.cell 7;have p8:=b9.cell 8;clear b9 m9 hr8;refine bodyPost_ret (v:=.tuple #[.agg #[.int .i64 0,.int .i64 0,.slice none 0 0,.int .i64 0,.int .i64 0,.slice none 0 0,.int .i64 0,.int .i64 0,.slice none 0 0],.int .i64 61]) ?_ rfl ?_;(simp [results,Tryz.results20,go_sem,p0,p1,p2,p3,p4,p5,p6,p7,p8]);exact ⟨rfl,HM.out⟩
def DownAny (w:World) (f:FrX) (e:Ending) (w':World):Prop:=
 ∃ (g:FrX) (er:Int),e = .returned (.tuple #[.agg g.cells.toArray,.int .i64 er]) ∧ HalfOf f g ∧ g.In w' ∧ (∀ ad,(g.A0 = some ad ∨ g.A1 = some ad ∨ g.A2 = some ad) → w.heap.size ≤ ad.block ∧ ad.block < w'.heap.size) ∧ Mod (fun _=>False) w w'
theorem pDownAny (w:World) (f:FrX) (hin:f.In w):Calls Tryz.prog 20 #[.agg f.cells.toArray] w (DownAny w f):=by
 cases hd:f.downB with
 | false=>
  have hd':=hd
  unfold FrX.downB FrX.wholeB at hd'
  have hb:=pDownBad w f.W0 f.H0 f.W1 f.H1 f.W2 f.H2 f.A0 f.A1 f.A2 f.n0 f.c0 f.n1 f.c1 f.n2 f.c2 hd'
  refine hb.mono ?_
  rintro e w' ⟨rfl,hm⟩
  refine ⟨FrX.zero,61,rfl,.inr ⟨hd,rfl⟩,FrX.zero_in w',?_,hm⟩
  rintro ad (e | e | e) <;> cases e
 | true=>
  obtain ⟨p1,p2,p3⟩:=downB_parts hd
  obtain ⟨d1,d2,d3⟩:=dim_whole p1
  have hW:(mkDim f.W0 f.H0).W % 32 = 0:=by omega
  have hH:(mkDim f.W0 f.H0).H % 32 = 0:=by omega
  have hg:f.goodB (mkDim f.W0 f.H0) = true:=by
   unfold FrX.wholeB at p1
   unfold FrX.goodB
   rw [d2,d3,p1]
   simp
  refine (pDownX w (mkDim f.W0 f.H0) d1 (d1.down hW hH) hW hH f hg hin).mono ?_
  rintro e w' ⟨g,rfl,h1,h2,h3,h4,h5⟩
  exact ⟨g,0,rfl,.inl ⟨hd,h2,h3⟩,h1,fun ad e=>⟨h4 ad e,FrX.low (d1.down hW hH) h2 h1 ad e⟩,h5⟩
theorem wpListIn_app_one {F:Fence} {nF:Nat} {P:Program} {ops:Array Oper} {rest:List Oper} {o:Oper} {a:Act} {Q:Exit → Act → World → Prop} (w:World) (hgd:o.guard = none) (s x:Operand) (t e:TypeId) (ho:o.op = .call { callee:=.builtin .append,args:=#[s,x],argTypes:=#[t,t] })
  (ht:P.underlying t = some (.slice e)) (z:Value) (size bytes:Nat) (hi:(P.info? e).map (fun i=>(i.zero,i.size,i.bytes)) = some (some z,size,bytes)) (hzs:z.cells.size = size) (hsz:0 < size)
  (B:Nat) (v:Value) (n:Nat) (xs cells:List Value) (hcl:cells.length = size) (h1:∀ u ∈ cells,u.oneCell' = true) (gq:Nat) (hgq:w.heap.size = gq) (hs:a.eval s = v) (hx:a.eval x = .slice (some ⟨gq,0,none⟩) 1 1)
  (hown:w.ownsRow B e size v n xs) (hB:B ≤ w.heap.size) (h63:n + 1 ≤ maxLen) (hby:(n + 1) * bytes ≤ 140737488355328)
  (h:∀ v' w',w'.ownsRow B e size v' (n + 1) (xs ++ cells) → Mod (fun j=>v.ownBlock = some j) w w' → (∀ (W:World) (S:Nat → Prop),W.heap.size ≤ B → Mod S W w → Mod S W w') → (∀ g,v'.ownBlock = some g → v.ownBlock = some g ∨ w.heap.size ≤ g) → wpListIn F nF P ops Q rest (a.put o.dst v') w') :
  wpListIn F nF P ops Q (o :: rest) a (w.alloc (.cells cells.toArray e)):=by
 obtain ⟨i0,hi0,hz0,hz1,hz2⟩:=info_parts hi
 subst hcl
 subst hgq
 have hsrc:=Src.new w e cells
 refine wpListIn_append_own_at _ hgd s x t ho B e i0 z cells.length bytes ht hi0 hz0 hz1 hz2 hzs hsz v n xs hs (own_mod hown ((Mod.refl (fun _=>False) w).alloc _) (fun _ _ h=>h)) ⟨w.heap.size,0,none⟩ 1 1 cells hx (by omega) (hsrc.2.2 _ rfl) h1 h63 hby (by simp;omega) ?_
 intro v' w' g1 g2 _ g3
 obtain ⟨m1,m2,m3⟩:=own_one w hown g2 g3
 exact h v' w' g1 m1 m2 m3
end Go.Proofs.YthednemlahioeaaGreatDoor

