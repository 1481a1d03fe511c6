/-
  The reference's encoder: a square's state between its steps.
-/
import Derived.Test.YtmkopcojnibhlaaGreatDoorP33
import Derived.Test.YtmkopcojnibhlaaGreatDoorP20
import Derived.Test.YtmkopcojnibhlaaGreatDoorP17
import Derived.Test.YtmkopcojnibhlaaGreatDoorP30
import Derived.Test.YtmkopcojnibhlaaGreatDoorP24
import Derived.Test.YtmkopcojnibhlaaGreatDoorP26
import Derived.Test.YtmkopcojnibhlaaGreatDoorP13
import Derived.Test.YtmkopcojnibhlaaGreatDoorP1
import Derived.Test.YtmkopcojnibhlaaGreatDoorP14
namespace Go.Proofs.YtmkopcojnibhlaaGreatDoor
open Go.RowKit
set_option maxRecDepth 100000
set_option maxHeartbeats 8000000
theorem re_pl_cell {w:World} {pb x y i:Nat} (h:Blk w pb 185 (plL x y).toArray) (hi:i < 6):w.cell? ⟨pb,i * 3,none⟩ = some (.int .i64 (pcP i:Int)) ∧ w.cell? ⟨pb,i * 3 + 1,none⟩ = some (.int .i64 (pcX x i:Int)) ∧ w.cell? ⟨pb,i * 3 + 2,none⟩ = some (.int .i64 (pcY y i:Int)):=by
 have h6:i = 0 ∨ i = 1 ∨ i = 2 ∨ i = 3 ∨ i = 4 ∨ i = 5:=by omega
 rcases h6 with rfl | rfl | rfl | rfl | rfl | rfl <;> exact ⟨h.cell _,h.cell _,h.cell _⟩
theorem Bytes.sq3 {w w':World} {bk cg B:Nat} {v vv:Value} {s:Es} {l:List UInt8} (h:Bytes w B vv l) (he:REb w bk cg v s) (hm:Mod (Sq3 bk cg v) w w'):Bytes w' B vv l:=h.mod hm (fun j e hj=>by
 rcases hj with hj | hj | hj
 ·subst hj;exact h.apart he.enc.blk (by decide) e
 ·subst hj;exact h.apart he.bk_ (by decide) e
 ·obtain ⟨_,cs,hb⟩:=own_blk he.enc.own hj
  exact h.apart hb (by decide) e)
theorem IntsIn.sq3 {w w1 w':World} {bk cg ob n c:Nat} {v:Value} {s:Es} {l:List Int} (h:IntsIn w (some ⟨ob,0,none⟩) n c l) (he:REb w1 bk cg v s) (ho:w1.heap.size ≤ ob) (hm:Mod (Sq3 bk cg v) w w'):IntsIn w' (some ⟨ob,0,none⟩) n c l:=h.mod hm (fun _ ad e hj=>by
 injection e with e
 subst e
 rcases hj with hj | hj | hj
 ·have h1:=he.enc.blk.lt
  have h2:ob = cg:=hj
  omega
 ·have h1:=he.bk_.lt
  have h2:ob = bk:=hj
  omega
 ·have:=(World.ownsRow.lt he.enc.own _ hj).2
  have h2:ob < w1.heap.size:=this
  omega)
structure SqV (g gb fb pb vb:Nat) (rv gv fv:Array Value) (X Y:Nat) (vx vy:Int) (wr:World):Prop where
 x_:Blk wr g 46 rv
 g_:Blk wr gb 40 gv
 f_:Blk wr fb 40 fv
 p_:Blk wr pb 185 (plL X Y).toArray
 v_:Blk wr vb 156 #[.int .i64 vx,.int .i64 vy]
theorem SqV.quiet {g gb fb pb vb:Nat} {rv gv fv:Array Value} {X Y:Nat} {vx vy:Int} {wr w':World} (h:SqV g gb fb pb vb rv gv fv X Y vx vy wr) (hm:Mod (fun _=>False) wr w'):SqV g gb fb pb vb rv gv fv X Y vx vy w':=
 ⟨h.x_.keep hm (fun h=>h),h.g_.keep hm (fun h=>h),h.f_.keep hm (fun h=>h),h.p_.keep hm (fun h=>h),h.v_.keep hm (fun h=>h)⟩
structure SqR (wA w wr:World) (g:Nat) (rv:Array Value) (bk cg:Nat) (v v':Value) (s:Es) (B:Nat) (d:Dim) (e0 j0 e1 j1 e2 j2:Nat) (f:Pix) (gb fb pb vb rb:Nat) (fv:Array Value) (X Y:Nat) (vx vy:Int):Prop where
 sq:RSq wA wr bk cg v' s B d e0 j0 e1 j1 e2 j2 f
 bx:SqB wr gb fb pb vb rb d e0 j0 e1 j1 e2 j2 fv X Y vx vy
 fr:∀ j,v'.ownBlock = some j → v.ownBlock = some j ∨ w.heap.size ≤ j
 mod:Mod (Sq3 bk cg v) w wr
 x:Blk wr g 46 rv
section
variable {wA w wr w' : World} {g : Nat} {rv : Array Value} {bk cg : Nat} {v v' : Value} {s s' : Es} {B : Nat} {d : Dim} {e0 j0 e1 j1 e2 j2 : Nat} {f : Pix} {gb fb pb vb rb : Nat} {fv : Array Value} {X Y : Nat} {vx vy : Int}
theorem SqR.quiet (h:SqR wA w wr g rv bk cg v v' s B d e0 j0 e1 j1 e2 j2 f gb fb pb vb rb fv X Y vx vy) (hm:Mod (fun _=>False) wr w'):SqR wA w w' g rv bk cg v v' s B d e0 j0 e1 j1 e2 j2 f gb fb pb vb rb fv X Y vx vy:=
 ⟨h.sq.quiet hm,h.bx.quiet hm,h.fr,h.mod.trans (hm.mono (fun _ h=>h.elim)),h.x.keep hm (fun h=>h)⟩
theorem SqR.drew (h:SqR wA w wr g rv bk cg v v' s B d e0 j0 e1 j1 e2 j2 f gb fb pb vb rb fv X Y vx vy):SqR wA w wr.drew g rv bk cg v v' s B d e0 j0 e1 j1 e2 j2 f gb fb pb vb rb fv X Y vx vy:=h.quiet ((Mod.refl _ _).drew)
theorem SqR.vs (h:SqR wA w wr g rv bk cg v v' s B d e0 j0 e1 j1 e2 j2 f gb fb pb vb rb fv X Y vx vy):SqV g gb fb pb vb rv (frV d e0 j0 e1 j1 e2 j2).toArray fv X Y vx vy wr:=⟨h.x,h.bx.g_,h.bx.f_,h.bx.p_,h.bx.v_⟩
theorem SqR.put (h:SqR wA w wr g rv bk cg v v' s B d e0 j0 e1 j1 e2 j2 f gb fb pb vb rb fv X Y vx vy) (k:REbGo wr bk cg v' s' w') :
  ∃ v2,SqR wA w w' g rv bk cg v v2 s' B d e0 j0 e1 j1 e2 j2 f gb fb pb vb rb fv X Y vx vy ∧ Mod (Sq3 bk cg v') wr w':=by
 obtain ⟨v2,h1,hF,hM⟩:=h.sq.put k
 refine ⟨v2,⟨h1,h.bx.put h.sq.eb hM,fun j e=>?_,h.mod.into hM (fun j e=>?_),h.x.keep hM (h.sq.eb.off h.x (by decide) (by decide) (by decide))⟩,hM⟩
 ·rcases hF j e with e | e
  ·exact h.fr j e
  ·exact .inr (Nat.le_trans h.mod.size e)
 ·rcases e with e | e | e
  ·exact .inl (.inl e)
  ·exact .inl (.inr (.inl e))
  ·rcases h.fr j e with e | e
   ·exact .inl (.inr (.inr e))
   ·exact .inr e
theorem SqR.lay (h:SqR wA w wr g rv bk cg v v' s B d e0 j0 e1 j1 e2 j2 f gb fb pb vb rb fv X Y vx vy) (hw:wA.heap.size ≤ gb) (hg:w.heap.size ≤ gb) (n1:fb ≠ gb) (n2:rb ≠ gb) {q0 r0 q1 r1 q2 r2:Nat} {f':Pix} (hf:FrB wr B d q0 r0 q1 r1 q2 r2 f') :
  SqR wA w ((((((((((wr).setCell ⟨gb,0,none⟩ (.int .i64 (d.W:Int))).setCell ⟨gb,1,none⟩ (.int .i64 (d.H:Int))).setCell ⟨gb,2,none⟩ (.slice (some ⟨q0,0,none⟩) d.nY r0)).setCell ⟨gb,3,none⟩ (.int .i64 (d.W2:Int))).setCell ⟨gb,4,none⟩ (.int .i64 (d.H2:Int))).setCell ⟨gb,5,none⟩ (.slice (some ⟨q1,0,none⟩) d.nC r1)).setCell ⟨gb,6,none⟩ (.int .i64 (d.W2:Int))).setCell ⟨gb,7,none⟩ (.int .i64 (d.H2:Int))).setCell ⟨gb,8,none⟩ (.slice (some ⟨q2,0,none⟩) d.nC r2)) g rv bk cg v v' s B d q0 r0 q1 r1 q2 r2 f' gb fb pb vb rb fv X Y vx vy:=by
 have hz:Blk wr gb 40 #[.int .i64 (d.W:Int),.int .i64 (d.H:Int),.slice (some ⟨e0,0,none⟩) d.nY j0,.int .i64 (d.W2:Int),.int .i64 (d.H2:Int),.slice (some ⟨e1,0,none⟩) d.nC j1,.int .i64 (d.W2:Int),.int .i64 (d.H2:Int),.slice (some ⟨e2,0,none⟩) d.nC j2]:=h.bx.g_
 have hp:=fr_put9 hz (.int .i64 (d.W:Int)) (.int .i64 (d.H:Int)) (.slice (some ⟨q0,0,none⟩) d.nY r0) (.int .i64 (d.W2:Int)) (.int .i64 (d.H2:Int)) (.slice (some ⟨q1,0,none⟩) d.nC r1) (.int .i64 (d.W2:Int)) (.int .i64 (d.H2:Int)) (.slice (some ⟨q2,0,none⟩) d.nC r2)
 have kz:∀ j,j = gb → wr.heap.size ≤ j ∨ ∃ t cs,Blk wr j t cs ∧ t ≠ 5:=fun j e=>.inr ⟨40,_,e ▸ hz,by decide⟩
 have hb:=h.sq.box h.bx.g_ (by decide) (by decide) (by decide) (by decide) hw hp.2
 exact ⟨⟨hb.mod,hb.eb,hb.nb,hb.ng,hb.nv,hf.mod hp.2 kz⟩,
  ⟨hp.1,h.bx.f_.keep hp.2 n1,h.bx.p_.keep hp.2 (fun e=>h.bx.p_.ne_ h.bx.g_ (by decide) e),h.bx.v_.keep hp.2 (fun e=>h.bx.v_.ne_ h.bx.g_ (by decide) e),h.bx.r_.keep hp.2 n2⟩,
  h.fr,h.mod.into hp.2 (fun j e=>.inr (by have e2:j = gb:=e;omega)),h.x.keep hp.2 (fun e=>h.x.ne_ h.bx.g_ (by decide) e)⟩
end
theorem FrB.low {w:World} {B:Nat} {d:Dim} {b0 k0 b1 k1 b2 k2:Nat} {f:Pix} (h:FrB w B d b0 k0 b1 k1 b2 k2 f):B ≤ w.heap.size:=by
 have h1:B ≤ b0 ∧ b0 < w.heap.size:=World.ownsRow.lt h.y b0 rfl
 omega
theorem eblkS_0 (d:Dim) (fr ahd:Pix) (Q:Int) (pl x y:Nat) (vx vy:Int) (f:Pix) (s:Es):eblkS d fr ahd 0 Q pl x y vx vy f s = (f.set pl (layTo (d.wOf pl) x y (smoved (d.wOf pl) (d.hOf pl) (ahd.get pl) x y pl vx vy) (f.get pl) 8),s):=rfl
def eblkG (d:Dim) (b gs:List UInt8) (Q:Int) (pl x y:Nat) (f:Pix) (s:Es):Pix × Es:=(f.set pl (layTo (d.wOf pl) x y (ebuilt gs (elev b gs Q) Q) (f.get pl) 8),eblk (if 0 < pl then 4 else 2) (elev b gs Q) s)
theorem eblkS_1 (d:Dim) (fr ahd:Pix) (Q:Int) (pl x y:Nat) (vx vy:Int) (f:Pix) (s:Es):eblkS d fr ahd 1 Q pl x y vx vy f s = eblkG d (sqL (d.wOf pl) (fr.get pl) x y 8) (smoved (d.wOf pl) (d.hOf pl) (ahd.get pl) x y pl vx vy) Q pl x y f s:=rfl
theorem eblkS_2 (d:Dim) (fr ahd:Pix) (Q:Int) (pl x y:Nat) (vx vy:Int) (f:Pix) (s:Es):eblkS d fr ahd 2 Q pl x y vx vy f s = eblkG d (sqL (d.wOf pl) (fr.get pl) x y 8) (guessL (d.wOf pl) (f.get pl) x y (chMode (d.wOf pl) (f.get pl) x y (sqL (d.wOf pl) (fr.get pl) x y 8))) Q pl x y f (elow 0 (chMode (d.wOf pl) (f.get pl) x y (sqL (d.wOf pl) (fr.get pl) x y 8)) 2 0 0 s):=rfl
theorem absTo_far (b g:List UInt8) (hb:b.length = 64) (k:Nat) (hk:k ≤ 64):absTo (restL b g) k = farTo g b k:=by
 induction k with
 | zero=>rfl
 | succ k ih=>
  have e:(restL b g).getD k 0 = ((b.getD k 0).toNat:Int) - ((g.getD k 0).toNat:Int):=by
   rw [← rstTo_all]
   unfold rstTo
   rw [List.getD_eq_getElem?_getD,List.getElem?_map,List.getElem?_range (by omega)]
   rfl
  rw [absTo,farTo,ih (by omega),e]
  omega
theorem modeFar_far (W:Nat) (pix:List UInt8) (x y:Nat) (b:List UInt8) (hb:b.length = 64) (m:Nat):farTo (guessL W pix x y m) b 64 = modeFar W pix x y b m:=(absTo_far b _ hb 64 (Nat.le_refl _)).symm
theorem chTo_far (W:Nat) (pix:List UInt8) (x y:Nat) (b:List UInt8) (k:Nat) (h:0 < k):(chTo W pix x y b k).2 = modeFar W pix x y b (chTo W pix x y b k).1:=by
 induction k with
 | zero=>omega
 | succ k ih=>
  unfold chTo
  split
  ·rfl
  ·exact ih (by omega)
def RcBlk (B:Nat) (l:List UInt8) (k:Nat) (v16:Value) (wr:World):Prop:=0 < k → ∃ A c,v16 = .slice A 64 c ∧ Bytes wr B (.slice A 64 c) l
theorem RcBlk.quiet {wr wr':World} {B:Nat} {l:List UInt8} {k:Nat} {v16:Value} (h:RcBlk B l k v16 wr) (hm:Mod (fun _=>False) wr wr'):RcBlk B l k v16 wr':=fun h0=>by
 obtain ⟨A,c,h1,h2⟩:=h h0
 exact ⟨A,c,h1,h2.quiet hm⟩
def RcRel (w:World) (pb W:Nat) (pv:Array Value) (pix:List UInt8) (x y:Nat) (b:List UInt8) (v15 v16 v17:Value) (wr:World):Prop:=
 ∃ k:Nat,k ≤ 4 ∧ v17 = .int .i64 (k:Int) ∧ v15 = .int .i64 ((chTo W pix x y b k).1:Int) ∧ Sat (fun _=>False) w wr [⟨pb,38,pv⟩] [] ∧ RcBlk w.heap.size (guessL W pix x y (chTo W pix x y b k).1) k v16 wr
def RcPost (w:World) (W:Nat) (pix:List UInt8) (x y:Nat) (b:List UInt8) (e:Ending) (w':World):Prop:=
 ∃ A c,e = .returned (.tuple #[.int .i64 ((chMode W pix x y b:Nat):Int),.slice A 64 c,.int .i64 0]) ∧ Bytes w' w.heap.size (.slice A 64 c) (guessL W pix x y (chMode W pix x y b)) ∧ Mod (fun _=>False) w w'
theorem reChoose (w:World) (W H:Nat) (A:Option Addr) (n c:Nat) (pix:List UInt8) (h:sidesB W H = true) (hn:n = W * H) (hin:BytesIn w A n c pix) (x y:Nat) (hx:x + 8 ≤ W) (hy:y + 8 ≤ H)
  (A2:Option Addr) (c2:Nat) (b:List UInt8) (hb:BytesIn w A2 64 c2 b) :
  Calls Tryz.prog 107 #[.agg #[.int .i64 (W:Int),.int .i64 (H:Int),.slice A n c],.int .i64 (x:Int),.int .i64 (y:Int),.int .i64 8,.slice A2 64 c2] w (RcPost w W pix x y b):=by
 have HI:=Lib.hid (And.intro h (And.intro hn (And.intro hin hb)))
 have h0:=((Sat.nil (fun _=>False) w).alloc 38 #[.int .i64 (W:Int),.int .i64 (H:Int),.slice A n c] rfl)
 have H0:=Lib.hid h0
 clear h hn hin hb h0
 go_enter Tryz.func107,Tryz.ntmps107
 go_upto_region 1 with (fail)
 generalize w.alloc (.cells #[.int .i64 (W:Int),.int .i64 (H:Int),.slice A n c] 38) = w0 at *
 obtain ⟨pc,pf⟩:=(H0.out.own_ 0 rfl).both
 dsimp only at pc
 have G0:=Lib.hid (fGuess w0 W H A n c pix HI.out.1 HI.out.2.1 (HI.out.2.2.1.quiet H0.out.mod) x y 0 hx hy (by omega))
 go_wp2_with fail
 refine G0.out.mono ?_
 rintro e w1 ⟨v1,rfl,hb1,hm1⟩
 have HS:=Lib.hid (Sat.after hm1 H0.out)
 clear hm1 hb1 H0 G0 pc pf
 go_wp2_with fail
 go_loopw [15,16,17] (RcRel w w.heap.size W #[.int .i64 (W:Int),.int .i64 (H:Int),.slice A n c] pix x y b) (fun _ _ k _=>4 - (intOf k).toNat)
 case atStart=>exact ⟨0,by omega,rfl,rfl,HS.out,fun h=>absurd h (by omega)⟩
 case round=>
  clear HS
  rename World=>wr
  obtain ⟨k,hk,rfl,rfl,hs,hg⟩:=hrel
  by_cases hlt:k < 4
  ·have d1:decide ((k:Int) < 4) = true:=decide_eq_true (by omega)
   obtain ⟨pc,pf⟩:=(hs.own_ 0 rfl).both
   dsimp only at pc
   have HK:=Lib.hid (And.intro hs hg)
   clear hs hg
   have G1:=Lib.hid (fGuess wr W H A n c pix HI.out.1 HI.out.2.1 (HI.out.2.2.1.quiet HK.out.1.mod) x y k hx hy hlt)
   go_wp2_with fail
   refine G1.out.mono ?_
   rintro e w2 ⟨v2,rfl,hb2,hm2⟩
   obtain ⟨A5,c5,hv5⟩:=own_shape hb2
   subst hv5
   rw [guessL_length] at hb2 ⊢
   have hs2:=Sat.after hm2 HK.out.1
   have hold:=HK.out.2.quiet hm2
   have HK2:=Lib.hid (And.intro hs2 (And.intro (hb2.down HK.out.1.mod.size) hold))
   clear hm2 hs2 hold hb2 HK G1 pc pf
   have hC:Hid (chTo W pix x y b (k + 1) = if k = 0 ∨ modeFar W pix x y b k < (chTo W pix x y b k).2 then (k,modeFar W pix x y b k) else chTo W pix x y b k):=rfl
   by_cases hk0:k = 0
   ·subst hk0
    have hC2:=Lib.hid (hC.out.trans (if_pos (.inl rfl)))
    go_wp2_with fail
    go_roundw
    case rel=>exact ⟨1,by omega,rfl,by rw [hC2.out];rfl,HK2.out.1,fun _=>⟨A5,c5,rfl,by rw [hC2.out];exact HK2.out.2.1⟩⟩
    case measure=>simp [intOf]
   ·have d2:((k:Int) == 0) = false:=by simp;omega
    obtain ⟨A6,c6,rfl,h6⟩:=HK2.out.2.2 (by omega)
    have hF1:=modeFar_far W pix x y b HI.out.2.2.2.1 k
    have hF2:=modeFar_far W pix x y b HI.out.2.2.2.1 (chTo W pix x y b k).1
    rw [← chTo_far W pix x y b k (by omega)] at hF2
    have F1:=fun m=>reFar (w2.drewN m) A5 64 c5 _ A2 c2 b (HK2.out.2.1.in_.quiet (Mod.drewN (Mod.refl _ _) m)) ((HI.out.2.2.2.quiet HK2.out.1.mod).quiet (Mod.drewN (Mod.refl _ _) m)) (by omega) (by omega)
    have F2:=fun m=>reFar (w2.drewN m) A6 64 c6 _ A2 c2 b (h6.in_.quiet (Mod.drewN (Mod.refl _ _) m)) ((HI.out.2.2.2.quiet HK2.out.1.mod).quiet (Mod.drewN (Mod.refl _ _) m)) (by omega) (by omega)
    rw [hF1] at F1
    rw [hF2] at F2
    have HF1:=Lib.hid (F1 0)
    have HF2:=Lib.hid F2
    clear hF1 hF2 F1 F2 h6
    generalize modeFar W pix x y b k = F at *
    generalize hq:(chTo W pix x y b k).2 = q at *
    generalize hp:(chTo W pix x y b k).1 = p at *
    have HQ:=Lib.hid (And.intro hq hp)
    clear hq hp
    by_cases hFq:F < q
    ·have hC2:=Lib.hid (hC.out.trans (if_pos (.inr hFq)))
     have d3:decide ((F:Int) < (q:Int)) = true:=decide_eq_true (by omega)
     go_wp2_with fail
     refine HF1.out.mono ?_
     rintro e w3 ⟨rfl,m3,rfl⟩
     go_wp2_with fail
     refine (HF2.out _).mono ?_
     rintro e w4 ⟨rfl,m4,rfl⟩
     go_wp2_with fail
     go_roundw
     case rel=>exact ⟨k + 1,by omega,by go_num,by rw [hC2.out],HK2.out.1.drewN _,fun _=>⟨A5,c5,rfl,by rw [hC2.out];exact HK2.out.2.1⟩⟩
     case measure=>simp [intOf];omega
    ·have hC2:=Lib.hid (hC.out.trans (if_neg (by omega)))
     have d3:decide ((F:Int) < (q:Int)) = false:=decide_eq_false (by omega)
     go_wp2_with fail
     refine HF1.out.mono ?_
     rintro e w3 ⟨rfl,m3,rfl⟩
     go_wp2_with fail
     refine (HF2.out _).mono ?_
     rintro e w4 ⟨rfl,m4,rfl⟩
     go_wp2_with fail
     go_roundw
     case rel=>
      refine ⟨k + 1,by omega,by go_num,by rw [hC2.out,HQ.out.2],HK2.out.1.drewN _,?_⟩
      rw [hC2.out,HQ.out.2]
      exact fun _=>HK2.out.2.2 (by omega)
     case measure=>simp [intOf];omega
  ·obtain rfl:k = 4:=by omega
   have HM:Hid (chMode W pix x y b = (chTo W pix x y b 4).1):=rfl
   obtain ⟨A6,c6,rfl,hb⟩:=hg (by omega)
   rw [← HM.out] at hb ⊢
   have HB:=Lib.hid (And.intro hb hs)
   clear hb hs hg
   have hml:=chMode_lt W pix x y b
   go_wp2_with fail
   go_ret3
   exact ⟨A6,c6,rfl,HB.out.1,HB.out.2.mod⟩
theorem rside (w:World) (n:Nat) (h:sideOf n ≠ 0):Calls Tryz.prog 173 #[.int .i64 (n:Int)] w fun e w'=>e = .returned (.int .i64 ((sideOf n:Nat):Int)) ∧ w = w':=by
 unfold sideOf at *
 by_cases h1:n = 16
 ·subst h1
  go_enter Tryz.func173,Tryz.ntmps173
  go_wp2_with fail
  go_ret
  exact ⟨rfl,rfl⟩
 ·by_cases h2:n = 64
  ·subst h2
   go_enter Tryz.func173,Tryz.ntmps173
   go_wp2_with fail
   go_ret
   exact ⟨rfl,rfl⟩
  ·simp [h1,h2] at h
def fineTo (l:List Int) (q:Int) (k:Nat):List Int:=(List.range k).map (fineAt l q)
theorem fineTo_succ (l:List Int) (q:Int) (k:Nat):fineTo l q (k + 1) = fineTo l q k ++ [fineAt l q k]:=by simp [fineTo,List.range_succ]
theorem fineTo_length (l:List Int) (q:Int) (k:Nat):(fineTo l q k).length = k:=by simp [fineTo]
def RFineRel (w:World) (l:List Int) (q:Int) (v i:Value) (wr:World):Prop:=
 ∃ k:Nat,k ≤ l.length ∧ i = .int .i64 k ∧ IntsOwn wr w.heap.size v (fineTo l q k) ∧ Mod (fun _=>False) w wr
theorem quiet_rstep (w:World) (q x y:Int) (h:stepOk q x y = true) (n:Nat):Calls Tryz.prog 154 #[.int .i64 q,.int .i64 x,.int .i64 y] (w.drewN n) fun e w'=>e = .returned (.tuple #[.int .i64 (stepOf q x y),.int .i64 0]) ∧ w' = w.drewN n:=(rstep_yes _ q x y h).mono fun _ _ ⟨a,b⟩=>⟨a,b.symm⟩
theorem fine_right {l:List Int} {q:Int} (hr:rightB l q 67108864 = true):(rightB (fineL l q) q 67108864 = true → qFine l q = some (fineL l q)) ∧ (rightB (fineL l q) q 67108864 = false → qFine l q = none):=by
 unfold rightB at *
 rw [Bool.and_eq_true,decide_eq_true_eq] at hr
 have hlen:(fineL l q).length = l.length:=by simp [fineL]
 have hs:sideOf l.length ≠ 0:=by
  have:=hr.1
  unfold allB at this
  rw [Bool.and_eq_true,decide_eq_true_eq] at this
  exact this.1
 constructor
 ·intro h
  rw [Bool.and_eq_true] at h
  have h1:=h.1
  unfold allB at h1
  rw [Bool.and_eq_true,List.all_eq_true] at h1
  unfold qFine
  rw [if_pos ⟨hr.1,hr.2,fun i hi=>h1.2 _ (List.mem_map.2 ⟨i,List.mem_range.2 hi,rfl⟩)⟩]
 ·intro h
  unfold qFine
  rw [if_neg]
  rintro ⟨_,_,h3⟩
  have:allB 67108864 (fineL l q) = true:=allB_yes (by rw [hlen];exact hs) (fun j hj=>by
   rw [hlen] at hj
   have:=h3 j hj
   simpa [fineL,List.getD_eq_getElem?_getD,hj] using this)
  rw [this] at h
  simp at h
  have:=hr.2
  omega
theorem rfine (w:World) (A:Option Addr) (n c:Nat) (l:List Int) (q:Int) (hin:IntsIn w A n c l) (hn:n ≤ 1048576) :
  Calls Tryz.prog 176 #[.slice A n c,.int .i64 q] w (FinePost w l q):=by
 obtain rfl:l.length = n:=hin.1
 have HIN:=Lib.hid hin
 cases hr:rightB l q 67108864 with
 | false=>
  have HQ:Hid (qFine l q = none):=by
   show _ = _
   unfold qFine
   rw [if_neg]
   rintro ⟨h1,h2,_⟩
   unfold rightB at hr
   rw [h1] at hr
   simp at hr
   omega
  have HR:=Lib.hid hr
  clear hr hin
  go_enter Tryz.func176,Tryz.ntmps176
  go_wp2_with fail
  refine (rright _ A l.length c l q 67108864 HIN.out (by omega) (by omega)).mono ?_
  rintro e w1 ⟨rfl,rfl⟩
  rw [HR.out]
  go_wp2_with fail
  go_ret2
  exact ⟨Mod.refl _ _,.inl ⟨HQ.out,rfl⟩⟩
 | true=>
  have HF:=Lib.hid (fine_right hr)
  have hr':=hr
  unfold rightB at hr'
  rw [Bool.and_eq_true,decide_eq_true_eq] at hr'
  obtain ⟨hall,hq⟩:=hr'
  unfold allB at hall
  rw [Bool.and_eq_true,decide_eq_true_eq,List.all_eq_true] at hall
  obtain ⟨hside,hall⟩:=hall
  have HALL:=Lib.hid (And.intro hside hall)
  have hl0:0 < l.length:=by
   rcases Nat.eq_zero_or_pos l.length with h | h
   ·rw [h] at hside;exact absurd rfl hside
   ·exact h
  have HR:=Lib.hid hr
  clear hr hall
  obtain ⟨b,off,hA,hb,hc⟩:=hin.place hl0
  subst hA
  have HC:=Lib.hid hc
  clear hc hin
  go_enter Tryz.func176,Tryz.ntmps176
  go_wp2_with fail
  refine (rright _ _ l.length c l q 67108864 HIN.out (by omega) (by omega)).mono ?_
  rintro e w1 ⟨rfl,rfl⟩
  rw [HR.out]
  go_wp2_with fail
  refine (rside _ l.length hside).mono ?_
  rintro e w1 ⟨rfl,rfl⟩
  obtain ⟨s,hs⟩:∃ s,s = sideOf l.length:=⟨_,rfl⟩
  rw [← hs] at hside ⊢
  have hs8:s = 4 ∧ l.length = 16 ∨ s = 8 ∧ l.length = 64:=by
   unfold sideOf at hs
   split at hs
   ·exact .inl ⟨hs,by assumption⟩
   ·split at hs
    ·exact .inr ⟨hs,by assumption⟩
    ·omega
  have hsb:1 ≤ s ∧ s ≤ 8 ∧ l.length = s * s:=by rcases hs8 with ⟨h1,h2⟩ | ⟨h1,h2⟩ <;> subst h1 <;> omega
  obtain ⟨hs1,hs2,hs3⟩:=hsb
  have HS:=Lib.hid (And.intro hs hs3)
  clear hs hs3 hs8 hside
  go_wp2_with fail
  go_loopw [8,9] (RFineRel w l q) (fun _ i _=>l.length - (intOf i).toNat)
  case atStart=>exact ⟨0,by omega,rfl,IntsOwn.nil _ _,Mod.refl _ _⟩
  case round=>
   obtain ⟨k,hk,rfl,hrow,hM⟩:=hrel
   by_cases hlt:k < l.length
   ·have hck:wr.cell? ⟨b,off + k,none⟩ = some (.int .i64 (l.getD k 0)):=(World.cell?_of_block (hM.block b hb (fun h=>h))).trans (HC.out k hlt)
    have hvin:inB 67108864 (l.getD k 0) = true:=HALL.out.2 _ (by rw [List.getD_eq_getElem?_getD,List.getElem?_eq_getElem hlt];exact List.getElem_mem hlt)
    have HFA:Hid (fineAt l q k = l.getD k 0 * stepOf q ((k % s:Nat):Int) ((k / s:Nat):Int)):=by show _ = _;unfold fineAt;rw [← HS.out.1]
    generalize hvv:l.getD k 0 = v at *
    clear hvv
    unfold inB at hvin
    simp only [decide_eq_true_eq] at hvin
    obtain ⟨v1,v2⟩:=hvin
    have i1:(0:Int) ≤ (k:Int):=by omega
    have i2:(k:Int) < (l.length:Int):=by omega
    obtain ⟨kx,hkx⟩:∃ kx,kx = k % s:=⟨_,rfl⟩
    obtain ⟨ky,hky⟩:∃ ky,ky = k / s:=⟨_,rfl⟩
    have hks:kx < s:=by rw [hkx];exact Nat.mod_lt _ (by omega)
    have hkd:ky < s:=by rw [hky];exact Nat.div_lt_of_lt_mul (by rw [← HS.out.2];exact hlt)
    have t1:((k:Int).tmod (s:Int)) = (kx:Int):=by rw [Int.tmod_eq_emod_of_nonneg (by omega),hkx];exact (Int.natCast_emod k s).symm
    have t2:((k:Int).tdiv (s:Int)) = (ky:Int):=by rw [Int.tdiv_eq_ediv_of_nonneg (by omega),hky];exact (Int.natCast_ediv k s).symm
    have t3:((k:Int) % (s:Int)) = (kx:Int):=by rw [hkx];exact (Int.natCast_emod k s).symm
    have t4:((k:Int) / (s:Int)) = (ky:Int):=by rw [hky];exact (Int.natCast_ediv k s).symm
    have hs0:((s:Int) == 0) = false:=beq_eq_false_iff_ne.2 (by omega)
    rw [← hkx,← hky] at HFA
    have HT:=Lib.hid (And.intro t1 (And.intro t2 (And.intro t3 t4)))
    clear hkx hky t1 t2 t3 t4
    have hok:stepOk q (kx:Int) (ky:Int) = true:=by unfold stepOk;rw [decide_eq_true_eq];omega
    obtain ⟨A5,c5,hv5⟩:=own_shape hrow
    subst hv5
    rw [fineTo_length]
    have HB:=Lib.hid (And.intro hrow hM)
    clear hrow hM
    go_upto_region 9 with (fail)
    obtain ⟨t1,t2,t3,t4⟩:=HT.out
    go_quiet ((go_at_call 154;exact Calls.quiet_of_same (quiet_rstep _ q kx ky hok _)))
    clear t1 t2 t3 t4
    have hbd:=step_bd q kx ky hok
    obtain ⟨_,st1,st2,_⟩:=hbd
    obtain ⟨st,hst⟩:∃ st,st = stepOf q kx ky:=⟨_,rfl⟩
    rw [← hst] at st1 st2 HFA ⊢
    clear hst hok HT
    have hpb:=mul_bd v st v1 v2 st1 st2
    have hck2:(wr.drewN nq).cell? ⟨b,off + k,none⟩ = some (.int .i64 v):=hck
    have hrow2:IntsOwn (wr.drewN nq) w.heap.size (.slice A5 k c5) (fineTo l q k):=by
     have:=own_mod HB.out.1 ((Mod.refl (fun _=>False) wr).drewN nq) (fun _ _ h=>h)
     rw [fineTo_length] at this
     unfold IntsOwn
     rw [fineTo_length]
     exact this
    have hM2:=HB.out.2.drewN nq
    have HB2:=Lib.hid (And.intro hrow2 (And.intro hM2 (hM2.size)))
    clear hrow2 hM2 hck HB
    generalize wr.drewN nq = w5 at *
    go_wp2_with (at_builtin;have _t:=HB2;refine wpList_app_int _ rfl _ _ rfl w.heap.size (.slice A5 k c5) (fineTo l q k) (v * st) rfl rfl HB2.out.1 HB2.out.2.2 (by rw [fineTo_length];omega) ?_;intro v6 w6 hown6 _ hM6 _;have HO:=Lib.hid (And.intro hown6 (hM6 w (fun _=>False) (Nat.le_refl _) HB2.out.2.1));clear hown6 hM6)
    go_roundw
    case rel=>
     refine ⟨k + 1,by omega,by go_num,?_,HO.out.2⟩
     rw [fineTo_succ,HFA.out]
     exact HO.out.1
    case measure=>simp [intOf];omega
   ·obtain rfl:k = l.length:=by omega
    have hrow':IntsOwn wr w.heap.size _ (fineL l q):=hrow
    obtain ⟨A5,c5,hv5⟩:=own_shape hrow'
    subst hv5
    have hlen:(fineL l q).length = l.length:=by simp [fineL]
    rw [hlen]
    have hin5:=hrow'.in_
    rw [hlen] at hin5
    have HB:=Lib.hid (And.intro hrow' (And.intro hM (And.intro hin5 hlen)))
    clear hrow hrow' hM hin5 hlen
    cases hr2:rightB (fineL l q) q 67108864 with
    | true=>
     have HR2:=Lib.hid hr2
     clear hr2
     go_wp2_with fail
     refine (rright _ _ l.length c5 _ q 67108864 HB.out.2.2.1 (by omega) (by omega)).mono ?_
     rintro e w1 ⟨rfl,rfl⟩
     rw [HR2.out]
     go_wp2_with fail
     go_ret2
     exact ⟨HB.out.2.1,.inr ⟨_,HF.out.1 HR2.out,rfl,by have:=HB.out.1;rwa [HB.out.2.2.2] at this⟩⟩
    | false=>
     have HR2:=Lib.hid hr2
     clear hr2
     go_wp2_with fail
     refine (rright _ _ l.length c5 _ q 67108864 HB.out.2.2.1 (by omega) (by omega)).mono ?_
     rintro e w1 ⟨rfl,rfl⟩
     rw [HR2.out]
     go_wp2_with fail
     go_ret2
     exact ⟨HB.out.2.1,.inl ⟨HF.out.2 HR2.out,rfl⟩⟩
theorem rlevel (w:World) (v s:Int) (hs:1 ≤ s ∧ s ≤ 1048576) (hv:-1073741824 ≤ v ∧ v ≤ 1073741824):Calls Tryz.prog 174 #[.int .i64 v,.int .i64 s] w fun e w'=>e = .returned (.int .i64 (levelOf v s)) ∧ w = w':=by
 obtain ⟨hs1,hs2⟩:=hs
 obtain ⟨hv1,hv2⟩:=hv
 have d0:decide (s < 1) = false:=decide_eq_false (by omega)
 have n0:¬ s = 0:=by omega
 obtain ⟨t,ht⟩:∃ t,t = s / 3:=⟨_,rfl⟩
 have ht2:s.tdiv 3 = t:=by rw [ht];exact Int.tdiv_eq_ediv_of_nonneg (by omega)
 have ht0:0 ≤ t:=by omega
 have ht1:t ≤ 1048576:=by omega
 by_cases h:v < 0
 ·have d1:decide (v < 0) = true:=decide_eq_true h
  obtain ⟨q,hq⟩:∃ q,q = (-v + t) / s:=⟨_,rfl⟩
  have hq2:(-v + t).tdiv s = q:=by rw [hq];exact Int.tdiv_eq_ediv_of_nonneg (by omega)
  have hq0:0 ≤ q:=by rw [hq];exact Int.ediv_nonneg (by omega) (by omega)
  have hq1:q ≤ 2147483648:=by
   rw [hq]
   exact Int.le_trans (Int.ediv_le_self _ (by omega)) (by omega)
  have w1:IntKind.i64.wrap (-v) = -v:=IntWalk.i64_in _ ⟨by omega,by omega⟩
  have w2:IntKind.i64.wrap (-v + t) = -v + t:=IntWalk.i64_in _ ⟨by omega,by omega⟩
  have w3:IntKind.i64.wrap q = q:=IntWalk.i64_in _ ⟨by omega,by omega⟩
  have w4:IntKind.i64.wrap (-q) = -q:=IntWalk.i64_in _ ⟨by omega,by omega⟩
  have HR:Hid (levelOf v s = -q):=by
   show _ = _
   unfold levelOf
   rw [if_pos h,← ht,← hq]
  clear hq ht h
  go_enter Tryz.func174,Tryz.ntmps174
  go_wp2_with fail
  go_ret
  exact ⟨by rw [HR.out];rfl,rfl⟩
 ·have d1:decide (v < 0) = false:=decide_eq_false h
  obtain ⟨q,hq⟩:∃ q,q = (v + t) / s:=⟨_,rfl⟩
  have hq2:(v + t).tdiv s = q:=by rw [hq];exact Int.tdiv_eq_ediv_of_nonneg (by omega)
  have hq0:0 ≤ q:=by rw [hq];exact Int.ediv_nonneg (by omega) (by omega)
  have hq1:q ≤ 2147483648:=by
   rw [hq]
   exact Int.le_trans (Int.ediv_le_self _ (by omega)) (by omega)
  have w2:IntKind.i64.wrap (v + t) = v + t:=IntWalk.i64_in _ ⟨by omega,by omega⟩
  have w3:IntKind.i64.wrap q = q:=IntWalk.i64_in _ ⟨by omega,by omega⟩
  have HR:Hid (levelOf v s = q):=by
   show _ = _
   unfold levelOf
   rw [if_neg h,← ht,← hq]
  clear hq ht h
  go_enter Tryz.func174,Tryz.ntmps174
  go_wp2_with fail
  go_ret
  exact ⟨by rw [HR.out];rfl,rfl⟩
def coarseTo (l:List Int) (q:Int) (k:Nat):List Int:=(List.range k).map (coarseAt l q)
theorem coarseTo_succ (l:List Int) (q:Int) (k:Nat):coarseTo l q (k + 1) = coarseTo l q k ++ [coarseAt l q k]:=by simp [coarseTo,List.range_succ]
theorem coarseTo_length (l:List Int) (q:Int) (k:Nat):(coarseTo l q k).length = k:=by simp [coarseTo]
def RCoarseRel (w:World) (l:List Int) (q:Int) (v i:Value) (wr:World):Prop:=
 ∃ k:Nat,k ≤ l.length ∧ i = .int .i64 k ∧ IntsOwn wr w.heap.size v (coarseTo l q k) ∧ Mod (fun _=>False) w wr
theorem rcoarse (w:World) (A:Option Addr) (n c:Nat) (l:List Int) (q:Int) (hin:IntsIn w A n c l) (hn:n ≤ 1048576) (hr:rightB l q 67108864 = true) :
  Calls Tryz.prog 111 #[.slice A n c,.int .i64 q] w fun e w'=>∃ ob c',e = .returned (.tuple #[.slice (some ⟨ob,0,none⟩) n c',.int .i64 0]) ∧ IntsIn w' (some ⟨ob,0,none⟩) n c' (coarseL l q) ∧ w.heap.size ≤ ob ∧ Mod (fun _=>False) w w':=by
 obtain rfl:l.length = n:=hin.1
 have HIN:=Lib.hid hin
 have hr':=hr
 unfold rightB at hr'
 rw [Bool.and_eq_true,decide_eq_true_eq] at hr'
 obtain ⟨hall,hq⟩:=hr'
 unfold allB at hall
 rw [Bool.and_eq_true,decide_eq_true_eq,List.all_eq_true] at hall
 obtain ⟨hside,hall⟩:=hall
 have HALL:=Lib.hid (And.intro hside hall)
 have hl0:0 < l.length:=by
  rcases Nat.eq_zero_or_pos l.length with h | h
  ·rw [h] at hside;exact absurd rfl hside
  ·exact h
 have HR:=Lib.hid hr
 clear hr hall
 obtain ⟨b,off,hA,hb,hc⟩:=hin.place hl0
 subst hA
 have HC:=Lib.hid hc
 clear hc hin
 go_enter Tryz.func111,Tryz.ntmps111
 go_wp2_with fail
 refine (rright _ _ l.length c l q 67108864 HIN.out (by omega) (by omega)).mono ?_
 rintro e w1 ⟨rfl,rfl⟩
 rw [HR.out]
 go_wp2_with fail
 refine (rside _ l.length hside).mono ?_
 rintro e w1 ⟨rfl,rfl⟩
 obtain ⟨s,hs⟩:∃ s,s = sideOf l.length:=⟨_,rfl⟩
 rw [← hs] at hside ⊢
 have hs8:s = 4 ∧ l.length = 16 ∨ s = 8 ∧ l.length = 64:=by
  unfold sideOf at hs
  split at hs
  ·exact .inl ⟨hs,by assumption⟩
  ·split at hs
   ·exact .inr ⟨hs,by assumption⟩
   ·omega
 have hsb:1 ≤ s ∧ s ≤ 8 ∧ l.length = s * s:=by rcases hs8 with ⟨h1,h2⟩ | ⟨h1,h2⟩ <;> subst h1 <;> omega
 obtain ⟨hs1,hs2,hs3⟩:=hsb
 have HS:=Lib.hid (And.intro hs hs3)
 clear hs hs3 hs8 hside
 go_wp2_with fail
 go_loopw [8,9] (RCoarseRel w l q) (fun _ i _=>l.length - (intOf i).toNat)
 case atStart=>exact ⟨0,by omega,rfl,IntsOwn.nil _ _,Mod.refl _ _⟩
 case round=>
  obtain ⟨k,hk,rfl,hrow,hM⟩:=hrel
  by_cases hlt:k < l.length
  ·have hck:wr.cell? ⟨b,off + k,none⟩ = some (.int .i64 (l.getD k 0)):=(World.cell?_of_block (hM.block b hb (fun h=>h))).trans (HC.out k hlt)
   have hvin:inB 67108864 (l.getD k 0) = true:=HALL.out.2 _ (by rw [List.getD_eq_getElem?_getD,List.getElem?_eq_getElem hlt];exact List.getElem_mem hlt)
   have HFA:Hid (coarseAt l q k = levelOf (l.getD k 0) (stepOf q ((k % s:Nat):Int) ((k / s:Nat):Int))):=by show _ = _;unfold coarseAt;rw [← HS.out.1]
   generalize hvv:l.getD k 0 = v at *
   clear hvv
   unfold inB at hvin
   simp only [decide_eq_true_eq] at hvin
   obtain ⟨v1,v2⟩:=hvin
   have i1:(0:Int) ≤ (k:Int):=by omega
   have i2:(k:Int) < (l.length:Int):=by omega
   obtain ⟨kx,hkx⟩:∃ kx,kx = k % s:=⟨_,rfl⟩
   obtain ⟨ky,hky⟩:∃ ky,ky = k / s:=⟨_,rfl⟩
   have hks:kx < s:=by rw [hkx];exact Nat.mod_lt _ (by omega)
   have hkd:ky < s:=by rw [hky];exact Nat.div_lt_of_lt_mul (by rw [← HS.out.2];exact hlt)
   have t1:((k:Int).tmod (s:Int)) = (kx:Int):=by rw [Int.tmod_eq_emod_of_nonneg (by omega),hkx];exact (Int.natCast_emod k s).symm
   have t2:((k:Int).tdiv (s:Int)) = (ky:Int):=by rw [Int.tdiv_eq_ediv_of_nonneg (by omega),hky];exact (Int.natCast_ediv k s).symm
   have t3:((k:Int) % (s:Int)) = (kx:Int):=by rw [hkx];exact (Int.natCast_emod k s).symm
   have t4:((k:Int) / (s:Int)) = (ky:Int):=by rw [hky];exact (Int.natCast_ediv k s).symm
   have hs0:((s:Int) == 0) = false:=beq_eq_false_iff_ne.2 (by omega)
   rw [← hkx,← hky] at HFA
   have HT:=Lib.hid (And.intro t1 (And.intro t2 (And.intro t3 t4)))
   clear hkx hky t1 t2 t3 t4
   have hok:stepOk q (kx:Int) (ky:Int) = true:=by unfold stepOk;rw [decide_eq_true_eq];omega
   obtain ⟨A5,c5,hv5⟩:=own_shape hrow
   subst hv5
   rw [coarseTo_length]
   have HB:=Lib.hid (And.intro hrow hM)
   clear hrow hM
   go_upto_region 9 with (fail)
   obtain ⟨t1,t2,t3,t4⟩:=HT.out
   go_quiet ((go_at_call 154;exact Calls.quiet_of_same (quiet_rstep _ q kx ky hok _)))
   clear t1 t2 t3 t4
   have hbd:=step_bd q kx ky hok
   obtain ⟨_,st1,st2,_⟩:=hbd
   obtain ⟨st,hst⟩:∃ st,st = stepOf q kx ky:=⟨_,rfl⟩
   rw [← hst] at st1 st2 HFA ⊢
   clear hst hok HT
   have hck2:(wr.drewN nq).cell? ⟨b,off + k,none⟩ = some (.int .i64 v):=hck
   have hrow2:IntsOwn (wr.drewN nq) w.heap.size (.slice A5 k c5) (coarseTo l q k):=by
    have:=own_mod HB.out.1 ((Mod.refl (fun _=>False) wr).drewN nq) (fun _ _ h=>h)
    rw [coarseTo_length] at this
    unfold IntsOwn
    rw [coarseTo_length]
    exact this
   have hM2:=HB.out.2.drewN nq
   have HB2:=Lib.hid (And.intro hrow2 (And.intro hM2 (hM2.size)))
   clear hrow2 hM2 hck HB
   generalize wr.drewN nq = w5 at *
   have LV:=Lib.hid (fun w=>rlevel w v st ⟨by omega,by omega⟩ ⟨by omega,by omega⟩)
   go_wp2_with fail
   refine (LV.out _).mono ?_
   rintro e w6 ⟨rfl,rfl⟩
   clear LV
   generalize levelOf v st = lv at *
   go_wp2_with (at_builtin;have _t:=HB2;refine wpList_app_int _ rfl _ _ rfl w.heap.size (.slice A5 k c5) (coarseTo l q k) lv rfl rfl HB2.out.1 HB2.out.2.2 (by rw [coarseTo_length];omega) ?_;intro v6 w6 hown6 _ hM6 _;have HO:=Lib.hid (And.intro hown6 (hM6 w (fun _=>False) (Nat.le_refl _) HB2.out.2.1));clear hown6 hM6)
   go_roundw
   case rel=>
    refine ⟨k + 1,by omega,by go_num,?_,HO.out.2⟩
    rw [coarseTo_succ,HFA.out]
    exact HO.out.1
   case measure=>simp [intOf];omega
  ·obtain rfl:k = l.length:=by omega
   have hrow':IntsOwn wr w.heap.size _ (coarseL l q):=hrow
   obtain ⟨A5,c5,hv5⟩:=own_shape hrow'
   subst hv5
   have hlen:(coarseL l q).length = l.length:=by simp [coarseL]
   rw [hlen]
   have hin5:=hrow'.in_
   rw [hlen] at hin5
   have HB:=Lib.hid (And.intro hrow' (And.intro hM (And.intro hin5 hlen)))
   clear hrow hrow' hM hin5 hlen
   go_wp2_with fail
   go_ret2
   rcases HB.out.1.2 with ⟨hv,h0⟩ | ⟨g,cap,cur,hv,hB,_⟩
   ·rw [HB.out.2.2.2] at h0;omega
   ·injection hv with e1 e2 e3
    subst e1
    exact ⟨g,c5,rfl,HB.out.2.2.1,hB,HB.out.2.1⟩
end Go.Proofs.YtmkopcojnibhlaaGreatDoor

