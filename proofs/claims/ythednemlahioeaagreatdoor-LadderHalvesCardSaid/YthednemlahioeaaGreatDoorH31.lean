/-
  An encoder in memory; Frame of any frame.
-/
import Derived.Test.YthednemlahioeaaGreatDoorH29
import Derived.Test.YthednemlahioeaaGreatDoorH30
import Derived.Test.YthednemlahioeaaGreatDoorH27
import Derived.Test.YthednemlahioeaaGreatDoorH12
namespace Go.Proofs.YthednemlahioeaaGreatDoor
open Go.RowKit
set_option maxRecDepth 100000
set_option maxHeartbeats 8000000
def FrX.goodB (f:FrX) (d:Dim):Bool:=wholeI f.W0 f.H0 f.n0 f.W1 f.H1 f.n1 f.W2 f.H2 f.n2 && (decide (f.W0 = (d.W:Int)) && decide (f.H0 = (d.H:Int)))
def FrX.pix (f:FrX):Pix:=⟨f.p0,f.p1,f.p2⟩
theorem FrX.good {f:FrX} {d:Dim} (hd:d.Ok) (h:f.goodB d = true):f.cells = flV d f.A0 f.A1 f.A2 f.c0 f.c1 f.c2 ∧ f.n0 = d.nY ∧ f.n1 = d.nC ∧ f.n2 = d.nC:=by
 obtain ⟨X0,Y0,A0,n0,c0,X1,Y1,A1,n1,c1,X2,Y2,A2,n2,c2,p0,p1,p2⟩:=f
 unfold FrX.goodB at h
 dsimp only at h
 simp only [Bool.and_eq_true,decide_eq_true_eq] at h
 obtain ⟨hw,rfl,rfl⟩:=h
 unfold wholeI at hw
 rw [decide_eq_true_eq] at hw
 obtain ⟨r0,r1,r2,_,_,e1,e2,e3,e4⟩:=hw
 unfold rightI at r0 r1 r2
 simp only [Bool.and_eq_true,decide_eq_true_eq] at r0 r1 r2
 have a1:=hd.w2
 have a2:=hd.h2
 have f1:X1 = (d.W2:Int):=by omega
 have f2:Y1 = (d.H2:Int):=by omega
 have f3:X2 = (d.W2:Int):=by omega
 have f4:Y2 = (d.H2:Int):=by omega
 subst f1 f2 f3 f4
 have g0:n0 = d.nY:=by have:=r0.2;rw [hd.ny];have z:((d.W * d.H:Nat):Int) = (d.W:Int) * (d.H:Int):=Int.natCast_mul _ _;omega
 have g1:n1 = d.nC:=by have:=r1.2;rw [hd.nc];have z:((d.W2 * d.H2:Nat):Int) = (d.W2:Int) * (d.H2:Int):=Int.natCast_mul _ _;omega
 have g2:n2 = d.nC:=by have:=r2.2;rw [hd.nc];have z:((d.W2 * d.H2:Nat):Int) = (d.W2:Int) * (d.H2:Int):=Int.natCast_mul _ _;omega
 subst g0 g1
 refine ⟨?_,rfl,rfl,g2⟩
 unfold FrX.cells flV
 dsimp only
 rw [g2]
theorem FrX.frIn {f:FrX} {d:Dim} {w:World} (hd:d.Ok) (h:f.goodB d = true) (hin:f.In w):FrIn w d (flV d f.A0 f.A1 f.A2 f.c0 f.c1 f.c2) f.pix:=by
 obtain ⟨_,h0,h1,h2⟩:=FrX.good hd h
 refine ⟨rfl,fun p hp=>?_⟩
 have h3:p = 0 ∨ p = 1 ∨ p = 2:=by omega
 have b0:=hin.b0
 have b1:=hin.b1
 have b2:=hin.b2
 have k0:=hin.k0
 have k1:=hin.k1
 have k2:=hin.k2
 rw [h0] at b0 k0
 rw [h1] at b1 k1
 rw [h2] at b2 k2
 rcases h3 with rfl | rfl | rfl
 ·exact ⟨_,_,rfl,rfl,rfl,b0,k0⟩
 ·exact ⟨_,_,rfl,rfl,rfl,b1,k1⟩
 ·exact ⟨_,_,rfl,rfl,rfl,b2,k2⟩
def EncAt (w:World) (g:Nat) (d:Dim) (G q tg nu:Nat) (ahd:Pix):Prop:=
 ∃ al,Blk w g 250 (encV (d.W:Int) (d.H:Int) (G:Int) (q:Int) (tg:Int) (nu:Int) al) ∧ ((al = zeroFr ∧ nu = 0) ∨ ∃ ay au av,al = frameV d ay au av ∧ (nu ≠ 0 → FrameAt w d ay au av ahd))
theorem EncAt.mod {w w':World} {S:Nat → Prop} {g:Nat} {d:Dim} {G q tg nu:Nat} {ahd:Pix} (h:EncAt w g d G q tg nu ahd) (hm:Mod S w w') (hg:¬ S g) (hS:∀ j,S j → ∃ t cs,Blk w j t cs ∧ t ≠ 5):EncAt w' g d G q tg nu ahd:=by
 obtain ⟨al,hb,hc⟩:=h
 refine ⟨al,hb.keep hm hg,?_⟩
 rcases hc with hc | ⟨ay,au,av,rfl,hf⟩
 ·exact .inl hc
 ·have ne:∀ {j cs},Blk w j 5 cs → ¬ S j:=fun hb hj=>by
   obtain ⟨t,cs,hb2,ht⟩:=hS _ hj
   exact hb2.ne_ hb ht rfl
  exact .inr ⟨ay,au,av,rfl,fun hn=>(hf hn).mod hm (ne (hf hn).by_) (ne (hf hn).bu) (ne (hf hn).bv)⟩
theorem EncAt.quiet {w w':World} {g:Nat} {d:Dim} {G q tg nu:Nat} {ahd:Pix} (h:EncAt w g d G q tg nu ahd) (hm:Mod (fun _=>False) w w'):EncAt w' g d G q tg nu ahd:=h.mod hm (fun h=>h) (fun _ h=>h.elim)
theorem EncAt.lt {w:World} {g:Nat} {d:Dim} {G q tg nu:Nat} {ahd:Pix} (h:EncAt w g d G q tg nu ahd):g < w.heap.size:=by
 obtain ⟨al,hb,_⟩:=h
 exact hb.lt
theorem EncAt.end_ {w:World} {g:Nat} {d:Dim} {G q tg nu:Nat} {ahd:Pix} (h:EncAt w g d G q tg nu ahd):Calls Tryz.prog 98 #[.pointer (some ⟨g,0,none⟩)] w fun e w'=>e = .returned (.tuple #[]) ∧ EncAt w' g d G q tg 0 ahd ∧ Mod (· = g) w w':=by
 obtain ⟨al,hb,hc⟩:=h
 refine (encEnd w g _ _ _ _ _ _ _ hb).mono ?_
 rintro e w' ⟨rfl,hb',hm⟩
 refine ⟨rfl,⟨al,hb',?_⟩,hm⟩
 rcases hc with ⟨h1,_⟩ | ⟨ay,au,av,rfl,_⟩
 ·exact .inl ⟨h1,rfl⟩
 ·exact .inr ⟨ay,au,av,rfl,fun h=>absurd rfl h⟩
def EncPost (w:World) (g:Nat) (d:Dim) (G q tg nu:Nat) (ahd:Pix) (f:FrX) (e:Ending) (w':World):Prop:=
 (f.goodB d = false ∧ e = NoFr 61 ∧ Mod (fun _=>False) w w') ∨
 (f.goodB d = true ∧ ∃ v p,e = .returned (.tuple #[v,p,.int .i64 0]) ∧ Bytes w' w.heap.size v (eframe d f.pix ahd nu q).1 ∧ FrameMade w d (eframe d f.pix ahd nu q).2 p w' ∧
  EncAt w' g d G (newQ q tg G (eframe d f.pix ahd nu q).1.length) tg (newN nu G) (eframe d f.pix ahd nu q).2 ∧ Mod (· = g) w w')
theorem encFrameAt {w:World} {g:Nat} {d:Dim} {G q tg nu:Nat} {ahd:Pix} (h:EncAt w g d G q tg nu ahd) (he:EnvP w) (hd:d.Ok) (hW:d.W ≤ 64) (hH:d.H ≤ 64) (hG:1 ≤ G ∧ G ≤ 64) (hq:q ≤ 31) (ht:tg ≤ 1048576) (hnu:nu < G) (f:FrX) (hf:f.In w) :
  Calls Tryz.prog 97 #[.pointer (some ⟨g,0,none⟩),.agg f.cells.toArray] w (EncPost w g d G q tg nu ahd f):=by
 obtain ⟨al,hb,hc⟩:=h
 cases hgd:f.goodB d with
 | false=>exact (encFrame_bad w g _ _ _ _ _ _ al hb f.W0 f.H0 f.W1 f.H1 f.W2 f.H2 f.A0 f.A1 f.A2 f.n0 f.c0 f.n1 f.c1 f.n2 f.c2 hgd).mono (fun e w' k=>.inl ⟨hgd,k⟩)
 | true=>
  obtain ⟨hcl,_,_,_⟩:=FrX.good hd hgd
  have hfi:=FrX.frIn hd hgd hf
  have hwh:∀ w',Mod (fun _=>False) w w' → Calls Tryz.prog 60 #[.agg (flV d f.A0 f.A1 f.A2 f.c0 f.c1 f.c2).toArray] w' fun e w''=>e = .returned (.bool true) ∧ Mod (fun _=>False) w' w'':=by
   intro w' _
   rw [← hcl]
   refine (pWholeI w' f.W0 f.H0 f.W1 f.H1 f.W2 f.H2 f.A0 f.A1 f.A2 f.n0 f.c0 f.n1 f.c1 f.n2 f.c2).mono ?_
   rintro e w'' ⟨rfl,hm⟩
   unfold FrX.goodB at hgd
   rw [Bool.and_eq_true] at hgd
   rw [hgd.1]
   exact ⟨rfl,hm⟩
  rw [hcl]
  have hpost:∀ e w',EFrPost w g G q tg nu d (eframe d f.pix ahd nu q) e w' → EncPost w g d G q tg nu ahd f e w':=by
   rintro e w' ⟨v,p,ay,au,av,he,h1,h2,h3,h4,_,_,h5⟩
   exact .inr ⟨hgd,v,p,he,h1,h2,⟨_,h3,.inr ⟨ay,au,av,rfl,fun _=>h4⟩⟩,h5⟩
  rcases hc with ⟨hal,h0⟩ | ⟨ay,au,av,hal,hfa⟩
  ·exact (encFrame w g G q tg nu d hd hW hH 0 0 0 0 0 0 none none none 0 0 0 0 0 0 al hal hG hq ht hnu hb he ahd (fun h=>absurd h0 h) f.A0 f.A1 f.A2 f.c0 f.c1 f.c2 f.pix hfi hwh).mono hpost
  ·refine (encFrame w g G q tg nu d hd hW hH (d.W:Int) (d.H:Int) (d.W2:Int) (d.H2:Int) (d.W2:Int) (d.H2:Int) (some ⟨ay,0,none⟩) (some ⟨au,0,none⟩) (some ⟨av,0,none⟩) d.nY d.nY d.nC d.nC d.nC d.nC al hal hG hq ht hnu hb he ahd (fun h=>?_) f.A0 f.A1 f.A2 f.c0 f.c1 f.c2 f.pix hfi hwh).mono hpost
   rw [hal]
   exact FrameAt.frIn hd (hfa h)
structure RgsIn (w:World) (A:Option Addr) (n c:Nat) (rs:List Rg):Prop where
 len:rs.length = n
 cap:n ≤ c
 nm:∀ i,(rs.getD i Rg.zero).name.length ≤ 9223372036854775807
 at_:∀ i,i < n → ∃ b o,A = some ⟨b,o,none⟩ ∧ b < w.heap.size ∧ ∀ (j:Nat) (v:Value),(rs.getD i Rg.zero).cells[j]? = some v → w.cell? ⟨b,o + i * 4 + j,none⟩ = some v
theorem RgsIn.quiet {w w':World} {A:Option Addr} {n c:Nat} {rs:List Rg} (h:RgsIn w A n c rs) (hm:Mod (fun _=>False) w w'):RgsIn w' A n c rs:=
 ⟨h.len,h.cap,h.nm,fun i hi=>by
  obtain ⟨b,o,h1,h2,h3⟩:=h.at_ i hi
  exact ⟨b,o,h1,Nat.lt_of_lt_of_le h2 hm.size,fun j v hv=>(World.cell?_of_block (hm.block b h2 (fun h=>h))).trans (h3 j v hv)⟩⟩
theorem strOf_beq (a b:List UInt8):((strOf a).toList == (strOf b).toList) = decide (a = b):=by
 rw [strOf_toList,strOf_toList,Bool.eq_iff_iff,beq_iff_eq,decide_eq_true_eq]
def LckRel (w:World) (W H G:Int) (rs:List Rg) (n:Nat) (v:Value) (wr:World):Prop:=∃ i:Nat,i ≤ n ∧ v = .int .i64 (i:Int) ∧ rungsB W H G rs i = true ∧ Mod (fun _=>False) w wr
def LckRel2 (w:World) (rb:Nat) (rs:List Rg) (i:Nat) (v:Value) (wr:World):Prop:=∃ k:Nat,k ≤ i ∧ v = .int .i64 (k:Int) ∧ ((List.range k).all fun k=>decide ((rs.getD k Rg.zero).name ≠ (rs.getD i Rg.zero).name)) = true ∧ Blk wr rb 38 (rs.getD i Rg.zero).cells.toArray ∧ Mod (fun _=>False) w wr
def ladderE (W H G:Int) (rs:List Rg):Int:=if ladderB W H G rs then 0 else 151
theorem ladderE_no {W H G:Int} {rs:List Rg} {i:Nat} (hi:i ≤ rs.length) (h:rungsB W H G rs i = false):ladderE W H G rs = 151:=by
 have h2:ladderB W H G rs = false:=by unfold ladderB;rw [rungsB_no hi h,Bool.and_false]
 unfold ladderE
 rw [h2]
 rfl
theorem ladderE_len {W H G:Int} {rs:List Rg} (h:¬ (1 ≤ rs.length ∧ rs.length ≤ 8)):ladderE W H G rs = 151:=by
 have h2:ladderB W H G rs = false:=by unfold ladderB;rw [decide_eq_false h,Bool.false_and]
 unfold ladderE
 rw [h2]
 rfl
theorem ladderE_yes {W H G:Int} {rs:List Rg} (h:ladderB W H G rs = true):ladderE W H G rs = 0:=by
 unfold ladderE
 rw [h]
 rfl
theorem lCheck (w:World) (W H G:Int) (A:Option Addr) (n c:Nat) (rs:List Rg) (h:RgsIn w A n c rs) (hn:n ≤ 9223372036854775807) (hW:-1099511627776 ≤ W ∧ W ≤ 1099511627776) (hH:-1099511627776 ≤ H ∧ H ≤ 1099511627776) :
  Calls Tryz.prog 13 #[.int .i64 W,.int .i64 H,.int .i64 G,.slice A n c] w fun e w'=>e = .returned (.int .i64 (ladderE W H G rs)) ∧ Mod (fun _=>False) w w':=by
 have hlen:=h.len
 have hcap:=h.cap
 have HH:=Lib.hid h
 clear h
 by_cases h1:n < 1
 ·have d1:decide ((n:Int) < 1) = true:=decide_eq_true (by omega)
  have HN:=Lib.hid (ladderE_len (W:=W) (H:=H) (G:=G) (rs:=rs) (by omega))
  go_enter Tryz.func13,Tryz.ntmps13
  go_wp2_with fail
  go_ret
  exact ⟨by rw [HN.out];rfl,Mod.refl _ _⟩
 have d1:decide ((n:Int) < 1) = false:=decide_eq_false (by omega)
 by_cases h2:8 < n
 ·have d2:decide (8 < (n:Int)) = true:=decide_eq_true (by omega)
  have HN:=Lib.hid (ladderE_len (W:=W) (H:=H) (G:=G) (rs:=rs) (by omega))
  go_enter Tryz.func13,Tryz.ntmps13
  go_wp2_with fail
  go_ret
  exact ⟨by rw [HN.out];rfl,Mod.refl _ _⟩
 have d2:decide (8 < (n:Int)) = false:=decide_eq_false (by omega)
 have HLE:=Lib.hid hlen
 clear hlen
 go_enter Tryz.func13,Tryz.ntmps13
 go_wp2_with fail
 go_loopw [23] (LckRel w W H G rs n) (fun i _=>n - (intOf i).toNat)
 case atStart=>exact ⟨0,by omega,rfl,rfl,Mod.refl _ _⟩
 case round=>
  obtain ⟨i,hi,rfl,hok,hM⟩:=hrel
  rename World=>wr
  by_cases hlt:i < n
  ·have d3:decide ((i:Int) < (n:Int)) = true:=decide_eq_true (by omega)
   obtain ⟨b,o,rfl,hb,hcells⟩:=(HH.out.quiet hM).at_ i hlt
   obtain ⟨r,hr⟩:∃ r,r = rs.getD i Rg.zero:=⟨_,rfl⟩
   rw [← hr] at hcells
   have k0:wr.cell? ⟨b,o + i * 4,none⟩ = some (.string (strOf r.name)):=hcells 0 _ rfl
   have k1:=hcells 1 _ rfl
   have k2:=hcells 2 _ rfl
   have k3:=hcells 3 _ rfl
   have RC:=lRightRung (wr.alloc (.cells r.cells.toArray 38)) W H G r (by rw [hr];exact HH.out.nm i) hW hH
   unfold Rg.cells at RC
   have hb0:=Blk.new wr 38 r.cells.toArray
   have HK:=Lib.hid (And.intro hok (And.intro hM (And.intro hr (And.intro RC hb0))))
   clear hok hM hr RC hb0 hcells hb
   go_wp2_with fail
   refine HK.out.2.2.2.1.mono ?_
   rintro e w1 ⟨rfl,hm1⟩
   cases hrg:rungB W H G r with
   | false=>
    have H1:=Lib.hid (And.intro ((HK.out.2.1.alloc (.cells r.cells.toArray 38)).trans hm1) (ladderE_no (W:=W) (H:=H) (G:=G) (rs:=rs) (i:=i + 1) (by rw [HLE.out];omega) (by rw [rungsB_succ,← HK.out.2.2.1,hrg,Bool.false_and,Bool.and_false])))
    clear hrg hm1 k0 k1 k2 k3
    go_wp2_with fail
    go_ret
    exact ⟨by rw [H1.out.2];rfl,H1.out.1⟩
   | true=>
    obtain ⟨rb,hrb⟩:∃ b,b = wr.heap.size:=⟨_,rfl⟩
    have hb1:=HK.out.2.2.2.2.keep hm1 (fun h=>h)
    rw [← hrb] at hb1 ⊢
    have hM1:=(HK.out.2.1.alloc (.cells r.cells.toArray 38)).trans hm1
    have HR:=Lib.hid (And.intro hrg (And.intro hb1 hM1))
    clear hrg hm1 k0 k1 k2 k3 hb1 hM1 hrb
    go_wp2_with fail
    go_loopw [38] (LckRel2 w rb rs i) (fun k _=>i - (intOf k).toNat)
    case atStart=>exact ⟨0,by omega,rfl,rfl,by rw [← HK.out.2.2.1];exact HR.out.2.1,HR.out.2.2⟩
    case round=>
     obtain ⟨k,hk,rfl,hno,hbk,hM2⟩:=hrel
     rename World=>wq
     by_cases hlk:k < i
     ·have d4:decide ((k:Int) < (i:Int)) = true:=decide_eq_true (by omega)
      obtain ⟨b',o',hA',hb',hcells⟩:=(HH.out.quiet hM2).at_ k (by omega)
      injection hA' with hA'
      injection hA' with e1' e2'
      subst e1' e2'
      obtain ⟨r2,hr2⟩:∃ r,r = rs.getD k Rg.zero:=⟨_,rfl⟩
      rw [← hr2] at hcells
      have k0:wq.cell? ⟨b,o + k * 4,none⟩ = some (.string (strOf r2.name)):=hcells 0 _ rfl
      have k1:=hcells 1 _ rfl
      have k2:=hcells 2 _ rfl
      have k3:=hcells 3 _ rfl
      rw [← HK.out.2.2.1] at hbk
      have hbk2:=hbk.alloc (.cells r2.cells.toArray 38)
      obtain ⟨rc,rf⟩:=hbk2.both
      unfold Rg.cells at rc
      have q0:(wq.alloc (.cells r2.cells.toArray 38)).cell? ⟨rb,0,none⟩ = some (.string (strOf r.name)):=rc 0
      unfold Rg.cells at q0
      have HQ:=Lib.hid (And.intro hno (And.intro hbk (And.intro hM2 hr2)))
      clear hno hbk hM2 hr2 hcells hb' rc hbk2
      by_cases hs:r2.name = r.name
      ·have y1:((strOf r2.name).toList == (strOf r.name).toList) = true:=by rw [strOf_beq];exact decide_eq_true hs
       have H2:=Lib.hid (And.intro (HQ.out.2.2.1.alloc (.cells r2.cells.toArray 38)) (ladderE_no (W:=W) (H:=H) (G:=G) (rs:=rs) (i:=i + 1) (by rw [HLE.out];omega) (by rw [rungsB_succ,same_no hlk (by rw [← HQ.out.2.2.2,← HK.out.2.2.1];exact hs),Bool.and_false,Bool.and_false])))
       clear hs
       go_wp2_with fail
       go_ret
       exact ⟨by rw [H2.out.2];rfl,H2.out.1⟩
      ·have y1:((strOf r2.name).toList == (strOf r.name).toList) = false:=by rw [strOf_beq];exact decide_eq_false hs
       have H2:=Lib.hid (And.intro (HQ.out.2.2.1.alloc (.cells r2.cells.toArray 38)) (And.intro (HQ.out.2.1.alloc (.cells r2.cells.toArray 38)) hs))
       clear hs
       go_wp2_with fail
       go_roundw
       case rel=>
        refine ⟨k + 1,by omega,by go_num,?_,by rw [← HK.out.2.2.1];exact H2.out.2.1,H2.out.1⟩
        rw [List.range_succ,List.all_append,HQ.out.1,List.all_cons,List.all_nil,Bool.and_true,Bool.true_and]
        exact decide_eq_true (by rw [← HQ.out.2.2.2,← HK.out.2.2.1];exact H2.out.2.2)
       case measure=>simp [intOf];omega
     ·obtain rfl:k = i:=by omega
      have d4:decide ((k:Int) < (k:Int)) = false:=decide_eq_false (by omega)
      have H2:=Lib.hid (And.intro hno hM2)
      clear hno hbk hM2
      go_wp2_with fail
      go_roundw
      case rel=>
       refine ⟨k + 1,by omega,by go_num,?_,H2.out.2⟩
       rw [rungsB_succ,HK.out.1,← HK.out.2.2.1,HR.out.1,Bool.true_and,Bool.true_and,HK.out.2.2.1]
       exact H2.out.1
      case measure=>simp [intOf];omega
  ·obtain rfl:i = n:=by omega
   have d3:decide ((i:Int) < (i:Int)) = false:=decide_eq_false (by omega)
   have HR:Hid (ladderE W H G rs = 0):=by show _ = _;refine ladderE_yes ?_;unfold ladderB;rw [HLE.out,hok,Bool.and_true];exact decide_eq_true ⟨by omega,by omega⟩
   have H1:=Lib.hid hM
   clear hok hM
   go_wp2_with fail
   go_ret
   exact ⟨by rw [HR.out];rfl,H1.out⟩
theorem cellqL {w w':World} {b o:Nat} (hm:Mod (fun _=>False) w w') (hb:b < w.heap.size):w'.cell? ⟨b,o,none⟩ = w.cell? ⟨b,o,none⟩:=World.cell?_of_block (hm.block b hb (fun h=>h))
def Names15 (w:World) (n:Nat) (e:Ending) (w':World):Prop:=w = w' ∧ ∃ b,e = .returned (.bool b) ∧ (b = true → n ≤ 20)
theorem lNames15 (w:World) (A:Option Addr) (n c:Nat) (rs:List Rg) (h:RgsIn w A n c rs) (hn:n ≤ 9223372036854775807):Calls Tryz.prog 11 #[.slice A n c] w (Names15 w n):=by
 have HH:=Lib.hid h
 clear h
 go_enter Tryz.func11,Tryz.ntmps11
 go_wp2_with fail
 go_loop [3] (fun v=>∃ k:Nat,k ≤ n ∧ k ≤ 20 ∧ v = .int .i64 (k:Int)) (fun i=>n - (intOf i).toNat)
 case atStart=>exact ⟨0,by omega,by omega,rfl⟩
 case round=>
  obtain ⟨k,hk,hk2,rfl⟩:=hrel
  by_cases hlt:k < n
  ·have d1:decide ((k:Int) < (n:Int)) = true:=decide_eq_true (by omega)
   by_cases h20:k = 20
   ·have d2:((k:Int) == 20) = true:=by simp;omega
    clear h20
    go_wp2_with fail
    go_ret
    exact ⟨rfl,false,rfl,fun h=>(by cases h)⟩
   ·have d2:((k:Int) == 20) = false:=by simp;omega
    obtain ⟨b,o,rfl,hb,hcells⟩:=HH.out.at_ k hlt
    obtain ⟨r,hr⟩:∃ r,r = rs.getD k Rg.zero:=⟨_,rfl⟩
    rw [← hr] at hcells
    have k0:w.cell? ⟨b,o + k * 4,none⟩ = some (.string (strOf r.name)):=hcells 0 _ rfl
    have hsz:=strOf_size r.name
    have hnl:=HH.out.nm k
    rw [← hr] at hnl
    clear hcells hb hr
    by_cases h3:300 < r.name.length
    ·have d3:decide (300 < (r.name.length:Int)) = true:=decide_eq_true (by omega)
     go_wp2_with fail
     go_ret
     exact ⟨rfl,false,rfl,fun h=>(by cases h)⟩
    ·have d3:decide (300 < (r.name.length:Int)) = false:=decide_eq_false (by omega)
     go_wp2_with fail
     exact ⟨⟨k + 1,by omega,by omega,by go_num⟩,by simp [intOf];omega⟩
  ·obtain rfl:k = n:=by omega
   have d1:decide ((k:Int) < (k:Int)) = false:=decide_eq_false (by omega)
   go_wp2_with fail
   go_ret
   exact ⟨rfl,true,rfl,fun _=>hk2⟩
def FrX.small (f:FrX):Prop:=f.fitsB = true ∧ f.W0 ≤ 32 ∧ f.H0 ≤ 32
def Fits15 (w:World) (n m:Nat) (fs:List FrX) (e:Ending) (w':World):Prop:=
 ∃ b,e = .returned (.bool b) ∧ (b = true → n ≤ 5 ∧ (∀ j,j < n → (fs.getD j FrX.zero).small) ∧ m ≤ 3) ∧ Mod (fun _=>False) w w'
def fitsRel15 (w:World) (n:Nat) (fs:List FrX) (v:Value) (wr:World):Prop:=∃ k:Nat,k ≤ n ∧ k ≤ 5 ∧ v = .int .i64 (k:Int) ∧ (∀ j,j < k → (fs.getD j FrX.zero).small) ∧ Mod (fun _=>False) w wr
theorem lFits15 (w:World) (A:Option Addr) (n c:Nat) (fs:List FrX) (h:FrsIn w A n fs) (hn:n ≤ 9223372036854775807) (A2:Option Addr) (m c2:Nat) (rs:List Rg) (hr:RgsIn w A2 m c2 rs) (hm:m ≤ 9223372036854775807):Calls Tryz.prog 15 #[.slice A n c,.slice A2 m c2] w (Fits15 w n m fs):=by
 have HH:=Lib.hid h
 have HG:=Lib.hid hr
 clear h hr
 go_enter Tryz.func15,Tryz.ntmps15
 go_wp2_with fail
 go_loopw [5] (fitsRel15 w n fs) (fun i _=>n - (intOf i).toNat)
 case atStart=>exact ⟨0,by omega,by omega,rfl,fun j h=>absurd h (by omega),Mod.refl _ _⟩
 case round=>
  rename World=>wr
  obtain ⟨k,hk,hk6,rfl,hall,hM⟩:=hrel
  by_cases hlt:k < n
  ·obtain ⟨b,o,hA,hb,hcells,hin⟩:=(HH.out.quiet hM).at_ k hlt
   subst hA
   have d1:decide ((k:Int) < (n:Int)) = true:=decide_eq_true (by omega)
   obtain ⟨f,hf⟩:∃ f,f = fs.getD k FrX.zero:=⟨_,rfl⟩
   rw [← hf] at hcells hin
   have hLF:=lawFitsFrame wr f hin
   obtain ⟨t,ht⟩:∃ t,t = f.fitsB:=⟨_,rfl⟩
   rw [← ht] at hLF
   have k0:wr.cell? ⟨b,o + k * 9,none⟩ = some (.int .i64 f.W0):=hcells 0 _ rfl
   have k1:=hcells 1 _ rfl
   have k2:=hcells 2 _ rfl
   have k3:=hcells 3 _ rfl
   have k4:=hcells 4 _ rfl
   have k5:=hcells 5 _ rfl
   have k6:=hcells 6 _ rfl
   have k7:=hcells 7 _ rfl
   have k8:=hcells 8 _ rfl
   unfold FrX.cells at hLF
   have HL:=Lib.hid (And.intro hLF (And.intro hall (And.intro hM (And.intro hf (And.intro ht hcells)))))
   clear hLF hall hM hf ht hcells hin
   go_wp2_with fail
   refine HL.out.1.mono ?_
   rintro e w2 ⟨rfl,hm2⟩
   have H2:=Lib.hid (HL.out.2.2.1.trans hm2)
   have q0:w2.cell? ⟨b,o + k * 9,none⟩ = some (.int .i64 f.W0):=(cellqL hm2 hb).trans k0
   have q1:w2.cell? ⟨b,o + k * 9 + 1,none⟩ = some (.int .i64 f.H0):=(cellqL hm2 hb).trans k1
   clear hm2 k0 k1 k2 k3 k4 k5 k6 k7 k8 hb
   cases t
   ·go_wp2_with fail
    go_ret
    exact ⟨false,rfl,fun h=>(by cases h),H2.out⟩
   ·by_cases h6:k = 5
    ·have d2:((k:Int) == 5) = true:=by simp;omega
     clear h6
     go_wp2_with fail
     go_ret
     exact ⟨false,rfl,fun h=>(by cases h),H2.out⟩
    ·have d2:((k:Int) == 5) = false:=by simp;omega
     by_cases hw:32 < f.W0
     ·have d3:decide (32 < f.W0) = true:=decide_eq_true hw
      go_wp2_with fail
      go_ret
      exact ⟨false,rfl,fun h=>(by cases h),H2.out⟩
     ·have d3:decide (32 < f.W0) = false:=decide_eq_false hw
      by_cases hh:32 < f.H0
      ·have d4:decide (32 < f.H0) = true:=decide_eq_true hh
       go_wp2_with fail
       go_ret
       exact ⟨false,rfl,fun h=>(by cases h),H2.out⟩
      ·have d4:decide (32 < f.H0) = false:=decide_eq_false hh
       go_wp2_with fail
       go_roundw
       case rel=>
        refine ⟨k + 1,by omega,by omega,by go_num,fun j hj=>?_,H2.out⟩
        by_cases e:j = k
        ·rw [e,← HL.out.2.2.2.1]
         exact ⟨HL.out.2.2.2.2.1.symm,by omega,by omega⟩
        ·exact HL.out.2.1 j (by omega)
       case measure=>simp [intOf];omega
  ·obtain rfl:k = n:=by omega
   have d1:decide ((k:Int) < (k:Int)) = false:=decide_eq_false (by omega)
   have HL:=Lib.hid (And.intro hall hM)
   have hnm:=lNames15 wr A2 m c2 rs (HG.out.quiet hM) hm
   have HN:=Lib.hid hnm
   clear hall hM hnm
   go_wp2_with fail
   refine HN.out.mono ?_
   rintro e w2 ⟨rfl,b,rfl,hb⟩
   cases b
   ·go_wp2_with fail
    go_ret
    exact ⟨false,rfl,fun h=>(by cases h),HL.out.2⟩
   ·by_cases h3:m ≤ 3
    ·have d2:decide ((m:Int) ≤ 3) = true:=decide_eq_true (by omega)
     go_wp2_with fail
     go_ret
     exact ⟨true,rfl,fun _=>⟨hk6,HL.out.1,h3⟩,HL.out.2⟩
    ·have d2:decide ((m:Int) ≤ 3) = false:=decide_eq_false (by omega)
     go_wp2_with fail
     go_ret
     exact ⟨false,rfl,fun h=>(by cases h),HL.out.2⟩
def FrX.wholeB (f:FrX):Bool:=wholeI f.W0 f.H0 f.n0 f.W1 f.H1 f.n1 f.W2 f.H2 f.n2
def FrX.likeB (f0 f:FrX):Bool:=f.wholeB && (decide (f.W0 = f0.W0) && decide (f.H0 = f0.H0))
def clipsB (fs:List FrX) (n:Nat):Bool:=(List.range n).all fun i=>FrX.likeB (fs.getD 0 FrX.zero) (fs.getD i FrX.zero)
def clipB (fs:List FrX):Bool:=decide (1 ≤ fs.length ∧ fs.length ≤ 1024) && clipsB fs fs.length
theorem clipsB_succ (fs:List FrX) (n:Nat):clipsB fs (n + 1) = (clipsB fs n && FrX.likeB (fs.getD 0 FrX.zero) (fs.getD n FrX.zero)):=by
 unfold clipsB
 rw [List.range_succ,List.all_append,List.all_cons,List.all_nil,Bool.and_true]
theorem clipsB_no {fs:List FrX} {n m:Nat} (hn:n ≤ m) (h0:clipsB fs n = false):clipsB fs m = false:=by
 induction m with
 | zero=>
  obtain rfl:n = 0:=by omega
  exact h0
 | succ m ih=>
  by_cases hm:n = m + 1
  ·rw [← hm]
   exact h0
  ·rw [clipsB_succ,ih (by omega),Bool.false_and]
theorem clipB_no {fs:List FrX} {k:Nat} (hk:k < fs.length) (h:FrX.likeB (fs.getD 0 FrX.zero) (fs.getD k FrX.zero) = false):clipB fs = false:=by
 unfold clipB
 rw [clipsB_no (n:=k + 1) (by omega) (by rw [clipsB_succ,h,Bool.and_false]),Bool.and_false]
theorem clipB_len {fs:List FrX} (h:¬ (1 ≤ fs.length ∧ fs.length ≤ 1024)):clipB fs = false:=by
 unfold clipB
 rw [decide_eq_false h,Bool.false_and]
theorem clipsB_at {fs:List FrX} {n i:Nat} (h:clipsB fs n = true) (hi:i < n):FrX.likeB (fs.getD 0 FrX.zero) (fs.getD i FrX.zero) = true:=by
 unfold clipsB at h
 rw [List.all_eq_true] at h
 exact h i (List.mem_range.2 hi)
def clipRel (w:World) (fs:List FrX) (n:Nat) (v:Value) (wr:World):Prop:=∃ k:Nat,k ≤ n ∧ v = .int .i64 (k:Int) ∧ clipsB fs k = true ∧ Mod (fun _=>False) w wr
theorem lRightClip (w:World) (A:Option Addr) (n c:Nat) (fs:List FrX) (h:FrsIn w A n fs) (hn:n ≤ 9223372036854775807):Calls Tryz.prog 53 #[.slice A n c] w fun e w'=>e = .returned (.bool (clipB fs)) ∧ Mod (fun _=>False) w w':=by
 have hlen:=h.len
 have HH:=Lib.hid h
 clear h
 by_cases h1:n < 1
 ·have d1:decide ((n:Int) < 1) = true:=decide_eq_true (by omega)
  have HR:=Lib.hid (clipB_len (fs:=fs) (by omega))
  clear hlen
  go_enter Tryz.func53,Tryz.ntmps53
  go_wp2_with fail
  go_ret
  exact ⟨by rw [HR.out];rfl,Mod.refl _ _⟩
 have d1:decide ((n:Int) < 1) = false:=decide_eq_false (by omega)
 by_cases h2:1024 < n
 ·have d2:decide (1024 < (n:Int)) = true:=decide_eq_true (by omega)
  have HR:=Lib.hid (clipB_len (fs:=fs) (by omega))
  clear hlen
  go_enter Tryz.func53,Tryz.ntmps53
  go_wp2_with fail
  go_ret
  exact ⟨by rw [HR.out];rfl,Mod.refl _ _⟩
 have d2:decide (1024 < (n:Int)) = false:=decide_eq_false (by omega)
 have HLE:=Lib.hid hlen
 clear hlen
 go_enter Tryz.func53,Tryz.ntmps53
 go_wp2_with fail
 go_loopw [15] (clipRel w fs n) (fun i _=>n - (intOf i).toNat)
 case atStart=>exact ⟨0,by omega,rfl,rfl,Mod.refl _ _⟩
 case round=>
  rename World=>wr
  obtain ⟨k,hk,rfl,hok,hM⟩:=hrel
  by_cases hlt:k < n
  ·obtain ⟨b,o,hA,hb,hcells,hin⟩:=(HH.out.quiet hM).at_ k hlt
   subst hA
   obtain ⟨b',o',hA',hb',hcell0,_⟩:=(HH.out.quiet hM).at_ 0 (by omega)
   injection hA' with hA'
   injection hA' with e1' e2'
   subst e1' e2'
   have d3:decide ((k:Int) < (n:Int)) = true:=decide_eq_true (by omega)
   have hn0:0 < n:=by omega
   obtain ⟨f,hf⟩:∃ f,f = fs.getD k FrX.zero:=⟨_,rfl⟩
   obtain ⟨f0,hf0⟩:∃ f,f = fs.getD 0 FrX.zero:=⟨_,rfl⟩
   rw [← hf] at hcells hin
   rw [← hf0] at hcell0
   have k0:wr.cell? ⟨b,o + k * 9,none⟩ = some (.int .i64 f.W0):=hcells 0 _ rfl
   have k1:=hcells 1 _ rfl
   have k2:=hcells 2 _ rfl
   have k3:=hcells 3 _ rfl
   have k4:=hcells 4 _ rfl
   have k5:=hcells 5 _ rfl
   have k6:=hcells 6 _ rfl
   have k7:=hcells 7 _ rfl
   have k8:=hcells 8 _ rfl
   have z0:wr.cell? ⟨b,o,none⟩ = some (.int .i64 f0.W0):=by have:=hcell0 0 _ rfl;simpa using this
   have z1:wr.cell? ⟨b,o + 1,none⟩ = some (.int .i64 f0.H0):=by have:=hcell0 1 _ rfl;simpa using this
   have hbx:=Blk.new wr 58 f.cells.toArray
   have HB:=Lib.hid (And.intro hbx (And.intro hb (And.intro z0 (And.intro z1 (And.intro hok (And.intro hM (And.intro hf hf0)))))))
   clear hcells hcell0 hin hb hb' hok hM hf hf0 z0 z1 hbx
   go_upto_region 6 with (fail)
   clear k0 k1 k2 k3 k4 k5 k6 k7 k8
   obtain ⟨fb,hfb⟩:∃ b,b = wr.heap.size:=⟨_,rfl⟩
   have hbx:=HB.out.1
   unfold FrX.cells at hbx
   have hma:Mod (fun _=>False) wr (wr.alloc (.cells #[.int .i64 f.W0,.int .i64 f.H0,.slice f.A0 f.n0 f.c0,.int .i64 f.W1,.int .i64 f.H1,.slice f.A1 f.n1 f.c1,.int .i64 f.W2,.int .i64 f.H2,.slice f.A2 f.n2 f.c2] 58)):=(Mod.refl _ wr).alloc _
   rw [← hfb] at hbx ⊢
   have HX:=Lib.hid (And.intro hbx hma)
   clear hbx hma hfb
   generalize wr.alloc (.cells #[.int .i64 f.W0,.int .i64 f.H0,.slice f.A0 f.n0 f.c0,.int .i64 f.W1,.int .i64 f.H1,.slice f.A1 f.n1 f.c1,.int .i64 f.W2,.int .i64 f.H2,.slice f.A2 f.n2 f.c2] 58) = w1 at *
   have fbx:=(HX.out.1).drew
   obtain ⟨fc,ff⟩:=fbx.both
   have HM1:=Lib.hid (HB.out.2.2.2.2.2.1.trans HX.out.2).drew
   cases hw:f.wholeB with
   | false=>
    have HR:=Lib.hid (clipB_no (fs:=fs) (k:=k) (by rw [HLE.out];omega) (by rw [← HB.out.2.2.2.2.2.2.1,← HB.out.2.2.2.2.2.2.2];unfold FrX.likeB;rw [hw,Bool.false_and]))
    have HW:=Lib.hid hw
    clear hw fbx
    refine wp_region_planS [1] [] [0,1,2,3,4,5,6,7,8,9,10,11,12,13,14,15,16,17,18,19,20,21,22,23,24] (fun _=>True) (by kernel_rfl) (by kernel_rfl) (fun _ _ _ d _ h=>by cases d <;> exact h) trivial ?_
    refine planS_still rfl rfl (fun K hK=>?_);go_simp;refine hK _ ?_;clear hK K
    refine planS_loud rfl rfl (fun K hK=>?_)
    go_simp
    refine (pWholeI _ f.W0 f.H0 f.W1 f.H1 f.W2 f.H2 f.A0 f.A1 f.A2 f.n0 f.c0 f.n1 f.c1 f.n2 f.c2).mono ?_
    rintro e w2 ⟨rfl,hm2⟩
    have hwv:wholeI f.W0 f.H0 f.n0 f.W1 f.H1 f.n1 f.W2 f.H2 f.n2 = false:=HW.out
    rw [hwv]
    have H2:=Lib.hid (HM1.out.trans hm2)
    clear hm2 hwv fc ff
    dsimp only []
    refine hK _ _ trivial ?_
    clear hK K
    (iterate 23 (refine planS_still rfl rfl (fun K hK=>?_);go_simp;refine hK _ ?_;clear hK K));refine planS_done ?_;go_wp2_with fail
    go_ret
    exact ⟨by rw [HR.out];rfl,H2.out⟩
   | true=>
    have HW:=Lib.hid hw
    clear hw fbx
    by_cases hW:f.W0 = f0.W0
    ·by_cases hH:f.H0 = f0.H0
     ·have n1:(f.W0 != f0.W0) = false:=by simpa using hW
      have n2:(f.H0 != f0.H0) = false:=by simpa using hH
      have HL:=Lib.hid (show FrX.likeB f0 f = true by unfold FrX.likeB;rw [HW.out,decide_eq_true hW,decide_eq_true hH];rfl)
      clear hW hH
      refine wp_region_planS [1] [] [0,1,2,3,4,5,6,7,8,9,10,11,12,13,14,15,16,17,18,19,20,21,22,23,24] (fun _=>True) (by kernel_rfl) (by kernel_rfl) (fun _ _ _ d _ h=>by cases d <;> exact h) trivial ?_
      refine planS_still rfl rfl (fun K hK=>?_);go_simp;refine hK _ ?_;clear hK K
      refine planS_loud rfl rfl (fun K hK=>?_)
      go_simp
      refine (pWholeI _ f.W0 f.H0 f.W1 f.H1 f.W2 f.H2 f.A0 f.A1 f.A2 f.n0 f.c0 f.n1 f.c1 f.n2 f.c2).mono ?_
      rintro e w2 ⟨rfl,hm2⟩
      have hwv:wholeI f.W0 f.H0 f.n0 f.W1 f.H1 f.n1 f.W2 f.H2 f.n2 = true:=HW.out
      rw [hwv]
      have hq:=(HX.out.1.drew).keep hm2 (fun h=>h)
      have hm12:=HX.out.2.trans ((Mod.refl (fun _=>False) w1).drew.trans hm2)
      have H2:=Lib.hid (HM1.out.trans hm2)
      clear fc ff
      obtain ⟨fc,ff⟩:=hq.both
      have z0:w2.cell? ⟨b,o,none⟩ = some (.int .i64 f0.W0):=(cellqL hm12 HB.out.2.1).trans HB.out.2.2.1
      have z1:w2.cell? ⟨b,o + 1,none⟩ = some (.int .i64 f0.H0):=(cellqL hm12 HB.out.2.1).trans HB.out.2.2.2.1
      clear hm2 hwv hq hm12
      dsimp only []
      refine hK _ _ trivial ?_
      clear hK K
      (iterate 23 (refine planS_still rfl rfl (fun K hK=>?_);go_simp;refine hK _ ?_;clear hK K));refine planS_done ?_;go_wp2_with fail
      go_roundw
      case rel=>exact ⟨k + 1,by omega,by go_num,by rw [clipsB_succ,HB.out.2.2.2.2.1,← HB.out.2.2.2.2.2.2.1,← HB.out.2.2.2.2.2.2.2,HL.out];rfl,H2.out⟩
      case measure=>simp [intOf];omega
     ·have n1:(f.W0 != f0.W0) = false:=by simpa using hW
      have n2:(f.H0 != f0.H0) = true:=by simpa using hH
      have HR:=Lib.hid (clipB_no (fs:=fs) (k:=k) (by rw [HLE.out];omega) (by rw [← HB.out.2.2.2.2.2.2.1,← HB.out.2.2.2.2.2.2.2];unfold FrX.likeB;rw [decide_eq_false hH,Bool.and_false,Bool.and_false]))
      clear hW hH
      refine wp_region_planS [1] [] [0,1,2,3,4,5,6,7,8,9,10,11,12,13,14,15,16,17,18,19,20,21,22,23,24] (fun _=>True) (by kernel_rfl) (by kernel_rfl) (fun _ _ _ d _ h=>by cases d <;> exact h) trivial ?_
      refine planS_still rfl rfl (fun K hK=>?_);go_simp;refine hK _ ?_;clear hK K
      refine planS_loud rfl rfl (fun K hK=>?_)
      go_simp
      refine (pWholeI _ f.W0 f.H0 f.W1 f.H1 f.W2 f.H2 f.A0 f.A1 f.A2 f.n0 f.c0 f.n1 f.c1 f.n2 f.c2).mono ?_
      rintro e w2 ⟨rfl,hm2⟩
      have hwv:wholeI f.W0 f.H0 f.n0 f.W1 f.H1 f.n1 f.W2 f.H2 f.n2 = true:=HW.out
      rw [hwv]
      have hq:=(HX.out.1.drew).keep hm2 (fun h=>h)
      have hm12:=HX.out.2.trans ((Mod.refl (fun _=>False) w1).drew.trans hm2)
      have H2:=Lib.hid (HM1.out.trans hm2)
      clear fc ff
      obtain ⟨fc,ff⟩:=hq.both
      have z0:w2.cell? ⟨b,o,none⟩ = some (.int .i64 f0.W0):=(cellqL hm12 HB.out.2.1).trans HB.out.2.2.1
      have z1:w2.cell? ⟨b,o + 1,none⟩ = some (.int .i64 f0.H0):=(cellqL hm12 HB.out.2.1).trans HB.out.2.2.2.1
      clear hm2 hwv hq hm12
      dsimp only []
      refine hK _ _ trivial ?_
      clear hK K
      (iterate 23 (refine planS_still rfl rfl (fun K hK=>?_);go_simp;refine hK _ ?_;clear hK K));refine planS_done ?_;go_wp2_with fail
      go_ret
      exact ⟨by rw [HR.out];rfl,H2.out⟩
    ·have n1:(f.W0 != f0.W0) = true:=by simpa using hW
     have HR:=Lib.hid (clipB_no (fs:=fs) (k:=k) (by rw [HLE.out];omega) (by rw [← HB.out.2.2.2.2.2.2.1,← HB.out.2.2.2.2.2.2.2];unfold FrX.likeB;rw [decide_eq_false hW,Bool.false_and,Bool.and_false]))
     clear hW
     refine wp_region_planS [1] [] [0,1,2,3,4,5,6,7,8,9,10,11,12,13,14,15,16,17,18,19,20,21,22,23,24] (fun _=>True) (by kernel_rfl) (by kernel_rfl) (fun _ _ _ d _ h=>by cases d <;> exact h) trivial ?_
     refine planS_still rfl rfl (fun K hK=>?_);go_simp;refine hK _ ?_;clear hK K
     refine planS_loud rfl rfl (fun K hK=>?_)
     go_simp
     refine (pWholeI _ f.W0 f.H0 f.W1 f.H1 f.W2 f.H2 f.A0 f.A1 f.A2 f.n0 f.c0 f.n1 f.c1 f.n2 f.c2).mono ?_
     rintro e w2 ⟨rfl,hm2⟩
     have hwv:wholeI f.W0 f.H0 f.n0 f.W1 f.H1 f.n1 f.W2 f.H2 f.n2 = true:=HW.out
     rw [hwv]
     have hq:=(HX.out.1.drew).keep hm2 (fun h=>h)
     have hm12:=HX.out.2.trans ((Mod.refl (fun _=>False) w1).drew.trans hm2)
     have H2:=Lib.hid (HM1.out.trans hm2)
     clear fc ff
     obtain ⟨fc,ff⟩:=hq.both
     have z0:w2.cell? ⟨b,o,none⟩ = some (.int .i64 f0.W0):=(cellqL hm12 HB.out.2.1).trans HB.out.2.2.1
     have z1:w2.cell? ⟨b,o + 1,none⟩ = some (.int .i64 f0.H0):=(cellqL hm12 HB.out.2.1).trans HB.out.2.2.2.1
     clear hm2 hwv hq hm12
     dsimp only []
     refine hK _ _ trivial ?_
     clear hK K
     (iterate 23 (refine planS_still rfl rfl (fun K hK=>?_);go_simp;refine hK _ ?_;clear hK K));refine planS_done ?_;go_wp2_with fail
     go_ret
     exact ⟨by rw [HR.out];rfl,H2.out⟩
  ·obtain rfl:k = n:=by omega
   have d3:decide ((k:Int) < (k:Int)) = false:=decide_eq_false (by omega)
   have HR:Hid (clipB fs = true):=by show _ = _;unfold clipB;rw [HLE.out,hok,Bool.and_true];exact decide_eq_true ⟨by omega,by omega⟩
   have H1:=Lib.hid hM
   clear hok hM
   go_wp2_with fail
   go_ret
   exact ⟨by rw [HR.out];rfl,H1.out⟩
end Go.Proofs.YthednemlahioeaaGreatDoor

