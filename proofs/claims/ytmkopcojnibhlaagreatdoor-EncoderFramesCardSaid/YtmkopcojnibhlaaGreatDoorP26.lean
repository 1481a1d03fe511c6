/-
  The reference's floor, Row.
-/
import Derived.Test.YtmkopcojnibhlaaGreatDoorP1
import Derived.Test.YtmkopcojnibhlaaGreatDoorP4
import Derived.Test.YtmkopcojnibhlaaGreatDoorP10
import Derived.Test.YtmkopcojnibhlaaGreatDoorP13
import Derived.Test.YtmkopcojnibhlaaGreatDoorP25
namespace Go.Proofs.YtmkopcojnibhlaaGreatDoor
open Go.RowKit
set_option maxRecDepth 100000
set_option maxHeartbeats 8000000
theorem rfloor (w:World) (v:Int) (h:-4611686018427387904 ≤ v ∧ v ≤ 4611686018427387904):Calls Tryz.prog 262 #[.int .i64 v] w fun e w'=>e = .returned (.int .i64 (v / 2)) ∧ w = w':=by
 by_cases h0:0 ≤ v
 ·have H:=Lib.hid h
  go_enter Tryz.func262,Tryz.ntmps262
  go_wp2_with fail
  go_ret
  exact ⟨rfl,rfl⟩
 ·have h1:-((1 - v) / 2) = v / 2:=by omega
  have H1:=Lib.hid h1
  clear h1
  go_enter Tryz.func262,Tryz.ntmps262
  go_wp2_with fail
  go_ret
  exact ⟨by show Ending.returned (.int .i64 (-((1 - v) / 2))) = _;rw [H1.out],rfl⟩
def rowLow (l:List Int) (m:Nat):List Int:=(List.range m).map fun i=>(l.getD (2 * i) 0 + l.getD (2 * i + 1) 0) / 2
def rowHigh (l:List Int) (m:Nat):List Int:=(List.range m).map fun i=>l.getD (2 * i) 0 - l.getD (2 * i + 1) 0
theorem rowLow_succ (l:List Int) (m:Nat):rowLow l (m + 1) = rowLow l m ++ [(l.getD (2 * m) 0 + l.getD (2 * m + 1) 0) / 2]:=by simp [rowLow,List.range_succ]
theorem rowHigh_succ (l:List Int) (m:Nat):rowHigh l (m + 1) = rowHigh l m ++ [l.getD (2 * m) 0 - l.getD (2 * m + 1) 0]:=by simp [rowHigh,List.range_succ]
theorem rowLow_length (l:List Int) (m:Nat):(rowLow l m).length = m:=by simp [rowLow]
theorem rowHigh_length (l:List Int) (m:Nat):(rowHigh l m).length = m:=by simp [rowHigh]
theorem rowLow_within {M:Int} {l:List Int} (h0:0 ≤ M) (h:Within M l) (m:Nat):Within M (rowLow l m):=by
 intro i
 by_cases hi:i < m
 ·have e:(rowLow l m).getD i 0 = (l.getD (2 * i) 0 + l.getD (2 * i + 1) 0) / 2:=by simp [rowLow,List.getD_eq_getElem?_getD,hi]
  rw [e]
  have a:=h (2 * i)
  have b:=h (2 * i + 1)
  omega
 ·have e:(rowLow l m).getD i 0 = 0:=by simp [rowLow,List.getD_eq_getElem?_getD,hi]
  rw [e]
  omega
def rowK:Nat → List Int → List Int
 | 0,l=>l
 | j + 1,l=>rowK j (rowLow l (2 ^ j)) ++ rowHigh l (2 ^ j)
theorem rowK_length (j:Nat):∀ l:List Int,l.length = 2 ^ j → (rowK j l).length = 2 ^ j:=by
 induction j with
 | zero=>intro l h;exact h
 | succ j ih=>
  intro l h
  simp only [rowK,List.length_append,rowHigh_length]
  rw [ih _ (rowLow_length _ _),Nat.pow_succ]
  omega
def IntsRet (w:World) (l:List Int) (e:Ending) (w':World):Prop:=∃ A c,e = .returned (.slice A l.length c) ∧ l.length ≤ c ∧ IntsIn w' A l.length c l ∧ Mod (fun _=>False) w w'
theorem IntsOwn.drew {w:World} {B:Nat} {v:Value} {l:List Int} (h:IntsOwn w B v l):IntsOwn w.drew B v l:=own_mod h ((Mod.refl (fun _=>False) w).drew) (fun _ _ h=>h)
theorem IntsOwn.drewN {w:World} {B:Nat} {v:Value} {l:List Int} (h:IntsOwn w B v l) (n:Nat):IntsOwn (w.drewN n) B v l:=own_mod h ((Mod.refl (fun _=>False) w).drewN n) (fun _ _ h=>h)
def RowRel (w:World) (l:List Int) (v3 v4 i:Value) (wr:World):Prop:=
 ∃ k:Nat,2 * k ≤ l.length ∧ i = .int .i64 ((2 * k:Nat):Int) ∧ IntsOwn wr w.heap.size v3 (rowLow l k) ∧ IntsOwn wr w.heap.size v4 (rowHigh l k) ∧ (∀ g,v3.ownBlock = some g → v4.ownBlock ≠ some g) ∧ Mod (fun _=>False) w wr
theorem rrow (j:Nat):j ≤ 3 → ∀ (w:World) (A:Option Addr) (n c:Nat) (l:List Int),n = 2 ^ j → n ≤ c → IntsIn w A n c l → Within 1099511627776 l → Calls Tryz.prog 226 #[.slice A n c] w (IntsRet w (rowK j l)):=by
 induction j with
 | zero=>
  intro _ w A n c l hn hc hin hw
  subst hn
  have HIN:=Lib.hid hin
  clear hin
  go_enter Tryz.func226,Tryz.ntmps226
  go_wp2_with fail
  go_ret
  have h1:l.length = 1:=HIN.out.1
  refine ⟨A,c,?_,?_,?_,Mod.refl _ _⟩
  ·simp [rowK,h1]
  ·simp [rowK,h1];omega
  ·simp only [rowK,h1];exact HIN.out
 | succ j ih=>
  intro hj w A n c l hn hc hin hw
  have ih':=ih (by omega)
  have HIH:=Lib.hid ih'
  clear ih ih'
  have hm:n = 2 * 2 ^ j:=by rw [hn,Nat.pow_succ];omega
  have hp:1 ≤ 2 ^ j ∧ 2 ^ j ≤ 8:=⟨Nat.one_le_two_pow,Nat.pow_le_pow_right (by omega) (show j ≤ 3 by omega)⟩
  clear hn
  obtain ⟨m,hm2⟩:∃ m,m = 2 ^ j:=⟨_,rfl⟩
  rw [← hm2] at hm hp
  have HM:=Lib.hid hm2
  clear hm2
  have HN:=Lib.hid hm
  have hn1:2 ≤ n:=by omega
  have hn2:n ≤ 16:=by omega
  clear hm
  obtain ⟨hp1,hp2⟩:=hp
  obtain ⟨b,off,hA,hb,hcell⟩:=hin.place (by omega)
  subst hA
  have HC:=Lib.hid (And.intro hcell hw)
  have hl:=hin.1
  have HL:=Lib.hid hl
  clear hcell hin hw hl
  go_enter Tryz.func226,Tryz.ntmps226
  go_wp2_with fail
  go_loopw [3,4,5] (RowRel w l) (fun _ _ i _=>n - (intOf i).toNat)
  case atStart=>exact ⟨0,by omega,rfl,IntsOwn.nil _ _,IntsOwn.nil _ _,(fun g h=>by cases h),Mod.refl _ _⟩
  case round=>
   obtain ⟨k,hk,rfl,hlo,hhi,hne,hM⟩:=hrel
   rw [HL.out] at hk
   by_cases hlt0:k < m
   ·have hlt:2 * k + 1 < n:=by have:=HN.out;omega
    have hk0:wr.cell? ⟨b,off + 2 * k,none⟩ = some (.int .i64 (l.getD (2 * k) 0)):=(World.cell?_of_block (hM.block b hb (fun h=>h))).trans (HC.out.1 (2 * k) (by omega))
    have hk1:wr.cell? ⟨b,off + (2 * k + 1),none⟩ = some (.int .i64 (l.getD (2 * k + 1) 0)):=(World.cell?_of_block (hM.block b hb (fun h=>h))).trans (HC.out.1 (2 * k + 1) (by omega))
    have hx:=HC.out.2 (2 * k)
    have hy:=HC.out.2 (2 * k + 1)
    have HS:=Lib.hid (And.intro (rowLow_succ l k) (rowHigh_succ l k))
    generalize l.getD (2 * k) 0 = x at *
    generalize l.getD (2 * k + 1) 0 = y at *
    obtain ⟨x1,x2⟩:=hx
    obtain ⟨y1,y2⟩:=hy
    obtain ⟨p,hp⟩:∃ p,p = 2 * k:=⟨_,rfl⟩
    rw [← hp] at hk0 hk1 ⊢
    have p1:(p:Int) < (n:Int):=by omega
    have p2:(p:Int) + 1 < (n:Int):=by omega
    have HP:=Lib.hid hp
    clear hp hk
    obtain ⟨A3,c3,hv3⟩:=own_shape hlo
    subst hv3
    obtain ⟨A4,c4,hv4⟩:=own_shape hhi
    subst hv4
    rw [rowLow_length,rowHigh_length]
    rw [rowLow_length] at hlo hne
    rw [rowHigh_length] at hhi hne
    have hwl:=World.block_lt_of_cell? _ _ hk0
    have HB:=Lib.hid (And.intro hlo (And.intro hhi (And.intro hne hM)))
    clear hlo hhi hne hM
    have q1:w.heap.size ≤ wr.drew.heap.size:=HB.out.2.2.2.size
    have q2:(rowLow l k).length < 1048576:=by rw [rowLow_length];omega
    have q3:¬ (Value.slice A3 k c3).ownBlock = some b:=fun e=>by have:=(HB.out.1.lt b e).1;omega
    have HX:=Lib.hid (And.intro q1 (And.intro q2 q3))
    clear q1 q2 q3
    have s1:IntKind.i64.wrap (x + y) = x + y:=IntWalk.i64_in _ ⟨by omega,by omega⟩
    have s2:IntKind.i64.wrap ((p:Int) + 1) = (p:Int) + 1:=IntWalk.i64_in _ ⟨by omega,by omega⟩
    have s3:((p:Int) + 1).toNat = p + 1:=by omega
    have s4:(0:Int) ≤ (p:Int) + 1:=by omega
    have s5:(0:Int) ≤ (p:Int):=by omega
    go_upto_region 7 with (fail)
    have ka:((wr.drew).alloc (.cells #[.int .i64 ((x + y) / 2)] 3)).cell? ⟨b,off + p,none⟩ = some (.int .i64 x) ∧ ((wr.drew).alloc (.cells #[.int .i64 ((x + y) / 2)] 3)).cell? ⟨b,off + (p + 1),none⟩ = some (.int .i64 y):=⟨(World.cell?_alloc_lt _ _ _ hwl).trans hk0,(World.cell?_alloc_lt _ _ _ (World.block_lt_of_cell? _ _ hk1)).trans hk1⟩
    go_region_held3 (fun w'=>w'.cell? ⟨b,off + p,none⟩ = some (.int .i64 x) ∧ w'.cell? ⟨b,off + (p + 1),none⟩ = some (.int .i64 y)) (first | exact ⟨hk0,hk1⟩ | exact ka | exact kb) (first
     | (go_at_call 262;refine (rfloor _ _ ⟨by omega,by omega⟩).mono ?_;rintro e w3 ⟨rfl,rfl⟩)
     | (refine step_app_int wr.drew (by rfl) _ _ (by rfl) w.heap.size (.slice A3 k c3) (rowLow l k) ((x + y) / 2) (by rfl) (by rfl) (HB.out.1.drew) HX.out.1 HX.out.2.1 ?_;intro v5 w5 hown5 hMa hMb hF;have kb:w5.cell? ⟨b,off + p,none⟩ = some (.int .i64 x) ∧ w5.cell? ⟨b,off + (p + 1),none⟩ = some (.int .i64 y):=⟨(World.cell?_of_block (hMa.block b hwl HX.out.2.2)).trans hk0,(World.cell?_of_block (hMa.block b hwl HX.out.2.2)).trans hk1⟩;have HO:=Lib.hid (And.intro hown5 (And.intro hMa (And.intro hMb hF)));clear hown5 hMa hMb hF))
    clear ka
    obtain ⟨kb0,kb1⟩:=kb
    have hhi5:IntsOwn w5 w.heap.size (.slice A4 k c4) (rowHigh l k):=by
     have:=own_mod (IntsOwn.drew HB.out.2.1) HO.out.2.1 (fun g hg hs=>HB.out.2.2.1 g hs hg)
     exact this
    have hM5:Mod (fun _=>False) w w5:=HO.out.2.2.1 w _ (Nat.le_refl _) HB.out.2.2.2.drew
    have hwl5:=World.block_lt_of_cell? _ _ kb0
    have q1:w.heap.size ≤ w5.drew.heap.size:=hM5.size
    have q2:(rowHigh l k).length < 1048576:=by rw [rowHigh_length];omega
    have q3:¬ (Value.slice A4 k c4).ownBlock = some b:=fun e=>by have:=(hhi5.lt b e).1;omega
    have HX5:=Lib.hid (And.intro q1 (And.intro q2 (And.intro q3 (And.intro hhi5 hM5))))
    clear q1 q2 q3 hhi5 hM5 hk0 hk1 hwl
    have s1:IntKind.i64.wrap (x - y) = x - y:=IntWalk.i64_in _ ⟨by omega,by omega⟩
    go_upto_region 8 with (fail)
    have ka:((w5.drew).alloc (.cells #[.int .i64 (x - y)] 3)).cell? ⟨b,off + p,none⟩ = some (.int .i64 x) ∧ ((w5.drew).alloc (.cells #[.int .i64 (x - y)] 3)).cell? ⟨b,off + (p + 1),none⟩ = some (.int .i64 y):=⟨(World.cell?_alloc_lt _ _ _ hwl5).trans kb0,(World.cell?_alloc_lt _ _ _ (World.block_lt_of_cell? _ _ kb1)).trans kb1⟩
    go_region_held3 (fun w'=>w'.cell? ⟨b,off + p,none⟩ = some (.int .i64 x) ∧ w'.cell? ⟨b,off + (p + 1),none⟩ = some (.int .i64 y)) (first | exact ⟨kb0,kb1⟩ | exact ka | exact kb) (first
     | (refine step_app_int w5.drew (by rfl) _ _ (by rfl) w.heap.size (.slice A4 k c4) (rowHigh l k) (x - y) (by rfl) (by rfl) (HX5.out.2.2.2.1.drew) HX5.out.1 HX5.out.2.1 ?_;intro v6 w6 hown6 hMa hMb hF;have kb:w6.cell? ⟨b,off + p,none⟩ = some (.int .i64 x) ∧ w6.cell? ⟨b,off + (p + 1),none⟩ = some (.int .i64 y):=⟨(World.cell?_of_block (hMa.block b hwl5 HX5.out.2.2.1)).trans kb0,(World.cell?_of_block (hMa.block b hwl5 HX5.out.2.2.1)).trans kb1⟩;have HO6:=Lib.hid (And.intro hown6 (And.intro hMa (And.intro hMb hF)));clear hown6 hMa hMb hF))
    clear s1 s2 s3 s4 s5
    go_wp2_with fail
    go_roundw
    case rel=>
     refine ⟨k + 1,?_,?_,?_,?_,?_,HO6.out.2.2.1 w _ (Nat.le_refl _) HX5.out.2.2.2.2.drew⟩
     ·rw [HL.out];omega
     ·rw [HP.out];go_num
     ·rw [HS.out.1]
      exact own_mod (IntsOwn.drew HO.out.1) HO6.out.2.1 (fun g hg hs=>by
       rcases HO.out.2.2.2 g hg with h | h
       ·exact HB.out.2.2.1 g h hs
       ·have h7:=(HB.out.2.1.lt g hs).2
        have:wr.drew.heap.size = wr.heap.size:=rfl
        omega)
     ·rw [HS.out.2];exact HO6.out.1
     ·intro g h3 h4
      rcases HO6.out.2.2.2 g h4 with h | h
      ·rcases HO.out.2.2.2 g h3 with h' | h'
       ·exact HB.out.2.2.1 g h' h
       ·have h7:=(HB.out.2.1.lt g h).2
        have:wr.drew.heap.size = wr.heap.size:=rfl
        omega
      ·have h7:=(HO.out.1.lt g h3).2
       have:w5.drew.heap.size = w5.heap.size:=rfl
       omega
    case measure=>simp [intOf];omega
   ·obtain ⟨p,hp⟩:∃ p,p = 2 * k:=⟨_,rfl⟩
    have hkm:k = m:=by have:=HN.out;omega
    subst hkm
    rw [← hp]
    have hpn:p = n:=by have:=HN.out;omega
    clear hp hk hlt0
    subst hpn
    obtain ⟨A3,c3,hv3⟩:=own_shape hlo
    subst hv3
    obtain ⟨A4,c4,hv4⟩:=own_shape hhi
    subst hv4
    rw [rowLow_length,rowHigh_length]
    rw [rowLow_length] at hlo hne
    rw [rowHigh_length] at hhi hne
    have hcap3:=hlo.cap
    have HB:=Lib.hid (And.intro hlo (And.intro hhi (And.intro hne hM)))
    clear hlo hhi hne hM
    have M6:Mod (fun _=>False) wr (wr.alloc (.cells #[] 3)):=(Mod.refl _ _).alloc _
    have hin6:IntsIn (wr.alloc (.cells #[] 3)) A3 k c3 (rowLow l k):=(HB.out.1.quiet M6).in_
    have R6:=HIH.out (wr.alloc (.cells #[] 3)) A3 k c3 (rowLow l k) HM.out hcap3 hin6 (rowLow_within (by omega) HC.out.2 k)
    clear hin6 M6
    go_wp2_with fail
    refine R6.mono ?_
    clear R6
    rintro e w7 ⟨A7,c7,rfl,hc7,hin7,hm7⟩
    have hrl:(rowK j (rowLow l k)).length = k:=by rw [rowK_length j _ (by rw [rowLow_length];exact HM.out),← HM.out]
    rw [hrl] at hin7 ⊢
    have hz7:IntsOwn w7 w.heap.size (.slice (some ⟨wr.heap.size,0,none⟩) 0 0) []:=(IntsOwn.whole (l:=[]) HB.out.2.2.2.size (Blk.new wr 3 #[]) (by decide)).quiet hm7
    have M7:Mod (fun _=>False) wr w7:=((Mod.refl _ _).alloc _).trans hm7
    have HZ:=Lib.hid (And.intro hz7 (And.intro hin7 (And.intro M7 hrl)))
    clear hz7 hin7 M7 hm7 hrl
    have q1:w.heap.size ≤ w7.heap.size:=Nat.le_trans HB.out.2.2.2.size HZ.out.2.2.1.size
    have q2:∀ g,(Value.slice A4 k c4).ownBlock = some g → ¬ (Value.slice (some ⟨wr.heap.size,0,none⟩) 0 0).ownBlock = some g:=fun g hg hs=>by
     have h7:=(HB.out.2.1.lt g hg).2
     have hs2:wr.heap.size = g:=by simpa [Value.ownBlock] using hs
     omega
    have HQ:=Lib.hid q2
    clear q2
    go_wp2_with (first
     | (at_builtin;refine wpList_app_ints _ rfl (.tmp 43) (.tmp 45) rfl w.heap.size _ [] A7 k c7 _ rfl rfl HZ.out.1 HZ.out.2.1 q1 (by simp;omega) ?_;intro v8 w8 hown8 hMa hMb hF;have HO:=Lib.hid (And.intro hown8 (And.intro hMa (hMb w (fun _=>False) (Nat.le_refl _) (HB.out.2.2.2.trans HZ.out.2.2.1))));clear hown8 hMa hMb hF)
     | (at_builtin;refine wpList_app_ints _ rfl (.tmp 46) (.tmp 47) rfl w.heap.size _ ([] ++ rowK j (rowLow l k)) A4 k c4 (rowHigh l k) rfl rfl HO.out.1 ((HB.out.2.1.quiet HZ.out.2.2.1).mod HO.out.2.1 HQ.out).in_ HO.out.2.2.size (by rw [List.nil_append,HZ.out.2.2.2];omega) ?_;intro v9 w9 hown9 hMa hMb hF;have HO9:=Lib.hid (And.intro hown9 (hMb w (fun _=>False) (Nat.le_refl _) HO.out.2.2));clear hown9 hMa hMb hF))
    go_ret
    have e9:rowK (j + 1) l = [] ++ rowK j (rowLow l k) ++ rowHigh l k:=by rw [HM.out];rfl
    obtain ⟨h9,hM9⟩:=HO9.out
    rw [← e9] at h9
    obtain ⟨A9,c9,hv9⟩:=own_shape h9
    subst hv9
    exact ⟨A9,c9,rfl,h9.cap,h9.in_,hM9⟩
def RFarRel (a b:List UInt8) (n:Nat) (w:World) (v5 v6:Value) (wr:World):Prop:=∃ k:Nat,k ≤ n ∧ v6 = .int .i64 (k:Int) ∧ v5 = .int .i64 ((farTo a b k:Nat):Int) ∧ ∃ m,wr = w.drewN m
theorem reFar (w:World) (A:Option Addr) (n c:Nat) (a:List UInt8) (A2:Option Addr) (c2:Nat) (b:List UInt8) (hin:BytesIn w A n c a) (hin2:BytesIn w A2 n c2 b) (hn0:0 < n) (hn:n ≤ 4096) :
  Calls Tryz.prog 153 #[.slice A n c,.slice A2 n c2] w fun e w'=>e = .returned (.int .i64 ((farTo a b n:Nat):Int)) ∧ ∃ m,w' = w.drewN m:=by
 obtain ⟨ba,oa,rfl,hba,hca⟩:=hin.place hn0
 obtain ⟨bb,ob2,rfl,hbb,hcb⟩:=hin2.place hn0
 have HC:=Lib.hid (And.intro hca hcb)
 clear hca hcb hin hin2
 go_enter Tryz.func153,Tryz.ntmps153
 go_wp2_with fail
 go_loopw [5,6] (RFarRel a b n w) (fun _ i _=>n - (intOf i).toNat)
 case atStart=>exact ⟨0,by omega,rfl,rfl,0,rfl⟩
 case round=>
  rename World=>wr
  obtain ⟨k,hk,rfl,rfl,m,rfl⟩:=hrel
  by_cases hlt:k < n
  ·have hck:(w.drewN m).cell? ⟨ba,oa + k,none⟩ = some (.int .u8 ((a.getD k 0).toNat:Int)):=HC.out.1 k hlt
   have hck2:(w.drewN m).cell? ⟨bb,ob2 + k,none⟩ = some (.int .u8 ((b.getD k 0).toNat:Int)):=HC.out.2 k hlt
   have hx:(a.getD k 0).toNat < 256:=UInt8.toNat_lt _
   have hy:(b.getD k 0).toNat < 256:=UInt8.toNat_lt _
   have hfl:=farTo_le a b k
   have HF:Hid (farTo a b (k + 1) = farTo a b k + (((a.getD k 0).toNat:Int) - ((b.getD k 0).toNat:Int)).natAbs):=rfl
   generalize (a.getD k 0).toNat = x at *
   generalize (b.getD k 0).toNat = y at *
   generalize farTo a b k = s at *
   have i1:(0:Int) ≤ (k:Int):=by omega
   have i2:(k:Int) < (n:Int):=by omega
   have d1:decide ((k:Int) < (n:Int)) = true:=decide_eq_true i2
   have HM:Hid (∀ q,∃ m',(w.drewN m).drewN q = w.drewN m'):=fun q=>⟨m + q,by simp [World.drewN_drewN]⟩
   have s2:IntKind.i64.wrap ((x:Int) - (y:Int)) = (x:Int) - (y:Int):=IntWalk.i64_in _ ⟨by omega,by omega⟩
   generalize w.drewN m = wr at *
   go_upto_region 5 with (fail)
   go_quiet (fail)
   obtain ⟨m',hm'⟩:=HM.out nq
   have HM':=Lib.hid hm'
   clear hm' HM
   generalize wr.drewN nq = w5 at *
   obtain ⟨z,hz⟩:∃ z,z = (x:Int) - (y:Int):=⟨_,rfl⟩
   rw [← hz] at HF ⊢
   have hz1:-256 < z:=by omega
   have hz2:z < 256:=by omega
   clear hz s2 hck hck2
   go_wp2_with fail
   go_roundw
   case rel=>exact ⟨k + 1,by omega,by go_num,congrArg (Value.int .i64) (by rw [HF.out];split <;> omega),m',HM'.out⟩
   case measure=>simp [intOf];omega
  ·obtain rfl:k = n:=by omega
   have d1:decide ((k:Int) < (k:Int)) = false:=decide_eq_false (by omega)
   go_wp2_with fail
   go_ret
   exact ⟨rfl,m,rfl⟩
def rstTo (a b:List UInt8) (k:Nat):List Int:=(List.range k).map (restAt a b)
theorem rstTo_succ (a b:List UInt8) (k:Nat):rstTo a b (k + 1) = rstTo a b k ++ [restAt a b k]:=by simp [rstTo,List.range_succ]
theorem rstTo_length (a b:List UInt8) (k:Nat):(rstTo a b k).length = k:=by simp [rstTo]
theorem rstTo_all (a b:List UInt8):rstTo a b a.length = restL a b:=by
 unfold rstTo restL rsL
 refine List.map_congr_left fun i hi=>?_
 rw [if_pos (List.mem_range.1 hi)]
def RRestRel (w:World) (a b:List UInt8) (n:Nat) (v i:Value) (wr:World):Prop:=∃ k:Nat,k ≤ n ∧ i = .int .i64 k ∧ IntsOwn wr w.heap.size v (rstTo a b k) ∧ Mod (fun _=>False) w wr
theorem reRest (w:World) (A:Option Addr) (n c:Nat) (a:List UInt8) (A2:Option Addr) (c2:Nat) (b:List UInt8) (hin:BytesIn w A n c a) (hin2:BytesIn w A2 n c2 b) (hn0:0 < n) (hn:n ≤ 4096) :
  Calls Tryz.prog 110 #[.slice A n c,.slice A2 n c2] w fun e w'=>∃ ob c',e = .returned (.slice (some ⟨ob,0,none⟩) n c') ∧ n ≤ c' ∧ IntsIn w' (some ⟨ob,0,none⟩) n c' (restL a b) ∧ Mod (fun _=>False) w w':=by
 have hal:a.length = n:=hin.1
 have HRL:Hid (rstTo a b n = restL a b):=by show _ = _;rw [← hal];exact rstTo_all a b
 clear hal
 obtain ⟨ba,oa,rfl,hba,hca⟩:=hin.place hn0
 obtain ⟨bb,ob2,rfl,hbb,hcb⟩:=hin2.place hn0
 have HC:=Lib.hid (And.intro hca hcb)
 clear hca hcb hin hin2
 go_enter Tryz.func110,Tryz.ntmps110
 go_wp2_with fail
 go_loopw [5,6] (RRestRel w a b n) (fun _ i _=>n - (intOf i).toNat)
 case atStart=>exact ⟨0,by omega,rfl,IntsOwn.nil _ _,Mod.refl _ _⟩
 case round=>
  obtain ⟨k,hk,rfl,hown,hM⟩:=hrel
  by_cases hlt:k < n
  ·have hk0:wr.cell? ⟨ba,oa + k,none⟩ = some (.int .u8 ((a.getD k 0).toNat:Int)):=(World.cell?_of_block (hM.block ba hba (fun h=>h))).trans (HC.out.1 k hlt)
   have hk1:wr.cell? ⟨bb,ob2 + k,none⟩ = some (.int .u8 ((b.getD k 0).toNat:Int)):=(World.cell?_of_block (hM.block bb hbb (fun h=>h))).trans (HC.out.2 k hlt)
   have hx:(a.getD k 0).toNat < 256:=UInt8.toNat_lt _
   have hy:(b.getD k 0).toNat < 256:=UInt8.toNat_lt _
   have HF:Hid (restAt a b k = ((a.getD k 0).toNat:Int) - ((b.getD k 0).toNat:Int)):=rfl
   generalize (a.getD k 0).toNat = x at *
   generalize (b.getD k 0).toNat = y at *
   have i1:(0:Int) ≤ (k:Int):=by omega
   have i2:(k:Int) < (n:Int):=by omega
   obtain ⟨A4,c4,hv4⟩:=own_shape hown
   subst hv4
   rw [rstTo_length]
   rw [rstTo_length] at hown
   have hwl:=World.block_lt_of_cell? _ _ hk0
   have hwl2:=World.block_lt_of_cell? _ _ hk1
   have HB:=Lib.hid (And.intro hown hM)
   have q1:w.heap.size ≤ wr.drew.heap.size:=hM.size
   have q2:(rstTo a b k).length < 1048576:=by rw [rstTo_length];omega
   have q3:¬ (Value.slice A4 k c4).ownBlock = some ba:=fun e=>by have:=(HB.out.1.lt ba e).1;omega
   have q4:¬ (Value.slice A4 k c4).ownBlock = some bb:=fun e=>by have:=(HB.out.1.lt bb e).1;omega
   have HX:=Lib.hid (And.intro q1 (And.intro q2 (And.intro q3 q4)))
   clear hown hM q1 q2 q3 q4
   have s0:IntKind.i64.wrap (x:Int) = (x:Int):=IntWalk.i64_in _ ⟨by omega,by omega⟩
   have s1:IntKind.i64.wrap (y:Int) = (y:Int):=IntWalk.i64_in _ ⟨by omega,by omega⟩
   have s2:IntKind.i64.wrap ((x:Int) - (y:Int)) = (x:Int) - (y:Int):=IntWalk.i64_in _ ⟨by omega,by omega⟩
   go_upto_region 7 with (fail)
   have ka:((wr.drew).alloc (.cells #[.int .i64 ((x:Int) - (y:Int))] 3)).cell? ⟨ba,oa + k,none⟩ = some (.int .u8 (x:Int)) ∧ ((wr.drew).alloc (.cells #[.int .i64 ((x:Int) - (y:Int))] 3)).cell? ⟨bb,ob2 + k,none⟩ = some (.int .u8 (y:Int)):=⟨(World.cell?_alloc_lt _ _ _ hwl).trans hk0,(World.cell?_alloc_lt _ _ _ hwl2).trans hk1⟩
   go_region_held3 (fun w'=>w'.cell? ⟨ba,oa + k,none⟩ = some (.int .u8 (x:Int)) ∧ w'.cell? ⟨bb,ob2 + k,none⟩ = some (.int .u8 (y:Int))) (first | exact ⟨hk0,hk1⟩ | exact ka | exact kb) (first
    | (refine step_app_int wr.drew (by rfl) _ _ (by rfl) w.heap.size (.slice A4 k c4) (rstTo a b k) ((x:Int) - (y:Int)) (by rfl) (by rfl) (HB.out.1.drew) HX.out.1 HX.out.2.1 ?_;intro v6 w6 hown6 hMa hMb hF;have kb:w6.cell? ⟨ba,oa + k,none⟩ = some (.int .u8 (x:Int)) ∧ w6.cell? ⟨bb,ob2 + k,none⟩ = some (.int .u8 (y:Int)):=⟨(World.cell?_of_block (hMa.block ba hwl HX.out.2.2.1)).trans hk0,(World.cell?_of_block (hMa.block bb hwl2 HX.out.2.2.2)).trans hk1⟩;have HO6:=Lib.hid (And.intro hown6 (And.intro hMa (And.intro hMb hF)));clear hown6 hMa hMb hF))
   clear ka hk0 hk1 s0 s1 s2
   go_wp2_with fail
   go_roundw
   case rel=>exact ⟨k + 1,by omega,by go_num,by rw [rstTo_succ,HF.out];exact HO6.out.1,HO6.out.2.2.1 w _ (Nat.le_refl _) HB.out.2.drew⟩
   case measure=>simp [intOf];omega
  ·obtain rfl:k = n:=by omega
   have HB:=Lib.hid (And.intro hown hM)
   clear hown hM
   go_wp2_with fail
   go_ret
   obtain ⟨h9,hM9⟩:=HB.out
   obtain ⟨A9,c9,hv9⟩:=own_shape h9
   subst hv9
   have hl:(rstTo a b k).length = k:=rstTo_length _ _ _
   have hcap:=h9.cap
   have hin:=h9.in_
   rcases h9.2 with ⟨hv,h0⟩ | ⟨g,cap,cur,hv,hB,_⟩
   ·rw [hl] at h0;omega
   ·injection hv with e1 e2 e3
    subst e1
    rw [hl] at hin hcap
    rw [HRL.out] at hin
    exact ⟨g,c9,by rw [hl];rfl,hcap,hin,hM9⟩
theorem reSize (w:World) (a b:Int) (ha:-64 ≤ a ∧ a ≤ 64) (hb:-64 ≤ b ∧ b ≤ 64):Calls Tryz.prog 219 #[.agg #[.int .i64 a,.int .i64 b]] w fun e w'=>e = .returned (.int .i64 (((a.natAbs + b.natAbs:Nat)):Int)) ∧ Mod (fun _=>False) w w':=by
 obtain ⟨a1,a2⟩:=ha
 obtain ⟨b1,b2⟩:=hb
 go_enter Tryz.func219,Tryz.ntmps219
 go_wp2_with fail
 all_goals
  go_ret
  exact ⟨congrArg (fun x=>Ending.returned (.int .i64 x)) (by omega),(Mod.refl _ _).alloc _⟩
def GB1 (w:World) (L:List Ent) (f:Nat → UInt8) (v13 v14:Value) (wr:World):Prop:=∃ j:Nat,j ≤ 16 ∧ v14 = .int .i64 (j:Int) ∧ GrowS w wr L v13 (rowTil f (j * 16))
def GB2 (w:World) (L:List Ent) (f:Nat → UInt8) (j:Nat) (v13 v15:Value) (wr:World):Prop:=∃ i:Nat,i ≤ 16 ∧ v15 = .int .i64 (i:Int) ∧ GrowS w wr L v13 (rowTil f (j * 16 + i))
theorem reMvBlock (w:World) (W H:Nat) (A:Option Addr) (n c:Nat) (pix:List UInt8) (h:sidesB W H = true) (hn:n = W * H) (hin:BytesIn w A n c pix) (x y:Nat) (vx vy:Int) (hx:x ≤ 4096) (hy:y ≤ 4096) (hvx:-128 ≤ vx ∧ vx ≤ 128) (hvy:-128 ≤ vy ∧ vy ≤ 128) :
  Calls Tryz.prog 164 #[.agg #[.int .i64 (W:Int),.int .i64 (H:Int),.slice A n c],.int .i64 (x:Int),.int .i64 (y:Int),.int .i64 16,.agg #[.int .i64 vx,.int .i64 vy]] w
   fun e w'=>∃ v,e = .returned v ∧ Bytes w' w.heap.size v (mvL W H pix x y 16 vx vy) ∧ Mod (fun _=>False) w w':=by
 have HI:=Lib.hid (And.intro h (And.intro hn hin))
 clear h hin hn
 obtain ⟨hvx1,hvx2⟩:=hvx
 obtain ⟨hvy1,hvy2⟩:=hvy
 have h0:=((Sat.nil (fun _=>False) w).alloc 38 #[.int .i64 (W:Int),.int .i64 (H:Int),.slice A n c] rfl).alloc (g:=w.heap.size + 1) 156 #[.int .i64 vx,.int .i64 vy] (by simp)
 have H0:=Lib.hid h0
 clear h0
 go_enter Tryz.func164,Tryz.ntmps164
 go_wp2_with fail
 refine (fPRight _ W H A n c HI.out.1 HI.out.2.1).mono ?_
 rintro e w1 ⟨rfl,hm1⟩
 have HS:=H0.out.quiet hm1
 obtain ⟨pc,pf⟩:=(HS.own_ 1 rfl).both
 obtain ⟨vc,vf⟩:=(HS.own_ 0 rfl).both
 have HG0:Hid (GrowS w w1 _ (.slice none 0 0) (rowTil (mvF W H pix x y 16 vx vy) (0 * 16))):=⟨World.ownsRow_nil _ _ _ _,HS⟩
 clear hm1 HS H0
 go_wp2_with fail
 refine (fSmall _ _ ⟨by omega,by omega⟩).mono ?_
 rintro e w2 ⟨rfl,rfl⟩
 go_wp2_with fail
 refine (fSmall _ _ ⟨by omega,by omega⟩).mono ?_
 rintro e w2 ⟨rfl,rfl⟩
 go_wp2_with fail
 refine (fSmall _ _ ⟨by omega,by omega⟩).mono ?_
 rintro e w2 ⟨rfl,rfl⟩
 go_wp2_with fail
 refine (fSmall _ _ ⟨by omega,by omega⟩).mono ?_
 rintro e w2 ⟨rfl,rfl⟩
 go_wp2_with fail
 go_loopw [14,15] (GB1 w _ (mvF W H pix x y 16 vx vy)) (fun _ s _=>16 - (intOf s).toNat)
 case atStart=>exact ⟨0,by omega,rfl,HG0.out⟩
 case round=>
  clear HG0 pc pf vc vf
  obtain ⟨j,hj,rfl,hG⟩:=hrel
  have HG:=Lib.hid hG
  clear hG
  by_cases hlt:j < 16
  ·have d1:decide ((j:Int) < 16) = true:=decide_eq_true (by omega)
   go_wp2_with fail
   go_loopw [14,16] (GB2 w _ (mvF W H pix x y 16 vx vy) j) (fun _ s _=>16 - (intOf s).toNat)
   case atStart=>exact ⟨0,by omega,rfl,HG.out⟩
   case round=>
    clear HG
    rename World=>w5
    obtain ⟨i,hi,rfl,hG⟩:=hrel
    by_cases hli:i < 16
    ·have d2:decide ((i:Int) < 16) = true:=decide_eq_true (by omega)
     obtain ⟨pc,pf⟩:=(hG.2.own_ 1 rfl).both
     obtain ⟨vc,vf⟩:=(hG.2.own_ 0 rfl).both
     have hff:smpN W H pix (2 * ((x:Int) + (i:Int)) + vx) (2 * ((y:Int) + (j:Int)) + vy) = (mvF W H pix x y 16 vx vy (j * 16 + i)).toNat:=(mvF_at _ _ _ _ _ _ _ _ _ _ hli).symm
     have HK:=Lib.hid (And.intro hG hff)
     clear hG hff
     go_wp2_with fail
     refine (fMvSample _ W H A n c pix HI.out.1 HI.out.2.1 (HI.out.2.2.quiet HK.out.1.2.mod) _ _ ⟨by omega,by omega⟩ ⟨by omega,by omega⟩).mono ?_
     rintro e w6 ⟨rfl,hm6⟩
     rw [HK.out.2]
     have HA:=Lib.hid (And.intro (HK.out.1.quiet hm6) ((HK.out.1.quiet hm6).2.mod.size))
     clear hm6 pc pf vc vf
     go_wp2_with (at_builtin;have _t:=HA;refine wpList_app_u8 _ rfl (.tmp 61) (.tmp 78) rfl w.heap.size _ (rowTil (mvF W H pix x y 16 vx vy) (j * 16 + i)) (mvF W H pix x y 16 vx vy (j * 16 + i)) rfl rfl HA.out.1.1 HA.out.2 (by rw [rowTil_length];omega) ?_;intro v7 w7 hown7 hM7 _ _;have HO:=Lib.hid (HA.out.1.app (by intro e he;simp at he;rcases he with rfl | rfl <;> (dsimp only;decide)) hown7 hM7);clear hown7 hM7)
     go_roundw
     case rel=>exact ⟨i + 1,by omega,by go_num,by rw [← Nat.add_assoc,rowTil_succ];exact HO.out⟩
     case measure=>simp [intOf];omega
    ·obtain rfl:i = 16:=by omega
     have HK:=Lib.hid hG
     clear hG
     go_wp2_with fail
     go_roundw
     case rel=>exact ⟨j + 1,by omega,by go_num,by rw [Nat.add_mul,Nat.one_mul];exact HK.out⟩
     case measure=>simp [intOf];omega
  ·obtain rfl:j = 16:=by omega
   go_wp2_with fail
   go_ret
   exact ⟨_,rfl,HG.out.1,HG.out.2.mod⟩
end Go.Proofs.YtmkopcojnibhlaaGreatDoor

