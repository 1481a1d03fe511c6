/-
  encoder.lay: a block is laid in a plane.
-/
import Derived.Test.YthednemlahioeaaGreatDoorH11
import Derived.Test.YthednemlahioeaaGreatDoorH2
import Derived.Test.YthednemlahioeaaGreatDoorH4
import Derived.OrdersHeld
namespace Go.Proofs.YthednemlahioeaaGreatDoor
open Go.RowKit
set_option maxRecDepth 100000
set_option maxHeartbeats 8000000
def ElRel (w:World) (p gq W x y:Nat) (pv:Array Value) (A:Option Addr) (c:Nat) (pix l:List UInt8) (v12:Value) (wr:World):Prop:=
 ∃ k:Nat,k ≤ 8 ∧ v12 = .int .i64 (k:Int) ∧ BytesIn wr A 64 c l ∧ Sat (· = gq) w wr [⟨p,56,pv⟩,⟨gq,5,(u8s (layTo W x y l pix k)).toArray⟩] []
theorem eLay (w:World) (W H n gq:Nat) (pix:List UInt8) (hsd:sidesB W H = true) (hn:n = W * H) (hq:Blk w gq 5 (u8s pix).toArray) (hql:pix.length = n) (x y:Nat) (hx:x + 8 ≤ W) (hy:y + 8 ≤ H)
  (A:Option Addr) (c:Nat) (l:List UInt8) (hin:BytesIn w A 64 c l) (hc:64 ≤ c) (hA:∀ ad,A = some ad → ad.block ≠ gq) :
  Calls Tryz.prog 295 #[.agg #[.int .i64 (W:Int),.int .i64 (H:Int),.slice (some ⟨gq,0,none⟩) n n],.int .i64 (x:Int),.int .i64 (y:Int),.slice A 64 c] w fun e w'=>e = .returned (.tuple #[]) ∧ Blk w' gq 5 (u8s (layTo W x y l pix 8)).toArray ∧ Mod (· = gq) w w':=by
 obtain ⟨hnle,_,hW,_,hH,_⟩:=area_le hsd
 rw [← hn] at hnle
 have hll:l.length = 64:=hin.1
 have HS0:=(Sat.own1 hq).alloc 56 #[.int .i64 (W:Int),.int .i64 (H:Int),.slice (some ⟨gq,0,none⟩) n n] rfl
 have hin0:=hin.quiet ((Mod.refl (fun _=>False) w).alloc (.cells #[.int .i64 (W:Int),.int .i64 (H:Int),.slice (some ⟨gq,0,none⟩) n n] 56))
 have H0:=Lib.hid (And.intro HS0 (And.intro hin0 (And.intro hn (And.intro hql (And.intro hA hll)))))
 obtain ⟨b,off,rfl,_⟩:=hin.place (by omega)
 clear HS0 hin0 hn hql hA hll hsd hq hin
 go_enter Tryz.func295,Tryz.ntmps295
 go_wp2_with fail
 go_loopw [12] (ElRel w w.heap.size gq W x y #[.int .i64 (W:Int),.int .i64 (H:Int),.slice (some ⟨gq,0,none⟩) n n] (some ⟨b,off,none⟩) c pix l) (fun s _=>8 - (intOf s).toNat)
 case atStart=>exact ⟨0,by omega,rfl,H0.out.2.1,H0.out.1⟩
 case round=>
  obtain ⟨k,hk,rfl,hin,HS⟩:=hrel
  rename World=>wr
  by_cases hlt:k < 8
  ·have d1:decide ((k:Int) < 8) = true:=decide_eq_true (by omega)
   have HSd:=HS.drew
   have pb:=HSd.own_ 0 rfl
   have hdst:=HSd.own_ 1 rfl
   dsimp only at pb hdst
   obtain ⟨pc,pf⟩:=pb.both
   obtain ⟨m,hm⟩:∃ m,m = (y + k) * W:=⟨_,rfl⟩
   have hmn:m + x + 8 ≤ n:=by rw [hm,H0.out.2.2.1];exact lay_in hx hy hlt
   obtain ⟨row,hrow⟩:∃ row,row = m + x:=⟨_,rfl⟩
   obtain ⟨k8,hk8⟩:∃ k8,k8 = k * 8:=⟨_,rfl⟩
   have eR:IntKind.i64.wrap (IntKind.i64.wrap (IntKind.i64.wrap ((y:Int) + (k:Int)) * (W:Int)) + (x:Int)) = (row:Int):=by
    rw [IntWalk.i64_in ((y:Int) + (k:Int)) ⟨by omega,by omega⟩,show ((y:Int) + (k:Int)) * (W:Int) = (m:Int) by rw [hm];push_cast;rfl,IntWalk.i64_in (m:Int) ⟨by omega,by omega⟩,IntWalk.i64_in _ ⟨by omega,by omega⟩,hrow]
    push_cast
    rfl
   have e2:IntKind.i64.wrap ((k:Int) * 8) = (k8:Int):=by rw [IntWalk.i64_in _ ⟨by omega,by omega⟩];omega
   have e3:IntKind.i64.wrap (IntKind.i64.wrap ((k:Int) + 1) * 8) = (k8:Int) + 8:=by rw [IntWalk.i64_in ((k:Int) + 1) ⟨by omega,by omega⟩,IntWalk.i64_in _ ⟨by omega,by omega⟩];omega
   have hr8:row + 8 ≤ n:=by omega
   have q1:(0:Int) ≤ (row:Int):=by omega
   have q2:(row:Int) ≤ (n:Int):=by omega
   have q4:¬ n = row:=by omega
   have q5:(0:Int) ≤ (k8:Int):=by omega
   have q6:(k8:Int) ≤ (k8:Int) + 8:=by omega
   have q7:(k8:Int) + 8 ≤ (c:Int):=by omega
   have q8:¬ c = k8:=by omega
   have hsrc:=((hin.quiet ((Mod.refl (fun _=>False) wr).drew)).part (lo:=k8) (m:=8) (by omega))
   have hll2:(layTo W x y l pix k).length = n:=(layTo_length hx hy (H0.out.2.2.2.1.trans H0.out.2.2.1) H0.out.2.2.2.2.2 k (by omega)).trans H0.out.2.2.1.symm
   have hfit:row + 8 ≤ (u8s (layTo W x y l pix k)).length:=by rw [u8s_length,hll2];omega
   have hlr:=lay_row H0.out.2.2.2.2.2 hlt
   rw [← hk8] at hlr
   have HY:=Lib.hid (And.intro hsrc (And.intro hdst (And.intro hfit hlr)))
   have HK:=Lib.hid (And.intro HSd (And.intro (hin.quiet ((Mod.refl (fun _=>False) wr).drew)) (And.intro hrow (And.intro hk8 hm))))
   clear hsrc hdst hll2 hfit hlr HS HSd hin hrow hk8 hm pb
   go_upto_region 4 with (fail)
   refine wp_region_plan [18] [] [0,1,2,3,4,5,6,7,8,9,10,11,12,13,14,15,16,17,18] (by kernel_rfl) (by kernel_rfl) (fun _ _ _ d _ h=>by cases d <;> exact h) ?_
   iterate 18 (refine plan_still rfl rfl (fun K hK=>?_);go_simp;refine hK _ ?_;clear hK K)
   refine plan_loud rfl rfl (fun K hK=>?_)
   refine step_copy_blk rfl (.tmp 25) (.tmp 32) _ _ rfl 5 Tryz.underlying54 (by kernel_rfl) (some ⟨gq,row,none⟩) (n - row) (n - row) (some ⟨b,off + k8,none⟩) 8 (c - k8) _ (by simp [Act.eval]) (by simp [Act.eval];omega) HY.out.1 gq row _ 5 HY.out.2.1 8 (Nat.min_eq_left (by omega:8 ≤ n - row)).symm (fun _=>rfl) HY.out.2.2.1 (u8s_one _) ?_
   intro w5 hb5 hm5
   have HB5:=Lib.hid (And.intro hb5 hm5)
   clear hb5 hm5
   refine hK _ _ ?_
   clear hK K
   refine plan_done ?_
   go_wp2_with fail
   go_roundw
   case rel=>
    have hb5:=HB5.out.1
    have hm5:=HB5.out.2
    rw [List.take_of_length_le (by rw [u8s_length,HY.out.2.2.2];exact Nat.le_refl _),u8s_splice] at hb5
    have hly:layTo W x y l pix (k + 1) = splice (layTo W x y l pix k) row (List.take 8 (List.drop k8 l)):=by
     show splice _ _ _ = _
     rw [HK.out.2.2.1,HK.out.2.2.2.1,HK.out.2.2.2.2]
    refine ⟨k + 1,by omega,by go_num,HK.out.2.1.mod hm5 (by intro _ ad e;exact H0.out.2.2.2.2.1 ad e),?_⟩
    rw [hly]
    exact Sat.turn hm5 HK.out.1 hb5 (.there .here)
   case measure=>simp [intOf];omega
  ·obtain rfl:k = 8:=by omega
   have HK:=Lib.hid HS
   clear HS
   go_wp2_with fail
   go_end0
   exact ⟨rfl,HK.out.own_ 1 rfl,HK.out.mod⟩
theorem mSize (w:World) (v:Int) (hv:-1073741824 ≤ v ∧ v ≤ 1073741824):Calls Tryz.prog 389 #[.int .i64 v] w fun e w'=>e = .returned (.int .i64 ((v.natAbs:Nat):Int)) ∧ w = w':=by
 obtain ⟨hv1,hv2⟩:=hv
 have hw:IntKind.i64.wrap (-v) = -v:=IntWalk.i64_in _ ⟨by omega,by omega⟩
 have e1:max v (-v) = ((v.natAbs:Nat):Int):=by omega
 have HE:=Lib.hid e1
 clear e1
 by_cases h:v < 0
 ·have e2:max v (-v) = -v:=by omega
  go_enter Tryz.func389,Tryz.ntmps389
  go_wp2_with fail
  go_ret
  exact ⟨by rw [← HE.out,e2];rfl,rfl⟩
 ·have e2:max v (-v) = v:=by omega
  go_enter Tryz.func389,Tryz.ntmps389
  go_wp2_with fail
  go_ret
  exact ⟨by rw [← HE.out,e2];rfl,rfl⟩
def farTo (a b:List UInt8):Nat → Nat
 | 0=>0
 | k + 1=>farTo a b k + (((a.getD k 0).toNat:Int) - ((b.getD k 0).toNat:Int)).natAbs
theorem farTo_le (a b:List UInt8) (k:Nat):farTo a b k ≤ k * 255:=by
 induction k with
 | zero=>exact Nat.le_refl _
 | succ k ih=>
  have hx:(a.getD k 0).toNat < 256:=UInt8.toNat_lt _
  have hy:(b.getD k 0).toNat < 256:=UInt8.toNat_lt _
  unfold farTo
  omega
def FarRel (a b:List UInt8) (n:Nat) (w:World) (v3 v7:Value) (wr:World):Prop:=∃ k:Nat,k ≤ n ∧ v7 = .int .i64 (k:Int) ∧ v3 = .int .i64 ((farTo a b k:Nat):Int) ∧ w = wr
theorem mApart (w:World) (A:Option Addr) (n c:Nat) (a:List UInt8) (A2:Option Addr) (c2:Nat) (b:List UInt8) (hin:BytesIn w A n c a) (hin2:BytesIn w A2 n c2 b) (hn0:0 < n) (hn:n ≤ 4096) :
  Calls Tryz.prog 344 #[.slice A n c,.slice A2 n c2] w fun e w'=>e = .returned (.int .i64 ((farTo a b n:Nat):Int)) ∧ w = w':=by
 obtain ⟨ba,oa,rfl,hba,hca⟩:=hin.place hn0
 obtain ⟨bb,ob2,rfl,hbb,hcb⟩:=hin2.place hn0
 have HC:=Lib.hid (And.intro hca hcb)
 clear hca hcb hin hin2
 go_enter Tryz.func344,Tryz.ntmps344
 go_wp2_with fail
 go_loopw [5,10] (FarRel a b n w) (fun _ i _=>n - (intOf i).toNat)
 case atStart=>exact ⟨0,by omega,rfl,rfl,rfl⟩
 case round=>
  obtain ⟨k,hk,rfl,rfl,rfl⟩:=hrel
  by_cases hlt:k < n
  ·have hck:=HC.out.1 k hlt
   have hck2:=HC.out.2 k hlt
   have hx:(a.getD k 0).toNat < 256:=UInt8.toNat_lt _
   have hy:(b.getD k 0).toNat < 256:=UInt8.toNat_lt _
   have hfl:=farTo_le a b k
   have HF:Hid (farTo a b (k + 1) = farTo a b k + (((a.getD k 0).toNat:Int) - ((b.getD k 0).toNat:Int)).natAbs):=rfl
   generalize (a.getD k 0).toNat = x at *
   generalize (b.getD k 0).toNat = y at *
   generalize farTo a b k = s at *
   have i1:(0:Int) ≤ (k:Int):=by omega
   have i2:(k:Int) < (n:Int):=by omega
   go_wp2_with fail
   refine (mSize _ _ ⟨by omega,by omega⟩).mono ?_
   rintro e w5 ⟨rfl,rfl⟩
   obtain ⟨z,hz⟩:∃ z,z = ((x:Int) - (y:Int)).natAbs:=⟨_,rfl⟩
   have hz8:z < 256:=by omega
   rw [← hz]
   rw [← hz] at HF
   have HZ:=Lib.hid hz
   clear hz
   go_wp2_with fail
   go_roundw
   case rel=>exact ⟨k + 1,by omega,by go_num,by rw [HF.out];go_num,rfl⟩
   case measure=>simp [intOf];omega
  ·obtain rfl:k = n:=by omega
   go_wp2_with fail
   go_ret
   exact ⟨rfl,rfl⟩
end Go.Proofs.YthednemlahioeaaGreatDoor

namespace Go.Proofs.YthednemlahioeaaGreatDoor
set_option maxRecDepth 100000
set_option maxHeartbeats 8000000
section
variable {P : Program} {ops : Array Oper} {md : Region.Mode} {loud pure_ : List Nat} {S : World → Prop} {Q : Exit → Act → World → Prop}
def wpY (P:Program) (md:Region.Mode) (ops:Array Oper) (loud:List Nat) (S:World → Prop) (Q:Exit → Act → World → Prop):Nat → Array Bool → Act → World → Prop
 | 0,listed,a,w=>Region.ready md ops listed = [] ∧ Q .normal a w
 | f + 1,listed,a,w=>(Region.ready md ops listed = [] → Q .normal a w) ∧ ∀ i ∈ Region.ready md ops listed,
   if i ∈ loud then wpOp P ops Q i (fun a' w'=>S w' ∧ wpY P md ops loud S Q f (listed.setIfInBounds i true) a' w') a w
   else stOp P ops w i (fun a'=>wpY P md ops loud S Q f (listed.setIfInBounds i true) a' w) a
theorem wpY_any:∀ (f:Nat) (listed:Array Bool) (a:Act) (w:World),wpY P md ops loud S Q f listed a w → wpAny P md ops Q f listed a w
 | 0,_,_,_,h=>h
 | f + 1,listed,a,w,h=>⟨h.1,fun i hi=>by
   have h2:=h.2 i hi
   split at h2
   ·exact wpOp_mono (fun a' w' h'=>wpY_any f _ a' w' h'.2) h2
   ·exact wpOp_of_stOp (fun a' h'=>wpY_any f _ a' w h') h2⟩
theorem wpY_still {B:Array Nat} (hB:waitB md ops B = true) (hsel:∀ (j:Nat) (o:Oper) cs b,ops[j]? = some o → o.op ≠ .select cs b) {i:Nat} {oi:Oper} {v:Value} (hi:ops[i]? = some oi) (hil:i ∉ loud) {w:World} :
  ∀ (f:Nat) (listed:Array Bool) (a:Act),(∀ j ∈ loud,(B.getD j 0).testBit i = true ∨ listed.getD j true = true) → Closed md ops listed →
   (∀ j oj,ops[j]? = some oj → j ≠ i → listed.getD j true = false → (∀ e ∈ oj.after,Region.binds md e = true → e.on ≠ i) → oi.apart ops oj = true) →
   i ∈ Region.ready md ops listed → YieldsAt P ops w oi v a →
   wpY P md ops loud S Q f (listed.setIfInBounds i true) (a.put oi.dst v) w → wpY P md ops loud S Q (f + 1) listed a w:=by
 intro f
 induction f with
 | zero=>
  intro listed a _ hc hfree hr hy H
  refine ⟨fun h=>(by rw [h] at hr;cases hr),fun j hj=>?_⟩
  obtain rfl:=ready_set_nil H.1 hj
  rw [if_neg hil]
  exact hy.stOp hi H
 | succ f ih=>
  intro listed a hw hc hfree hr hy H
  refine ⟨fun h=>(by rw [h] at hr;cases hr),fun j hj=>?_⟩
  by_cases hji:j = i
  ·subst hji
   rw [if_neg hil]
   exact hy.stOp hi H
  ·obtain ⟨hjun,oj,hoj,hall⟩:=mem_ready.1 hj
   have hjl:j ∉ loud:=fun hjl=>by
    rcases hw j hjl with h | h
    ·have h2:=waits_listed hB hc j j (Nat.le_refl _) oj hoj hall i (Array.getElem?_eq_some_iff.1 hi).1 h
     rw [getD_both (mem_ready.1 hr).1] at h2
     cases h2
    ·rw [hjun] at h
     cases h
   have h1:=H.2 j (ready_mono hj hji)
   rw [if_neg hjl] at h1 ⊢
   refine stOp_mono (fun a' h3=>ih (listed.setIfInBounds j true) a' (fun k hk=>(hw k hk).imp id getD_keep) (hc.set hj) (free_set hfree hjun) (ready_mono hr (Ne.symm hji)) h3.1 ?_)
    (stOp_put hoj (hfree j oj hoj hji hjun (not_waiting hr hall)) (fun cs b=>hsel i oi cs b hi) (fun cs b=>hsel j oj cs b hoj) hy h1)
   rw [Array.setIfInBounds_comm _ _ hji]
   exact h3.2
theorem stOp_putIf {j:Nat} {oi oj:Oper} {v:Value} {w:World} (hj:ops[j]? = some oj) (hap:oi.apart ops oj = true)
  (hsi:∀ cs b,oi.op ≠ .select cs b) (hsj:∀ cs b,oj.op ≠ .select cs b) {K:Act → Prop} {a:Act}
  (hy:YieldsIf P ops S oi v a) (h:stOp P ops w j K (a.put oi.dst v)) :
  stOp P ops w j (fun a'=>YieldsIf P ops S oi v a' ∧ K (a'.put oi.dst v)) a:=by
 obtain ⟨h1,h2,h3⟩:=Oper.apart_spec hap
 have keep:∀ u,YieldsIf P ops S oi v (a.put oj.dst u):=fun u=>hy.of_same (execOp_put oi hsi a oj.dst u h3) (wanted_put oi a oj.dst u h3)
 unfold stOp at *
 simp only [hj] at *
 rw [wanted_put oj a oi.dst v h1] at h
 split
 ·rename_i hw
  simp only [hw,if_true] at h
  unfold Oper.still at *
  rw [execOp_put oj hsj a oi.dst v h1] at h
  generalize (execOp a.eval oj).run P w = r at *
  cases r with
  | ok n w'=>
   cases n <;> simp only [Oper.stillUpon] at h ⊢
   case value u=>exact ⟨h.1,keep u,by rw [← Act.put_comm a v u h2];exact h.2⟩
   case skip=>exact ⟨h.1,keep _,by rw [← Act.put_comm a v undef h2];exact h.2⟩
   case enter f args=>obtain ⟨hw',u,hc,hn⟩:=h;exact ⟨hw',u,hc,keep u,by rw [← Act.put_comm a v u h2];exact hn⟩
  | halt x w'=>simp only [Oper.stillUpon] at h
 ·rename_i hw
  simp only [hw] at h
  exact ⟨keep _,by rw [← Act.put_comm a v undef h2];exact h⟩
theorem wpY_if (hsel:∀ (j:Nat) (o:Oper) cs b,ops[j]? = some o → o.op ≠ .select cs b) {i:Nat} {oi:Oper} {v:Value} (hi:ops[i]? = some oi) (hil:i ∉ loud)
  (hQ:∀ c a w d u,Q (.panic c) (a.put d u) w → Q (.panic c) a w) :
  ∀ (f:Nat) (listed:Array Bool) (a:Act) (w:World),S w →
   (∀ j oj,ops[j]? = some oj → j ≠ i → listed.getD j true = false → (∀ e ∈ oj.after,Region.binds md e = true → e.on ≠ i) → oi.apart ops oj = true) →
   i ∈ Region.ready md ops listed → YieldsIf P ops S oi v a →
   wpY P md ops loud S Q f (listed.setIfInBounds i true) (a.put oi.dst v) w → wpY P md ops loud S Q (f + 1) listed a w:=by
 have here:∀ {K:Act → Prop} {a:Act} {w:World},S w → YieldsIf P ops S oi v a → K (a.put oi.dst v) → stOp P ops w i K a:=fun {K a w} hS hy h=>by
  unfold stOp
  simp only [hi]
  rcases hy with ⟨hw,hv⟩ | ⟨hw,rfl⟩
  ·simp only [hw,if_true,Oper.still,hv w hS,Oper.stillUpon];exact ⟨trivial,h⟩
  ·simp only [hw,Bool.false_eq_true,if_false];exact h
 intro f
 induction f with
 | zero=>
  intro listed a w hS hfree hr hy H
  refine ⟨fun h=>(by rw [h] at hr;cases hr),fun j hj=>?_⟩
  obtain rfl:=ready_set_nil H.1 hj
  rw [if_neg hil]
  exact here hS hy H
 | succ f ih=>
  intro listed a w hS hfree hr hy H
  refine ⟨fun h=>(by rw [h] at hr;cases hr),fun j hj=>?_⟩
  by_cases hji:j = i
  ·subst hji
   rw [if_neg hil]
   exact here hS hy H
  ·obtain ⟨hjun,oj,hoj,hall⟩:=mem_ready.1 hj
   have h1:=H.2 j (ready_mono hj hji)
   split
   ·rename_i hjl
    rw [if_pos hjl] at h1
    refine wpOp_mono (fun a' w' h3=>⟨h3.2.1,ih (listed.setIfInBounds j true) a' w' h3.2.1 (free_set hfree hjun) (ready_mono hr (Ne.symm hji)) h3.1 ?_⟩)
     (wpOp_putIf hoj (hfree j oj hoj hji hjun (not_waiting hr hall)) (fun cs b=>hsel i oi cs b hi) (fun cs b=>hsel j oj cs b hoj) (fun c a w h=>hQ c a w _ _ h) hy h1)
    rw [Array.setIfInBounds_comm _ _ hji]
    exact h3.2.2
   ·rename_i hjl
    rw [if_neg hjl] at h1
    refine stOp_mono (fun a' h3=>ih (listed.setIfInBounds j true) a' w hS (free_set hfree hjun) (ready_mono hr (Ne.symm hji)) h3.1 ?_)
     (stOp_putIf hoj (hfree j oj hoj hji hjun (not_waiting hr hall)) (fun cs b=>hsel i oi cs b hi) (fun cs b=>hsel j oj cs b hoj) hy h1)
    rw [Array.setIfInBounds_comm _ _ hji]
    exact h3.2
def wpPlanS (P:Program) (ops:Array Oper) (loud pure_:List Nat) (S:World → Prop) (Q:Exit → Act → World → Prop):List Nat → Act → World → Prop
 | [],a,w=>Q .normal a w
 | i :: is,a,w=>if loud.contains i then wpOp P ops Q i (fun a' w'=>S w' ∧ wpPlanS P ops loud pure_ S Q is a' w') a w
  else if pure_.contains i then ∃ o v,ops[i]? = some o ∧ YieldsIf P ops S o v a ∧ wpPlanS P ops loud pure_ S Q is (a.put o.dst v) w
  else stOp P ops w i (fun a'=>wpPlanS P ops loud pure_ S Q is a' w) a
theorem wpY_plan {B:Array Nat} (hB:waitB md ops B = true) (hs:Region.noSelect ops = true) (hQ:∀ c a w d u,Q (.panic c) (a.put d u) w → Q (.panic c) a w) :
  ∀ (is:List Nat) (listed:Array Bool) (a:Act) (w:World),S w → Closed md ops listed → planOk md ops loud pure_ B is listed = true → wpPlanS P ops loud pure_ S Q is a w → wpY P md ops loud S Q is.length listed a w
 | [],listed,a,w,_,hc,hp,h=>⟨by simpa [planOk] using hp,h⟩
 | i :: is,listed,a,w,hS,hc,hp,h=>by
  simp only [planOk,Bool.and_eq_true] at hp
  obtain ⟨h1,h2⟩:=hp
  unfold wpPlanS at h
  by_cases hl:loud.contains i = true
  ·rw [if_pos hl,decide_eq_true_eq] at h1
   rw [if_pos hl] at h
   have hr:i ∈ Region.ready md ops listed:=by rw [h1];simp
   refine ⟨fun h0=>(by rw [h0] at hr;cases hr),fun j hj=>?_⟩
   rw [h1] at hj
   obtain rfl:j = i:=by simpa using hj
   rw [if_pos (by simpa using hl)]
   exact wpOp_mono (fun a' w' h'=>⟨h'.1,wpY_plan hB hs hQ is _ a' w' h'.1 (hc.set hr) h2 h'.2⟩) h
  ·rw [if_neg hl] at h1 h
   simp only [Bool.and_eq_true,Bool.or_eq_true,List.all_eq_true] at h1
   obtain ⟨⟨hr,hf⟩,hw⟩:=h1
   have hr':i ∈ Region.ready md ops listed:=by simpa using hr
   have hil:i ∉ loud:=by simpa using hl
   by_cases hpu:pure_.contains i = true
   ·rw [if_pos hpu] at h
    obtain ⟨o,v,ho,hy,hk⟩:=h
    exact wpY_if (Region.noSelect_spec hs) ho hil hQ is.length listed a w hS (Region.free_spec ho hf) hr' hy (wpY_plan hB hs hQ is _ _ w hS (hc.set hr') h2 hk)
   ·rw [if_neg hpu] at h
    have hw':=hw.resolve_left hpu
    obtain ⟨_,o,ho,_⟩:=mem_ready.1 hr'
    obtain ⟨v,hy,hk⟩:=yieldsAt_of_stOp ho h
    exact wpY_still hB (Region.noSelect_spec hs) ho hil is.length listed a (fun j hj=>by simpa using hw' j hj) hc (Region.free_spec ho hf) hr' hy (wpY_plan hB hs hQ is _ _ w hS (hc.set hr') h2 hk)
theorem wp_region_planS0 {id:Nat} {a:Act} {w:World} (loud pure_ is:List Nat) (S:World → Prop) (hm:P.follows .mixedOrders = true) (hB:planB ops loud pure_ is = true)
  (hQ:∀ c a w d u,Q (.panic c) (a.put d u) w → Q (.panic c) a w) (hS:S w.drew) (h:wpPlanS P ops loud pure_ S Q is a w.drew):(Code.region id ops true).wp P Q a w:=by
 simp only [planB,Bool.and_eq_true,decide_eq_true_eq] at hB
 obtain ⟨⟨⟨hs,hw⟩,hl⟩,hp⟩:=hB
 refine wp_region_any hm ?_
 have:=wpY_any _ _ _ _ (wpY_plan (md:=.any) hw hs hQ is _ a w.drew hS (fun j oj _ hl=>by rw [getD_replicate_false] at hl;cases hl) hp h)
 rw [hl] at this
 exact this
theorem planS0_still {i:Nat} {is:List Nat} {o:Oper} {a:Act} {w:World} (hl:(loud.contains i || pure_.contains i) = false) (ho:ops[i]? = some o)
  (h:∀ K:Act → Prop,(∀ a',wpPlanS P ops loud pure_ S Q is a' w → K a') → if Region.wanted o (yielded ops a.tmps) then o.still P a w K else K (a.put o.dst undef)):wpPlanS P ops loud pure_ S Q (i :: is) a w:=by
 rw [Bool.or_eq_false_iff] at hl
 unfold wpPlanS
 rw [if_neg (by simpa using hl.1),if_neg (by simpa using hl.2)]
 unfold stOp
 simp only [ho]
 exact h _ (fun a' h'=>h')
theorem planS0_loud {i:Nat} {is:List Nat} {o:Oper} {a:Act} {w:World} (hl:loud.contains i = true) (ho:ops[i]? = some o)
  (h:∀ K:Act → World → Prop,(∀ a w,S w → wpPlanS P ops loud pure_ S Q is a w → K a w) → if Region.wanted o (yielded ops a.tmps) = true then Oper.wp P o a w K Q else K (a.put o.dst undef) w):wpPlanS P ops loud pure_ S Q (i :: is) a w:=by
 unfold wpPlanS
 rw [if_pos hl]
 exact wpOp_step ho (fun K hK=>h K (fun a w h1 h2=>hK a w ⟨h1,h2⟩))
theorem planS0_done {a:Act} {w:World} (h:Q .normal a w):wpPlanS P ops loud pure_ S Q [] a w:=h
structure PlanG (P:Program) (ops:Array Oper) (loud pure_:List Nat) (S:World → Prop) (Q:Exit → Act → World → Prop) (is:List Nat) (a:Act) (w:World):Prop where
 out:wpPlanS P ops loud pure_ S Q is a w
theorem wp_region_planS {id:Nat} {a:Act} {w:World} (loud pure_ is:List Nat) (S:World → Prop) (hm:P.follows .mixedOrders = true) (hB:planB ops loud pure_ is = true)
  (hQ:∀ c a w d u,Q (.panic c) (a.put d u) w → Q (.panic c) a w) (hS:S w.drew) (h:PlanG P ops loud pure_ S Q is a w.drew):(Code.region id ops true).wp P Q a w:=
 wp_region_planS0 loud pure_ is S hm hB hQ hS h.out
theorem planS_still {i:Nat} {is:List Nat} {o:Oper} {a:Act} {w:World} (hl:(loud.contains i || pure_.contains i) = false) (ho:ops[i]? = some o)
  (h:∀ K:Act → Prop,(∀ a',PlanG P ops loud pure_ S Q is a' w → K a') → if Region.wanted o (yielded ops a.tmps) then o.still P a w K else K (a.put o.dst undef)):PlanG P ops loud pure_ S Q (i :: is) a w:=
 ⟨planS0_still hl ho (fun K hK=>h K (fun a' h'=>hK a' h'.out))⟩
theorem planS_loud {i:Nat} {is:List Nat} {o:Oper} {a:Act} {w:World} (hl:loud.contains i = true) (ho:ops[i]? = some o)
  (h:∀ K:Act → World → Prop,(∀ a w,S w → PlanG P ops loud pure_ S Q is a w → K a w) → if Region.wanted o (yielded ops a.tmps) = true then Oper.wp P o a w K Q else K (a.put o.dst undef) w):PlanG P ops loud pure_ S Q (i :: is) a w:=
 ⟨planS0_loud hl ho (fun K hK=>h K (fun a w h1 h2=>hK a w h1 h2.out))⟩
theorem planS_done {a:Act} {w:World} (h:Q .normal a w):PlanG P ops loud pure_ S Q [] a w:=⟨planS0_done h⟩
end
end Go.Proofs.YthednemlahioeaaGreatDoor
