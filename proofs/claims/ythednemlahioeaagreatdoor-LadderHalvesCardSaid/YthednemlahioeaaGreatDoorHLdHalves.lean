/-
  kinoralaw15.LadderHalves: the row, and its tied card.
-/
import Derived.Test.YthednemlahioeaaGreatDoorH39
import Derived.Test.YthednemlahioeaaGreatDoorCards
import Derived.Test.YthednemlahioeaaGreatDoorTie
import Derived.SevenTiedAt
import Derived.Deep.DeepHandedRow
import Derived.Deep.DeepWitnessRowRef
import Derived.ProofKit
import Derived.OpenShut
import Derived.ShutString
import Derived.ChangeOld
import Derived.JoinedCond
import Derived.SizedLaws
import Derived.Lib.SmallJoins
import Derived.Laws.IdiomArrays
namespace Go.Proofs.YthednemlahioeaaGreatDoor.ladderHalves
open Go.ChangeShapes Go.WideShapes Go.ChangeAt Go.RowKit Go.Joins 
open Go.ChangeMaps (open_string)
set_option maxRecDepth 100000
set_option maxHeartbeats 8000000
theorem own:ownKnob Tryz.prog.godebug = none:=by kernel_rfl
theorem laidOut:laidOutB Tryz.prog = true:=by kernel_rfl
theorem witness_row (os:Os) {H:Type} (enc:TypeId × Value → H) :
  (OpenSpec.ofChange Rows.ladderHalvesSpec).preRow enc Tryz.prog Tryz.f5 Rows.ladderHalvesRow.domain false Rows.ladderHalvesRow.laid ((laidWorld os).forCall (fun _ _=>0) ⟨#[],#[.slice none 0 0,.int .i64 0,.agg #[.string ⟨#[]⟩,.int .i64 0,.int .i64 0,.int .i64 0]],[]⟩).memory #[.slice none 0 0,.int .i64 0,.agg #[.string ⟨#[]⟩,.int .i64 0,.int .i64 0,.int .i64 0]]:=by
 have hw:(DataW.whole enc Tryz.prog ((laidWorld os).forCall (fun _ _=>0) ⟨#[],#[.slice none 0 0,.int .i64 0,.agg #[.string ⟨#[]⟩,.int .i64 0,.int .i64 0,.int .i64 0]],[]⟩).memory Tryz.f5.params.toList (OpenSpec.ofChange Rows.ladderHalvesSpec).vars false #[.slice none 0 0,.int .i64 0,.agg #[.string ⟨#[]⟩,.int .i64 0,.int .i64 0,.int .i64 0]].toList 8).map (fun x=>(x.1,x.2.1)) =
   some ([.nil,.lit (.int .i64 0),.agg [.lit (.string []),.lit (.int .i64 0),.lit (.int .i64 0),.lit (.int .i64 0)]],[]):=by kernel_rfl
 obtain ⟨⟨x1,x2,x3⟩,hx,hx1⟩:=Option.map_eq_some_iff.1 hw
 simp only [Prod.mk.injEq] at hx1
 obtain ⟨rfl,rfl⟩:=hx1
 exact OpenSpec.preRow_of_cond 8 hx (by kernel_rfl) (fun k hk=>by cases hk) (by kernel_rfl) (laid_met os _)
theorem lifted (os:Os) (started:os.Started) (H:Type) (enc:TypeId × Value → H) (F:Stop.Interp) :
  ReturnsInHanded {} Tryz.checked os 5 .any ((OpenSpec.ofChange Rows.ladderHalvesSpec).preRow enc Tryz.prog Tryz.f5 Rows.ladderHalvesRow.domain false Rows.ladderHalvesRow.laid) (((OpenSpec.ofChange Rows.ladderHalvesSpec).at F).post enc Tryz.prog Tryz.f5 false true false false):=by
 refine returnsInHanded_of_row (C:=Tryz.checked) (s:=(OpenSpec.ofChange Rows.ladderHalvesSpec)) own started (by kernel_rfl) Tryz.func5
  (witness_row_atRef (enc:=enc) (C:=Tryz.checked) false (laidWorld os) #[.slice none 0 0,.int .i64 0,.agg #[.string ⟨#[]⟩,.int .i64 0,.int .i64 0,.int .i64 0]] rfl (by kernel_rfl) (by kernel_rfl) (by kernel_rfl) (witness_row os enc)) ?_
 intro W base args ds gs before hval0 hW _ _ _ hL _ _
 have hval:∀ (j:Nat) t v,Tryz.f5.params[j]? = some t → args[j]? = some v → Value.okWide Tryz.prog W .any base t v:=hval0
 have hW':=hW
 obtain ⟨p,q,hA0,hV,rfl,_,_⟩:=hW
 have hA:DataW.TrodAll enc Tryz.prog W 0 (fun _=>true) true Tryz.f5.params.toList args.toList ds p:=hA0
 rw [Tryz.params5] at hA hval
 obtain ⟨v0,vs0,d0,ds0,p0,q0,hargs,rfl,rfl,h0,r0⟩:=trodAll_cons hA
 obtain ⟨v1,vs1,d1,ds1,p1,q1,rfl,rfl,rfl,h1,r1⟩:=trodAll_cons r0
 obtain ⟨v2,vs2,d2,ds2,p2,q2,rfl,rfl,rfl,h2,r2⟩:=trodAll_cons r1
 obtain ⟨rfl,rfl,rfl⟩:=trodAll_nil r2
 obtain rfl:args = #[v0,v1,v2]:=by cases args;simp_all
 obtain ⟨rfl,rfl⟩:=trodVars_none hV
 have k0:=h0
 have lt0:∀ x ∈ p0,x.block < W.heap.size:=by obtain ⟨m,hm⟩:=k0;exact DataW.trod_lt m _ _ _ hm
 have k1:=h1
 have lt1:∀ x ∈ p1,x.block < W.heap.size:=by obtain ⟨m,hm⟩:=k1;exact DataW.trod_lt m _ _ _ hm
 have k2:=h2
 have lt2:∀ x ∈ p2,x.block < W.heap.size:=by obtain ⟨m,hm⟩:=k2;exact DataW.trod_lt m _ _ _ hm
 have he:EnvP W:=env_of_laid (laid_plain hL)
 obtain ⟨A,n,c,fs,rfl,hn,hin⟩:=open_frs (hval 0 _ v0 rfl rfl) k0
 obtain ⟨hnc,hc⟩:=frs_cap k0
 obtain ⟨og,rfl,rfl,rfl,_⟩:=open_int Tryz.underlying3 (hval 1 _ v1 rfl rfl) k1
 obtain ⟨⟨nm,dn,q,tg⟩,rfl,hnm,hd1,hd2⟩:=open_rung (hval 2 _ v2 rfl rfl) k2
 have hw:Calls Tryz.prog 5 #[.slice A n c,.int .i64 og,.agg #[.string (strOf nm),.int .i64 dn,.int .i64 q,.int .i64 tg]] W fun e W'=>e = .returned (.bool true) ∧ Below W.heap.size W W':=by
  refine (ladderHalves_walk W he A n c fs hin hnc hc og nm dn q tg hnm hd1 hd2).mono ?_
  rintro e W' ⟨h1,h2⟩
  exact ⟨h1,h2.below (fun _ h=>h.elim)⟩
 clear hA0 hval0
 refine (hw).mono fun e W' ⟨he,bel⟩=>?_
 subst he
 exact ⟨_,rfl,_,_,_,[],_,[],hW',trodAll_mk1 (shut_bool Tryz.underlying4 _),(trodAll_cons_mk (Below.trod laidOut (by kernel_rfl) (of_decide_eq_true (by kernel_rfl)) k0 bel lt0) (trodAll_cons_mk (Below.trod laidOut (by kernel_rfl) (of_decide_eq_true (by kernel_rfl)) k1 bel lt1) (trodAll_cons_mk (Below.trod laidOut (by kernel_rfl) (of_decide_eq_true (by kernel_rfl)) k2 bel lt2) trodAll_mk0))),rfl,bel.frame _,fun h=>by cases h⟩
theorem row_holds:Rows.LadderHalvesSaid:=
 OpenClaim.holds_of_cond 5 Tryz.f5 rfl rfl rfl rfl rfl rfl rfl ⟨rfl,rfl,rfl,rfl,rfl⟩ rfl rfl rfl rfl rfl (by kernel_rfl) Tryz.func5 joined
  (of_decide_eq_true (by kernel_rfl)) (by unfold Func.isWrapper;first | (rw [if_pos (by decide +kernel)];kernel_rfl) | (rw [if_neg (by decide +kernel)];exact ⟨rfl,rfl⟩))
  (fun os started H enc _ F=>by rw [OpenClaim.pre_eq_preRow];exact lifted os started H enc F)
theorem proved:Rows.LadderHalvesCardSaid:=
 Claim7.holds_tied_plain_at .later [] [.data] true (true, "0901637a7163c00ab74897054a05ebfc26105b53c584f0ed4435d1a232147e76") true
  row_holds (fun _ h=>by cases h) f_wf (fun _ h=>by cases h) ladderHalves_row_tie rfl ⟨rfl,rfl⟩ f_main rfl
  (fun f fn hf hfn=>by
   obtain rfl:f = 5:=Option.some.inj (f_named.symm.trans hf) |>.symm
   obtain rfl:fn = Tryz.f5:=(Option.some.inj (Tryz.func5.symm.trans hfn)).symm
   exact ⟨f_looks,fun j t ht=>by
    rw [Tryz.params5] at ht
    rcases j with _ | j
    ·obtain rfl:29 = t:=by simpa using ht
     exact (show Tryz.prog.wantsStandIn 29 = false by kernel_rfl)
    rcases j with _ | j
    ·obtain rfl:3 = t:=by simpa using ht
     exact (show Tryz.prog.wantsStandIn 3 = false by kernel_rfl)
    rcases j with _ | j
    ·obtain rfl:38 = t:=by simpa using ht
     exact (show Tryz.prog.wantsStandIn 38 = false by kernel_rfl)
    simp at ht⟩)
  f_goes
#print axioms proved
end Go.Proofs.YthednemlahioeaaGreatDoor.ladderHalves
