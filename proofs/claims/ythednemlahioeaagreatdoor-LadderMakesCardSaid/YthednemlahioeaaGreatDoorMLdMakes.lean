/-
  kinoralaw15.LadderMakes: the row, and its tied card.
-/
import Derived.Test.YthednemlahioeaaGreatDoorM39
import Derived.SizedLaws
namespace Go.Proofs.YthednemlahioeaaGreatDoor.ladderMakes
open Go.ChangeShapes Go.WideShapes Go.ChangeAt Go.RowKit Go.Joins 
open Go.ChangeMaps (open_string)
open Go.Proofs.Tryz
set_option maxRecDepth 100000
set_option maxHeartbeats 8000000
theorem own:ownKnob Tryz.prog.godebug=none:=ZR
theorem laidOut:laidOutB prog=true:=ZR
theorem witness_row(os:Os){H:Type}(enc:TypeId × Value->H):
  (OpenSpec.ofChange Rows.ladderMakesSpec).preRow enc prog Tryz.f4 Rows.ladderMakesRow.domain false Rows.ladderMakesRow.laid ((J9 os).forCall (fun _ _=>0) ⟨#[],#[.slice none 0 0,.int .i64 0,.slice none 0 0],[]⟩).memory #[.slice none 0 0,.int .i64 0,.slice none 0 0]:=by
 have hw:(DataW.whole enc prog ((J9 os).forCall (fun _ _=>0) ⟨#[],#[.slice none 0 0,.int .i64 0,.slice none 0 0],[]⟩).memory Tryz.f4.params.toList (OpenSpec.ofChange Rows.ladderMakesSpec).vars false #[.slice none 0 0,.int .i64 0,.slice none 0 0].toList 8).map (fun x=>(x.1,x.2.1)) =
   some ([.nil,.lit (.int .i64 0),.nil],[]):=by kernel_rfl
 obtain⟨⟨x1,x2,x3⟩,hx,hx1⟩:=Option.map_eq_some_iff.1 hw;simp only [Prod.mk.injEq]at hx1;obtain⟨rfl,rfl⟩:=hx1;exact OpenSpec.preRow_of_cond 8 hx (by kernel_rfl) (fun k hk=>by cases hk) (by kernel_rfl) (adr os _)
theorem lifted(os:Os)(started:os.Started)(H:Type)(enc:TypeId × Value->H)(F:Stop.Interp):
  ReturnsInHanded {} checked os 4 .any ((OpenSpec.ofChange Rows.ladderMakesSpec).preRow enc prog Tryz.f4 Rows.ladderMakesRow.domain false Rows.ladderMakesRow.laid) (((OpenSpec.ofChange Rows.ladderMakesSpec).at F).post enc prog Tryz.f4 false true false false):=by
 refine returnsInHanded_of_row (C:=checked) (s:=(OpenSpec.ofChange Rows.ladderMakesSpec)) own started ZR func4
  (witness_row_atRef (enc:=enc) (C:=checked) false (J9 os) #[↑Zd,↑Z0,↑Zd] rfl ZR ZR ZR (witness_row os enc)) ?_
 intro W base args ds gs before fB hW _ _ _ hL _ _;have hval:∀(j:Nat) t v,Tryz.f4.params[j]?=some t->args[j]?=some v->Value.okWide prog W .any base t v:=fB;have hW':=hW;obtain⟨p,q,hA0,hV,rfl,_,_⟩:=hW;have hA:DataW.TrodAll enc prog W 0 (fun _=>true) true Tryz.f4.params.toList args.toList ds p:=hA0;rw [params4]at hA hval;obtain⟨v0,vs0,d0,ds0,p0,q0,hargs,rfl,rfl,h0,r0⟩:=trodAll_cons hA;obtain⟨v1,vs1,d1,ds1,p1,q1,rfl,rfl,rfl,h1,r1⟩:=trodAll_cons r0;obtain⟨v2,vs2,d2,ds2,p2,q2,rfl,rfl,rfl,h2,r2⟩:=trodAll_cons r1;obtain⟨rfl,rfl,rfl⟩:=trodAll_nil r2;obtain rfl:args=#[v0,v1,v2]:=by cases args;simp_all
 obtain⟨rfl,rfl⟩:=trodVars_none hV;have k0:=h0;have lt0:∀x∈p0,x.block<W.heap.size:=by obtain⟨m,hm⟩:=k0;exact DataW.trod_lt m _ _ _ hm
 have k1:=h1;have lt1:∀x∈p1,x.block<W.heap.size:=by obtain⟨m,hm⟩:=k1;exact DataW.trod_lt m _ _ _ hm
 have k2:=h2;have lt2:∀x∈p2,x.block<W.heap.size:=by obtain⟨m,hm⟩:=k2;exact DataW.trod_lt m _ _ _ hm
 have he:Kk W:=aa7 (abC hL);obtain⟨A,n,c,fs,rfl,hn,YZ⟩:=adh (hval 0 _ v0 rfl rfl) k0;obtain⟨xA,hc⟩:=aeS k0;obtain⟨og,rfl,rfl,rfl,_⟩:=open_int underlying3 (hval 1 _ v1 rfl rfl) k1;obtain⟨A2,m,c2,rs,rfl,hm,iY⟩:=adg (hval 2 _ v2 rfl rfl) k2;have hw:Calls prog 4 #[.slice A n c,↑og,.slice A2 m c2] W fun e W'=>e=.returned (.bool true)/\Below W.heap.size W W':=by
  refine(aae W he A n c fs YZ xA hc og A2 m c2 rs iY hm).mono ?_;rintro e W' ⟨h1,h2⟩;exact⟨h1,h2.below (fun _ h=>h.elim)⟩
 clear hA0 fB;refine(hw).mono fun e W' ⟨he,bel⟩=>?_;subst he;exact⟨_,rfl,_,_,_,[],_,[],hW',trodAll_mk1 (shut_bool underlying4 _),(trodAll_cons_mk (Below.trod laidOut ZR (of_decide_eq_true ZR) k0 bel lt0) (trodAll_cons_mk (Below.trod laidOut ZR (of_decide_eq_true ZR) k1 bel lt1) (trodAll_cons_mk (Below.trod laidOut ZR (of_decide_eq_true ZR) k2 bel lt2) trodAll_mk0))),rfl,bel.frame _,fun h=>by cases h⟩
theorem row_holds:Rows.LadderMakesSaid:=
 OpenClaim.holds_of_cond 4 Tryz.f4 rfl rfl rfl rfl rfl rfl rfl ⟨rfl,rfl,rfl,rfl,rfl⟩ rfl rfl rfl rfl rfl ZR func4 joined
  (of_decide_eq_true ZR) (by unfold Func.isWrapper;first|(rw [if_pos (by decide +kernel)];kernel_rfl)|(rw [if_neg (by decide +kernel)];exact⟨rfl,rfl⟩))
  (fun os started H enc _ F=>by rw [OpenClaim.pre_eq_preRow];exact lifted os started H enc F)
theorem proved:Rows.LadderMakesCardSaid:=
 Claim7.holds_tied_plain_at .later [] [.data] true (true, "0901637a7163c00ab74897054a05ebfc26105b53c584f0ed4435d1a232147e76") true
  row_holds (fun _ h=>by cases h) akO (fun _ h=>by cases h) ladderMakes_row_tie rfl ⟨rfl,rfl⟩ agF rfl
  (fun f fn hf hfn=>by
   obtain rfl:f=4:=Option.some.inj (aeX.symm.trans hf) |>.symm;obtain rfl:fn=Tryz.f4:=(Option.some.inj (Tryz.func4.symm.trans hfn)).symm
   exact⟨aeY,fun j t ht=>by
    rw [params4]at ht;rcases j with _|j
    ·obtain rfl:29=t:=by simpa using ht
     exact(show Tryz.prog.wantsStandIn 29=false by kernel_rfl)
    rcases j with _|j
    ·obtain rfl:3=t:=by simpa using ht
     exact(show Tryz.prog.wantsStandIn 3=false by kernel_rfl)
    rcases j with _|j
    ·obtain rfl:23=t:=by simpa using ht
     exact(show Tryz.prog.wantsStandIn 23=false by kernel_rfl)
    simp at ht⟩)
  agG
#print axioms proved
end Go.Proofs.YthednemlahioeaaGreatDoor.ladderMakes
