/- The row of the law -/
import Derived.Test.YtfnehkmhcmkhjaaGreatRows
import Derived.Test.YtfnehkmhcmkhjaaGreatDu35
set_option maxRecDepth 100000
set_option maxHeartbeats 8000000
set_option linter.unusedVariables false
namespace Go.Proofs.YtfnehkmhcmkhjaaGreat
open _root_.Go.Proofs.Tryz
namespace driveCorrects
open Go.ChangeShapes Go.WideShapes Go.ChangeAt Go.RowKit
open Go.ChangeMaps (open_string shut_string)
open C9 wu T7
theorem own:ownKnob prog.godebug=none:=by kernel_rfl
theorem laidOut:laidOutB prog=true:=by kernel_rfl
theorem lifted(os:Os)(started:os.Started)(H:Type)(enc:TypeId×Value->H):
 ReturnsInHanded {} checked os 7 .any (Rows.driveCorrectsSpec.pre6 enc prog f7 Rows.driveCorrectsRow.domain false) (Rows.driveCorrectsSpec.post enc prog f7 false true false false):=by
 refine returnsInHanded_of_change (C:=checked) own started (by kernel_rfl) func7
  (ChangeSpec.witness6 (enc:=enc) (C:=checked) false ⟨#[],#[.slice none 0 0,.slice none 0 0,.int .u16 0,.int .u8 0],[]⟩ 8 (by kernel_rfl) (by kernel_rfl) (by kernel_rfl) (by kernel_rfl)) ?_
 intro W base args ds gs before hval0 hW hcnd _;have hval:∀(j:Nat) t v,f7.params[j]? = some t->args[j]? = some v->Value.okWide prog W .any base t v:=hval0;have hW':=hW;obtain⟨p,q,hA0,hV,rfl,hfz,hnd⟩:=hW;have hA:DataW.TrodAll enc prog W 0 (λ_=>true) true f7.params.toList args.toList ds p:=hA0;rw[params7]at hA hval;obtain⟨v0,vs0,d0,ds0,p0,q0,hargs,rfl,rfl,h0,r0⟩:=trodAll_cons hA;obtain⟨v1,vs1,d1,ds1,p1,q1,rfl,rfl,rfl,h1,r1⟩:=trodAll_cons r0;obtain⟨v2,vs2,d2,ds2,p2,q2,rfl,rfl,rfl,h2,r2⟩:=trodAll_cons r1;obtain⟨v3,vs3,d3,ds3,p3,q3,rfl,rfl,rfl,h3,r3⟩:=trodAll_cons r2;obtain⟨rfl,rfl,rfl⟩:=trodAll_nil r3;obtain rfl:args = #[v0,v1,v2,v3]:=by cases args;simp_all
 obtain⟨rfl,rfl⟩:=trodVars_none hV;have k0:=h0;have lt0:∀x∈p0,x.block<W.heap.size:=by obtain⟨m,hm⟩:=k0;exact DataW.trod_lt m _ _ _ hm
 obtain⟨a0,w0⟩:=UG (hval 0 45 v0 rfl rfl) h0;have k1:=h1;have lt1:∀x∈p1,x.block<W.heap.size:=by obtain⟨m,hm⟩:=k1;exact DataW.trod_lt m _ _ _ hm
 obtain⟨a1,w1⟩:=UF (hval 1 27 v1 rfl rfl) h1;have k2:=h2;have lt2:∀x∈p2,x.block<W.heap.size:=by obtain⟨m,hm⟩:=k2;exact DataW.trod_lt m _ _ _ hm
 obtain⟨a2,rfl,_,_,w2⟩:=open_int underlying72 (hval 2 72 v2 rfl rfl) h2;have k3:=h3;have lt3:∀x∈p3,x.block<W.heap.size:=by obtain⟨m,hm⟩:=k3;exact DataW.trod_lt m _ _ _ hm
 obtain⟨a3,rfl,_,_,w3⟩:=open_int underlying5 (hval 3 5 v3 rfl rfl) h3;refine(T7.SY W v0 a0 w0 v1 a1 w1 a2 w2 a3 w3).mono λe W' ⟨he,bel⟩=>?_
 subst he;exact⟨_,rfl,_,_,_,[],_,[],hW',trodAll_mk1 (shut_bool underlying4 _),(trodAll_cons_mk (Below.trod laidOut (by kernel_rfl) (YU (by kernel_rfl)) k0 bel lt0) (trodAll_cons_mk (Below.trod laidOut (by kernel_rfl) (YU (by kernel_rfl)) k1 bel lt1) (trodAll_cons_mk (Below.trod laidOut (by kernel_rfl) (YU (by kernel_rfl)) k2 bel lt2) (trodAll_cons_mk (Below.trod laidOut (by kernel_rfl) (YU (by kernel_rfl)) k3 bel lt3) trodAll_mk0)))),rfl,bel.frame _,λh=>by cases h⟩
theorem k1:mapsRowed prog=true:=by kernel_rfl
theorem k2:(Rows.driveCorrectsRow.inPlace == prog.inPlace 7)=true:=by kernel_rfl
theorem k3:(Rows.driveCorrectsRow.unfollowed == prog.unfollowed 7)=true:=by kernel_rfl
theorem k4:(Rows.driveCorrectsRow.recurses == prog.recurses 7)=true:=by kernel_rfl
theorem k5:(Rows.driveCorrectsRow.named == prog.varsNamed 7)=true:=by kernel_rfl
theorem k6:(Rows.driveCorrectsRow.plainKeys == prog.plainKeys)=true:=by kernel_rfl
theorem k7:(Rows.driveCorrectsRow.lifted == prog.liftsFinal)=true:=by kernel_rfl
theorem k8:prog.stopsHeard=true:=by kernel_rfl
theorem k9:prog.mayEnter=true:=by kernel_rfl
theorem closed:joinedFacts prog 7 f7 Rows.driveCorrectsSpec Rows.driveCorrectsRow=true:=by unfold joinedFacts;rw[laidOut,k1,k2,k3,k4,k5,k6,k7,k8,k9];kernel_rfl
theorem hfn:Tryz.pinned.checked.prog.funcNamed Rows.driveCorrectsRow.func=some 7:=by kernel_rfl
theorem over:Rows.driveCorrectsRow.holds Tryz.pinned (OpenSpec.ofChange Rows.driveCorrectsSpec):=
 OpenClaim.holds_of_wide 7 f7 rfl rfl rfl rfl rfl rfl rfl ⟨rfl,rfl,rfl,rfl,rfl⟩ rfl rfl rfl rfl rfl hfn func7 closed
  (YU (by kernel_rfl)) (by unfold Func.isWrapper;first|(rw[zj (by decide+kernel)];kernel_rfl)|(rw[zi (by decide+kernel)];exact⟨rfl,rfl⟩))
  (λos started H enc _=>lifted os started H enc)
theorem proved:Rows.DriveCorrectsSaid:=over
end driveCorrects
end Go.Proofs.YtfnehkmhcmkhjaaGreat
