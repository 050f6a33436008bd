/- The row of the law -/
import Derived.Test.YtfnehkmhcmkhjaaGreatDvAl
import Derived.Test.YtfnehkmhcmkhjaaGreatRows
import Derived.Test.YtfnehkmhcmkhjaaGreatDv49
set_option maxRecDepth 100000
set_option maxHeartbeats 8000000
set_option linter.unusedVariables false
namespace Go.Proofs.YtfnehkmhcmkhjaaGreat
open _root_.Go.Proofs.Tryz
namespace driveWritesOnce
open Go.ChangeShapes Go.WideShapes Go.ChangeAt Go.RowKit
open Go.ChangeMaps (open_string shut_string)
open C9 oH T7
theorem own:ownKnob prog.godebug=none:=by kernel_rfl
theorem laidOut:laidOutB prog=true:=by kernel_rfl
theorem lifted(os:Os)(started:os.Started)(H:Type)(enc:TypeId×Value->H):
 ReturnsInHanded {} checked os 3 .any (Rows.driveWritesOnceSpec.pre6 enc prog f3 Rows.driveWritesOnceRow.domain false) (Rows.driveWritesOnceSpec.post enc prog f3 false true false false):=by
 refine returnsInHanded_of_change (C:=checked) own started (by kernel_rfl) func3
  (ChangeSpec.witness6 (enc:=enc) (C:=checked) false ⟨#[],#[.int .u8 0,.slice none 0 0],[]⟩ 8 (by kernel_rfl) (by kernel_rfl) (by kernel_rfl) (by kernel_rfl)) ?_
 intro W base args ds gs before hval0 hW hcnd _;have hval:∀(j:Nat) t v,f3.params[j]? = some t->args[j]? = some v->Value.okWide prog W .any base t v:=hval0;have hW':=hW;obtain⟨p,q,hA0,hV,rfl,hfz,hnd⟩:=hW;have hA:DataW.TrodAll enc prog W 0 (fun _=>true) true f3.params.toList args.toList ds p:=hA0;rw[params3]at hA hval;obtain⟨v0,vs0,d0,ds0,p0,q0,hargs,rfl,rfl,h0,r0⟩:=trodAll_cons hA;obtain⟨v1,vs1,d1,ds1,p1,q1,rfl,rfl,rfl,h1,r1⟩:=trodAll_cons r0;obtain⟨rfl,rfl,rfl⟩:=trodAll_nil r1;obtain rfl:args = #[v0,v1]:=by cases args; simp_all
 obtain⟨rfl,rfl⟩:=trodVars_none hV;have k0:=h0;have lt0:∀x ∈ p0,x.block<W.heap.size:=by obtain⟨m,hm⟩:=k0; exact DataW.trod_lt m _ _ _ hm
 obtain⟨a0,rfl,_,_,w0⟩:=open_int underlying5 (hval 0 5 v0 rfl rfl) h0;have k1:=h1;have lt1:∀x ∈ p1,x.block<W.heap.size:=by obtain⟨m,hm⟩:=k1; exact DataW.trod_lt m _ _ _ hm
 obtain⟨a1,w1⟩:=O4 (hval 1 22 v1 rfl rfl) h1;refine(T7.Vt W a0 w0 v1 a1 w1).mono fun e W' ⟨he,bel⟩=>?_
 subst he;exact⟨_,rfl,_,_,_,[],_,[],hW',trodAll_mk1 (shut_bool underlying4 _),(trodAll_cons_mk (Below.trod laidOut (by kernel_rfl) (of_decide_eq_true (by kernel_rfl)) k0 bel lt0) (trodAll_cons_mk (Below.trod laidOut (by kernel_rfl) (of_decide_eq_true (by kernel_rfl)) k1 bel lt1) trodAll_mk0)),rfl,bel.frame _,fun h=>by cases h⟩
theorem k1:mapsRowed prog=true:=by kernel_rfl
theorem k2:(Rows.driveWritesOnceRow.inPlace == prog.inPlace 3)=true:=by kernel_rfl
theorem k3:(Rows.driveWritesOnceRow.unfollowed == prog.unfollowed 3)=true:=by kernel_rfl
theorem k4:(Rows.driveWritesOnceRow.recurses == prog.recurses 3)=true:=by kernel_rfl
theorem k5:(Rows.driveWritesOnceRow.named == prog.varsNamed 3)=true:=by kernel_rfl
theorem k6:(Rows.driveWritesOnceRow.plainKeys == prog.plainKeys)=true:=by kernel_rfl
theorem k7:(Rows.driveWritesOnceRow.lifted == prog.liftsFinal)=true:=by kernel_rfl
theorem k8:prog.stopsHeard=true:=by kernel_rfl
theorem k9:prog.mayEnter=true:=by kernel_rfl
theorem closed:joinedFacts prog 3 f3 Rows.driveWritesOnceSpec Rows.driveWritesOnceRow=true:=by unfold joinedFacts;rw[laidOut,k1,k2,k3,k4,k5,k6,k7,k8,k9];kernel_rfl
theorem hfn:Tryz.pinned.checked.prog.funcNamed Rows.driveWritesOnceRow.func=some 3:=by kernel_rfl
theorem over:Rows.driveWritesOnceRow.holds Tryz.pinned (OpenSpec.ofChange Rows.driveWritesOnceSpec):=
 OpenClaim.holds_of_wide 3 f3 rfl rfl rfl rfl rfl rfl rfl ⟨rfl,rfl,rfl,rfl,rfl⟩ rfl rfl rfl rfl rfl hfn func3 closed
  (of_decide_eq_true (by kernel_rfl)) (by unfold Func.isWrapper; first | (rw[zj (by decide+kernel)]; kernel_rfl) | (rw[zi (by decide+kernel)]; exact⟨rfl,rfl⟩))
  (fun os started H enc _=>lifted os started H enc)
theorem proved:Rows.DriveWritesOnceSaid:=over
end driveWritesOnce
end Go.Proofs.YtfnehkmhcmkhjaaGreat
