/- TopFence answers true, and leaves its arguments as they were, whatever it is given. -/
import Derived.Test.YtigjebgjphmkoaaGreatA29
import Derived.Test.YtigjebgjphmkoaaGreatA25
import Derived.Test.YtigjebgjphmkoaaGreatRows
set_option linter.unusedVariables false
set_option linter.unusedSimpArgs false
namespace Go.Proofs.YtigjebgjphmkoaaGreat.lawTopFence
open Go Go.Kx
open Go.ChangeShapes Go.WideShapes Go.ChangeAt Go.RowKit
theorem own:ownKnob Tryz.prog.godebug=none:=by kernel_rfl
theorem laid:laidOutB Tryz.prog=true:=by kernel_rfl
theorem rd:Tryz.f3.params.toList.all (λt=>Tryz.prog.readableRec t&&decide (t<Tryz.prog.types.size))=true:=by kernel_rfl
theorem c31:Tryz.prog.cellsOf 31=4:=by kernel_rfl
theorem c3:Tryz.prog.cellsOf 3=1:=by kernel_rfl
set_option maxRecDepth 100000 in
theorem el1 {H:Type} {enc:TypeId×Value->H} {W:World}:∀(n:Nat) (cs:List Value) (x:DataW H×List MemPlace),DataW.trod enc Tryz.prog W 0 (λ_=>true) true n 31 cs=some x->∃x,cs=Ma.e4 x/\((Lit.int .i64 x.1).wf=true/\(Lit.int .i64 x.2.1).wf=true/\(Lit.int .i64 x.2.2.1).wf=true/\(Lit.int .i64 x.2.2.2).wf=true):=by
 intro n cs x h
 obtain⟨hl,hf⟩:=N9 Tryz.underlying31 h
 obtain⟨n0,y0,h0⟩:=hf 0 _ rfl
 obtain⟨a0,g0,w0⟩:=JA Tryz.underlying3 c3 h0
 obtain⟨n1,y1,h1⟩:=hf 1 _ rfl
 obtain⟨a1,g1,w1⟩:=JA Tryz.underlying3 c3 h1
 obtain⟨n2,y2,h2⟩:=hf 2 _ rfl
 obtain⟨a2,g2,w2⟩:=JA Tryz.underlying3 c3 h2
 obtain⟨n3,y3,h3⟩:=hf 3 _ rfl
 obtain⟨a3,g3,w3⟩:=JA Tryz.underlying3 c3 h3
 exact⟨(a0,a1,a2,a3),Zf (hl.trans c31) g0 g1 g2 g3,⟨w0,w1,w2,w3⟩⟩
set_option maxRecDepth 100000 in
theorem Uw (H:Type) (enc:TypeId×Value->H) (W:World) (base:Nat) (args:Array Value) (ds gs:List (DataW H)) (before:List MemPlace)
 (hval:∀(j:Nat) t v,Tryz.f3.params[j]?=some t->args[j]?=some v->Value.okWide Tryz.prog W .any base t v)
 (hW:DataW.Whole enc Tryz.prog Tryz.f3.params.toList Rows.topFenceSpec.vars false W args.toList ds gs before):
 Calls Tryz.prog 3 args W λe W'=>∃v,e= .returned v/\Rows.topFenceSpec.post enc Tryz.prog Tryz.f3 false true false false W args v W':=by
 have hW':=hW
 obtain⟨p,q,hA,hV,rfl,hfz,hnd⟩:=hW
 rw[Tryz.params3] at hA hval
 obtain⟨v0,vs0,d0,ds0,p0,q0,hargs,rfl,rfl,h0,r0⟩:=trodAll_cons hA
 obtain⟨v1,vs1,d1,ds1,p1,q1,rfl,rfl,rfl,h1,r1⟩:=trodAll_cons r0
 obtain⟨rfl,rfl,rfl⟩:=trodAll_nil r1
 obtain rfl:args= #[v0,v1]:=by cases args;simp_all
 obtain⟨rfl,rfl⟩:=trodVars_none hV
 obtain⟨x0,rfl,rfl,rfl,w0⟩:=open_int Tryz.underlying3 (hval 0 3 v0 rfl rfl) h0
 obtain⟨n1,g1⟩:=Iw Tryz.underlying22 (hval 1 22 v1 rfl rfl) h1
 obtain⟨s1,l1,e1,L1,R1⟩:=QO Tryz.underlying22 c31 (by decide) el1 g1
 obtain rfl:v1=Sl.v s1:=by simpa using e1
 refine(N8 (BD.u (Ma.PZ L1 λ_ x=>⟨rfl,x⟩))).mono λe W' ⟨he,hg⟩=>?_
 exact⟨_,he,TN laid rd rfl Tryz.underlying4 rfl ⟨rfl,rfl,rfl⟩ hW' hg⟩
set_option maxRecDepth 100000 in
theorem lifted (os:Os) (started:os.Started) (H:Type) (enc:TypeId×Value->H):
 ReturnsInHanded {} Tryz.checked os 3 .any (Rows.topFenceSpec.pre6 enc Tryz.prog Tryz.f3 Rows.topFenceRow.domain false) (Rows.topFenceSpec.post enc Tryz.prog Tryz.f3 false true false false):=by
 refine returnsInHanded_of_change (C:=Tryz.checked) own started (by kernel_rfl) Tryz.func3
  (ChangeSpec.witness6 (enc:=enc) (C:=Tryz.checked) false ⟨#[],#[.int .i64 0,.slice none 0 0],[]⟩ 8 (by kernel_rfl) (by kernel_rfl) (by kernel_rfl) (by kernel_rfl)) ?_
 intro W base args ds gs before hval hW _ _
 exact Uw H enc W base args ds gs before hval hW
theorem ov1:Tryz.pinned.checked.prog.funcNamed Rows.topFenceRow.func=some 3:=by kernel_rfl
theorem ov2:joinedFacts Tryz.pinned.checked.prog 3 Tryz.f3 Rows.topFenceSpec Rows.topFenceRow=true:=of_decide_eq_true (by kernel_rfl)
theorem ov3:Tryz.f3.isWrapper Tryz.pinned.checked.prog Rows.topFenceRow.wrapper Rows.topFenceRow.mainSum:=by unfold Func.isWrapper;first|(rw[if_pos (by decide+kernel)];kernel_rfl)|(rw[if_neg (by decide+kernel)];exact⟨rfl,rfl⟩)
theorem aG:Rows.topFenceRow.holds Tryz.pinned (OpenSpec.ofChange Rows.topFenceSpec):=
 OpenClaim.holds_of_wide 3 Tryz.f3 rfl rfl rfl rfl rfl rfl rfl ⟨rfl,rfl,rfl,rfl,rfl⟩ rfl rfl rfl rfl rfl ov1 Tryz.func3 ov2
  (of_decide_eq_true (by kernel_rfl)) ov3
  (λos started H enc _=>lifted os started H enc)
theorem proved:Rows.TopFenceSaid:=aG
#print axioms proved
end Go.Proofs.YtigjebgjphmkoaaGreat.lawTopFence
