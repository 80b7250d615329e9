/- TopDisk answers true, and leaves its arguments as they were, whatever it is given. -/
import Derived.Test.YtbijlklgbfminaaGreatA30
import Derived.Test.YtbijlklgbfminaaGreatRows
set_option linter.unusedVariables false
set_option linter.unusedSimpArgs false
namespace Go.Proofs.YtbijlklgbfminaaGreat.lawTopDisk
open Go Go.Kx
open Go.ChangeShapes Go.WideShapes Go.ChangeAt Go.RowKit
theorem own:ownKnob Tryz.prog.godebug=none:=by kernel_rfl
theorem laid:laidOutB Tryz.prog=true:=by kernel_rfl
theorem rd:Tryz.f3.params.toList.all (λt=>Tryz.prog.readableRec t&&decide (t<Tryz.prog.types.size))=true:=by kernel_rfl
theorem Un:Tryz.prog.cellsOf 41=3:=by kernel_rfl
theorem c3:Tryz.prog.cellsOf 3=1:=by kernel_rfl
set_option maxRecDepth 100000 in
theorem XN {H:Type} {enc:TypeId×Value->H} {W:World}:∀(n:Nat) (cs:List Value) (x:DataW H×List MemPlace),DataW.trod enc Tryz.prog W 0 (λ_=>true) true n 41 cs=some x->∃x,cs=Ma.e3 x/\((Lit.int .i64 x.1).wf=true/\(Lit.int .i64 x.2.1).wf=true/\(Lit.int .i64 x.2.2).wf=true):=by
 intro n cs x h
 obtain⟨hl,hf⟩:=LZ Tryz.underlying41 h
 obtain⟨n0,y0,h0⟩:=hf 0 (by decide)
 obtain⟨a0,g0,w0⟩:=Jd Tryz.underlying3 c3 h0
 rw[c3,Nat.mul_one] at g0
 obtain⟨n1,y1,h1⟩:=hf 1 (by decide)
 obtain⟨a1,g1,w1⟩:=Jd Tryz.underlying3 c3 h1
 rw[c3,Nat.mul_one] at g1
 obtain⟨n2,y2,h2⟩:=hf 2 (by decide)
 obtain⟨a2,g2,w2⟩:=Jd Tryz.underlying3 c3 h2
 rw[c3,Nat.mul_one] at g2
 exact⟨(a0,a1,a2),Tj (hl.trans Un) g0 g1 g2,⟨w0,w1,w2⟩⟩
set_option maxRecDepth 100000 in
theorem PA (H:Type) (enc:TypeId×Value->H) (W:World) (base:Nat) (args:Array Value) (ds gs:List (DataW H)) (before:List MemPlace)
 (hval:∀(j:Nat) t v,Tryz.f3.params[j]?=some t->args[j]?=some v->Value.okWide Tryz.prog W .any base t v)
 (hW:DataW.Whole enc Tryz.prog Tryz.f3.params.toList Rows.topDiskSpec.vars false W args.toList ds gs before):
 Calls Tryz.prog 3 args W λe W'=>∃v,e= .returned v/\Rows.topDiskSpec.post enc Tryz.prog Tryz.f3 false true false false W args v W':=by
 have hW':=hW
 obtain⟨p,q,hA,hV,rfl,hfz,hnd⟩:=hW
 rw[Tryz.params3] at hA hval
 obtain⟨v0,vs0,d0,ds0,p0,q0,hargs,rfl,rfl,h0,r0⟩:=trodAll_cons hA
 obtain⟨v1,vs1,d1,ds1,p1,q1,rfl,rfl,rfl,h1,r1⟩:=trodAll_cons r0
 obtain⟨v2,vs2,d2,ds2,p2,q2,rfl,rfl,rfl,h2,r2⟩:=trodAll_cons r1
 obtain⟨rfl,rfl,rfl⟩:=trodAll_nil r2
 obtain rfl:args= #[v0,v1,v2]:=by cases args;simp_all
 obtain⟨rfl,rfl⟩:=trodVars_none hV
 obtain⟨x0,rfl,rfl,rfl,w0⟩:=open_int Tryz.underlying3 (hval 0 3 v0 rfl rfl) h0
 obtain⟨n1,g1⟩:=zw Tryz.underlying22 (hval 1 22 v1 rfl rfl) h1
 obtain⟨s1,l1,e1,L1,R1⟩:=LY Tryz.underlying22 Un (by decide) XN g1
 obtain rfl:v1=Sl.v s1:=by simpa using e1
 obtain⟨n2,g2⟩:=zw Tryz.underlying23 (hval 2 23 v2 rfl rfl) h2
 obtain⟨s2,l2,e2,i2⟩:=QQ Tryz.underlying23 c3 Tryz.underlying3 g2
 obtain rfl:v2=Sl.v s2:=by simpa using e2
 refine(Jc (zN.u (Ma.yA L1 i2.1 λ_ x=>⟨rfl,x⟩))).mono λe W' ⟨he,hg⟩=>?_
 exact⟨_,he,Nx laid rd rfl Tryz.underlying4 rfl ⟨rfl,rfl,rfl⟩ hW' hg⟩
set_option maxRecDepth 100000 in
theorem lifted (os:Os) (started:os.Started) (H:Type) (enc:TypeId×Value->H):
 ReturnsInHanded {} Tryz.checked os 3 .any (Rows.topDiskSpec.pre6 enc Tryz.prog Tryz.f3 Rows.topDiskRow.domain false) (Rows.topDiskSpec.post enc Tryz.prog Tryz.f3 false true false false):=by
 refine returnsInHanded_of_change (C:=Tryz.checked) own started (by kernel_rfl) Tryz.func3
  (ChangeSpec.witness6 (enc:=enc) (C:=Tryz.checked) false ⟨#[],#[.int .i64 0,.slice none 0 0,.slice none 0 0],[]⟩ 8 (by kernel_rfl) (by kernel_rfl) (by kernel_rfl) (by kernel_rfl)) ?_
 intro W base args ds gs before hval hW _ _
 exact PA H enc W base args ds gs before hval hW
theorem aQ:Rows.topDiskRow.holds Tryz.pinned (OpenSpec.ofChange Rows.topDiskSpec):=
 OpenClaim.holds_of_wide 3 Tryz.f3 rfl rfl rfl rfl rfl rfl rfl ⟨rfl,rfl,rfl,rfl,rfl⟩ rfl rfl rfl rfl rfl (by kernel_rfl) Tryz.func3 (by kernel_rfl)
  (of_decide_eq_true (by kernel_rfl)) (by unfold Func.isWrapper;first|(rw[if_pos (by decide+kernel)];kernel_rfl)|(rw[if_neg (by decide+kernel)];exact⟨rfl,rfl⟩))
  (λos started H enc _=>lifted os started H enc)
theorem proved:Rows.TopDiskSaid:=aQ
#print axioms proved
end Go.Proofs.YtbijlklgbfminaaGreat.lawTopDisk
