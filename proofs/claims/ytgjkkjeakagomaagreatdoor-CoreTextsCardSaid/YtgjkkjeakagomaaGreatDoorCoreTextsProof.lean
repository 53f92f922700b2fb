/- Proved: the statement Rows.CoreTextsCardSaid (edict/edictlaw07.CoreTexts): whatever the input, the law returns true and leaves its arguments as they were; the condition is the card's own: the listed variables hold what the program's text lays. -/
import Derived.Test.YtgjkkjeakagomaaGreatDoorLexC
import Derived.Test.YtgjkkjeakagomaaGreatDoorRdT
import Derived.Test.YtgjkkjeakagomaaGreatDoorCtA
set_option linter.all false
namespace Go.Proofs.YtgjkkjeakagomaaGreatDoor.coreTexts
open Go.Proofs.Z
open Go Go.Ev Edict Go.ChangeShapes Go.WideShapes Go.ChangeAt Go.RowKit
theorem own:ownKnob Tryz.prog.godebug=none:=by kernel_rfl
theorem laid:laidOutB Tryz.prog=true:=by kernel_rfl
set_option maxRecDepth 100000 in
theorem contract (H:Type) (enc:TypeId×Value->H) (W:World) (base:Nat) (args:Array Value) (ds gs:List (DataW H)) (before:List MemPlace)
  (hval: ∀(j:Nat) t v,Tryz.f3.params[j]? =some t->args[j]? =some v->Value.okWide Tryz.prog W .any base t v)
  (hW:DataW.Whole enc Tryz.prog Tryz.f3.params.toList Rows.coreTextsSpec.vars false W args.toList ds gs before) (hL:laidMetH Tryz.prog Rows.coreTextsRow.laid W) (hsh:W.ShapedOpen Tryz.prog):
  Calls Tryz.prog 3 args W λe W'=> ∃v,e= .returned v/\Rows.coreTextsSpec.post enc Tryz.prog Tryz.f3 false true false false W args v W':=by
 have hW':=hW
 obtain⟨p,q,hA,hV,rfl,hfz,hnd⟩:=hW
 rw[Tryz.params3]at hA hval
 obtain⟨v0,vs0,d0,ds0,p0,q0,hargs,rfl,rfl,⟨m0,h0⟩,r0⟩:=trodAll_cons hA
 obtain⟨v1,vs1,d1,ds1,p1,q1,rfl,rfl,rfl,⟨m1,h1⟩,r1⟩:=trodAll_cons r0
 obtain⟨rfl,rfl,rfl⟩:=trodAll_nil r1
 obtain rfl:args= #[v0,v1]:=by cases args;simp_all
 obtain⟨rfl,rfl⟩:=trodVars_none hV
 obtain⟨s0,e0,w0,-⟩:=Et Tryz.underlying9 enc W m0 _ _ h0
 rw[mE]at e0
 obtain⟨b0,rfl⟩:=okWide_string Tryz.underlying9 (hval 0 9 v0 rfl rfl)
 have x0:b0=⟨s0.toArray⟩:=by simpa [Value.cells,str]using e0
 subst x0
 have w0:s0.length<=9223372036854775807:=w0
 obtain⟨s1,e1,w1,-⟩:=Et Tryz.underlying9 enc W m1 _ _ h1
 rw[mE]at e1
 obtain⟨b1,rfl⟩:=okWide_string Tryz.underlying9 (hval 1 9 v1 rfl rfl)
 have x1:b1=⟨s1.toArray⟩:=by simpa [Value.cells,str]using e1
 subst x1
 have w1:s1.length<=9223372036854775807:=w1
 have main:=(Vd (h:=W.heap) w0 w1 (ale hL) (af2 hsh)).hc (by kernel_rfl) W rfl
 refine main.mono λe W' ⟨hkeep,he⟩=> ?_
 cases e with
 |returned v=>
  obtain⟨rfl,hx⟩:=he
  exact⟨_,rfl,abC laid (by kernel_rfl) Tryz.underlying4 (by rw[Tryz.params3];decide+kernel) hW' rfl rfl hkeep hx⟩
 |_=>exact he.elim
noncomputable def w0 (os:Os):World:=World.doorLaid Tryz.prog 400 os
theorem abA(os:Os):laidMet Tryz.prog Rows.coreTextsRow.laid ((w0 os).forCall (λ_ _=>0) ⟨#[],#[.string ⟨#[]⟩,.string ⟨#[]⟩],[]⟩).memory:=
 laidMet_of_run' 8 (by kernel_rfl) (by kernel_rfl)
theorem reads(os:Os){H:Type}(enc:TypeId×Value->H): ∃places,DataW.whole enc Tryz.prog ((w0 os).forCall (λ_ _=>0) ⟨#[],#[.string ⟨#[]⟩,.string ⟨#[]⟩],[]⟩).memory Tryz.f3.params.toList Rows.coreTextsSpec.vars false #[Value.string ⟨#[]⟩,Value.string ⟨#[]⟩].toList 8=some ([.lit (.string []),.lit (.string [])],[],places):=
 ⟨[],by kernel_rfl⟩
set_option maxRecDepth 100000 in
theorem ahP(os:Os)(started:os.Started)(H:Type)(enc:TypeId×Value->H)(F:Stop.Interp):
  ReturnsInHanded {} Tryz.checked os 3 .any ((OpenSpec.ofChange Rows.coreTextsSpec).preRow enc Tryz.prog Tryz.f3 Rows.coreTextsRow.domain false Rows.coreTextsRow.laid) (((OpenSpec.ofChange Rows.coreTextsSpec).at F).post enc Tryz.prog Tryz.f3 false true false false):=by
 obtain⟨places,hx⟩:=reads os enc
 refine returnsInHanded_of_row (C:=Tryz.checked) (s:=OpenSpec.ofChange Rows.coreTextsSpec) own started (by kernel_rfl) Tryz.func3
  (witness_row_atRef (enc:=enc) (C:=Tryz.checked) false (w0 os) #[.string ⟨#[]⟩,.string ⟨#[]⟩] rfl (by kernel_rfl) (by kernel_rfl) (by kernel_rfl)
   (OpenSpec.preRow_of_cond 8 hx (by kernel_rfl) (λk hk=>by cases hk) (by kernel_rfl) (abA os))) ?_
 intro W base args ds gs before hval hW _ _ _ hL hsh _
 exact contract H enc W base args ds gs before hval hW hL hsh
theorem ald:Rows.CoreTextsSaid:=
 OpenClaim.holds_of_cond 3 Tryz.f3 rfl rfl rfl rfl rfl rfl rfl ⟨rfl,rfl,rfl,rfl,rfl⟩ rfl rfl rfl rfl rfl (by kernel_rfl) Tryz.func3 (by kernel_rfl)
  (of_decide_eq_true (by kernel_rfl)) (by unfold Func.isWrapper;first|(rw[ah (by decide+kernel)];kernel_rfl)|(rw[af (by decide+kernel)];exact⟨rfl,rfl⟩))
  (λos started H enc _ F=>by rw[OpenClaim.pre_eq_preRow];exact ahP os started H enc F)
theorem plain (f : FuncId) (fn : Func) (hf : Tryz.pinned.checked.prog.funcNamed "edict/edictlaw07.CoreTexts" = some f) (hfn : Tryz.pinned.checked.prog.funcs[f]? = some fn) :
  true=Tryz.pinned.checked.prog.looks []/\ ∀(j:Nat) t,fn.params[j]? =some t->Tryz.pinned.checked.prog.wantsStandIn t=false:=by
 obtain rfl : f = 3 := bR ((show Tryz.prog.funcNamed "edict/edictlaw07.CoreTexts" = some 3 by kernel_rfl).symm.trans hf) |>.symm
 obtain rfl:fn=Tryz.f3:=(bR (Tryz.func3.symm.trans hfn)).symm
 refine⟨by kernel_rfl,λj t ht=> ?_⟩
 rw[Tryz.params3]at ht
 have hm:t∈[9,9]:=by simpa using Array.mem_of_getElem? ht
 have hall:([9,9].all λu=> !Tryz.prog.wantsStandIn u)=true:=by kernel_rfl
 exact(show Tryz.prog.wantsStandIn t=false by simpa using bI.1 hall t hm)
theorem proved:Rows.CoreTextsCardSaid:=
 Claim7.holds_tied_plain_at .later [] _ _ _ _ ald (λ_ h=>by cases h) (by kernel_rfl) (λ_ h=>by cases h) coreTexts_row_tie rfl ⟨rfl,rfl⟩ (by kernel_rfl) rfl plain (by kernel_rfl)
#print axioms proved
end Go.Proofs.YtgjkkjeakagomaaGreatDoor.coreTexts
