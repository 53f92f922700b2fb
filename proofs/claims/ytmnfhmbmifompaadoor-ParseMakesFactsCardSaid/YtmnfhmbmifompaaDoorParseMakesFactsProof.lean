/- Proved: the statement Rows.ParseMakesFactsCardSaid (edict/edictlaw03.ParseMakesFacts): whatever the input, the law returns true and leaves its arguments as they were; the condition is the card's own: the listed variables hold what the program's text lays. -/
import Derived.Test.YtmnfhmbmifompaaDoorPlY
import Derived.Test.YtmnfhmbmifompaaDoorPlXk
import Derived.Test.YtmnfhmbmifompaaDoorPlXb
namespace Go.Proofs.YtmnfhmbmifompaaDoor.parseMakesFacts
open Go Go.Ev Edict Go.ChangeShapes Go.WideShapes Go.ChangeAt Go.RowKit
theorem own : ownKnob Tryd.prog.godebug = none := by kernel_rfl
theorem laid : laidOutB Tryd.prog = true := by kernel_rfl
theorem rd_T : Reads Tryd.prog 125 TT := reads_struct Tryd.underlying125 (by kernel_rfl) (readsF_cons (reads_int Tryd.underlying3) (by kernel_rfl) (by kernel_rfl) (readsF_one (reads_int Tryd.underlying3) (by kernel_rfl) (by kernel_rfl)))
theorem rd_Ts : Reads Tryd.prog 44 (List TT) := reads_slice Tryd.underlying44 (by kernel_rfl) rd_T
theorem rd_A : Reads Tryd.prog 46 AA := reads_struct Tryd.underlying46 (by kernel_rfl) (readsF_cons (reads_int Tryd.underlying3) (by kernel_rfl) (by kernel_rfl) (readsF_one rd_Ts (by kernel_rfl) (by kernel_rfl)))
theorem rd_L : Reads Tryd.prog 132 LL := reads_struct Tryd.underlying132 (by kernel_rfl) (readsF_cons (reads_int Tryd.underlying3) (by kernel_rfl) (by kernel_rfl) (readsF_cons rd_A (by kernel_rfl) (by kernel_rfl) (readsF_cons (reads_int Tryd.underlying3) (by kernel_rfl) (by kernel_rfl) (readsF_cons rd_T (by kernel_rfl) (by kernel_rfl) (readsF_one rd_T (by kernel_rfl) (by kernel_rfl))))))
theorem rd_Ls : Reads Tryd.prog 47 (List LL) := reads_slice Tryd.underlying47 (by kernel_rfl) rd_L
theorem rd_C : Reads Tryd.prog 49 CC := reads_struct Tryd.underlying49 (by kernel_rfl) (readsF_cons rd_A (by kernel_rfl) (by kernel_rfl) (readsF_one rd_Ls (by kernel_rfl) (by kernel_rfl)))
theorem rd_Cs : Reads Tryd.prog 36 (List CC) := reads_slice Tryd.underlying36 (by kernel_rfl) rd_C
theorem rd_is : Reads Tryd.prog 37 (List Int) := reads_slice Tryd.underlying37 (by kernel_rfl) (reads_int Tryd.underlying3)
theorem rd_mk : Reads Tryd.prog 39 (List CC × List Int) := reads_struct Tryd.underlying39 (by kernel_rfl) (readsF_cons rd_Cs (by kernel_rfl) (by kernel_rfl) (readsF_one rd_is (by kernel_rfl) (by kernel_rfl)))
set_option maxRecDepth 100000 in
theorem contract (H : Type) (enc : TypeId × Value → H) (W : World) (base : Nat) (args : Array Value) (ds gs : List (DataW H)) (before : List MemPlace)
    (hval : ∀ (j : Nat) t v, Tryd.f12.params[j]? = some t → args[j]? = some v → Value.okWide Tryd.prog W .any base t v)
    (hW : DataW.Whole enc Tryd.prog Tryd.f12.params.toList Rows.parseMakesFactsSpec.vars false W args.toList ds gs before) (hL : laidMetH Tryd.prog Rows.parseOnesRow.laid W) :
    Calls Tryd.prog 12 args W fun e W' => ∃ v, e = .returned v ∧ Rows.parseMakesFactsSpec.post enc Tryd.prog Tryd.f12 false true false false W args v W' := by
  have hW' := hW
  obtain ⟨p, q, hA, hV, rfl, hfz, hnd⟩ := hW
  rw [Tryd.params12] at hA hval
  obtain ⟨v0, vs0, d0, ds0, p0, q0, hargs, rfl, rfl, ⟨m0, h0⟩, r0⟩ := trodAll_cons hA
  obtain ⟨rfl, rfl, rfl⟩ := trodAll_nil r0
  obtain rfl : args = #[v0] := by cases args; simp_all
  obtain ⟨rfl, rfl⟩ := trodVars_none hV
  obtain ⟨cs0, rfl, -⟩ := okWide_struct Tryd.underlying39 (hval 0 39 v0 rfl rfl)
  obtain ⟨⟨l, gs0⟩, k1, k2, -⟩ := rd_mk enc W m0 _ _ h0
  simp only [rep_prod, rep_list] at k1
  obtain ⟨_, _, k0, ⟨cv, rfl, ic⟩, ⟨gv, rfl, ig⟩⟩ := k1
  have e1 : cs0 = #[cv, gv] := by
    apply Array.toList_inj.1
    simpa [Value.cells] using k0
  subst e1
  have hok : ∀ c ∈ l, OkCC c := fun c hc => by
    obtain ⟨⟨-, -, hA⟩, -, hB⟩ := k2.1.2 c hc
    refine ⟨fun t ht => (hA t ht).2, fun x hx => ?_⟩
    obtain ⟨-, ⟨-, -, hxa⟩, -, hxl, hxr⟩ := hB x hx
    exact ⟨fun t ht => (hxa t ht).2, hxl.2, hxr.2⟩
  have main := (ParseMakesFacts_hc (h := W.heap) ic ig hok (glob hL) (globP hL)).hc (by kernel_rfl) W rfl
  refine main.mono fun e W' ⟨hkeep, he⟩ => ?_
  cases e with
  | returned v =>
    obtain ⟨rfl, hx⟩ := he
    exact ⟨_, rfl, law_post laid (by kernel_rfl) Tryd.underlying4 (by rw [Tryd.params12]; decide +kernel) hW' rfl rfl hkeep hx⟩
  | _ => exact he.elim
noncomputable def w0 (os : Os) : World := World.doorLaid Tryd.prog 400 os
theorem laid_met (os : Os) : laidMet Tryd.prog Rows.parseMakesFactsRow.laid ((w0 os).forCall (fun _ _ => 0) ⟨#[], #[.agg #[.slice none 0 0, .slice none 0 0]], []⟩).memory :=
  laidMet_of_run' 8 (by kernel_rfl) (by kernel_rfl)
theorem reads (os : Os) {H : Type} (enc : TypeId × Value → H) : ∃ places, DataW.whole enc Tryd.prog ((w0 os).forCall (fun _ _ => 0) ⟨#[], #[.agg #[.slice none 0 0, .slice none 0 0]], []⟩).memory Tryd.f12.params.toList Rows.parseMakesFactsSpec.vars false #[Value.agg #[.slice none 0 0, .slice none 0 0]].toList 8 = some ([.agg [.nil, .nil]], [], places) :=
  ⟨[], by kernel_rfl⟩
set_option maxRecDepth 100000 in
theorem lifted (os : Os) (started : os.Started) (H : Type) (enc : TypeId × Value → H) (F : Stop.Interp) :
    ReturnsInHanded {} Tryd.checked os 12 .any ((OpenSpec.ofChange Rows.parseMakesFactsSpec).preRow enc Tryd.prog Tryd.f12 Rows.parseMakesFactsRow.domain false Rows.parseMakesFactsRow.laid) (((OpenSpec.ofChange Rows.parseMakesFactsSpec).at F).post enc Tryd.prog Tryd.f12 false true false false) := by
  obtain ⟨places, hx⟩ := reads os enc
  refine returnsInHanded_of_row (C := Tryd.checked) (s := OpenSpec.ofChange Rows.parseMakesFactsSpec) own started (by kernel_rfl) Tryd.func12
    (witness_row_atRef (enc := enc) (C := Tryd.checked) false (w0 os) #[.agg #[.slice none 0 0, .slice none 0 0]] rfl (by kernel_rfl) (by kernel_rfl) (by kernel_rfl)
      (OpenSpec.preRow_of_cond 8 hx (by kernel_rfl) (fun k hk => by cases hk) (by kernel_rfl) (laid_met os))) ?_
  intro W base args ds gs before hval hW _ _ hwt hL _ _
  exact contract H enc W base args ds gs before hval hW hL
theorem said : Rows.ParseMakesFactsSaid :=
  OpenClaim.holds_of_cond 12 Tryd.f12 rfl rfl rfl rfl rfl rfl rfl ⟨rfl, rfl, rfl, rfl, rfl⟩ rfl rfl rfl rfl rfl (by kernel_rfl) Tryd.func12 (by kernel_rfl)
    (of_decide_eq_true (by kernel_rfl)) (by unfold Func.isWrapper; first | (rw [if_pos (by decide +kernel)]; kernel_rfl) | (rw [if_neg (by decide +kernel)]; exact ⟨rfl, rfl⟩))
    (fun os started H enc _ F => by rw [OpenClaim.pre_eq_preRow]; exact lifted os started H enc F)
theorem plain (f : FuncId) (fn : Func) (hf : Tryd.pinned.checked.prog.funcNamed "edict/edictlaw03.ParseMakesFacts" = some f) (hfn : Tryd.pinned.checked.prog.funcs[f]? = some fn) :
    true = Tryd.pinned.checked.prog.looks [] ∧ ∀ (j : Nat) t, fn.params[j]? = some t → Tryd.pinned.checked.prog.wantsStandIn t = false := by
  obtain rfl : f = 12 := Option.some.inj ((show Tryd.prog.funcNamed "edict/edictlaw03.ParseMakesFacts" = some 12 by kernel_rfl).symm.trans hf) |>.symm
  obtain rfl : fn = Tryd.f12 := (Option.some.inj (Tryd.func12.symm.trans hfn)).symm
  refine ⟨by kernel_rfl, fun j t ht => ?_⟩
  rw [Tryd.params12] at ht
  have hm : t ∈ [39] := by simpa using Array.mem_of_getElem? ht
  have hall : ([39].all fun u => !Tryd.prog.wantsStandIn u) = true := by kernel_rfl
  exact (show Tryd.prog.wantsStandIn t = false by simpa using List.all_eq_true.1 hall t hm)
/-- The card. -/
theorem proved : Rows.ParseMakesFactsCardSaid :=
  Claim7.holds_tied_plain_at .later [] _ _ _ _ said (fun _ h => by cases h) (by kernel_rfl) (fun _ h => by cases h) parseMakesFacts_row_tie rfl ⟨rfl, rfl⟩ (by kernel_rfl) rfl plain (by kernel_rfl)
#print axioms proved
end Go.Proofs.YtmnfhmbmifompaaDoor.parseMakesFacts
