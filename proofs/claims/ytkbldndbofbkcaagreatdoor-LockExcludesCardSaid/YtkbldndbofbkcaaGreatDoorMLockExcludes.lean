/- For any up to 40 operations, LockExcludes returns true: a lock that is not shared never has two holders, and the lock that is read passes Check (the statement's tied card). No condition. -/
import Derived.Test.YtkbldndbofbkcaaGreatDoorMI
set_option linter.unusedSimpArgs false
set_option linter.unusedVariables false
namespace Go.Proofs.YtkbldndbofbkcaaGreatDoor
open Go Go.ChangeShapes Go.WideShapes Go.RowKit
theorem lockExcludes_types : ∀ t ∈ Tryz.f4.params.toList, Tryz.prog.readableRec t = true ∧ t < Tryz.prog.types.size := by
  rw [Tryz.params4]; intro t ht; simp at ht
  first | (subst ht; exact ⟨by kernel_rfl, of_decide_eq_true (by kernel_rfl)⟩) | (rcases ht with rfl | rfl <;> exact ⟨by kernel_rfl, of_decide_eq_true (by kernel_rfl)⟩) | (rcases ht with rfl | rfl | rfl <;> exact ⟨by kernel_rfl, of_decide_eq_true (by kernel_rfl)⟩)
set_option maxRecDepth 100000 in
theorem lockExcludes_lifted (os : Os) (started : os.Started) (H : Type) (enc : TypeId × Value → H) :
    ReturnsInHanded {} Tryz.checked os 4 .any (fun w args => (Rows.lockExcludesSpec.pre enc Tryz.prog Tryz.f4 [] false w args ∧ laidMetH Tryz.prog laid5 w) ∧ sizedMet enc Tryz.prog Tryz.f4 (OpenSpec.ofChange Rows.lockExcludesSpec) false w args)
      (Rows.lockExcludesSpec.post enc Tryz.prog Tryz.f4 false true false false) := by
  refine returnsInHanded_of_change_and (C := Tryz.checked) (X := fun w _ => laidMetH Tryz.prog laid5 w) (fun _ _ _ hh h => h.of_heap hh) own started (by kernel_rfl) Tryz.func4
    (ChangeSpec.witness_shaped (enc := enc) (C := Tryz.checked) (os := os) (X := fun w _ => laidMetH Tryz.prog laid5 w) false (World.doorLaid Tryz.prog 400 os) #[.slice none 0 0] 8 rfl (World.shaped_of_RefB (by kernel_rfl) (by kernel_rfl)) (by kernel_rfl) (by kernel_rfl) (by kernel_rfl) (door_met os _)) ?_
  intro W base args ds gs before hval0 hW _ _ _ _
  have hval : ∀ (j : Nat) t v, Tryz.f4.params[j]? = some t → args[j]? = some v → Value.okWide Tryz.prog W .any base t v := hval0
  have hW' := hW
  obtain ⟨p, q, hA0, hV, rfl, _, _⟩ := hW
  have hA : DataW.TrodAll enc Tryz.prog W 0 (fun _ => true) true Tryz.f4.params.toList args.toList ds p := hA0
  rw [Tryz.params4] at hA hval
  obtain ⟨v0, d0, rfl, rfl, h0⟩ := trodAll_one hA
  obtain ⟨rfl, rfl⟩ := trodVars_none hV
  obtain ⟨a, n, c, us, rfl, hn, hr⟩ := arg_ops (hval 0 _ v0 rfl rfl) h0
  exact law_calls rfl rfl lockExcludes_types hW' rfl (lockExcludes_ok a n c us W hr hn)
theorem lockExcludes_j1 : Rows.lockExcludesRow.wf (OpenSpec.ofChange Rows.lockExcludesSpec) = true := by kernel_rfl
theorem lockExcludes_j4 : Tryz.f4.params.all (Tryz.prog.readableRec ·) = true := by kernel_rfl
theorem lockExcludes_j5 : namedTie Tryz.prog Rows.lockExcludesRow.named Rows.lockExcludesSpec.vars = true := by kernel_rfl
theorem lockExcludes_j6 : (Rows.lockExcludesRow.stops == []) = true := by kernel_rfl
theorem lockExcludes_j8 : (Rows.lockExcludesRow.knobs == []) = true := by kernel_rfl
theorem lockExcludes_j10 : (Rows.lockExcludesRow.inPlace == Tryz.prog.inPlace 4) = true := by kernel_rfl
theorem lockExcludes_j11 : (Rows.lockExcludesRow.unfollowed == Tryz.prog.unfollowed 4) = true := by kernel_rfl
theorem lockExcludes_j12 : (Rows.lockExcludesRow.recurses == Tryz.prog.recurses 4) = true := by kernel_rfl
theorem lockExcludes_j13 : (Rows.lockExcludesRow.named == Tryz.prog.varsNamed 4) = true := by kernel_rfl
theorem lockExcludes_j14 : (Rows.lockExcludesRow.maps == (Tryz.f4.params.toList ++ Rows.lockExcludesSpec.plain.varTypes Tryz.prog).any (Tryz.prog.mapsRec ·)) = true := by kernel_rfl
theorem lockExcludes_j15 : (Rows.lockExcludesRow.ifaces == (Tryz.f4.params.toList ++ Rows.lockExcludesSpec.plain.varTypes Tryz.prog).any (Tryz.prog.ifacesRec ·)) = true := by kernel_rfl
theorem lockExcludes_j16 : (Rows.lockExcludesRow.mapsOut == Tryz.prog.mapsAmong Tryz.f4.resultTypes.toList) = true := by kernel_rfl
theorem lockExcludes_j17 : (Rows.lockExcludesRow.loops == (Tryz.f4.params.toList ++ Rows.lockExcludesSpec.plain.varTypes Tryz.prog).any (Tryz.prog.loopsFrom ·)) = true := by kernel_rfl
theorem lockExcludes_j18 : (Rows.lockExcludesRow.wideKeys == (Tryz.f4.params.toList ++ Rows.lockExcludesSpec.plain.varTypes Tryz.prog ++ Tryz.f4.resultTypes.toList).any (Tryz.prog.wideKeysFrom ·)) = true := by kernel_rfl
theorem lockExcludes_j19 : Rows.lockExcludesSpec.vars.all (Tryz.prog.varReadable ·) = true := by kernel_rfl
theorem lockExcludes_j20 : Tryz.f4.resultTypes.all (fun t => Tryz.prog.readableRec t && decide (t < Tryz.prog.types.size)) = true := by kernel_rfl
theorem lockExcludes_j21 : (Rows.lockExcludesRow.ifacesOut == Tryz.f4.resultTypes.toList.any (Tryz.prog.ifacesRec ·)) = true := by kernel_rfl
theorem lockExcludes_j22 : (Rows.lockExcludesRow.loopsOut == Tryz.f4.resultTypes.toList.any (Tryz.prog.loopsFrom ·)) = true := by kernel_rfl
theorem lockExcludes_j23 : (Rows.lockExcludesRow.plainKeys == Tryz.prog.plainKeys) = true := p_keys
theorem lockExcludes_j24 : Rows.lockExcludesRow.shortTexts.isNone = true := by kernel_rfl
theorem lockExcludes_j27 : (Rows.lockExcludesRow.lifted == Tryz.prog.liftsFinal) = true := p_lift
theorem lockExcludes_j28 : (Tryz.prog.make == some Rows.lockExcludesRow.make) = true := p_make
theorem lockExcludes_j30 : (Rows.lockExcludesRow.pinned == Rows.lockExcludesRow.pinnedBy) = true := by kernel_rfl
theorem lockExcludes_j31 : (Rows.lockExcludesRow.veiled == (Tryz.f4.params.toList ++ Rows.lockExcludesSpec.plain.varTypes Tryz.prog ++ Tryz.f4.resultTypes.toList).any (Tryz.prog.veiledRec ·)) = true := by kernel_rfl
theorem lockExcludes_j32 : Rows.lockExcludesRow.veiledFits Tryz.prog Tryz.f4.params.toList (Tryz.f4.params.toList ++ Rows.lockExcludesSpec.plain.varTypes Tryz.prog ++ Tryz.f4.resultTypes.toList) = true := by kernel_rfl
theorem lockExcludes_joined : joinedFacts Tryz.prog 4 Tryz.f4 Rows.lockExcludesSpec Rows.lockExcludesRow = true :=
  joined_of lockExcludes_j1 laidOut p_maps lockExcludes_j4 lockExcludes_j5 lockExcludes_j6 p_stops lockExcludes_j8 p_knobs lockExcludes_j10 lockExcludes_j11 lockExcludes_j12 lockExcludes_j13 lockExcludes_j14 lockExcludes_j15 lockExcludes_j16 lockExcludes_j17 lockExcludes_j18 lockExcludes_j19 lockExcludes_j20 lockExcludes_j21 lockExcludes_j22 lockExcludes_j23 lockExcludes_j24 p_heard p_enter lockExcludes_j27 lockExcludes_j28 rfl rfl lockExcludes_j30 lockExcludes_j31 lockExcludes_j32
theorem lockExcludes_named : Tryz.prog.funcNamed "replevin/replevinlaw34.LockExcludes" = some 4 := by kernel_rfl
theorem lockExcludes_inst : Tryz.f4.isInstance Tryz.prog Rows.lockExcludesRow.origin Rows.lockExcludesRow.targs := of_decide_eq_true (by kernel_rfl)
theorem lockExcludes_wrap : Tryz.f4.isWrapper Tryz.prog Rows.lockExcludesRow.wrapper Rows.lockExcludesRow.mainSum := by unfold Func.isWrapper; rw [if_neg (of_decide_eq_false (by kernel_rfl))]; exact ⟨rfl, rfl⟩
theorem lockExcludes_said : Rows.LockExcludesSaid :=
  OpenClaim.holds_of_wide 4 Tryz.f4 rfl rfl rfl rfl rfl rfl rfl ⟨rfl, rfl, rfl, rfl, rfl⟩ rfl rfl rfl rfl rfl lockExcludes_named Tryz.func4 lockExcludes_joined lockExcludes_inst lockExcludes_wrap (fun os started H enc _ => lockExcludes_lifted os started H enc)
theorem lockExcludes_want0 : Tryz.prog.wantsStandIn 35 = false := by kernel_rfl
theorem lockExcludes_wf : Rows.lockExcludesRow.wfByText (OpenSpec.ofChange Rows.lockExcludesSpec) = true := by kernel_rfl
theorem lockExcludes_goes : false = Rows.lockExcludesRow.goesBy Tryz.prog := by kernel_rfl
theorem lockExcludes_plain : ∀ f fn, Tryz.prog.funcNamed "replevin/replevinlaw34.LockExcludes" = some f → Tryz.prog.funcs[f]? = some fn → true = Tryz.prog.looks [] ∧ ∀ (j : Nat) t, fn.params[j]? = some t → Tryz.prog.wantsStandIn t = false := fun f fn hf hfn => by
  obtain rfl : f = 4 := (Option.some.inj (lockExcludes_named.symm.trans hf)).symm
  obtain rfl : fn = Tryz.f4 := (Option.some.inj (Tryz.func4.symm.trans hfn)).symm
  refine ⟨p_looks, fun j t ht => ?_⟩
  rw [Tryz.params4] at ht
  have hm := List.mem_of_getElem? (by simpa using ht)
  simp at hm
  subst hm
  exact lockExcludes_want0
theorem lockExcludes_holds : Rows.LockExcludesCardSaid :=
  Claim7.holds_tied_plain_at .later [] [.data, .data, .data, .sentinel, .sentinel] true (true, "2a6453758fad6cc53dd7f591497998820b78589a43cd8ac577ef6ff2b26842bc") true
    lockExcludes_said (fun _ h => by cases h) lockExcludes_wf (fun _ h => by cases h) lockExcludes_row_tie rfl ⟨rfl, rfl⟩ p_main rfl lockExcludes_plain lockExcludes_goes
#print axioms lockExcludes_holds
end Go.Proofs.YtkbldndbofbkcaaGreatDoor
