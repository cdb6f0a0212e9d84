/- For any lock with at most 40 holders, LockChecks returns true: Check and Encode return the specified error, Decode is the inverse of Encode (the statement's tied card). No condition. -/
import Derived.Test.YtkbldndbofbkcaaGreatDoorMH
set_option linter.unusedSimpArgs false
set_option linter.unusedVariables false
namespace Go.Proofs.YtkbldndbofbkcaaGreatDoor
open Go Go.ChangeShapes Go.WideShapes Go.RowKit
theorem lockChecks_types : ∀ t ∈ Tryz.f6.params.toList, Tryz.prog.readableRec t = true ∧ t < Tryz.prog.types.size := by
  rw [Tryz.params6]; intro t ht; simp at ht
  first | (subst ht; exact ⟨by kernel_rfl, of_decide_eq_true (by kernel_rfl)⟩) | (rcases ht with rfl | rfl <;> exact ⟨by kernel_rfl, of_decide_eq_true (by kernel_rfl)⟩) | (rcases ht with rfl | rfl | rfl <;> exact ⟨by kernel_rfl, of_decide_eq_true (by kernel_rfl)⟩)
set_option maxRecDepth 100000 in
theorem lockChecks_lifted (os : Os) (started : os.Started) (H : Type) (enc : TypeId × Value → H) :
    ReturnsInHanded {} Tryz.checked os 6 .any (fun w args => (Rows.lockChecksSpec.pre enc Tryz.prog Tryz.f6 [] false w args ∧ laidMetH Tryz.prog laid5 w) ∧ sizedMet enc Tryz.prog Tryz.f6 (OpenSpec.ofChange Rows.lockChecksSpec) false w args)
      (Rows.lockChecksSpec.post enc Tryz.prog Tryz.f6 false true false false) := by
  refine returnsInHanded_of_change_and (C := Tryz.checked) (X := fun w _ => laidMetH Tryz.prog laid5 w) (fun _ _ _ hh h => h.of_heap hh) own started (by kernel_rfl) Tryz.func6
    (ChangeSpec.witness_shaped (enc := enc) (C := Tryz.checked) (os := os) (X := fun w _ => laidMetH Tryz.prog laid5 w) false (World.doorLaid Tryz.prog 400 os) #[.agg #[.int .i64 0, .bool false, .slice none 0 0, .string ⟨#[]⟩]] 8 rfl (World.shaped_of_RefB (by kernel_rfl) (by kernel_rfl)) (by kernel_rfl) (by kernel_rfl) (by kernel_rfl) (door_met os _)) ?_
  intro W base args ds gs before hval0 hW _ _ _ _
  have hval : ∀ (j : Nat) t v, Tryz.f6.params[j]? = some t → args[j]? = some v → Value.okWide Tryz.prog W .any base t v := hval0
  have hW' := hW
  obtain ⟨p, q, hA0, hV, rfl, _, _⟩ := hW
  have hA : DataW.TrodAll enc Tryz.prog W 0 (fun _ => true) true Tryz.f6.params.toList args.toList ds p := hA0
  rw [Tryz.params6] at hA hval
  obtain ⟨v0, d0, rfl, rfl, h0⟩ := trodAll_one hA
  obtain ⟨rfl, rfl⟩ := trodVars_none hV
  obtain ⟨ep, sh, a, n, c, bs, t, rfl, hn, hr⟩ := arg_raw (hval 0 _ v0 rfl rfl) h0
  exact law_calls rfl rfl lockChecks_types hW' rfl (lockChecks_ok ep sh a n c bs t W hr hn)
theorem lockChecks_j1 : Rows.lockChecksRow.wf (OpenSpec.ofChange Rows.lockChecksSpec) = true := by kernel_rfl
theorem lockChecks_j4 : Tryz.f6.params.all (Tryz.prog.readableRec ·) = true := by kernel_rfl
theorem lockChecks_j5 : namedTie Tryz.prog Rows.lockChecksRow.named Rows.lockChecksSpec.vars = true := by kernel_rfl
theorem lockChecks_j6 : (Rows.lockChecksRow.stops == []) = true := by kernel_rfl
theorem lockChecks_j8 : (Rows.lockChecksRow.knobs == []) = true := by kernel_rfl
theorem lockChecks_j10 : (Rows.lockChecksRow.inPlace == Tryz.prog.inPlace 6) = true := by kernel_rfl
theorem lockChecks_j11 : (Rows.lockChecksRow.unfollowed == Tryz.prog.unfollowed 6) = true := by kernel_rfl
theorem lockChecks_j12 : (Rows.lockChecksRow.recurses == Tryz.prog.recurses 6) = true := by kernel_rfl
theorem lockChecks_j13 : (Rows.lockChecksRow.named == Tryz.prog.varsNamed 6) = true := by kernel_rfl
theorem lockChecks_j14 : (Rows.lockChecksRow.maps == (Tryz.f6.params.toList ++ Rows.lockChecksSpec.plain.varTypes Tryz.prog).any (Tryz.prog.mapsRec ·)) = true := by kernel_rfl
theorem lockChecks_j15 : (Rows.lockChecksRow.ifaces == (Tryz.f6.params.toList ++ Rows.lockChecksSpec.plain.varTypes Tryz.prog).any (Tryz.prog.ifacesRec ·)) = true := by kernel_rfl
theorem lockChecks_j16 : (Rows.lockChecksRow.mapsOut == Tryz.prog.mapsAmong Tryz.f6.resultTypes.toList) = true := by kernel_rfl
theorem lockChecks_j17 : (Rows.lockChecksRow.loops == (Tryz.f6.params.toList ++ Rows.lockChecksSpec.plain.varTypes Tryz.prog).any (Tryz.prog.loopsFrom ·)) = true := by kernel_rfl
theorem lockChecks_j18 : (Rows.lockChecksRow.wideKeys == (Tryz.f6.params.toList ++ Rows.lockChecksSpec.plain.varTypes Tryz.prog ++ Tryz.f6.resultTypes.toList).any (Tryz.prog.wideKeysFrom ·)) = true := by kernel_rfl
theorem lockChecks_j19 : Rows.lockChecksSpec.vars.all (Tryz.prog.varReadable ·) = true := by kernel_rfl
theorem lockChecks_j20 : Tryz.f6.resultTypes.all (fun t => Tryz.prog.readableRec t && decide (t < Tryz.prog.types.size)) = true := by kernel_rfl
theorem lockChecks_j21 : (Rows.lockChecksRow.ifacesOut == Tryz.f6.resultTypes.toList.any (Tryz.prog.ifacesRec ·)) = true := by kernel_rfl
theorem lockChecks_j22 : (Rows.lockChecksRow.loopsOut == Tryz.f6.resultTypes.toList.any (Tryz.prog.loopsFrom ·)) = true := by kernel_rfl
theorem lockChecks_j23 : (Rows.lockChecksRow.plainKeys == Tryz.prog.plainKeys) = true := p_keys
theorem lockChecks_j24 : Rows.lockChecksRow.shortTexts.isNone = true := by kernel_rfl
theorem lockChecks_j27 : (Rows.lockChecksRow.lifted == Tryz.prog.liftsFinal) = true := p_lift
theorem lockChecks_j28 : (Tryz.prog.make == some Rows.lockChecksRow.make) = true := p_make
theorem lockChecks_j30 : (Rows.lockChecksRow.pinned == Rows.lockChecksRow.pinnedBy) = true := by kernel_rfl
theorem lockChecks_j31 : (Rows.lockChecksRow.veiled == (Tryz.f6.params.toList ++ Rows.lockChecksSpec.plain.varTypes Tryz.prog ++ Tryz.f6.resultTypes.toList).any (Tryz.prog.veiledRec ·)) = true := by kernel_rfl
theorem lockChecks_j32 : Rows.lockChecksRow.veiledFits Tryz.prog Tryz.f6.params.toList (Tryz.f6.params.toList ++ Rows.lockChecksSpec.plain.varTypes Tryz.prog ++ Tryz.f6.resultTypes.toList) = true := by kernel_rfl
theorem lockChecks_joined : joinedFacts Tryz.prog 6 Tryz.f6 Rows.lockChecksSpec Rows.lockChecksRow = true :=
  joined_of lockChecks_j1 laidOut p_maps lockChecks_j4 lockChecks_j5 lockChecks_j6 p_stops lockChecks_j8 p_knobs lockChecks_j10 lockChecks_j11 lockChecks_j12 lockChecks_j13 lockChecks_j14 lockChecks_j15 lockChecks_j16 lockChecks_j17 lockChecks_j18 lockChecks_j19 lockChecks_j20 lockChecks_j21 lockChecks_j22 lockChecks_j23 lockChecks_j24 p_heard p_enter lockChecks_j27 lockChecks_j28 rfl rfl lockChecks_j30 lockChecks_j31 lockChecks_j32
theorem lockChecks_named : Tryz.prog.funcNamed "replevin/replevinlaw34.LockChecks" = some 6 := by kernel_rfl
theorem lockChecks_inst : Tryz.f6.isInstance Tryz.prog Rows.lockChecksRow.origin Rows.lockChecksRow.targs := of_decide_eq_true (by kernel_rfl)
theorem lockChecks_wrap : Tryz.f6.isWrapper Tryz.prog Rows.lockChecksRow.wrapper Rows.lockChecksRow.mainSum := by unfold Func.isWrapper; rw [if_neg (of_decide_eq_false (by kernel_rfl))]; exact ⟨rfl, rfl⟩
theorem lockChecks_said : Rows.LockChecksSaid :=
  OpenClaim.holds_of_wide 6 Tryz.f6 rfl rfl rfl rfl rfl rfl rfl ⟨rfl, rfl, rfl, rfl, rfl⟩ rfl rfl rfl rfl rfl lockChecks_named Tryz.func6 lockChecks_joined lockChecks_inst lockChecks_wrap (fun os started H enc _ => lockChecks_lifted os started H enc)
theorem lockChecks_want0 : Tryz.prog.wantsStandIn 56 = false := by kernel_rfl
theorem lockChecks_wf : Rows.lockChecksRow.wfByText (OpenSpec.ofChange Rows.lockChecksSpec) = true := by kernel_rfl
theorem lockChecks_goes : false = Rows.lockChecksRow.goesBy Tryz.prog := by kernel_rfl
theorem lockChecks_plain : ∀ f fn, Tryz.prog.funcNamed "replevin/replevinlaw34.LockChecks" = some f → Tryz.prog.funcs[f]? = some fn → true = Tryz.prog.looks [] ∧ ∀ (j : Nat) t, fn.params[j]? = some t → Tryz.prog.wantsStandIn t = false := fun f fn hf hfn => by
  obtain rfl : f = 6 := (Option.some.inj (lockChecks_named.symm.trans hf)).symm
  obtain rfl : fn = Tryz.f6 := (Option.some.inj (Tryz.func6.symm.trans hfn)).symm
  refine ⟨p_looks, fun j t ht => ?_⟩
  rw [Tryz.params6] at ht
  have hm := List.mem_of_getElem? (by simpa using ht)
  simp at hm
  subst hm
  exact lockChecks_want0
theorem lockChecks_holds : Rows.LockChecksCardSaid :=
  Claim7.holds_tied_plain_at .later [] [.data, .data, .data, .sentinel, .sentinel] true (true, "2a6453758fad6cc53dd7f591497998820b78589a43cd8ac577ef6ff2b26842bc") true
    lockChecks_said (fun _ h => by cases h) lockChecks_wf (fun _ h => by cases h) lockChecks_row_tie rfl ⟨rfl, rfl⟩ p_main rfl lockChecks_plain lockChecks_goes
#print axioms lockChecks_holds
end Go.Proofs.YtkbldndbofbkcaaGreatDoor
