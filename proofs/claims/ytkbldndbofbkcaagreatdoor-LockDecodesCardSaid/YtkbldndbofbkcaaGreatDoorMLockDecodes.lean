/- replevinlaw34.LockDecodes: the walk. | For any text, LockDecodes returns true: Decode gives a lock whose value the text is, or ErrFormat (the statement's tied card). No condition. -/
import Derived.Test.YtkbldndbofbkcaaGreatDoorMF
import Derived.Test.YtkbldndbofbkcaaGreatDoorMG
set_option linter.unusedSimpArgs false
set_option linter.unusedVariables false
/- replevinlaw34.LockDecodes: the walk. -/
namespace Go.Proofs.YtkbldndbofbkcaaGreatDoor
open Go Go.RowKit
attribute [local irreducible] WL CW DW Ret RW
theorem decR_short (bs : List UInt8) : ∀ h ∈ (decR bs).1.hs, h.size ≤ 4611686018427387904 := by
  intro h hm
  unfold decR lkDec at hm
  split at hm
  · rename_i l hl
    split at hl
    · injection hl with hl; rw [← hl] at hm; exact rTs_short _ _ _ _ h hm
    · cases hl
  · cases hm
theorem dec_par {bs : List UInt8} (h : bs.length ≤ 65536) : (decR bs).1 = (parR bs).1 ∧ decide ((decR bs).2 = 0) = (parR bs).2 ∧ ((decR bs).2 ≠ 0 → (decR bs).2 = 3 ∧ (decR bs).1 = ⟨0, false, []⟩) ∧ ((decR bs).2 = 0 → lkCheck (decR bs).1 = 0 ∧ lkEnc (decR bs).1 = bs) := by
  have e := lkDec_eq (m1 := 16777216) (m2 := 65536) (bs := bs) (by omega) h (by omega)
  unfold decR parR
  rw [e]
  cases hq : lkDec 65536 bs with
  | none => exact ⟨rfl, rfl, fun _ => ⟨rfl, rfl⟩, fun h => by cases h⟩
  | some l =>
    have := (lkDec_iff h (by omega)).1 hq
    exact ⟨rfl, rfl, fun h => absurd rfl h, fun _ => ⟨this.1, this.2.symm⟩⟩
theorem lockDecodes_ok (s : ByteArray) (w0 : World) (hsz : s.size ≤ maxLen) : Ret Tryz.prog 3 #[.string s] w0 fun v w' => v = .bool true ∧ Fm [] w0 w' := by
  have hs := St.init w0 []
  have hsl : s.data.toList.length = s.size := by rw [Array.length_toList]; rfl
  unfold maxLen at hsz
  obtain ⟨q, hq, hq1, hq2⟩ : ∃ q : Nat, (if (300 : Int) < (s.size : Int) then (300 : Int) else (s.size : Int)) = (q : Int) ∧ q ≤ 300 ∧ q ≤ s.size := by
    by_cases h : 300 < s.size
    · exact ⟨300, by rw [if_pos (by omega)]; rfl, by omega, by omega⟩
    · exact ⟨s.size, by rw [if_neg (by omega)], by omega, by omega⟩
  obtain ⟨bs, hbs⟩ : ∃ bs, s.data.toList.take q = bs := ⟨_, rfl⟩
  have hbl : bs.length ≤ 300 := by rw [← hbs, List.length_take]; omega
  have hS : (str bs).size ≤ 140737488355328 := by rw [str_size]; omega
  obtain ⟨d1, d2, d3, d4⟩ := dec_par (bs := bs) (by omega)
  have hdata : (str bs).data.toList = bs := rfl
  obtain ⟨D, hD⟩ : ∃ D, decR bs = D := ⟨_, rfl⟩
  obtain ⟨Z, hZ⟩ : ∃ Z, parR bs = Z := ⟨_, rfl⟩
  have hshort := decR_short bs
  rw [hD, hZ] at d1 d2
  rw [hD] at d3 d4 hshort
  refine Ret_enter Tryz.func3 rfl Tryz.ntmps3 (by simp) ?_
  refine CW_seq (fun K1 hK1 => ?_)
  refine CW_region ?_
  refine asp (.bool _) rfl ?_
  refine WL_nil ?_
  refine hK1 _ _ ?_
  refine CW_seq (fun K2 hK2 => ?_)
  refine CW_region ?_
  refine mvp (.string _) rfl ?_
  refine mvp (.string _) rfl ?_
  refine lenS rfl ?_
  refine minW rfl rfl ?_
  rw [hq]
  refine ssH rfl rfl (by omega) ?_
  rw [show ((q : Int)).toNat = q from rfl, hbs]
  refine asp (.string _) rfl ?_
  refine WL_nil ?_
  refine hK2 _ _ ?_
  refine CW_seq (fun K3 hK3 => ?_)
  refine CW_region ?_
  refine mvp (.string _) rfl ?_
  refine cll (Decode_ok (str bs) _ hS) ?_
  rintro _ w ⟨⟨a, n, c, rfl, hn, hnew⟩, hf⟩
  replace hs := hs.callR hf hnew
  rw [hdata, hD] at hs hn
  rw [hdata, hD]
  refine mvp (.tuple _) rfl ?_
  refine ext rfl rfl ?_
  refine ext rfl rfl ?_
  refine alc hs ?_
  intro w g3 hs hg3 hf3
  refine sto (.agg (lkV D.1.ep D.1.sh a n c).toArray) (vl := lkV D.1.ep D.1.sh a n c) hs rfl rfl rfl rfl (by simp) rfl ?_
  intro w hs _
  replace hs : St w0 [] w (eB g3 true (Blk 24 (lkV D.1.ep D.1.sh a n c)) :: _) := hs
  refine asp (.int _ _) rfl ?_
  refine WL_nil ?_
  refine hK3 _ _ ?_
  refine CW_seq (fun K4 hK4 => ?_)
  refine CW_region ?_
  refine mvp (.string _) rfl ?_
  refine cll (parse34_ok (str bs) _ hS) ?_
  rintro _ w ⟨⟨a2, n2, c2, rfl, hn2, hnew⟩, hf⟩
  replace hs := hs.callR hf hnew
  rw [hdata, hZ] at hs hn2
  rw [hdata, hZ]
  refine mvp (.tuple _) rfl ?_
  refine ext rfl rfl ?_
  refine ext rfl rfl ?_
  refine alc hs ?_
  intro w g5 hs hg5 hf5
  refine sto (.agg (lkV Z.1.ep Z.1.sh a2 n2 c2).toArray) (vl := lkV Z.1.ep Z.1.sh a2 n2 c2) hs rfl rfl rfl rfl (by simp) rfl ?_
  intro w hs _
  replace hs : St w0 [] w (eB g5 true (Blk 24 (lkV Z.1.ep Z.1.sh a2 n2 c2)) :: _) := hs
  refine asp (.bool _) rfl ?_
  refine WL_nil ?_
  refine hK4 _ _ ?_
  refine CW_seq (fun K5 hK5 => ?_)
  refine CW_seq (fun K6 hK6 => ?_)
  refine CW_region ?_
  refine cll (known_ok _) ?_
  rintro _ w ⟨rfl, hf⟩
  replace hs := hs.call hf
  refine notW rfl ?_
  refine mvp (.bool _) rfl ?_
  refine WL_gyb (g := 26) rfl (by decide) rfl (rfl) ?_
  refine mvp (.int _ _) rfl ?_
  refine WL_gy (g := 26) rfl (by decide) rfl ?_
  refine eqlW rfl rfl ?_
  refine WL_gy (g := 26) rfl (by decide) rfl ?_
  refine mvp (.bool _) rfl ?_
  refine WL_gy (g := 26) rfl (by decide) rfl ?_
  refine WL_v (X_neB rfl rfl) ?_
  first | refine pkT rfl rfl ?_ | refine pkF rfl rfl ?_
  refine mvp (.bool _) rfl ?_
  refine WL_gyb (g := 32) rfl (by decide) rfl ((by rw [d2]; simp)) ?_
  refine mvp (.int _ _) rfl ?_
  refine WL_gy (g := 32) rfl (by decide) rfl ?_
  refine neqW rfl rfl ?_
  refine WL_gy (g := 32) rfl (by decide) rfl ?_
  refine mvp (.bool _) rfl ?_
  refine WL_g (g := 35) rfl (by decide) rfl (fun hg35 => ?_) (fun hg35 => ?_)
  · skip
    refine mvp (.int _ _) rfl ?_
    refine WL_gy (g := 35) rfl (by decide) rfl ?_
    refine neqW rfl rfl ?_
    refine WL_gy (g := 35) rfl (by decide) rfl ?_
    refine mvp (.bool _) rfl ?_
    refine WL_gyb (g := 38) rfl (by decide) rfl ((by rw [(d3 (by simpa using hg35)).1]; rfl)) ?_
    refine ldA hs rfl (by simp) ?_
    refine WL_gy (g := 38) rfl (by decide) rfl ?_
    refine WL_v (v := .agg (lkV 0 false none 0 0).toArray) (X_build rfl rfl) ?_
    refine WL_gy (g := 38) rfl (by decide) rfl ?_
    refine cll (same_ok D.1 ⟨0, false, []⟩ a none n c 0 0 _ (hs.rd (a := a)) hn (PRd_nil _).1 rfl (by rw [hn, (d3 (by simpa using hg35)).2]; simp)) ?_
    rintro _ w ⟨rfl, hf⟩
    replace hs := hs.call hf
    rw [show lkSame D.1 ⟨0, false, []⟩ = true by rw [(d3 (by simpa using hg35)).2]; rfl]
    refine WL_gy (g := 38) rfl (by decide) rfl ?_
    refine notW rfl ?_
    refine WL_gy (g := 35) rfl (by decide) rfl ?_
    first | refine pkT rfl rfl ?_ | refine pkF rfl rfl ?_
    refine WL_gy (g := 32) rfl (by decide) rfl ?_
    first | refine pkT rfl rfl ?_ | refine pkF rfl rfl ?_
    first | refine pkT rfl rfl ?_ | refine pkF rfl rfl ?_
    refine WL_nil ?_
    refine hK6 _ _ ?_
    refine CW_condF rfl (rfl) ?_
    refine CW_skip ?_
    refine hK5 _ _ ?_
    refine CW_seq (fun K7 hK7 => ?_)
    refine CW_seq (fun K8 hK8 => ?_)
    refine CW_region ?_
    refine mvp (.bool _) rfl ?_
    refine notW rfl ?_
    refine WL_nil ?_
    refine hK8 _ _ ?_
    refine CW_cond rfl (fun hc47 => ?_) (fun hc47 => ?_)
    · skip
      refine CW_seq (fun K9 hK9 => ?_)
      refine CW_region ?_
      refine asp (.bool _) rfl ?_
      refine WL_nil ?_
      refine hK9 _ _ ?_
      refine CW_ret ?_
      repeat (first | (with_reducible apply thenF_ret) | (with_reducible apply blockF_ret))
      try simp only [thenF, blockF, reduceIte]
      refine Post_r Tryz.results3 (.tmp rfl .nil) ?_
      try simp only [ev_tmp, ev_const, upd_ap, Nat.reduceLT, Nat.reduceEqDiff, reduceIte]
      exact ⟨by trivial, hs.fm⟩
    · have hok : Z.2 = true := by simpa using hc47
      have h0 : D.2 = 0 := by rw [hok] at d2; simpa using d2
      obtain ⟨h1, h2⟩ := d4 h0
      refine CW_skip ?_
      refine hK7 _ _ ?_
      refine CW_seq (fun K10 hK10 => ?_)
      refine CW_region ?_
      refine ldA hs rfl (by simp) ?_
      refine cll (Encode_ok D.1 a n c _ (hs.rd (a := a)) hn hshort (fun h => fun x hx => by have := lk_short h x hx; omega)) ?_
      rintro _ w ⟨rfl, hf⟩
      replace hs := hs.call hf
      rw [if_pos h1, h1, h2]
      refine mvp (.tuple _) rfl ?_
      refine ext rfl rfl ?_
      refine ext rfl rfl ?_
      refine asp (.string _) rfl ?_
      refine asp (.int _ _) rfl ?_
      refine WL_nil ?_
      refine hK10 _ _ ?_
      refine CW_seq (fun K11 hK11 => ?_)
      refine CW_region ?_
      refine ldA hs rfl (by simp) ?_
      refine ldA hs rfl (by simp) ?_
      refine cll (same_ok D.1 Z.1 a a2 n c n2 c2 _ (hs.rd (a := a)) hn (hs.rd (a := a2)) hn2 (by have := (lkCheck_0 h1).2.1; omega)) ?_
      rintro _ w ⟨rfl, hf⟩
      replace hs := hs.call hf
      rw [show lkSame D.1 Z.1 = true by rw [d1]; exact decide_eq_true rfl]
      refine mvp (.bool _) rfl ?_
      refine WL_gyb (g := 56) rfl (by decide) rfl (rfl) ?_
      refine mvp (.int _ _) rfl ?_
      refine WL_gy (g := 56) rfl (by decide) rfl ?_
      refine eqlW rfl rfl ?_
      first | refine pkT rfl rfl ?_ | refine pkF rfl rfl ?_
      refine mvp (.bool _) rfl ?_
      refine WL_gyb (g := 60) rfl (by decide) rfl (rfl) ?_
      refine mvp (.string _) rfl ?_
      refine WL_gy (g := 60) rfl (by decide) rfl ?_
      refine mvp (.string _) rfl ?_
      refine WL_gy (g := 60) rfl (by decide) rfl ?_
      refine eqS rfl rfl ?_
      first | refine pkT rfl rfl ?_ | refine pkF rfl rfl ?_
      refine asp (.bool _) rfl ?_
      refine WL_nil ?_
      refine hK11 _ _ ?_
      refine CW_ret ?_
      repeat (first | (with_reducible apply thenF_ret) | (with_reducible apply blockF_ret))
      try simp only [thenF, blockF, reduceIte]
      refine Post_r Tryz.results3 (.tmp rfl .nil) ?_
      try simp only [ev_tmp, ev_const, upd_ap, Nat.reduceLT, Nat.reduceEqDiff, reduceIte]
      exact ⟨by simp, hs.fm⟩
  · skip
    refine WL_gn (g := 35) rfl (by decide) rfl ?_
    refine WL_gn (g := 35) rfl (by decide) rfl ?_
    refine WL_gx (g := 38) rfl (by decide) rfl ?_
    refine WL_gx (g := 38) rfl (by decide) rfl ?_
    refine WL_gx (g := 38) rfl (by decide) rfl ?_
    refine WL_gx (g := 38) rfl (by decide) rfl ?_
    refine WL_gn (g := 35) rfl (by decide) rfl ?_
    refine WL_gy (g := 32) rfl (by decide) rfl ?_
    first | refine pkT rfl rfl ?_ | refine pkF rfl rfl ?_
    first | refine pkT rfl rfl ?_ | refine pkF rfl rfl ?_
    refine WL_nil ?_
    refine hK6 _ _ ?_
    refine CW_condF rfl rfl ?_
    refine CW_skip ?_
    refine hK5 _ _ ?_
    refine CW_seq (fun K12 hK12 => ?_)
    refine CW_seq (fun K13 hK13 => ?_)
    refine CW_region ?_
    refine mvp (.bool _) rfl ?_
    refine notW rfl ?_
    refine WL_nil ?_
    refine hK13 _ _ ?_
    refine CW_cond rfl (fun hc47 => ?_) (fun hc47 => ?_)
    · skip
      refine CW_seq (fun K14 hK14 => ?_)
      refine CW_region ?_
      refine asp (.bool _) rfl ?_
      refine WL_nil ?_
      refine hK14 _ _ ?_
      refine CW_ret ?_
      repeat (first | (with_reducible apply thenF_ret) | (with_reducible apply blockF_ret))
      try simp only [thenF, blockF, reduceIte]
      refine Post_r Tryz.results3 (.tmp rfl .nil) ?_
      try simp only [ev_tmp, ev_const, upd_ap, Nat.reduceLT, Nat.reduceEqDiff, reduceIte]
      exact ⟨by trivial, hs.fm⟩
    · have hok : Z.2 = true := by simpa using hc47
      have h0 : D.2 = 0 := by rw [hok] at d2; simpa using d2
      obtain ⟨h1, h2⟩ := d4 h0
      refine CW_skip ?_
      refine hK12 _ _ ?_
      refine CW_seq (fun K15 hK15 => ?_)
      refine CW_region ?_
      refine ldA hs rfl (by simp) ?_
      refine cll (Encode_ok D.1 a n c _ (hs.rd (a := a)) hn hshort (fun h => fun x hx => by have := lk_short h x hx; omega)) ?_
      rintro _ w ⟨rfl, hf⟩
      replace hs := hs.call hf
      rw [if_pos h1, h1, h2]
      refine mvp (.tuple _) rfl ?_
      refine ext rfl rfl ?_
      refine ext rfl rfl ?_
      refine asp (.string _) rfl ?_
      refine asp (.int _ _) rfl ?_
      refine WL_nil ?_
      refine hK15 _ _ ?_
      refine CW_seq (fun K16 hK16 => ?_)
      refine CW_region ?_
      refine ldA hs rfl (by simp) ?_
      refine ldA hs rfl (by simp) ?_
      refine cll (same_ok D.1 Z.1 a a2 n c n2 c2 _ (hs.rd (a := a)) hn (hs.rd (a := a2)) hn2 (by have := (lkCheck_0 h1).2.1; omega)) ?_
      rintro _ w ⟨rfl, hf⟩
      replace hs := hs.call hf
      rw [show lkSame D.1 Z.1 = true by rw [d1]; exact decide_eq_true rfl]
      refine mvp (.bool _) rfl ?_
      refine WL_gyb (g := 56) rfl (by decide) rfl (rfl) ?_
      refine mvp (.int _ _) rfl ?_
      refine WL_gy (g := 56) rfl (by decide) rfl ?_
      refine eqlW rfl rfl ?_
      first | refine pkT rfl rfl ?_ | refine pkF rfl rfl ?_
      refine mvp (.bool _) rfl ?_
      refine WL_gyb (g := 60) rfl (by decide) rfl (rfl) ?_
      refine mvp (.string _) rfl ?_
      refine WL_gy (g := 60) rfl (by decide) rfl ?_
      refine mvp (.string _) rfl ?_
      refine WL_gy (g := 60) rfl (by decide) rfl ?_
      refine eqS rfl rfl ?_
      first | refine pkT rfl rfl ?_ | refine pkF rfl rfl ?_
      refine asp (.bool _) rfl ?_
      refine WL_nil ?_
      refine hK16 _ _ ?_
      refine CW_ret ?_
      repeat (first | (with_reducible apply thenF_ret) | (with_reducible apply blockF_ret))
      try simp only [thenF, blockF, reduceIte]
      refine Post_r Tryz.results3 (.tmp rfl .nil) ?_
      try simp only [ev_tmp, ev_const, upd_ap, Nat.reduceLT, Nat.reduceEqDiff, reduceIte]
      exact ⟨by simp, hs.fm⟩
end Go.Proofs.YtkbldndbofbkcaaGreatDoor
/- For any text, LockDecodes returns true: Decode gives a lock whose value the text is, or ErrFormat (the statement's tied card). No condition. -/
namespace Go.Proofs.YtkbldndbofbkcaaGreatDoor
open Go Go.ChangeShapes Go.WideShapes Go.RowKit
set_option maxRecDepth 100000 in
theorem lockDecodes_lifted (os : Os) (started : os.Started) (H : Type) (enc : TypeId × Value → H) :
    ReturnsInHanded {} Tryz.checked os 3 .any (fun w args => (Rows.lockDecodesSpec.pre enc Tryz.prog Tryz.f3 [] false w args ∧ laidMetH Tryz.prog laid5 w) ∧ sizedMet enc Tryz.prog Tryz.f3 (OpenSpec.ofChange Rows.lockDecodesSpec) false w args)
      (Rows.lockDecodesSpec.post enc Tryz.prog Tryz.f3 false true false false) := by
  refine returnsInHanded_of_change_and (C := Tryz.checked) (X := fun w _ => laidMetH Tryz.prog laid5 w) (fun _ _ _ hh h => h.of_heap hh) own started (by kernel_rfl) Tryz.func3
    (ChangeSpec.witness_shaped (enc := enc) (C := Tryz.checked) (os := os) (X := fun w _ => laidMetH Tryz.prog laid5 w) false (World.doorLaid Tryz.prog 400 os) #[.string ⟨#[]⟩] 8 rfl (World.shaped_of_RefB (by kernel_rfl) (by kernel_rfl)) (by kernel_rfl) (by kernel_rfl) (by kernel_rfl) (door_met os _)) ?_
  intro W base args ds gs before hval0 hW _ _ _ _
  have hval : ∀ (j : Nat) t v, Tryz.f3.params[j]? = some t → args[j]? = some v → Value.okWide Tryz.prog W .any base t v := hval0
  have hW' := hW
  obtain ⟨p, q, hA0, hV, rfl, _, _⟩ := hW
  have hA : DataW.TrodAll enc Tryz.prog W 0 (fun _ => true) true Tryz.f3.params.toList args.toList ds p := hA0
  rw [Tryz.params3] at hA hval
  obtain ⟨v0, d0, rfl, rfl, h0⟩ := trodAll_one hA
  obtain ⟨rfl, rfl⟩ := trodVars_none hV
  obtain ⟨s, rfl, rfl, rfl, hs⟩ := ChangeMaps.open_string Tryz.underlying9 (hval 0 _ v0 rfl rfl) h0
  exact law_calls rfl rfl (by rw [Tryz.params3]; intro t ht; simp at ht; subst ht; exact ⟨by kernel_rfl, of_decide_eq_true (by kernel_rfl)⟩) hW' rfl (lockDecodes_ok s W hs)
theorem lockDecodes_j1 : Rows.lockDecodesRow.wf (OpenSpec.ofChange Rows.lockDecodesSpec) = true := by kernel_rfl
theorem lockDecodes_j4 : Tryz.f3.params.all (Tryz.prog.readableRec ·) = true := by kernel_rfl
theorem lockDecodes_j5 : namedTie Tryz.prog Rows.lockDecodesRow.named Rows.lockDecodesSpec.vars = true := by kernel_rfl
theorem lockDecodes_j6 : (Rows.lockDecodesRow.stops == []) = true := by kernel_rfl
theorem lockDecodes_j8 : (Rows.lockDecodesRow.knobs == []) = true := by kernel_rfl
theorem lockDecodes_j10 : (Rows.lockDecodesRow.inPlace == Tryz.prog.inPlace 3) = true := by kernel_rfl
theorem lockDecodes_j11 : (Rows.lockDecodesRow.unfollowed == Tryz.prog.unfollowed 3) = true := by kernel_rfl
theorem lockDecodes_j12 : (Rows.lockDecodesRow.recurses == Tryz.prog.recurses 3) = true := by kernel_rfl
theorem lockDecodes_j13 : (Rows.lockDecodesRow.named == Tryz.prog.varsNamed 3) = true := by kernel_rfl
theorem lockDecodes_j14 : (Rows.lockDecodesRow.maps == (Tryz.f3.params.toList ++ Rows.lockDecodesSpec.plain.varTypes Tryz.prog).any (Tryz.prog.mapsRec ·)) = true := by kernel_rfl
theorem lockDecodes_j15 : (Rows.lockDecodesRow.ifaces == (Tryz.f3.params.toList ++ Rows.lockDecodesSpec.plain.varTypes Tryz.prog).any (Tryz.prog.ifacesRec ·)) = true := by kernel_rfl
theorem lockDecodes_j16 : (Rows.lockDecodesRow.mapsOut == Tryz.prog.mapsAmong Tryz.f3.resultTypes.toList) = true := by kernel_rfl
theorem lockDecodes_j17 : (Rows.lockDecodesRow.loops == (Tryz.f3.params.toList ++ Rows.lockDecodesSpec.plain.varTypes Tryz.prog).any (Tryz.prog.loopsFrom ·)) = true := by kernel_rfl
theorem lockDecodes_j18 : (Rows.lockDecodesRow.wideKeys == (Tryz.f3.params.toList ++ Rows.lockDecodesSpec.plain.varTypes Tryz.prog ++ Tryz.f3.resultTypes.toList).any (Tryz.prog.wideKeysFrom ·)) = true := by kernel_rfl
theorem lockDecodes_j19 : Rows.lockDecodesSpec.vars.all (Tryz.prog.varReadable ·) = true := by kernel_rfl
theorem lockDecodes_j20 : Tryz.f3.resultTypes.all (fun t => Tryz.prog.readableRec t && decide (t < Tryz.prog.types.size)) = true := by kernel_rfl
theorem lockDecodes_j21 : (Rows.lockDecodesRow.ifacesOut == Tryz.f3.resultTypes.toList.any (Tryz.prog.ifacesRec ·)) = true := by kernel_rfl
theorem lockDecodes_j22 : (Rows.lockDecodesRow.loopsOut == Tryz.f3.resultTypes.toList.any (Tryz.prog.loopsFrom ·)) = true := by kernel_rfl
theorem lockDecodes_j23 : (Rows.lockDecodesRow.plainKeys == Tryz.prog.plainKeys) = true := p_keys
theorem lockDecodes_j24 : Rows.lockDecodesRow.shortTexts.isNone = true := by kernel_rfl
theorem lockDecodes_j27 : (Rows.lockDecodesRow.lifted == Tryz.prog.liftsFinal) = true := p_lift
theorem lockDecodes_j28 : (Tryz.prog.make == some Rows.lockDecodesRow.make) = true := p_make
theorem lockDecodes_j30 : (Rows.lockDecodesRow.pinned == Rows.lockDecodesRow.pinnedBy) = true := by kernel_rfl
theorem lockDecodes_j31 : (Rows.lockDecodesRow.veiled == (Tryz.f3.params.toList ++ Rows.lockDecodesSpec.plain.varTypes Tryz.prog ++ Tryz.f3.resultTypes.toList).any (Tryz.prog.veiledRec ·)) = true := by kernel_rfl
theorem lockDecodes_j32 : Rows.lockDecodesRow.veiledFits Tryz.prog Tryz.f3.params.toList (Tryz.f3.params.toList ++ Rows.lockDecodesSpec.plain.varTypes Tryz.prog ++ Tryz.f3.resultTypes.toList) = true := by kernel_rfl
theorem lockDecodes_joined : joinedFacts Tryz.prog 3 Tryz.f3 Rows.lockDecodesSpec Rows.lockDecodesRow = true :=
  joined_of lockDecodes_j1 laidOut p_maps lockDecodes_j4 lockDecodes_j5 lockDecodes_j6 p_stops lockDecodes_j8 p_knobs lockDecodes_j10 lockDecodes_j11 lockDecodes_j12 lockDecodes_j13 lockDecodes_j14 lockDecodes_j15 lockDecodes_j16 lockDecodes_j17 lockDecodes_j18 lockDecodes_j19 lockDecodes_j20 lockDecodes_j21 lockDecodes_j22 lockDecodes_j23 lockDecodes_j24 p_heard p_enter lockDecodes_j27 lockDecodes_j28 rfl rfl lockDecodes_j30 lockDecodes_j31 lockDecodes_j32
theorem lockDecodes_named : Tryz.prog.funcNamed "replevin/replevinlaw34.LockDecodes" = some 3 := by kernel_rfl
theorem lockDecodes_inst : Tryz.f3.isInstance Tryz.prog Rows.lockDecodesRow.origin Rows.lockDecodesRow.targs := of_decide_eq_true (by kernel_rfl)
theorem lockDecodes_wrap : Tryz.f3.isWrapper Tryz.prog Rows.lockDecodesRow.wrapper Rows.lockDecodesRow.mainSum := by unfold Func.isWrapper; rw [if_neg (of_decide_eq_false (by kernel_rfl))]; exact ⟨rfl, rfl⟩
theorem lockDecodes_said : Rows.LockDecodesSaid :=
  OpenClaim.holds_of_wide 3 Tryz.f3 rfl rfl rfl rfl rfl rfl rfl ⟨rfl, rfl, rfl, rfl, rfl⟩ rfl rfl rfl rfl rfl lockDecodes_named Tryz.func3 lockDecodes_joined lockDecodes_inst lockDecodes_wrap (fun os started H enc _ => lockDecodes_lifted os started H enc)
theorem lockDecodes_want0 : Tryz.prog.wantsStandIn 9 = false := by kernel_rfl
theorem lockDecodes_wf : Rows.lockDecodesRow.wfByText (OpenSpec.ofChange Rows.lockDecodesSpec) = true := by kernel_rfl
theorem lockDecodes_goes : false = Rows.lockDecodesRow.goesBy Tryz.prog := by kernel_rfl
theorem lockDecodes_plain : ∀ f fn, Tryz.prog.funcNamed "replevin/replevinlaw34.LockDecodes" = some f → Tryz.prog.funcs[f]? = some fn → true = Tryz.prog.looks [] ∧ ∀ (j : Nat) t, fn.params[j]? = some t → Tryz.prog.wantsStandIn t = false := fun f fn hf hfn => by
  obtain rfl : f = 3 := (Option.some.inj (lockDecodes_named.symm.trans hf)).symm
  obtain rfl : fn = Tryz.f3 := (Option.some.inj (Tryz.func3.symm.trans hfn)).symm
  refine ⟨p_looks, fun j t ht => ?_⟩
  rw [Tryz.params3] at ht
  have hm := List.mem_of_getElem? (by simpa using ht)
  simp at hm
  first
    | (subst hm; first | exact lockDecodes_want0)
    | (rcases hm with rfl | rfl <;> first | exact lockDecodes_want0)
    | (rcases hm with rfl | rfl | rfl <;> first | exact lockDecodes_want0)
theorem lockDecodes_holds : Rows.LockDecodesCardSaid :=
  Claim7.holds_tied_plain_at .later [] [.data, .data, .data, .sentinel, .sentinel] true (true, "2a6453758fad6cc53dd7f591497998820b78589a43cd8ac577ef6ff2b26842bc") true
    lockDecodes_said (fun _ h => by cases h) lockDecodes_wf (fun _ h => by cases h) lockDecodes_row_tie rfl ⟨rfl, rfl⟩ p_main rfl lockDecodes_plain lockDecodes_goes
#print axioms lockDecodes_holds
end Go.Proofs.YtkbldndbofbkcaaGreatDoor
