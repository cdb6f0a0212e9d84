/- replevinlaw34.LockDecodes: the walk. | lock: a nil view. | replevinlaw34.LockErrors: the walk. | For any birth, any epoch, any process and any value of the lock, LockErrors returns true: the functions return the first error that applies, and write nothing then (the statement's tied card). No condition. -/
import Derived.Test.YtkbldndbofbkcaaGreatDoorMF
import Derived.Test.YtkbldndbofbkcaaGreatDoorME
import Derived.Test.YtkbldndbofbkcaaGreatDoorNS
import Derived.Test.YtkbldndbofbkcaaGreatDoorNX
set_option linter.unusedSimpArgs false
set_option linter.unusedVariables false
/- replevinlaw34.LockDecodes: the walk. -/
namespace Go.Proofs.YtkbldndbofbkcaaGreatDoor
open Go Go.RowKit
attribute [local irreducible] WL CW DW Ret RW
theorem decR_short (bs : List UInt8) : ∀ h ∈ (decR bs).1.hs, h.size ≤ 9223372036854775807 := by
  intro h hm
  unfold decR lkDec at hm
  split at hm
  · rename_i l hl
    split at hl
    · injection hl with hl; rw [← hl] at hm; exact rTs_short _ _ _ _ h hm
    · cases hl
  · cases hm
theorem dec_par {bs : List UInt8} (h : bs.length ≤ 65536) : (decR bs).1 = (parR bs).1 ∧ decide ((decR bs).2 = 0) = (parR bs).2 ∧ ((decR bs).2 ≠ 0 → (decR bs).2 = 3 ∧ (decR bs).1 = ⟨0, false, []⟩) ∧ ((decR bs).2 = 0 → lkCheck (decR bs).1 = 0 ∧ lkEnc (decR bs).1 = bs) := by
  have e := lkDec_eq (m1 := 16777216) (m2 := 65536) (bs := bs) (by omega) h (by omega)
  unfold decR parR
  rw [e]
  cases hq : lkDec 65536 bs with
  | none => exact ⟨rfl, rfl, fun _ => ⟨rfl, rfl⟩, fun h => by cases h⟩
  | some l =>
    have := (lkDec_iff h (by omega)).1 hq
    exact ⟨rfl, rfl, fun h => absurd rfl h, fun _ => ⟨this.1, this.2.symm⟩⟩
theorem lockDecodes_ok (s : ByteArray) (w0 : World) (hsz : s.size ≤ maxLen) : Ret Tryz.prog 3 #[.string s] w0 fun v w' => v = .bool true ∧ Fm [] w0 w' := by
  have hs := St.init w0 []
  have hsl : s.data.toList.length = s.size := by rw [Array.length_toList]; rfl
  unfold maxLen at hsz
  obtain ⟨q, hq, hq1, hq2⟩ : ∃ q : Nat, (if (300 : Int) < (s.size : Int) then (300 : Int) else (s.size : Int)) = (q : Int) ∧ q ≤ 300 ∧ q ≤ s.size := by
    by_cases h : 300 < s.size
    · exact ⟨300, by rw [if_pos (by omega)]; rfl, by omega, by omega⟩
    · exact ⟨s.size, by rw [if_neg (by omega)], by omega, by omega⟩
  obtain ⟨bs, hbs⟩ : ∃ bs, s.data.toList.take q = bs := ⟨_, rfl⟩
  have hbl : bs.length ≤ 300 := by rw [← hbs, List.length_take]; omega
  have hS : (str bs).size ≤ 140737488355328 := by rw [str_size]; omega
  obtain ⟨d1, d2, d3, d4⟩ := dec_par (bs := bs) (by omega)
  have hdata : (str bs).data.toList = bs := rfl
  obtain ⟨D, hD⟩ : ∃ D, decR bs = D := ⟨_, rfl⟩
  obtain ⟨Z, hZ⟩ : ∃ Z, parR bs = Z := ⟨_, rfl⟩
  have hshort := decR_short bs
  rw [hD, hZ] at d1 d2
  rw [hD] at d3 d4 hshort
  refine Ret_enter Tryz.func3 rfl Tryz.ntmps3 (by simp) ?_
  refine CW_seq (fun K1 hK1 => ?_)
  refine CW_region ?_
  refine asp (.bool _) rfl ?_
  refine WL_nil ?_
  refine hK1 _ _ ?_
  refine CW_seq (fun K2 hK2 => ?_)
  refine CW_region ?_
  refine mvp (.string _) rfl ?_
  refine mvp (.string _) rfl ?_
  refine lenS rfl ?_
  refine minW rfl rfl ?_
  rw [hq]
  refine ssH rfl rfl (by omega) ?_
  rw [show ((q : Int)).toNat = q from rfl, hbs]
  refine asp (.string _) rfl ?_
  refine WL_nil ?_
  refine hK2 _ _ ?_
  refine CW_seq (fun K3 hK3 => ?_)
  refine CW_region ?_
  refine mvp (.string _) rfl ?_
  refine cll (Decode_ok (str bs) _ hS) ?_
  rintro _ w ⟨⟨a, n, c, rfl, hn, hnew⟩, hf⟩
  replace hs := hs.callR hf hnew
  rw [hdata, hD] at hs hn
  rw [hdata, hD]
  refine mvp (.tuple _) rfl ?_
  refine ext rfl rfl ?_
  refine ext rfl rfl ?_
  refine alc hs ?_
  intro w g3 hs hg3 hf3
  refine sto (.agg (lkV D.1.ep D.1.sh a n c).toArray) (vl := lkV D.1.ep D.1.sh a n c) hs rfl rfl rfl rfl (by simp) rfl ?_
  intro w hs _
  replace hs : St w0 [] w (eB g3 true (Blk 24 (lkV D.1.ep D.1.sh a n c)) :: _) := hs
  refine asp (.int _ _) rfl ?_
  refine WL_nil ?_
  refine hK3 _ _ ?_
  refine CW_seq (fun K4 hK4 => ?_)
  refine CW_region ?_
  refine mvp (.string _) rfl ?_
  refine cll (parse34_ok (str bs) _ hS) ?_
  rintro _ w ⟨⟨a2, n2, c2, rfl, hn2, hnew⟩, hf⟩
  replace hs := hs.callR hf hnew
  rw [hdata, hZ] at hs hn2
  rw [hdata, hZ]
  refine mvp (.tuple _) rfl ?_
  refine ext rfl rfl ?_
  refine ext rfl rfl ?_
  refine alc hs ?_
  intro w g5 hs hg5 hf5
  refine sto (.agg (lkV Z.1.ep Z.1.sh a2 n2 c2).toArray) (vl := lkV Z.1.ep Z.1.sh a2 n2 c2) hs rfl rfl rfl rfl (by simp) rfl ?_
  intro w hs _
  replace hs : St w0 [] w (eB g5 true (Blk 24 (lkV Z.1.ep Z.1.sh a2 n2 c2)) :: _) := hs
  refine asp (.bool _) rfl ?_
  refine WL_nil ?_
  refine hK4 _ _ ?_
  refine CW_seq (fun K5 hK5 => ?_)
  refine CW_seq (fun K6 hK6 => ?_)
  refine CW_region ?_
  refine cll (known_ok _) ?_
  rintro _ w ⟨rfl, hf⟩
  replace hs := hs.call hf
  refine notW rfl ?_
  refine mvp (.bool _) rfl ?_
  refine WL_gyb (g := 26) rfl (by decide) rfl (rfl) ?_
  refine mvp (.int _ _) rfl ?_
  refine WL_gy (g := 26) rfl (by decide) rfl ?_
  refine eqlW rfl rfl ?_
  refine WL_gy (g := 26) rfl (by decide) rfl ?_
  refine mvp (.bool _) rfl ?_
  refine WL_gy (g := 26) rfl (by decide) rfl ?_
  refine WL_v (X_neB rfl rfl) ?_
  first | refine pkT rfl rfl ?_ | refine pkF rfl rfl ?_
  refine mvp (.bool _) rfl ?_
  refine WL_gyb (g := 32) rfl (by decide) rfl ((by rw [d2]; simp)) ?_
  refine mvp (.int _ _) rfl ?_
  refine WL_gy (g := 32) rfl (by decide) rfl ?_
  refine neqW rfl rfl ?_
  refine WL_gy (g := 32) rfl (by decide) rfl ?_
  refine mvp (.bool _) rfl ?_
  refine WL_g (g := 35) rfl (by decide) rfl (fun hg35 => ?_) (fun hg35 => ?_)
  · skip
    refine mvp (.int _ _) rfl ?_
    refine WL_gy (g := 35) rfl (by decide) rfl ?_
    refine neqW rfl rfl ?_
    refine WL_gy (g := 35) rfl (by decide) rfl ?_
    refine mvp (.bool _) rfl ?_
    refine WL_gyb (g := 38) rfl (by decide) rfl ((by rw [(d3 (by simpa using hg35)).1]; rfl)) ?_
    refine ldA hs rfl (by simp) ?_
    refine WL_gy (g := 38) rfl (by decide) rfl ?_
    refine WL_v (v := .agg (lkV 0 false none 0 0).toArray) (X_build rfl rfl) ?_
    refine WL_gy (g := 38) rfl (by decide) rfl ?_
    refine cll (same_ok D.1 ⟨0, false, []⟩ a none n c 0 0 _ (hs.rd (a := a)) hn (PRd_nil _).1 rfl (by rw [hn, (d3 (by simpa using hg35)).2]; simp)) ?_
    rintro _ w ⟨rfl, hf⟩
    replace hs := hs.call hf
    rw [show lkSame D.1 ⟨0, false, []⟩ = true by rw [(d3 (by simpa using hg35)).2]; rfl]
    refine WL_gy (g := 38) rfl (by decide) rfl ?_
    refine notW rfl ?_
    refine WL_gy (g := 35) rfl (by decide) rfl ?_
    first | refine pkT rfl rfl ?_ | refine pkF rfl rfl ?_
    refine WL_gy (g := 32) rfl (by decide) rfl ?_
    first | refine pkT rfl rfl ?_ | refine pkF rfl rfl ?_
    first | refine pkT rfl rfl ?_ | refine pkF rfl rfl ?_
    refine WL_nil ?_
    refine hK6 _ _ ?_
    refine CW_condF rfl (rfl) ?_
    refine CW_skip ?_
    refine hK5 _ _ ?_
    refine CW_seq (fun K7 hK7 => ?_)
    refine CW_seq (fun K8 hK8 => ?_)
    refine CW_region ?_
    refine mvp (.bool _) rfl ?_
    refine notW rfl ?_
    refine WL_nil ?_
    refine hK8 _ _ ?_
    refine CW_cond rfl (fun hc47 => ?_) (fun hc47 => ?_)
    · skip
      refine CW_seq (fun K9 hK9 => ?_)
      refine CW_region ?_
      refine asp (.bool _) rfl ?_
      refine WL_nil ?_
      refine hK9 _ _ ?_
      refine CW_ret ?_
      repeat (first | (with_reducible apply thenF_ret) | (with_reducible apply blockF_ret))
      try simp only [thenF, blockF, reduceIte]
      refine Post_r Tryz.results3 (.tmp rfl .nil) ?_
      try simp only [ev_tmp, ev_const, upd_ap, Nat.reduceLT, Nat.reduceEqDiff, reduceIte]
      exact ⟨by trivial, hs.fm⟩
    · have hok : Z.2 = true := by simpa using hc47
      have h0 : D.2 = 0 := by rw [hok] at d2; simpa using d2
      obtain ⟨h1, h2⟩ := d4 h0
      refine CW_skip ?_
      refine hK7 _ _ ?_
      refine CW_seq (fun K10 hK10 => ?_)
      refine CW_region ?_
      refine ldA hs rfl (by simp) ?_
      refine cll (Encode_ok D.1 a n c _ (hs.rd (a := a)) hn hshort (fun h => fun x hx => by have := lk_short h x hx; omega)) ?_
      rintro _ w ⟨rfl, hf⟩
      replace hs := hs.call hf
      rw [if_pos h1, h1, h2]
      refine mvp (.tuple _) rfl ?_
      refine ext rfl rfl ?_
      refine ext rfl rfl ?_
      refine asp (.string _) rfl ?_
      refine asp (.int _ _) rfl ?_
      refine WL_nil ?_
      refine hK10 _ _ ?_
      refine CW_seq (fun K11 hK11 => ?_)
      refine CW_region ?_
      refine ldA hs rfl (by simp) ?_
      refine ldA hs rfl (by simp) ?_
      refine cll (same_ok D.1 Z.1 a a2 n c n2 c2 _ (hs.rd (a := a)) hn (hs.rd (a := a2)) hn2 (by have := (lkCheck_0 h1).2.1; omega)) ?_
      rintro _ w ⟨rfl, hf⟩
      replace hs := hs.call hf
      rw [show lkSame D.1 Z.1 = true by rw [d1]; exact decide_eq_true rfl]
      refine mvp (.bool _) rfl ?_
      refine WL_gyb (g := 56) rfl (by decide) rfl (rfl) ?_
      refine mvp (.int _ _) rfl ?_
      refine WL_gy (g := 56) rfl (by decide) rfl ?_
      refine eqlW rfl rfl ?_
      first | refine pkT rfl rfl ?_ | refine pkF rfl rfl ?_
      refine mvp (.bool _) rfl ?_
      refine WL_gyb (g := 60) rfl (by decide) rfl (rfl) ?_
      refine mvp (.string _) rfl ?_
      refine WL_gy (g := 60) rfl (by decide) rfl ?_
      refine mvp (.string _) rfl ?_
      refine WL_gy (g := 60) rfl (by decide) rfl ?_
      refine eqS rfl rfl ?_
      first | refine pkT rfl rfl ?_ | refine pkF rfl rfl ?_
      refine asp (.bool _) rfl ?_
      refine WL_nil ?_
      refine hK11 _ _ ?_
      refine CW_ret ?_
      repeat (first | (with_reducible apply thenF_ret) | (with_reducible apply blockF_ret))
      try simp only [thenF, blockF, reduceIte]
      refine Post_r Tryz.results3 (.tmp rfl .nil) ?_
      try simp only [ev_tmp, ev_const, upd_ap, Nat.reduceLT, Nat.reduceEqDiff, reduceIte]
      exact ⟨by simp, hs.fm⟩
  · skip
    refine WL_gn (g := 35) rfl (by decide) rfl ?_
    refine WL_gn (g := 35) rfl (by decide) rfl ?_
    refine WL_gx (g := 38) rfl (by decide) rfl ?_
    refine WL_gx (g := 38) rfl (by decide) rfl ?_
    refine WL_gx (g := 38) rfl (by decide) rfl ?_
    refine WL_gx (g := 38) rfl (by decide) rfl ?_
    refine WL_gn (g := 35) rfl (by decide) rfl ?_
    refine WL_gy (g := 32) rfl (by decide) rfl ?_
    first | refine pkT rfl rfl ?_ | refine pkF rfl rfl ?_
    first | refine pkT rfl rfl ?_ | refine pkF rfl rfl ?_
    refine WL_nil ?_
    refine hK6 _ _ ?_
    refine CW_condF rfl rfl ?_
    refine CW_skip ?_
    refine hK5 _ _ ?_
    refine CW_seq (fun K12 hK12 => ?_)
    refine CW_seq (fun K13 hK13 => ?_)
    refine CW_region ?_
    refine mvp (.bool _) rfl ?_
    refine notW rfl ?_
    refine WL_nil ?_
    refine hK13 _ _ ?_
    refine CW_cond rfl (fun hc47 => ?_) (fun hc47 => ?_)
    · skip
      refine CW_seq (fun K14 hK14 => ?_)
      refine CW_region ?_
      refine asp (.bool _) rfl ?_
      refine WL_nil ?_
      refine hK14 _ _ ?_
      refine CW_ret ?_
      repeat (first | (with_reducible apply thenF_ret) | (with_reducible apply blockF_ret))
      try simp only [thenF, blockF, reduceIte]
      refine Post_r Tryz.results3 (.tmp rfl .nil) ?_
      try simp only [ev_tmp, ev_const, upd_ap, Nat.reduceLT, Nat.reduceEqDiff, reduceIte]
      exact ⟨by trivial, hs.fm⟩
    · have hok : Z.2 = true := by simpa using hc47
      have h0 : D.2 = 0 := by rw [hok] at d2; simpa using d2
      obtain ⟨h1, h2⟩ := d4 h0
      refine CW_skip ?_
      refine hK12 _ _ ?_
      refine CW_seq (fun K15 hK15 => ?_)
      refine CW_region ?_
      refine ldA hs rfl (by simp) ?_
      refine cll (Encode_ok D.1 a n c _ (hs.rd (a := a)) hn hshort (fun h => fun x hx => by have := lk_short h x hx; omega)) ?_
      rintro _ w ⟨rfl, hf⟩
      replace hs := hs.call hf
      rw [if_pos h1, h1, h2]
      refine mvp (.tuple _) rfl ?_
      refine ext rfl rfl ?_
      refine ext rfl rfl ?_
      refine asp (.string _) rfl ?_
      refine asp (.int _ _) rfl ?_
      refine WL_nil ?_
      refine hK15 _ _ ?_
      refine CW_seq (fun K16 hK16 => ?_)
      refine CW_region ?_
      refine ldA hs rfl (by simp) ?_
      refine ldA hs rfl (by simp) ?_
      refine cll (same_ok D.1 Z.1 a a2 n c n2 c2 _ (hs.rd (a := a)) hn (hs.rd (a := a2)) hn2 (by have := (lkCheck_0 h1).2.1; omega)) ?_
      rintro _ w ⟨rfl, hf⟩
      replace hs := hs.call hf
      rw [show lkSame D.1 Z.1 = true by rw [d1]; exact decide_eq_true rfl]
      refine mvp (.bool _) rfl ?_
      refine WL_gyb (g := 56) rfl (by decide) rfl (rfl) ?_
      refine mvp (.int _ _) rfl ?_
      refine WL_gy (g := 56) rfl (by decide) rfl ?_
      refine eqlW rfl rfl ?_
      first | refine pkT rfl rfl ?_ | refine pkF rfl rfl ?_
      refine mvp (.bool _) rfl ?_
      refine WL_gyb (g := 60) rfl (by decide) rfl (rfl) ?_
      refine mvp (.string _) rfl ?_
      refine WL_gy (g := 60) rfl (by decide) rfl ?_
      refine mvp (.string _) rfl ?_
      refine WL_gy (g := 60) rfl (by decide) rfl ?_
      refine eqS rfl rfl ?_
      first | refine pkT rfl rfl ?_ | refine pkF rfl rfl ?_
      refine asp (.bool _) rfl ?_
      refine WL_nil ?_
      refine hK16 _ _ ?_
      refine CW_ret ?_
      repeat (first | (with_reducible apply thenF_ret) | (with_reducible apply blockF_ret))
      try simp only [thenF, blockF, reduceIte]
      refine Post_r Tryz.results3 (.tmp rfl .nil) ?_
      try simp only [ev_tmp, ev_const, upd_ap, Nat.reduceLT, Nat.reduceEqDiff, reduceIte]
      exact ⟨by simp, hs.fm⟩
end Go.Proofs.YtkbldndbofbkcaaGreatDoor
/- lock: a nil view. -/
namespace Go.Proofs.YtkbldndbofbkcaaGreatDoor
open Go Go.RowKit
attribute [local irreducible] WL CW DW Ret RW
theorem use_nil (bi : Bir) (ep : Int) (who : ByteArray) (w0 : World) :
    Ret Tryz.prog 79 #[.pointer none, .agg (birV bi).toArray, .int .i64 ep, .string who] w0 fun v w' => v = .tuple #[.agg (lkV 0 false none 0 0).toArray, .int .i64 0, .bool false, .int .i64 1] ∧ Fm [] w0 w' := by
  have hs := St.init w0 []
  refine Ret_enter Tryz.func79 rfl Tryz.ntmps79 (by simp) ?_
  refine CW_seq (fun K1 hK1 => ?_)
  refine CW_region ?_
  refine bx (.agg (birV bi).toArray) (vl := birV bi) hs rfl rfl ?_
  intro w g5 hs hg5 hf5
  refine alc hs ?_
  intro w g8 hs hg8 hf8
  refine asp (.int _ _) rfl ?_
  refine asp (.bool _) rfl ?_
  refine asp (.int _ _) rfl ?_
  refine WL_nil ?_
  refine hK1 _ _ ?_
  refine CW_seq (fun K2 hK2 => ?_)
  refine CW_seq (fun K3 hK3 => ?_)
  refine CW_region ?_
  refine mvp (.pointer _) rfl ?_
  refine ldA hs rfl (by simp) ?_
  refine mvp (.int _ _) rfl ?_
  refine cll (begin_nil bi ep _) ?_
  rintro _ w ⟨rfl, hf⟩
  replace hs := hs.call hf
  refine asp (.int _ _) rfl ?_
  refine WL_nil ?_
  refine hK3 _ _ ?_
  refine CW_seq (fun K4 hK4 => ?_)
  refine CW_region ?_
  refine mvp (.int _ _) rfl ?_
  refine neqW rfl rfl ?_
  refine WL_nil ?_
  refine hK4 _ _ ?_
  refine CW_condT rfl (rfl) ?_
  refine CW_seq (fun K5 hK5 => ?_)
  refine CW_region ?_
  refine WL_v (v := .agg (lkV 0 false none 0 0).toArray) (X_build rfl rfl) ?_
  refine mvp (.int _ _) rfl ?_
  refine sto (.agg (lkV 0 false none 0 0).toArray) (vl := lkV 0 false none 0 0) hs rfl rfl rfl rfl (by simp) rfl ?_
  intro w hs _
  replace hs : St w0 _ w (eB g8 true (Blk 24 (lkV 0 false none 0 0)) :: _) := hs
  refine asp (.int _ _) rfl ?_
  refine asp (.bool _) rfl ?_
  refine asp (.int _ _) rfl ?_
  refine WL_nil ?_
  refine hK5 _ _ ?_
  refine CW_ret ?_
  repeat (first | (with_reducible apply thenF_ret) | (with_reducible apply blockF_ret))
  try simp only [thenF, blockF, reduceIte]
  refine Post_r Tryz.results79 (.cell rfl (lvA hs (by simp)) (.tmp rfl (.tmp rfl (.tmp rfl .nil)))) ?_
  try simp only [ev_tmp, ev_const, upd_ap, Nat.reduceLT, Nat.reduceEqDiff, reduceIte]
  exact ⟨by trivial, hs.fm⟩
theorem Release_nil (bi : Bir) (ep : Int) (who : ByteArray) (w0 : World) :
    Ret Tryz.prog 26 #[.pointer none, .agg (birV bi).toArray, .int .i64 ep, .string who] w0 fun v w' => v = .int .i64 1 ∧ Fm [] w0 w' := by
  have hs := St.init w0 []
  refine Ret_enter Tryz.func26 rfl Tryz.ntmps26 (by simp) ?_
  refine CW_seq (fun K1 hK1 => ?_)
  refine CW_region ?_
  refine bx (.agg (birV bi).toArray) (vl := birV bi) hs rfl rfl ?_
  intro w g5 hs hg5 hf5
  refine asp (.int _ _) rfl ?_
  refine WL_nil ?_
  refine hK1 _ _ ?_
  refine CW_seq (fun K2 hK2 => ?_)
  refine CW_region ?_
  refine mvp (.pointer _) rfl ?_
  refine ldA hs rfl (by simp) ?_
  refine mvp (.int _ _) rfl ?_
  refine mvp (.string _) rfl ?_
  refine cll (use_nil bi ep who _) ?_
  rintro _ w ⟨rfl, hf⟩
  replace hs := hs.call hf
  refine mvp (.tuple _) rfl ?_
  refine ext rfl rfl ?_
  refine ext rfl rfl ?_
  refine ext rfl rfl ?_
  refine ext rfl rfl ?_
  refine alc hs ?_
  intro w g9 hs hg9 hf9
  refine sto (.agg (lkV 0 false none 0 0).toArray) (vl := lkV 0 false none 0 0) hs rfl rfl rfl rfl (by simp) rfl ?_
  intro w hs _
  refine asp (.int _ _) rfl ?_
  refine asp (.bool _) rfl ?_
  refine asp (.int _ _) rfl ?_
  refine WL_nil ?_
  refine hK2 _ _ ?_
  refine CW_seq (fun K3 hK3 => ?_)
  refine CW_seq (fun K4 hK4 => ?_)
  refine CW_region ?_
  refine mvp (.int _ _) rfl ?_
  refine neqW rfl rfl ?_
  refine WL_nil ?_
  refine hK4 _ _ ?_
  refine CW_condT rfl (rfl) ?_
  refine CW_seq (fun K5 hK5 => ?_)
  refine CW_region ?_
  refine mvp (.int _ _) rfl ?_
  refine asp (.int _ _) rfl ?_
  refine WL_nil ?_
  refine hK5 _ _ ?_
  refine CW_ret ?_
  repeat (first | (with_reducible apply thenF_ret) | (with_reducible apply blockF_ret))
  try simp only [thenF, blockF, reduceIte]
  refine Post_r Tryz.results26 (.tmp rfl .nil) ?_
  try simp only [ev_tmp, ev_const, upd_ap, Nat.reduceLT, Nat.reduceEqDiff, reduceIte]
  exact ⟨by trivial, hs.fm⟩
theorem Holds_nil (bi : Bir) (ep : Int) (who : ByteArray) (w0 : World) :
    Ret Tryz.prog 30 #[.pointer none, .agg (birV bi).toArray, .int .i64 ep, .string who] w0 fun v w' => v = .bool false ∧ Fm [] w0 w' := by
  have hs := St.init w0 []
  refine Ret_enter Tryz.func30 rfl Tryz.ntmps30 (by simp) ?_
  refine CW_seq (fun K1 hK1 => ?_)
  refine CW_region ?_
  refine bx (.agg (birV bi).toArray) (vl := birV bi) hs rfl rfl ?_
  intro w g5 hs hg5 hf5
  refine asp (.bool _) rfl ?_
  refine WL_nil ?_
  refine hK1 _ _ ?_
  refine CW_seq (fun K2 hK2 => ?_)
  refine CW_region ?_
  refine mvp (.pointer _) rfl ?_
  refine ldA hs rfl (by simp) ?_
  refine mvp (.int _ _) rfl ?_
  refine mvp (.string _) rfl ?_
  refine cll (use_nil bi ep who _) ?_
  rintro _ w ⟨rfl, hf⟩
  replace hs := hs.call hf
  refine mvp (.tuple _) rfl ?_
  refine ext rfl rfl ?_
  refine ext rfl rfl ?_
  refine ext rfl rfl ?_
  refine ext rfl rfl ?_
  refine alc hs ?_
  intro w g9 hs hg9 hf9
  refine sto (.agg (lkV 0 false none 0 0).toArray) (vl := lkV 0 false none 0 0) hs rfl rfl rfl rfl (by simp) rfl ?_
  intro w hs _
  refine asp (.int _ _) rfl ?_
  refine asp (.bool _) rfl ?_
  refine asp (.int _ _) rfl ?_
  refine WL_nil ?_
  refine hK2 _ _ ?_
  refine CW_seq (fun K3 hK3 => ?_)
  refine CW_region ?_
  refine mvp (.int _ _) rfl ?_
  refine eqlW rfl rfl ?_
  refine mvp (.bool _) rfl ?_
  refine WL_gnb (g := 25) rfl (by decide) rfl (rfl) ?_
  first | refine pkT rfl rfl ?_ | refine pkF rfl rfl ?_
  refine asp (.bool _) rfl ?_
  refine WL_nil ?_
  refine hK3 _ _ ?_
  refine CW_ret ?_
  repeat (first | (with_reducible apply thenF_ret) | (with_reducible apply blockF_ret))
  try simp only [thenF, blockF, reduceIte]
  refine Post_r Tryz.results30 (.tmp rfl .nil) ?_
  try simp only [ev_tmp, ev_const, upd_ap, Nat.reduceLT, Nat.reduceEqDiff, reduceIte]
  exact ⟨by trivial, hs.fm⟩
theorem Acquire_nil (bi : Bir) (ep : Int) (who : ByteArray) (sh : Bool) (w0 : World) :
    Ret Tryz.prog 27 #[.pointer none, .agg (birV bi).toArray, .int .i64 ep, .string who, .bool sh] w0 fun v w' => v = .int .i64 1 ∧ Fm [] w0 w' := by
  have hs := St.init w0 []
  refine Ret_enter Tryz.func27 rfl Tryz.ntmps27 (by simp) ?_
  refine CW_seq (fun K1 hK1 => ?_)
  refine CW_region ?_
  refine bx (.agg (birV bi).toArray) (vl := birV bi) hs rfl rfl ?_
  intro w g6 hs hg6 hf6
  refine asp (.int _ _) rfl ?_
  refine WL_nil ?_
  refine hK1 _ _ ?_
  refine CW_seq (fun K2 hK2 => ?_)
  refine CW_region ?_
  refine mvp (.pointer _) rfl ?_
  refine ldA hs rfl (by simp) ?_
  refine mvp (.int _ _) rfl ?_
  refine mvp (.string _) rfl ?_
  refine cll (use_nil bi ep who _) ?_
  rintro _ w ⟨rfl, hf⟩
  replace hs := hs.call hf
  refine mvp (.tuple _) rfl ?_
  refine ext rfl rfl ?_
  refine ext rfl rfl ?_
  refine ext rfl rfl ?_
  refine ext rfl rfl ?_
  refine alc hs ?_
  intro w g11 hs hg11 hf11
  refine alc hs ?_
  intro w g13 hs hg13 hf13
  refine sto (.agg (lkV 0 false none 0 0).toArray) (vl := lkV 0 false none 0 0) hs rfl rfl rfl rfl (by simp) rfl ?_
  intro w hs _
  refine asp (.int _ _) rfl ?_
  refine sto (.bool _) hs rfl rfl rfl rfl (by simp) rfl ?_
  intro w hs _
  refine asp (.int _ _) rfl ?_
  refine WL_nil ?_
  refine hK2 _ _ ?_
  refine CW_seq (fun K3 hK3 => ?_)
  refine CW_seq (fun K4 hK4 => ?_)
  refine CW_region ?_
  refine mvp (.int _ _) rfl ?_
  refine neqW rfl rfl ?_
  refine WL_nil ?_
  refine hK4 _ _ ?_
  refine CW_condT rfl (rfl) ?_
  refine CW_seq (fun K5 hK5 => ?_)
  refine CW_region ?_
  refine mvp (.int _ _) rfl ?_
  refine asp (.int _ _) rfl ?_
  refine WL_nil ?_
  refine hK5 _ _ ?_
  refine CW_ret ?_
  repeat (first | (with_reducible apply thenF_ret) | (with_reducible apply blockF_ret))
  try simp only [thenF, blockF, reduceIte]
  refine Post_r Tryz.results27 (.tmp rfl .nil) ?_
  try simp only [ev_tmp, ev_const, upd_ap, Nat.reduceLT, Nat.reduceEqDiff, reduceIte]
  exact ⟨by trivial, hs.fm⟩
end Go.Proofs.YtkbldndbofbkcaaGreatDoor
/- replevinlaw34.LockErrors: the walk. -/
namespace Go.Proofs.YtkbldndbofbkcaaGreatDoor
open Go Go.RowKit
attribute [local irreducible] WL CW DW Ret RW
theorem on_lk (b : Bir) : onCheckB (lkName b) = birCheck b := by
  unfold birCheck
  by_cases h1 : lvalid b.maker.data.toList = true
  · by_cases h2 : okNum b.num = true
    · simp [onCheckB, usOf, usT, badU, badN, h1, h2, show (0 : Int) ≤ max (-1) 0 by decide]
    · simp [onCheckB, usOf, usT, badU, badN, h1, h2]
  · simp [onCheckB, usOf, usT, badU, badN, h1]
/-- What the state of the law says of the lock. -/
def LkSt (t : Tr) (b : Bir) (s : ByteArray) : Prop := (birCheck b ≠ 0 ∧ t = .nil) ∨ (birCheck b = 0 ∧ vwGet t [] (lkName b) = (s, true))
theorem lkst_size {t : Tr} {b : Bir} {s : ByteArray} (h : LkSt t b s) (hs : s.size ≤ 100) : (vwGet t [] (lkName b)).1.size ≤ 140737488355328 := by
  rcases h with ⟨h, rfl⟩ | ⟨_, h⟩
  · unfold vwGet; rw [if_pos (by rw [on_lk]; exact h)]; exact Nat.zero_le _
  · rw [h]; show s.size ≤ _; omega
theorem lkst_set {t : Tr} {b : Bir} {s : ByteArray} (h : birCheck b = 0) (ht : StOk t) (hl : t.list = Tr.nil.wl (lkName b) s) : LkSt t b s := by
  refine .inr ⟨h, ?_⟩
  rw [vw_ok (by rw [on_lk]; exact h), tr_get ht.sol (Dn_of (by rw [on_lk]; exact h)), hl]
  simp [Tr.wl, nget, olk]
theorem lkst_read {t : Tr} {b : Bir} {s : ByteArray} {ep : Int} (h : LkSt t b s) (h0 : birCheck b = 0) (hs : s.size ≤ 100) : (lkRead t [] b ep).2 = if (parR s.data.toList).2 = true then 0 else 3 := by
  rcases h with ⟨h, _⟩ | ⟨_, h⟩
  · exact absurd h0 h
  · obtain ⟨_, d2, d3, _⟩ := dec_par (bs := s.data.toList) (by rw [Array.length_toList]; show s.size ≤ _; omega)
    unfold lkRead
    rw [h, if_neg (by simp), ← d2]
    simp only
    by_cases e : (decR s.data.toList).2 = 0
    · rw [e]
      simp only [ne_eq, not_true_eq_false, if_false, decide_true, if_true]
      split <;> rfl
    · rw [if_pos e, if_neg (by simpa using e)]
      exact (d3 e).1
theorem lkst_get {t : Tr} {b : Bir} {s : ByteArray} {ep : Int} (h : LkSt t b s) (hs : s.size ≤ 100) : (getE t [] b ep).2 = if begE b ep ≠ 0 then begE b ep else if (parR s.data.toList).2 = true then 0 else 3 := by
  unfold getE
  by_cases e : begE b ep = 0
  · have h0 : birCheck b = 0 := by
      unfold begE at e; split at e
      · rename_i q; exact absurd e q
      · rename_i q; simpa using q
    rw [if_neg (by simpa using e), if_neg (by simpa using e), lkst_read h h0 hs]
  · rw [if_pos e, if_pos e]
theorem lkst_use {t : Tr} {b : Bir} {s : ByteArray} {ep : Int} {who : ByteArray} (h : LkSt t b s) (hs : s.size ≤ 100) : useE t [] b ep who = if begE b ep ≠ 0 then begE b ep else if okWho who ≠ 0 then 12 else if (parR s.data.toList).2 = true then 0 else 3 := by
  unfold useE
  by_cases e : begE b ep = 0
  · have h0 : birCheck b = 0 := by
      unfold begE at e; split at e
      · rename_i q; exact absurd e q
      · rename_i q; simpa using q
    rw [lkst_read h h0 hs, e]
    simp only [ne_eq, not_true_eq_false, if_false]
    by_cases q : okWho who = 0
    · rw [q]; simp
    · have q12 : okWho who = 12 := by
        unfold okWho at q ⊢
        split
        · rfl
        · rename_i k; rw [if_neg k] at q; exact absurd rfl q
      rw [q12]
  · rw [if_pos e, if_pos e]
theorem callE_c {n : ONm} {c : ByteArray × Bool} (h : callE n c = 0) : onCheckB n = 0 := by
  unfold callE at h
  split at h
  · cases h
  · rename_i q; simpa using q
theorem acq_e {t : Tr} {N : Chs} {b : Bir} {ep : Int} {who : ByteArray} {sh : Bool} (h : useE t N b ep who ≠ 0) : acqV t N b ep who sh = useE t N b ep who ∧ acqN t N b ep who sh = N := by
  unfold acqV acqN; rw [if_pos h, if_pos h]; exact ⟨rfl, rfl⟩
theorem rel_e {t : Tr} {N : Chs} {b : Bir} {ep : Int} {who : ByteArray} (h : useE t N b ep who ≠ 0) : relV t N b ep who = useE t N b ep who ∧ relN t N b ep who = N := by
  unfold relV relN; rw [if_pos h, if_pos h]; exact ⟨rfl, rfl⟩
theorem SWith_p (b : Nat) (t : Tr) (n : ONm) (s : ByteArray) (w0 : World) (hb : (eT b t).holds w0) (ht : StOk t) (hc : t.count ≤ 60000) (ho : n.owner.size ≤ 9223372036854775807) :
    Ret Tryz.prog 53 #[.pointer (some ⟨b, 0, none⟩), .agg (onV n).toArray, .string s] w0 fun u w' =>
      (∃ p : Option Addr, u = .tuple #[.pointer p, .int .i64 (callE n (s, false))] ∧ (callE n (s, false) = 0 → ∃ b' t', p = some ⟨b', 0, none⟩ ∧ NxT b t b' t' w0 w' ∧ t'.list = t.wl n s)) ∧ Fm [] w0 w' := by
  refine (SWith_ok b t n s w0 hb ht hc ho).mono ?_
  rintro u w' ⟨⟨h, rfl⟩ | ⟨h, b', t', rfl, h2, h3⟩, hf⟩
  · exact ⟨⟨none, rfl, fun q => absurd q h⟩, hf⟩
  · exact ⟨⟨some ⟨b', 0, none⟩, by rw [h], fun _ => ⟨b', t', rfl, h2, h3⟩⟩, hf⟩
theorem begE_x (b : Bir) (ep : Int) : begE b ep = if birCheck b = 0 then (if ep < 0 then 2 else if 1073741824 < ep then 2 else 0) else birCheck b := by
  unfold begE okEp
  by_cases h : birCheck b = 0
  · rw [if_neg (by simpa using h), if_pos h]
    by_cases h1 : ep < 0
    · rw [if_pos (.inl h1), if_pos h1]
    · by_cases h2 : 1073741824 < ep
      · rw [if_pos (.inr h2), if_neg h1, if_pos h2]
      · rw [if_neg (by omega), if_neg h1, if_neg h2]
  · rw [if_pos h, if_neg h]
theorem who_x (s : ByteArray) : okWho s = if lvalid s.data.toList = false then 12 else if s.data.toList = [] then 12 else 0 := by
  unfold okWho
  by_cases h : lvalid s.data.toList = false
  · rw [if_pos (.inr h), if_pos h]
  · rw [if_neg h]
    by_cases h2 : s.data.toList = []
    · rw [if_pos (.inl h2), if_pos h2]
    · rw [if_neg h2, if_neg (fun q => q.elim h2 h)]
theorem X_sliceQ {P : Program} {N : Nat} {f : Fr} {w : World} {d : Nat} {A T : TypeId} {p : String} {aft : Array Edge} {x u : Operand} {k : IntKind} {q : Nat} {s t : ByteArray} [hA : UnE P A .string] (hx : ev N f x = .string s) (hu : ev N f u = .int k q) (hq : str (s.data.toList.take q) = t) (hle : q ≤ s.size) : Ex P N f w ⟨some d, .slice A x none (some u) none, T, p, aft, none⟩ (.string t) w := by
  subst hq; exact X_sliceS_h hx hu (by omega) (by omega)
theorem X_minE {P : Program} {N : Nat} {f : Fr} {w : World} {d : Nat} {T : TypeId} {p : String} {aft : Array Edge} {x y : Operand} {k k' : IntKind} {m n r : Int} {Ts : Array TypeId} (hx : ev N f x = .int k m) (hy : ev N f y = .int k' n) (hr : (if n < m then n else m) = r) : Ex P N f w ⟨some d, .call ⟨.builtin .min, #[x, y], Ts⟩, T, p, aft, none⟩ (.int k r) w := by
  subst hr; exact X_min hx hy
theorem lockErrors_ok (bi : Bir) (ep : Int) (who s1 : ByteArray) (w0 : World) (hb : bi.maker.size ≤ maxLen) (hw : who.size ≤ maxLen) (h1 : s1.size ≤ maxLen) :
    Ret Tryz.prog 11 #[.agg (birV bi).toArray, .int .i64 ep, .agg #[.string who, .string s1]] w0 fun v w' => v = .bool true ∧ Fm [] w0 w' := by
  have hs := St.init w0 []
  have hsl : s1.data.toList.length = s1.size := by rw [Array.length_toList]; rfl
  unfold maxLen at hb hw h1
  obtain ⟨q, hq, hq1, hq2⟩ : ∃ q : Nat, (if (100 : Int) < (s1.size : Int) then (100 : Int) else (s1.size : Int)) = (q : Int) ∧ q ≤ 100 ∧ q ≤ s1.size := by
    by_cases h : 100 < s1.size
    · exact ⟨100, by rw [if_pos (by omega)]; rfl, by omega, by omega⟩
    · exact ⟨s1.size, by rw [if_neg (by omega)], by omega, by omega⟩
  obtain ⟨S, hS⟩ : ∃ S, str (s1.data.toList.take q) = S := ⟨_, rfl⟩
  have hSz : S.size ≤ 100 := by rw [← hS, str_size, List.length_take]; omega
  refine Ret_enter Tryz.func11 rfl Tryz.ntmps11 (by simp) ?_
  refine CW_seq (fun K1 hK1 => ?_)
  refine CW_region ?_
  refine bx (.agg (birV bi).toArray) (vl := birV bi) hs rfl rfl ?_
  intro w g3 hs hg3 hf3
  refine bx (.agg #[.string who, .string s1]) (vl := [.string who, .string s1]) hs rfl rfl ?_
  intro w g5 hs hg5 hf5
  refine asp (.bool _) rfl ?_
  refine WL_nil ?_
  refine hK1 _ _ ?_
  refine CW_seq (fun K2 hK2 => ?_)
  refine DW_sH hs 999 ?_
  intro w hs _
  refine DW_q hs 0 rfl (by kernel_rfl) (fun w' hw' => X_idxA (i := 0) rfl rfl (by decide)) ?_
  refine DW_q hs 1 rfl (by kernel_rfl) (fun w' hw' => X_ldH hw' rfl rfl) ?_
  refine DW_q hs 2 rfl (by kernel_rfl) (fun w' hw' => X_idxA (i := 1) rfl rfl (by decide)) ?_
  refine DW_q hs 3 rfl (by kernel_rfl) (fun w' hw' => X_ldH hw' rfl rfl) ?_
  refine DW_q hs 4 rfl (by kernel_rfl) (fun w' hw' => X_idxA (i := 1) rfl rfl (by decide)) ?_
  refine DW_q hs 5 rfl (by kernel_rfl) (fun w' hw' => X_ldH hw' rfl rfl) ?_
  refine DW_q hs 6 rfl (by kernel_rfl) (fun w' hw' => X_lenS rfl) ?_
  refine DW_q hs 7 rfl (by kernel_rfl) (fun w' hw' => X_minE rfl rfl hq) ?_
  refine DW_q hs 8 rfl (by kernel_rfl) (fun w' hw' => X_sliceQ rfl rfl hS hq2) ?_
  refine DW_q hs 9 rfl (by kernel_rfl) (fun w' hw' => X_assign (v := (.string _)) rfl) ?_
  refine DW_q hs 10 rfl (by kernel_rfl) (fun w' hw' => X_assign (v := (.string _)) rfl) ?_
  refine DW_e (by kernel_rfl) ?_
  refine hK2 _ _ ?_
  refine CW_seq (fun K3 hK3 => ?_)
  refine CW_seq (fun K4 hK4 => ?_)
  refine CW_region ?_
  refine cll (known_ok _) ?_
  rintro _ w ⟨rfl, hf⟩
  replace hs := hs.call hf
  refine notW rfl ?_
  refine WL_nil ?_
  refine hK4 _ _ ?_
  refine CW_condF rfl (rfl) ?_
  refine CW_skip ?_
  refine hK3 _ _ ?_
  refine CW_seq (fun K5 hK5 => ?_)
  refine DW_sH hs 999 ?_
  intro w hs _
  refine DW_q hs 1 rfl (by kernel_rfl) (fun w' hw' => X_ldAH hw' rfl (by simp)) ?_
  refine DW_q hs 3 rfl (by kernel_rfl) (fun w' hw' => X_move (v := (.string _)) rfl) ?_
  refine DW_l 0 rfl (by kernel_rfl) ?_
  refine cll (SNew_ok _) ?_
  rintro _ w ⟨b0, rfl, hT, hb0, hf⟩
  replace hs := hs.callNew hf hT (by intro x hx; simp [eT, Tr.fp] at hx; subst hx; exact hb0)
  refine WL_nil ?_
  refine ⟨.inr hs.hold, ?_⟩
  refine DW_l 2 rfl (by kernel_rfl) ?_
  refine cll (OfLock_ok bi _) ?_
  rintro _ w ⟨rfl, hf⟩
  replace hs := hs.call hf
  refine WL_nil ?_
  refine ⟨.inr hs.hold, ?_⟩
  refine DW_l 4 rfl (by kernel_rfl) ?_
  refine cll (SWith_p b0 .nil (lkName bi) S _ (hs.he _) stok_nil (by decide) hb) ?_
  rintro _ w ⟨⟨p34, rfl, hp34⟩, hf⟩
  have hsz := hs.fm.size
  have hdb := hs
  replace hs := hs.call hf
  refine WL_nil ?_
  refine ⟨.inr hs.hold, ?_⟩
  refine DW_q hs 5 rfl (by kernel_rfl) (fun w' hw' => X_move (v := (.tuple _)) rfl) ?_
  refine DW_q hs 6 rfl (by kernel_rfl) (fun w' hw' => X_extract rfl rfl) ?_
  refine DW_q hs 7 rfl (by kernel_rfl) (fun w' hw' => X_extract rfl rfl) ?_
  refine DW_q hs 8 rfl (by kernel_rfl) (fun w' hw' => X_assign (v := (.pointer _)) rfl) ?_
  refine DW_q hs 9 rfl (by kernel_rfl) (fun w' hw' => X_assign (v := (.int _ _)) rfl) ?_
  refine DW_e (by kernel_rfl) ?_
  refine hK5 _ _ ?_
  refine CW_cut (fun f w' => ∃ (b : Nat) (t : Tr), f 1 = .int .i64 ep ∧ f 3 = .pointer (some ⟨g3, 0, none⟩) ∧ f 7 = .string who ∧ f 8 = .string S ∧ f 9 = .pointer (some ⟨b, 0, none⟩) ∧ LkSt t bi S ∧ St w0 [] w' [eT b t, eB g3 true (Blk 44 (birV bi))]) ?_ ?_
  · skip
    refine CW_seq (fun K6 hK6 => ?_)
    refine CW_region ?_
    refine mvp (.int _ _) rfl ?_
    refine neqW rfl rfl ?_
    refine WL_nil ?_
    refine hK6 _ _ ?_
    refine CW_cond rfl (fun hc38 => ?_) (fun hc38 => ?_)
    · skip
      refine CW_region ?_
      refine cll (SNew_ok _) ?_
      rintro _ w ⟨b1, rfl, hT, hb1, hf⟩
      replace hs := hs.callNew hf hT (by intro x hx; simp [eT, Tr.fp] at hx; subst hx; exact hb1)
      refine asp (.pointer _) rfl ?_
      refine WL_nil ?_
      first
      | (have hN : callE (lkName bi) (S, false) ≠ 0 := by simpa using hc38
         exact ⟨b1, .nil, rfl, rfl, rfl, rfl, rfl, .inl ⟨fun q => hN (callE_0 (by rw [on_lk]; exact q) (by omega)), rfl⟩, hs.sel⟩)
      | (have h0 : callE (lkName bi) (S, false) = 0 := by simpa using hc38
         obtain ⟨b2, t2, rfl, hx, hl⟩ := hp34 h0
         exact ⟨b2, t2, rfl, rfl, rfl, rfl, rfl, lkst_set (by rw [← on_lk]; exact callE_c h0) hx.ok hl, (hdb.turnE (e := eT b0 .nil) rfl (hx.turned hf)).sel⟩)
    · skip
      refine CW_skip ?_
      first
      | (have hN : callE (lkName bi) (S, false) ≠ 0 := by simpa using hc38
         exact ⟨b1, .nil, rfl, rfl, rfl, rfl, rfl, .inl ⟨fun q => hN (callE_0 (by rw [on_lk]; exact q) (by omega)), rfl⟩, hs.sel⟩)
      | (have h0 : callE (lkName bi) (S, false) = 0 := by simpa using hc38
         obtain ⟨b2, t2, rfl, hx, hl⟩ := hp34 h0
         exact ⟨b2, t2, rfl, rfl, rfl, rfl, rfl, lkst_set (by rw [← on_lk]; exact callE_c h0) hx.ok hl, (hdb.turnE (e := eT b0 .nil) rfl (hx.turned hf)).sel⟩)
  · skip
    rintro f w ⟨b, t, e1, e3, e7, e8, e9, hlk, hs⟩
    refine CW_kn (i := 1) e1 (CW_kn (i := 3) e3 (CW_kn (i := 7) e7 (CW_kn (i := 8) e8 (CW_kn (i := 9) e9 ?_))))
    obtain ⟨Z, hZ⟩ : ∃ Z, parR S.data.toList = Z := ⟨_, rfl⟩
    refine CW_seq (fun K7 hK7 => ?_)
    refine CW_region ?_
    refine mvp (.pointer _) rfl ?_
    refine cll (VNew_t b t _ (hs.he _)) ?_
    rintro _ w ⟨g, r1, r2, rfl, ht⟩
    replace hs := hs.turnE rfl ht
    refine asp (.pointer _) rfl ?_
    refine WL_nil ?_
    refine hK7 _ _ ?_
    refine CW_seq (fun K8 hK8 => ?_)
    refine CW_region ?_
    refine mvp (.string _) rfl ?_
    refine cll (parse34_ok S _ (by omega)) ?_
    rintro _ w ⟨⟨a2, n2, c2, rfl, hn2, hnew⟩, hf⟩
    replace hs := hs.callR hf hnew
    rw [hZ] at hs hn2
    rw [hZ]
    refine mvp (.tuple _) rfl ?_
    refine ext rfl rfl ?_
    refine ext rfl rfl ?_
    refine alc hs ?_
    intro w g12 hs hg12 hf12
    refine sto (.agg (lkV Z.1.ep Z.1.sh a2 n2 c2).toArray) (vl := lkV Z.1.ep Z.1.sh a2 n2 c2) hs rfl rfl rfl rfl (by simp) rfl ?_
    intro w hs _
    refine asp (.bool _) rfl ?_
    refine WL_nil ?_
    refine hK8 _ _ ?_
    refine CW_seq (fun K9 hK9 => ?_)
    refine CW_region ?_
    refine ldA hs rfl (by simp) ?_
    refine cll (BCheck_ok bi _ hb) ?_
    rintro _ w ⟨rfl, hf⟩
    replace hs := hs.call hf
    refine asp (.int _ _) rfl ?_
    refine WL_nil ?_
    refine hK9 _ _ ?_
    refine CW_cut (fun f w' => f 1 = .int .i64 ep ∧ f 3 = .pointer (some ⟨g3, 0, none⟩) ∧ f 7 = .string who ∧ f 11 = .pointer (some ⟨g, 0, none⟩) ∧ f 13 = .bool Z.2 ∧ f 14 = .int .i64 (begE bi ep) ∧ St w0 [] w' [eV g b r1 r2 t none 0 0 [] [] [], eB g3 true (Blk 44 (birV bi))]) ?_ ?_
    · skip
      refine CW_seq (fun K10 hK10 => ?_)
      refine CW_region ?_
      refine mvp (.int _ _) rfl ?_
      refine eqlW rfl rfl ?_
      refine mvp (.bool _) rfl ?_
      refine WL_g (g := 51) rfl (by decide) rfl (fun hg51 => ?_) (fun hg51 => ?_)
      · skip
        refine mvp (.int _ _) rfl ?_
        refine WL_gy (g := 51) rfl (by decide) rfl ?_
        refine lssW rfl rfl ?_
        refine WL_gy (g := 51) rfl (by decide) rfl ?_
        refine mvp (.bool _) rfl ?_
        refine WL_g (g := 54) rfl (by decide) rfl (fun hg54 => ?_) (fun hg54 => ?_)
        · skip
          refine mvp (.int _ _) rfl ?_
          refine WL_gy (g := 54) rfl (by decide) rfl ?_
          refine gtrW rfl rfl ?_
          refine WL_gy (g := 51) rfl (by decide) rfl ?_
          first | refine pkT rfl rfl ?_ | refine pkF rfl rfl ?_
          first | refine pkT rfl rfl ?_ | refine pkF rfl rfl ?_
          refine WL_nil ?_
          refine hK10 _ _ ?_
          refine CW_cond rfl (fun hc58 => ?_) (fun hc58 => ?_)
          · skip
            refine CW_region ?_
            refine asp (.int _ _) rfl ?_
            refine WL_nil ?_
            refine ⟨rfl, rfl, rfl, rfl, rfl, ?_, hs.sel⟩
            first
              | exact congrArg (Value.int .i64) (show (2 : Int) = begE bi ep by rw [begE_x, if_pos (by simpa using hg51), if_neg (by simpa using hg54), if_pos (by simpa using hc58)])
              | exact congrArg (Value.int .i64) (show birCheck bi = begE bi ep by rw [begE_x, if_pos (by simpa using hg51), if_neg (by simpa using hg54), if_neg (by simpa using hc58)]; simpa using hg51)
              | exact congrArg (Value.int .i64) (show (2 : Int) = begE bi ep by rw [begE_x, if_pos (by simpa using hg51), if_pos (by simpa using hg54)])
              | exact congrArg (Value.int .i64) (show birCheck bi = begE bi ep by rw [begE_x, if_neg (by simpa using hg51)])
          · skip
            refine CW_skip ?_
            refine ⟨rfl, rfl, rfl, rfl, rfl, ?_, hs.sel⟩
            first
              | exact congrArg (Value.int .i64) (show (2 : Int) = begE bi ep by rw [begE_x, if_pos (by simpa using hg51), if_neg (by simpa using hg54), if_pos (by simpa using hc58)])
              | exact congrArg (Value.int .i64) (show birCheck bi = begE bi ep by rw [begE_x, if_pos (by simpa using hg51), if_neg (by simpa using hg54), if_neg (by simpa using hc58)]; simpa using hg51)
              | exact congrArg (Value.int .i64) (show (2 : Int) = begE bi ep by rw [begE_x, if_pos (by simpa using hg51), if_pos (by simpa using hg54)])
              | exact congrArg (Value.int .i64) (show birCheck bi = begE bi ep by rw [begE_x, if_neg (by simpa using hg51)])
        · skip
          refine WL_gn (g := 54) rfl (by decide) rfl ?_
          refine WL_gy (g := 51) rfl (by decide) rfl ?_
          first | refine pkT rfl rfl ?_ | refine pkF rfl rfl ?_
          first | refine pkT rfl rfl ?_ | refine pkF rfl rfl ?_
          refine WL_nil ?_
          refine hK10 _ _ ?_
          refine CW_condT rfl rfl ?_
          refine CW_region ?_
          refine asp (.int _ _) rfl ?_
          refine WL_nil ?_
          refine ⟨rfl, rfl, rfl, rfl, rfl, ?_, hs.sel⟩
          first
            | exact congrArg (Value.int .i64) (show (2 : Int) = begE bi ep by rw [begE_x, if_pos (by simpa using hg51), if_neg (by simpa using hg54), if_pos (by simpa using hc58)])
            | exact congrArg (Value.int .i64) (show birCheck bi = begE bi ep by rw [begE_x, if_pos (by simpa using hg51), if_neg (by simpa using hg54), if_neg (by simpa using hc58)]; simpa using hg51)
            | exact congrArg (Value.int .i64) (show (2 : Int) = begE bi ep by rw [begE_x, if_pos (by simpa using hg51), if_pos (by simpa using hg54)])
            | exact congrArg (Value.int .i64) (show birCheck bi = begE bi ep by rw [begE_x, if_neg (by simpa using hg51)])
      · skip
        refine WL_gn (g := 51) rfl (by decide) rfl ?_
        refine WL_gn (g := 51) rfl (by decide) rfl ?_
        refine WL_gx (g := 54) rfl (by decide) rfl ?_
        refine WL_gx (g := 54) rfl (by decide) rfl ?_
        refine WL_gn (g := 51) rfl (by decide) rfl ?_
        first | refine pkT rfl rfl ?_ | refine pkF rfl rfl ?_
        refine WL_nil ?_
        refine hK10 _ _ ?_
        refine CW_condF rfl rfl ?_
        refine CW_skip ?_
        refine ⟨rfl, rfl, rfl, rfl, rfl, ?_, hs.sel⟩
        first
          | exact congrArg (Value.int .i64) (show (2 : Int) = begE bi ep by rw [begE_x, if_pos (by simpa using hg51), if_neg (by simpa using hg54), if_pos (by simpa using hc58)])
          | exact congrArg (Value.int .i64) (show birCheck bi = begE bi ep by rw [begE_x, if_pos (by simpa using hg51), if_neg (by simpa using hg54), if_neg (by simpa using hc58)]; simpa using hg51)
          | exact congrArg (Value.int .i64) (show (2 : Int) = begE bi ep by rw [begE_x, if_pos (by simpa using hg51), if_pos (by simpa using hg54)])
          | exact congrArg (Value.int .i64) (show birCheck bi = begE bi ep by rw [begE_x, if_neg (by simpa using hg51)])
    · skip
      rintro f w ⟨e1, e3, e7, e11, e13, e14, hs⟩
      refine CW_kn (i := 1) e1 (CW_kn (i := 3) e3 (CW_kn (i := 7) e7 (CW_kn (i := 11) e11 (CW_kn (i := 13) e13 (CW_kn (i := 14) e14 ?_)))))
      obtain ⟨B, hB⟩ : ∃ B, begE bi ep = B := ⟨_, rfl⟩
      rw [hB]
      refine CW_seq (fun K11 hK11 => ?_)
      refine CW_region ?_
      refine mvp (.int _ _) rfl ?_
      refine asp (.int _ _) rfl ?_
      refine WL_nil ?_
      refine hK11 _ _ ?_
      refine CW_cut (fun f w' => f 1 = .int .i64 ep ∧ f 3 = .pointer (some ⟨g3, 0, none⟩) ∧ f 7 = .string who ∧ f 11 = .pointer (some ⟨g, 0, none⟩) ∧ f 13 = .bool Z.2 ∧ f 14 = .int .i64 B ∧ f 15 = .int .i64 (if B ≠ 0 then B else if Z.2 = true then 0 else 3) ∧ St w0 [] w' [eV g b r1 r2 t none 0 0 [] [] [], eB g3 true (Blk 44 (birV bi))]) ?_ ?_
      · skip
        refine CW_seq (fun K12 hK12 => ?_)
        refine CW_region ?_
        refine mvp (.int _ _) rfl ?_
        refine eqlW rfl rfl ?_
        refine mvp (.bool _) rfl ?_
        refine WL_g (g := 62) rfl (by decide) rfl (fun hg62 => ?_) (fun hg62 => ?_)
        · skip
          refine mvp (.bool _) rfl ?_
          refine WL_gy (g := 62) rfl (by decide) rfl ?_
          refine notW rfl ?_
          first | refine pkT rfl rfl ?_ | refine pkF rfl rfl ?_
          refine WL_nil ?_
          refine hK12 _ _ ?_
          refine CW_cond rfl (fun hc65 => ?_) (fun hc65 => ?_)
          · skip
            refine CW_region ?_
            refine asp (.int _ _) rfl ?_
            refine WL_nil ?_
            refine ⟨rfl, rfl, rfl, rfl, rfl, rfl, ?_, hs.sel⟩
            first
              | exact congrArg (Value.int .i64) (show (3 : Int) = _ by rw [if_neg (by simpa using hg62), if_neg (by simpa using hc65)])
              | exact congrArg (Value.int .i64) (show B = _ by rw [if_neg (by simpa using hg62), if_pos (by simpa using hc65)]; simpa using hg62)
              | exact congrArg (Value.int .i64) (show B = _ by rw [if_pos (by simpa using hg62)])
          · skip
            refine CW_skip ?_
            refine ⟨rfl, rfl, rfl, rfl, rfl, rfl, ?_, hs.sel⟩
            first
              | exact congrArg (Value.int .i64) (show (3 : Int) = _ by rw [if_neg (by simpa using hg62), if_neg (by simpa using hc65)])
              | exact congrArg (Value.int .i64) (show B = _ by rw [if_neg (by simpa using hg62), if_pos (by simpa using hc65)]; simpa using hg62)
              | exact congrArg (Value.int .i64) (show B = _ by rw [if_pos (by simpa using hg62)])
        · skip
          refine WL_gn (g := 62) rfl (by decide) rfl ?_
          first | refine pkT rfl rfl ?_ | refine pkF rfl rfl ?_
          refine WL_nil ?_
          refine hK12 _ _ ?_
          refine CW_condF rfl rfl ?_
          refine CW_skip ?_
          refine ⟨rfl, rfl, rfl, rfl, rfl, rfl, ?_, hs.sel⟩
          first
            | exact congrArg (Value.int .i64) (show (3 : Int) = _ by rw [if_neg (by simpa using hg62), if_neg (by simpa using hc65)])
            | exact congrArg (Value.int .i64) (show B = _ by rw [if_neg (by simpa using hg62), if_pos (by simpa using hc65)]; simpa using hg62)
            | exact congrArg (Value.int .i64) (show B = _ by rw [if_pos (by simpa using hg62)])
      · skip
        rintro f w ⟨e1, e3, e7, e11, e13, e14, e15, hs⟩
        refine CW_kn (i := 1) e1 (CW_kn (i := 3) e3 (CW_kn (i := 7) e7 (CW_kn (i := 11) e11 (CW_kn (i := 13) e13 (CW_kn (i := 14) e14 (CW_kn (i := 15) e15 ?_))))))
        obtain ⟨G, hG⟩ : ∃ G, (if B ≠ 0 then B else if Z.2 = true then 0 else 3) = G := ⟨_, rfl⟩
        rw [hG]
        refine CW_cut (fun f w' => f 1 = .int .i64 ep ∧ f 3 = .pointer (some ⟨g3, 0, none⟩) ∧ f 7 = .string who ∧ f 11 = .pointer (some ⟨g, 0, none⟩) ∧ f 13 = .bool Z.2 ∧ f 14 = .int .i64 (if B ≠ 0 then B else okWho who) ∧ f 15 = .int .i64 G ∧ St w0 [] w' [eV g b r1 r2 t none 0 0 [] [] [], eB g3 true (Blk 44 (birV bi))]) ?_ ?_
        · skip
          refine CW_seq (fun K13 hK13 => ?_)
          refine CW_region ?_
          refine mvp (.int _ _) rfl ?_
          refine eqlW rfl rfl ?_
          refine mvp (.bool _) rfl ?_
          refine WL_g (g := 68) rfl (by decide) rfl (fun hg68 => ?_) (fun hg68 => ?_)
          · skip
            refine mvp (.string _) rfl ?_
            refine WL_gy (g := 68) rfl (by decide) rfl ?_
            refine cll (Valid_ok who _ hw) ?_
            rintro _ w ⟨rfl, hf⟩
            replace hs := hs.call hf
            refine WL_gy (g := 68) rfl (by decide) rfl ?_
            refine notW rfl ?_
            refine WL_gy (g := 68) rfl (by decide) rfl ?_
            refine mvp (.bool _) rfl ?_
            refine WL_g (g := 72) rfl (by decide) rfl (fun hg72 => ?_) (fun hg72 => ?_)
            · skip
              refine mvp (.string _) rfl ?_
              refine WL_gy (g := 72) rfl (by decide) rfl ?_
              refine eqS rfl rfl ?_
              refine WL_gy (g := 68) rfl (by decide) rfl ?_
              first | refine pkT rfl rfl ?_ | refine pkF rfl rfl ?_
              first | refine pkT rfl rfl ?_ | refine pkF rfl rfl ?_
              refine WL_nil ?_
              refine hK13 _ _ ?_
              refine CW_cond rfl (fun hc76 => ?_) (fun hc76 => ?_)
              · skip
                refine CW_region ?_
                refine asp (.int _ _) rfl ?_
                refine WL_nil ?_
                refine ⟨rfl, rfl, rfl, rfl, rfl, ?_, rfl, hs.sel⟩
                first
                  | exact congrArg (Value.int .i64) (show (12 : Int) = _ by rw [if_neg (by simpa using hg68), who_x, if_neg (by simpa using hg72), if_pos (by simpa using hc76)])
                  | exact congrArg (Value.int .i64) (show B = _ by rw [if_neg (by simpa using hg68), who_x, if_neg (by simpa using hg72), if_neg (by simpa using hc76)]; simpa using hg68)
                  | exact congrArg (Value.int .i64) (show (12 : Int) = _ by rw [if_neg (by simpa using hg68), who_x, if_pos (by simpa using hg72)])
                  | exact congrArg (Value.int .i64) (show B = _ by rw [if_pos (by simpa using hg68)])
              · skip
                refine CW_skip ?_
                refine ⟨rfl, rfl, rfl, rfl, rfl, ?_, rfl, hs.sel⟩
                first
                  | exact congrArg (Value.int .i64) (show (12 : Int) = _ by rw [if_neg (by simpa using hg68), who_x, if_neg (by simpa using hg72), if_pos (by simpa using hc76)])
                  | exact congrArg (Value.int .i64) (show B = _ by rw [if_neg (by simpa using hg68), who_x, if_neg (by simpa using hg72), if_neg (by simpa using hc76)]; simpa using hg68)
                  | exact congrArg (Value.int .i64) (show (12 : Int) = _ by rw [if_neg (by simpa using hg68), who_x, if_pos (by simpa using hg72)])
                  | exact congrArg (Value.int .i64) (show B = _ by rw [if_pos (by simpa using hg68)])
            · skip
              refine WL_gn (g := 72) rfl (by decide) rfl ?_
              refine WL_gy (g := 68) rfl (by decide) rfl ?_
              first | refine pkT rfl rfl ?_ | refine pkF rfl rfl ?_
              first | refine pkT rfl rfl ?_ | refine pkF rfl rfl ?_
              refine WL_nil ?_
              refine hK13 _ _ ?_
              refine CW_condT rfl rfl ?_
              refine CW_region ?_
              refine asp (.int _ _) rfl ?_
              refine WL_nil ?_
              refine ⟨rfl, rfl, rfl, rfl, rfl, ?_, rfl, hs.sel⟩
              first
                | exact congrArg (Value.int .i64) (show (12 : Int) = _ by rw [if_neg (by simpa using hg68), who_x, if_neg (by simpa using hg72), if_pos (by simpa using hc76)])
                | exact congrArg (Value.int .i64) (show B = _ by rw [if_neg (by simpa using hg68), who_x, if_neg (by simpa using hg72), if_neg (by simpa using hc76)]; simpa using hg68)
                | exact congrArg (Value.int .i64) (show (12 : Int) = _ by rw [if_neg (by simpa using hg68), who_x, if_pos (by simpa using hg72)])
                | exact congrArg (Value.int .i64) (show B = _ by rw [if_pos (by simpa using hg68)])
          · skip
            refine WL_gn (g := 68) rfl (by decide) rfl ?_
            refine WL_gn (g := 68) rfl (by decide) rfl ?_
            refine WL_gn (g := 68) rfl (by decide) rfl ?_
            refine WL_gx (g := 72) rfl (by decide) rfl ?_
            refine WL_gx (g := 72) rfl (by decide) rfl ?_
            refine WL_gn (g := 68) rfl (by decide) rfl ?_
            first | refine pkT rfl rfl ?_ | refine pkF rfl rfl ?_
            refine WL_nil ?_
            refine hK13 _ _ ?_
            refine CW_condF rfl rfl ?_
            refine CW_skip ?_
            refine ⟨rfl, rfl, rfl, rfl, rfl, ?_, rfl, hs.sel⟩
            first
              | exact congrArg (Value.int .i64) (show (12 : Int) = _ by rw [if_neg (by simpa using hg68), who_x, if_neg (by simpa using hg72), if_pos (by simpa using hc76)])
              | exact congrArg (Value.int .i64) (show B = _ by rw [if_neg (by simpa using hg68), who_x, if_neg (by simpa using hg72), if_neg (by simpa using hc76)]; simpa using hg68)
              | exact congrArg (Value.int .i64) (show (12 : Int) = _ by rw [if_neg (by simpa using hg68), who_x, if_pos (by simpa using hg72)])
              | exact congrArg (Value.int .i64) (show B = _ by rw [if_pos (by simpa using hg68)])
        · skip
          rintro f w ⟨e1, e3, e7, e11, e13, e14, e15, hs⟩
          refine CW_kn (i := 1) e1 (CW_kn (i := 3) e3 (CW_kn (i := 7) e7 (CW_kn (i := 11) e11 (CW_kn (i := 13) e13 (CW_kn (i := 14) e14 (CW_kn (i := 15) e15 ?_))))))
          obtain ⟨V, hV⟩ : ∃ V, (if B ≠ 0 then B else okWho who) = V := ⟨_, rfl⟩
          rw [hV]
          have hGet : G = (getE t [] bi ep).2 := by rw [lkst_get hlk hSz, hB, hZ]; exact hG.symm
          have hUse : useE t [] bi ep who = if V ≠ 0 then V else if Z.2 = true then 0 else 3 := by
            rw [lkst_use hlk hSz, hB, hZ, ← hV]
            by_cases b0 : B = 0
            · rw [b0]
              by_cases w0 : okWho who = 0
              · rw [w0]; rfl
              · have w12 : okWho who = 12 := by
                  rw [who_x] at w0 ⊢
                  split
                  · rfl
                  · split
                    · rfl
                    · rename_i k1 k2; rw [if_neg k1, if_neg k2] at w0; exact absurd rfl w0
                rw [w12]; rfl
            · rw [if_pos b0, if_pos b0, if_pos b0]
          refine CW_cut (fun f w' => f 1 = .int .i64 ep ∧ f 3 = .pointer (some ⟨g3, 0, none⟩) ∧ f 7 = .string who ∧ f 11 = .pointer (some ⟨g, 0, none⟩) ∧ f 14 = .int .i64 (useE t [] bi ep who) ∧ f 15 = .int .i64 (getE t [] bi ep).2 ∧ St w0 [] w' [eV g b r1 r2 t none 0 0 [] [] [], eB g3 true (Blk 44 (birV bi))]) ?_ ?_
          · skip
            refine CW_seq (fun K14 hK14 => ?_)
            refine CW_region ?_
            refine mvp (.int _ _) rfl ?_
            refine eqlW rfl rfl ?_
            refine mvp (.bool _) rfl ?_
            refine WL_g (g := 79) rfl (by decide) rfl (fun hg79 => ?_) (fun hg79 => ?_)
            · skip
              refine mvp (.bool _) rfl ?_
              refine WL_gy (g := 79) rfl (by decide) rfl ?_
              refine notW rfl ?_
              first | refine pkT rfl rfl ?_ | refine pkF rfl rfl ?_
              refine WL_nil ?_
              refine hK14 _ _ ?_
              refine CW_cond rfl (fun hc82 => ?_) (fun hc82 => ?_)
              · skip
                refine CW_region ?_
                refine asp (.int _ _) rfl ?_
                refine WL_nil ?_
                rw [← hGet, hUse]
                refine ⟨rfl, rfl, rfl, rfl, ?_, rfl, hs.sel⟩
                first
                  | exact congrArg (Value.int .i64) (show (3 : Int) = _ by rw [if_neg (by simpa using hg79), if_neg (by simpa using hc82)])
                  | exact congrArg (Value.int .i64) (show V = _ by rw [if_neg (by simpa using hg79), if_pos (by simpa using hc82)]; simpa using hg79)
                  | exact congrArg (Value.int .i64) (show V = _ by rw [if_pos (by simpa using hg79)])
              · skip
                refine CW_skip ?_
                rw [← hGet, hUse]
                refine ⟨rfl, rfl, rfl, rfl, ?_, rfl, hs.sel⟩
                first
                  | exact congrArg (Value.int .i64) (show (3 : Int) = _ by rw [if_neg (by simpa using hg79), if_neg (by simpa using hc82)])
                  | exact congrArg (Value.int .i64) (show V = _ by rw [if_neg (by simpa using hg79), if_pos (by simpa using hc82)]; simpa using hg79)
                  | exact congrArg (Value.int .i64) (show V = _ by rw [if_pos (by simpa using hg79)])
            · skip
              refine WL_gn (g := 79) rfl (by decide) rfl ?_
              first | refine pkT rfl rfl ?_ | refine pkF rfl rfl ?_
              refine WL_nil ?_
              refine hK14 _ _ ?_
              refine CW_condF rfl rfl ?_
              refine CW_skip ?_
              rw [← hGet, hUse]
              refine ⟨rfl, rfl, rfl, rfl, ?_, rfl, hs.sel⟩
              first
                | exact congrArg (Value.int .i64) (show (3 : Int) = _ by rw [if_neg (by simpa using hg79), if_neg (by simpa using hc82)])
                | exact congrArg (Value.int .i64) (show V = _ by rw [if_neg (by simpa using hg79), if_pos (by simpa using hc82)]; simpa using hg79)
                | exact congrArg (Value.int .i64) (show V = _ by rw [if_pos (by simpa using hg79)])
          · skip
            rintro f w ⟨e1, e3, e7, e11, e14, e15, hs⟩
            refine CW_kn (i := 1) e1 (CW_kn (i := 3) e3 (CW_kn (i := 7) e7 (CW_kn (i := 11) e11 (CW_kn (i := 14) e14 (CW_kn (i := 15) e15 ?_)))))
            have hsz := lkst_size hlk hSz
            obtain ⟨U, hU⟩ : ∃ U, useE t [] bi ep who = U := ⟨_, rfl⟩
            rw [hU]
            refine CW_seq (fun K15 hK15 => ?_)
            refine CW_region ?_
            refine mvp (.pointer _) rfl ?_
            refine ldA hs rfl (by simp) ?_
            refine mvp (.int _ _) rfl ?_
            refine cll (Get_ok g b r1 r2 t none 0 0 [] [] [] bi ep _ (hs.he _) hb hsz) ?_
            rintro _ w ⟨la, ln, lc, R1, rfl, hln, ht⟩
            replace hs := hs.turn2 ht rfl rfl rfl
            refine mvp (.tuple _) rfl ?_
            refine ext rfl rfl ?_
            refine ext rfl rfl ?_
            refine alc hs ?_
            intro w g16 hs hg16 hf16
            refine sto (.agg (lkV (getE t [] bi ep).1.ep (getE t [] bi ep).1.sh la ln lc).toArray) (vl := lkV (getE t [] bi ep).1.ep (getE t [] bi ep).1.sh la ln lc) hs rfl rfl rfl rfl (by simp) rfl ?_
            intro w hs _
            refine asp (.int _ _) rfl ?_
            refine WL_nil ?_
            refine hK15 _ _ ?_
            refine CW_seq (fun K16 hK16 => ?_)
            refine CW_seq (fun K17 hK17 => ?_)
            refine CW_region ?_
            refine mvp (.int _ _) rfl ?_
            refine mvp (.int _ _) rfl ?_
            refine neqW rfl rfl ?_
            refine mvp (.bool _) rfl ?_
            refine WL_gyb (g := 93) rfl (by decide) rfl ((by simp)) ?_
            refine ldA hs rfl (by simp) ?_
            refine WL_gy (g := 93) rfl (by decide) rfl ?_
            refine mvp (.int _ _) rfl ?_
            refine WL_gy (g := 93) rfl (by decide) rfl ?_
            refine mvp (.string _) rfl ?_
            refine WL_gy (g := 93) rfl (by decide) rfl ?_
            refine cll (Acquire_nil bi ep who true _) ?_
            rintro _ w ⟨rfl, hf⟩
            replace hs := hs.call hf
            refine WL_gy (g := 93) rfl (by decide) rfl ?_
            refine neqW rfl rfl ?_
            first | refine pkT rfl rfl ?_ | refine pkF rfl rfl ?_
            refine mvp (.bool _) rfl ?_
            refine WL_gyb (g := 100) rfl (by decide) rfl (rfl) ?_
            refine ldA hs rfl (by simp) ?_
            refine WL_gy (g := 100) rfl (by decide) rfl ?_
            refine mvp (.int _ _) rfl ?_
            refine WL_gy (g := 100) rfl (by decide) rfl ?_
            refine mvp (.string _) rfl ?_
            refine WL_gy (g := 100) rfl (by decide) rfl ?_
            refine cll (Release_nil bi ep who _) ?_
            rintro _ w ⟨rfl, hf⟩
            replace hs := hs.call hf
            refine WL_gy (g := 100) rfl (by decide) rfl ?_
            refine neqW rfl rfl ?_
            first | refine pkT rfl rfl ?_ | refine pkF rfl rfl ?_
            refine mvp (.bool _) rfl ?_
            refine WL_gyb (g := 107) rfl (by decide) rfl (rfl) ?_
            refine ldA hs rfl (by simp) ?_
            refine WL_gy (g := 107) rfl (by decide) rfl ?_
            refine mvp (.int _ _) rfl ?_
            refine WL_gy (g := 107) rfl (by decide) rfl ?_
            refine mvp (.string _) rfl ?_
            refine WL_gy (g := 107) rfl (by decide) rfl ?_
            refine cll (Holds_nil bi ep who _) ?_
            rintro _ w ⟨rfl, hf⟩
            replace hs := hs.call hf
            first | refine pkT rfl rfl ?_ | refine pkF rfl rfl ?_
            refine WL_nil ?_
            refine hK17 _ _ ?_
            refine CW_condF rfl (rfl) ?_
            refine CW_skip ?_
            refine hK16 _ _ ?_
            refine CW_seq (fun K18 hK18 => ?_)
            refine CW_seq (fun K19 hK19 => ?_)
            refine CW_region ?_
            refine mvp (.int _ _) rfl ?_
            refine eqlW rfl rfl ?_
            refine WL_nil ?_
            refine hK19 _ _ ?_
            refine CW_cond rfl (fun hc114 => ?_) (fun hc114 => ?_)
            · skip
              refine CW_seq (fun K20 hK20 => ?_)
              refine CW_region ?_
              refine asp (.bool _) rfl ?_
              refine WL_nil ?_
              refine hK20 _ _ ?_
              refine CW_ret ?_
              repeat (first | (with_reducible apply thenF_ret) | (with_reducible apply blockF_ret))
              try simp only [thenF, blockF, reduceIte]
              refine Post_r Tryz.results11 (.tmp rfl .nil) ?_
              try simp only [ev_tmp, ev_const, upd_ap, Nat.reduceLT, Nat.reduceEqDiff, reduceIte]
              exact ⟨by trivial, hs.fm⟩
            · have hU0 : useE t [] bi ep who ≠ 0 := by rw [hU]; simpa using hc114
              refine CW_skip ?_
              refine hK18 _ _ ?_
              refine CW_seq (fun K21 hK21 => ?_)
              refine CW_region ?_
              refine mvp (.pointer _) rfl ?_
              refine ldA hs rfl (by simp) ?_
              refine mvp (.int _ _) rfl ?_
              refine mvp (.string _) rfl ?_
              refine cll (Acquire_ok g b r1 r2 t none 0 0 R1 [] [] bi ep who false _ (hs.he _) hb (by omega) hsz hw) ?_
              rintro _ w ⟨rfl, R2, a2, m2, c2, C2, hm2, ht⟩
              rw [(acq_e hU0).2] at ht
              replace hs := hs.turnE rfl ht
              rw [(acq_e hU0).1, hU]
              refine mvp (.int _ _) rfl ?_
              refine eqlW rfl rfl ?_
              refine mvp (.bool _) rfl ?_
              refine WL_gyb (g := 122) rfl (by decide) rfl ((by simp)) ?_
              refine mvp (.pointer _) rfl ?_
              refine WL_gy (g := 122) rfl (by decide) rfl ?_
              refine ldA hs rfl (by simp) ?_
              refine WL_gy (g := 122) rfl (by decide) rfl ?_
              refine mvp (.int _ _) rfl ?_
              refine WL_gy (g := 122) rfl (by decide) rfl ?_
              refine mvp (.string _) rfl ?_
              refine WL_gy (g := 122) rfl (by decide) rfl ?_
              refine cll (Release_ok g b r1 r2 t a2 m2 c2 R2 C2 [] bi ep who _ (hs.he _) hb (by omega) hsz hw) ?_
              rintro _ w ⟨rfl, R3, a3, m3, c3, C3, hm3, ht⟩
              rw [(rel_e hU0).2] at ht
              replace hs := hs.turnE rfl ht
              rw [(rel_e hU0).1, hU]
              refine WL_gy (g := 122) rfl (by decide) rfl ?_
              refine mvp (.int _ _) rfl ?_
              refine WL_gy (g := 122) rfl (by decide) rfl ?_
              refine eqlW rfl rfl ?_
              first | refine pkT rfl rfl ?_ | refine pkF rfl rfl ?_
              refine mvp (.bool _) rfl ?_
              refine WL_gyb (g := 131) rfl (by decide) rfl ((by simp)) ?_
              refine mvp (.pointer _) rfl ?_
              refine WL_gy (g := 131) rfl (by decide) rfl ?_
              refine ldA hs rfl (by simp) ?_
              refine WL_gy (g := 131) rfl (by decide) rfl ?_
              refine mvp (.int _ _) rfl ?_
              refine WL_gy (g := 131) rfl (by decide) rfl ?_
              refine mvp (.string _) rfl ?_
              refine WL_gy (g := 131) rfl (by decide) rfl ?_
              refine cll (Holds_ok g b r1 r2 t a3 m3 c3 R3 C3 [] bi ep who _ (hs.he _) hb hsz hw) ?_
              rintro _ w ⟨rfl, R4, ht⟩
              replace hs := hs.turnE rfl ht
              rw [decide_eq_false hU0]
              refine WL_gy (g := 131) rfl (by decide) rfl ?_
              refine notW rfl ?_
              first | refine pkT rfl rfl ?_ | refine pkF rfl rfl ?_
              refine mvp (.bool _) rfl ?_
              refine WL_gyb (g := 139) rfl (by decide) rfl (rfl) ?_
              refine mvp (.pointer _) rfl ?_
              refine WL_gy (g := 139) rfl (by decide) rfl ?_
              refine cll (VWrites_ok g b r1 r2 t a3 m3 c3 R4 C3 [] _ (hs.he _) mapok_nil (by decide)) ?_
              rintro _ w ⟨⟨L, a5, n5, c5, rfl, hp, _, hn5, hnew⟩, hf⟩
              replace hs := hs.call hf
              have hn0 : n5 = 0 := by have := hp.length_eq; simp at this; simp [hn5, this]
              subst hn0
              refine WL_gy (g := 139) rfl (by decide) rfl ?_
              refine lenW rfl ?_
              refine WL_gy (g := 139) rfl (by decide) rfl ?_
              refine eqlW rfl rfl ?_
              first | refine pkT rfl rfl ?_ | refine pkF rfl rfl ?_
              refine asp (.bool _) rfl ?_
              refine WL_nil ?_
              refine hK21 _ _ ?_
              refine CW_ret ?_
              repeat (first | (with_reducible apply thenF_ret) | (with_reducible apply blockF_ret))
              try simp only [thenF, blockF, reduceIte]
              refine Post_r Tryz.results11 (.tmp rfl .nil) ?_
              try simp only [ev_tmp, ev_const, upd_ap, Nat.reduceLT, Nat.reduceEqDiff, reduceIte]
              exact ⟨by first | trivial | simp, hs.fm⟩
end Go.Proofs.YtkbldndbofbkcaaGreatDoor
/- For any birth, any epoch, any process and any value of the lock, LockErrors returns true: the functions return the first error that applies, and write nothing then (the statement's tied card). No condition. -/
namespace Go.Proofs.YtkbldndbofbkcaaGreatDoor
open Go Go.ChangeShapes Go.WideShapes Go.RowKit
theorem lockErrors_types : ∀ t ∈ Tryz.f11.params.toList, Tryz.prog.readableRec t = true ∧ t < Tryz.prog.types.size := by
  rw [Tryz.params11]; intro t ht; simp at ht
  first | (subst ht; exact ⟨by kernel_rfl, of_decide_eq_true (by kernel_rfl)⟩) | (rcases ht with rfl | rfl <;> exact ⟨by kernel_rfl, of_decide_eq_true (by kernel_rfl)⟩) | (rcases ht with rfl | rfl | rfl <;> exact ⟨by kernel_rfl, of_decide_eq_true (by kernel_rfl)⟩)
set_option maxRecDepth 100000 in
theorem lockErrors_lifted (os : Os) (started : os.Started) (H : Type) (enc : TypeId × Value → H) :
    ReturnsInHanded {} Tryz.checked os 11 .any (fun w args => (Rows.lockErrorsSpec.pre enc Tryz.prog Tryz.f11 [] false w args ∧ laidMetH Tryz.prog laid5 w) ∧ sizedMet enc Tryz.prog Tryz.f11 (OpenSpec.ofChange Rows.lockErrorsSpec) false w args)
      (Rows.lockErrorsSpec.post enc Tryz.prog Tryz.f11 false true false false) := by
  refine returnsInHanded_of_change_and (C := Tryz.checked) (X := fun w _ => laidMetH Tryz.prog laid5 w) (fun _ _ _ hh h => h.of_heap hh) own started (by kernel_rfl) Tryz.func11
    (ChangeSpec.witness_shaped (enc := enc) (C := Tryz.checked) (os := os) (X := fun w _ => laidMetH Tryz.prog laid5 w) false (World.doorLaid Tryz.prog 400 os) #[.agg #[.string ⟨#[]⟩, .int .i64 0], .int .i64 0, .agg #[.string ⟨#[]⟩, .string ⟨#[]⟩]] 8 rfl (World.shaped_of_RefB (by kernel_rfl) (by kernel_rfl)) (by kernel_rfl) (by kernel_rfl) (by kernel_rfl) (door_met os _)) ?_
  intro W base args ds gs before hval0 hW _ _ _ _
  have hval : ∀ (j : Nat) t v, Tryz.f11.params[j]? = some t → args[j]? = some v → Value.okWide Tryz.prog W .any base t v := hval0
  have hW' := hW
  obtain ⟨p, q, hA0, hV, rfl, _, _⟩ := hW
  have hA : DataW.TrodAll enc Tryz.prog W 0 (fun _ => true) true Tryz.f11.params.toList args.toList ds p := hA0
  rw [Tryz.params11] at hA hval
  obtain ⟨v0, v1, v2, d0, d1, d2, p0, p1, p2, rfl, rfl, rfl, h0, h1, h2⟩ := trodAll_three hA
  obtain ⟨rfl, rfl⟩ := trodVars_none hV
  obtain ⟨b, rfl, hb⟩ := arg_bir (hval 0 _ v0 rfl rfl) h0
  obtain ⟨n, rfl⟩ := arg_int (hval 1 _ v1 rfl rfl) h1
  obtain ⟨s, t, rfl, hs, ht⟩ := arg_s2 (hval 2 _ v2 rfl rfl) h2
  exact law_calls rfl rfl lockErrors_types hW' rfl (lockErrors_ok b n s t W hb hs ht)
theorem lockErrors_j1 : Rows.lockErrorsRow.wf (OpenSpec.ofChange Rows.lockErrorsSpec) = true := by kernel_rfl
theorem lockErrors_j4 : Tryz.f11.params.all (Tryz.prog.readableRec ·) = true := by kernel_rfl
theorem lockErrors_j5 : namedTie Tryz.prog Rows.lockErrorsRow.named Rows.lockErrorsSpec.vars = true := by kernel_rfl
theorem lockErrors_j6 : (Rows.lockErrorsRow.stops == []) = true := by kernel_rfl
theorem lockErrors_j8 : (Rows.lockErrorsRow.knobs == []) = true := by kernel_rfl
theorem lockErrors_j10 : (Rows.lockErrorsRow.inPlace == Tryz.prog.inPlace 11) = true := by kernel_rfl
theorem lockErrors_j11 : (Rows.lockErrorsRow.unfollowed == Tryz.prog.unfollowed 11) = true := by kernel_rfl
theorem lockErrors_j12 : (Rows.lockErrorsRow.recurses == Tryz.prog.recurses 11) = true := by kernel_rfl
theorem lockErrors_j13 : (Rows.lockErrorsRow.named == Tryz.prog.varsNamed 11) = true := by kernel_rfl
theorem lockErrors_j14 : (Rows.lockErrorsRow.maps == (Tryz.f11.params.toList ++ Rows.lockErrorsSpec.plain.varTypes Tryz.prog).any (Tryz.prog.mapsRec ·)) = true := by kernel_rfl
theorem lockErrors_j15 : (Rows.lockErrorsRow.ifaces == (Tryz.f11.params.toList ++ Rows.lockErrorsSpec.plain.varTypes Tryz.prog).any (Tryz.prog.ifacesRec ·)) = true := by kernel_rfl
theorem lockErrors_j16 : (Rows.lockErrorsRow.mapsOut == Tryz.prog.mapsAmong Tryz.f11.resultTypes.toList) = true := by kernel_rfl
theorem lockErrors_j17 : (Rows.lockErrorsRow.loops == (Tryz.f11.params.toList ++ Rows.lockErrorsSpec.plain.varTypes Tryz.prog).any (Tryz.prog.loopsFrom ·)) = true := by kernel_rfl
theorem lockErrors_j18 : (Rows.lockErrorsRow.wideKeys == (Tryz.f11.params.toList ++ Rows.lockErrorsSpec.plain.varTypes Tryz.prog ++ Tryz.f11.resultTypes.toList).any (Tryz.prog.wideKeysFrom ·)) = true := by kernel_rfl
theorem lockErrors_j19 : Rows.lockErrorsSpec.vars.all (Tryz.prog.varReadable ·) = true := by kernel_rfl
theorem lockErrors_j20 : Tryz.f11.resultTypes.all (fun t => Tryz.prog.readableRec t && decide (t < Tryz.prog.types.size)) = true := by kernel_rfl
theorem lockErrors_j21 : (Rows.lockErrorsRow.ifacesOut == Tryz.f11.resultTypes.toList.any (Tryz.prog.ifacesRec ·)) = true := by kernel_rfl
theorem lockErrors_j22 : (Rows.lockErrorsRow.loopsOut == Tryz.f11.resultTypes.toList.any (Tryz.prog.loopsFrom ·)) = true := by kernel_rfl
theorem lockErrors_j23 : (Rows.lockErrorsRow.plainKeys == Tryz.prog.plainKeys) = true := p_keys
theorem lockErrors_j24 : Rows.lockErrorsRow.shortTexts.isNone = true := by kernel_rfl
theorem lockErrors_j27 : (Rows.lockErrorsRow.lifted == Tryz.prog.liftsFinal) = true := p_lift
theorem lockErrors_j28 : (Tryz.prog.make == some Rows.lockErrorsRow.make) = true := p_make
theorem lockErrors_j30 : (Rows.lockErrorsRow.pinned == Rows.lockErrorsRow.pinnedBy) = true := by kernel_rfl
theorem lockErrors_j31 : (Rows.lockErrorsRow.veiled == (Tryz.f11.params.toList ++ Rows.lockErrorsSpec.plain.varTypes Tryz.prog ++ Tryz.f11.resultTypes.toList).any (Tryz.prog.veiledRec ·)) = true := by kernel_rfl
theorem lockErrors_j32 : Rows.lockErrorsRow.veiledFits Tryz.prog Tryz.f11.params.toList (Tryz.f11.params.toList ++ Rows.lockErrorsSpec.plain.varTypes Tryz.prog ++ Tryz.f11.resultTypes.toList) = true := by kernel_rfl
theorem lockErrors_joined : joinedFacts Tryz.prog 11 Tryz.f11 Rows.lockErrorsSpec Rows.lockErrorsRow = true :=
  joined_of lockErrors_j1 laidOut p_maps lockErrors_j4 lockErrors_j5 lockErrors_j6 p_stops lockErrors_j8 p_knobs lockErrors_j10 lockErrors_j11 lockErrors_j12 lockErrors_j13 lockErrors_j14 lockErrors_j15 lockErrors_j16 lockErrors_j17 lockErrors_j18 lockErrors_j19 lockErrors_j20 lockErrors_j21 lockErrors_j22 lockErrors_j23 lockErrors_j24 p_heard p_enter lockErrors_j27 lockErrors_j28 rfl rfl lockErrors_j30 lockErrors_j31 lockErrors_j32
theorem lockErrors_named : Tryz.prog.funcNamed "replevin/replevinlaw34.LockErrors" = some 11 := by kernel_rfl
theorem lockErrors_inst : Tryz.f11.isInstance Tryz.prog Rows.lockErrorsRow.origin Rows.lockErrorsRow.targs := of_decide_eq_true (by kernel_rfl)
theorem lockErrors_wrap : Tryz.f11.isWrapper Tryz.prog Rows.lockErrorsRow.wrapper Rows.lockErrorsRow.mainSum := by unfold Func.isWrapper; rw [if_neg (of_decide_eq_false (by kernel_rfl))]; exact ⟨rfl, rfl⟩
theorem lockErrors_said : Rows.LockErrorsSaid :=
  OpenClaim.holds_of_wide 11 Tryz.f11 rfl rfl rfl rfl rfl rfl rfl ⟨rfl, rfl, rfl, rfl, rfl⟩ rfl rfl rfl rfl rfl lockErrors_named Tryz.func11 lockErrors_joined lockErrors_inst lockErrors_wrap (fun os started H enc _ => lockErrors_lifted os started H enc)
theorem lockErrors_want0 : Tryz.prog.wantsStandIn 44 = false := by kernel_rfl
theorem lockErrors_want1 : Tryz.prog.wantsStandIn 3 = false := by kernel_rfl
theorem lockErrors_want2 : Tryz.prog.wantsStandIn 89 = false := by kernel_rfl
theorem lockErrors_wf : Rows.lockErrorsRow.wfByText (OpenSpec.ofChange Rows.lockErrorsSpec) = true := by kernel_rfl
theorem lockErrors_goes : false = Rows.lockErrorsRow.goesBy Tryz.prog := by kernel_rfl
theorem lockErrors_plain : ∀ f fn, Tryz.prog.funcNamed "replevin/replevinlaw34.LockErrors" = some f → Tryz.prog.funcs[f]? = some fn → true = Tryz.prog.looks [] ∧ ∀ (j : Nat) t, fn.params[j]? = some t → Tryz.prog.wantsStandIn t = false := fun f fn hf hfn => by
  obtain rfl : f = 11 := (Option.some.inj (lockErrors_named.symm.trans hf)).symm
  obtain rfl : fn = Tryz.f11 := (Option.some.inj (Tryz.func11.symm.trans hfn)).symm
  refine ⟨p_looks, fun j t ht => ?_⟩
  rw [Tryz.params11] at ht
  have hm := List.mem_of_getElem? (by simpa using ht)
  simp at hm
  rcases hm with rfl | rfl | rfl
  · exact lockErrors_want0
  · exact lockErrors_want1
  · exact lockErrors_want2
theorem lockErrors_holds : Rows.LockErrorsCardSaid :=
  Claim7.holds_tied_plain_at .later [] [.data, .data, .data, .sentinel, .sentinel] true (true, "2a6453758fad6cc53dd7f591497998820b78589a43cd8ac577ef6ff2b26842bc") true
    lockErrors_said (fun _ h => by cases h) lockErrors_wf (fun _ h => by cases h) lockErrors_row_tie rfl ⟨rfl, rfl⟩ p_main rfl lockErrors_plain lockErrors_goes
#print axioms lockErrors_holds
end Go.Proofs.YtkbldndbofbkcaaGreatDoor
