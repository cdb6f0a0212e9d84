/- Plain: a lock that is shared. | replevinlaw34.LockShares: the walk. | For any number of processes and any order, LockShares returns true: all of them can share a lock, at most MaxHolders of them; nobody gets it alone then, but the last one that remains does (the statement's tied card). No condition. -/
import Derived.Test.YtkbldndbofbkcaaGreatDoorMI
set_option linter.unusedSimpArgs false
set_option linter.unusedVariables false
/- Plain: a lock that is shared. -/
namespace Go.Proofs.YtkbldndbofbkcaaGreatDoor
open Go Go.RowKit
def HsB (N : Chs) (sh : Bool) (xs : List Nat) : Prop := Inv N ∧ Srt xs ∧ lkRead .nil N (fB 0) 0 = (⟨0, sh, xs.map nm⟩, 0) ∧ lkCheck ⟨0, sh, xs.map nm⟩ = 0
theorem okEp0 : okEp 0 = 0 := by decide
theorem hsb_nil : HsB [] false [] := ⟨inv_nil, srt_nil, by decide +kernel, by decide +kernel⟩
theorem enc_nm (ep : Int) (sh : Bool) (xs : List Nat) : (lkEnc ⟨ep, sh, xs.map nm⟩).length ≤ 21 + 12 * xs.length := by
  unfold lkEnc
  have h1 := vnat_le ep.toNat
  have h2 := vnat_le (xs.map nm).length
  have h3 : ((xs.map nm).flatMap fun h => encT h.data.toList).length ≤ 12 * xs.length := by
    clear h2
    induction xs with
    | nil => simp
    | cons x xs ih =>
      rw [List.map_cons, List.flatMap_cons, List.length_append, List.length_cons]
      have h4 : (encT (nm x).data.toList).length ≤ 12 := by
        unfold encT
        have h5 : (nm x).data.toList.length = 2 := rfl
        rw [List.length_append, h5]
        have := vnat_le 2; omega
      omega
  simp only [List.length_append, encB, List.length_singleton]
  omega
theorem nameB0 : onCheckB (lkName (fB 0)) = 0 := by decide +kernel
theorem wr_b0 {N : Chs} (hN : Inv N) {sh : Bool} {xs : List Nat} (hx : Srt xs) (hc : lkCheck ⟨0, sh, xs.map nm⟩ = 0) : wrE (fB 0) ⟨0, sh, xs.map nm⟩ = 0 ∧ HsB (wrN N (fB 0) ⟨0, sh, xs.map nm⟩) sh xs := by
  have h1 : callE (lkName (fB 0)) (str (lkEnc ⟨0, sh, xs.map nm⟩), false) = 0 := by
    unfold callE
    have h2 := enc_nm 0 sh xs
    have h3 := (lkCheck_0 hc).2.1
    simp only [List.length_map] at h3
    rw [if_neg (by rw [nameB0]; simp), if_neg (by rw [str_size]; omega)]
  refine ⟨by unfold wrE; rw [if_neg (by rw [hc]; simp), h1], inv_wr hN _ hx, hx, ?_, hc⟩
  have hwr : wrN N (fB 0) ⟨0, sh, xs.map nm⟩ = nset N (lkName (fB 0)) (str (lkEnc ⟨0, sh, xs.map nm⟩), false) := by
    unfold wrN callN
    rw [if_neg (by rw [hc]; simp), if_pos h1]
  have hv : vwGet .nil (wrN N (fB 0) ⟨0, sh, xs.map nm⟩) (lkName (fB 0)) = (str (lkEnc ⟨0, sh, xs.map nm⟩), true) := by
    unfold vwGet
    rw [if_neg (by rw [nameB0]; simp), hwr, nget_nset, if_pos rfl]
    rfl
  unfold lkRead
  simp only [hv, data_str, dec_enc hc]
  simp
theorem use_b0 {N : Chs} {sh : Bool} {xs : List Nat} (h : HsB N sh xs) {k : Nat} (hk : k < 40) :
    useE .nil N (fB 0) 0 (nm k) = 0 ∧ useL .nil N (fB 0) 0 (nm k) = ⟨0, sh, xs.map nm⟩ ∧ useAt .nil N (fB 0) 0 (nm k) = bsAt (xs.map nm) (nm k) ∧ useH .nil N (fB 0) 0 (nm k) = decide (k ∈ xs) := by
  obtain ⟨e1, e2, e3, e4⟩ := use_nm (begE_fB 0 okEp0) h.2.2.1 k
  exact ⟨e1, e2, e3, by rw [e4]; exact bsFound_nm h.2.1 hk⟩
theorem hsb_len {N : Chs} {sh : Bool} {xs : List Nat} (h : HsB N sh xs) : xs.length ≤ 32 ∧ ¬ (sh = false ∧ 1 < xs.length) ∧ ¬ (sh = true ∧ xs.length = 0) := by
  have := lkCheck_0 h.2.2.2
  simp only [List.length_map] at this
  exact ⟨this.2.1, this.2.2.2⟩
theorem acq_sh {N : Chs} {s : Bool} {xs : List Nat} (h : HsB N s xs) {k : Nat} (hk : k < 40) (hm : k ∉ xs) (hs : s = true ∨ xs = []) (hl : xs.length < 32) :
    acqV .nil N (fB 0) 0 (nm k) true = 0 ∧ HsB (acqN .nil N (fB 0) 0 (nm k) true) true (ins xs k) := by
  obtain ⟨e1, e2, e3, e4⟩ := use_b0 h hk
  have hx := ins_srt h.2.1 hk hm
  have ha : acqE ⟨0, s, xs.map nm⟩ false true = 0 := by
    unfold acqE othN
    simp only [List.length_map]
    rcases hs with rfl | rfl
    · simp; omega
    · cases s <;> simp
  have hL : acqL ⟨0, s, xs.map nm⟩ (bsAt (xs.map nm) (nm k)) false (nm k) true = ⟨0, true, (ins xs k).map nm⟩ := by
    unfold acqL
    rw [if_neg (by simp)]
    simp only [ins_map]
  obtain ⟨w1, w2⟩ := wr_b0 h.1 hx (lkCheck_nm (sh := true) okEp0 hx (by rw [len_ins]; omega) (by simp) (by rw [len_ins]; simp))
  unfold acqV acqN
  rw [e1, e2, e3, e4, decide_eq_false hm, ha, hL]
  simp only [ne_eq, not_true, if_false, Bool.false_eq_true, false_and]
  exact ⟨w1, w2⟩
theorem acq_full {N : Chs} {xs : List Nat} (h : HsB N true xs) {k : Nat} (hk : k < 40) (hm : k ∉ xs) (hl : xs.length = 32) :
    acqV .nil N (fB 0) 0 (nm k) true = 9 ∧ acqN .nil N (fB 0) 0 (nm k) true = N := by
  obtain ⟨e1, e2, e3, e4⟩ := use_b0 h hk
  have ha : acqE ⟨0, true, xs.map nm⟩ false true = 9 := by
    unfold acqE othN
    simp [hl]
  unfold acqV acqN
  rw [e1, e2, e3, e4, decide_eq_false hm, ha]
  simp
theorem acq_alone {N : Chs} {xs : List Nat} (h : HsB N true xs) {k : Nat} (hk : k < 40) (hm : k ∈ xs) :
    ∃ s, HsB (acqN .nil N (fB 0) 0 (nm k) false) s xs ∧ (acqV .nil N (fB 0) 0 (nm k) false = 0 ∧ xs.length = 1 ∨ acqV .nil N (fB 0) 0 (nm k) false = 19 ∧ 1 < xs.length) := by
  obtain ⟨e1, e2, e3, e4⟩ := use_b0 h hk
  have h0 : 0 < xs.length := List.length_pos_of_mem hm
  unfold acqV acqN
  rw [e1, e2, e3, e4, decide_eq_true hm]
  by_cases hl : xs.length = 1
  · have ha : acqE ⟨0, true, xs.map nm⟩ true false = 0 := by
      unfold acqE othN
      simp [hl]
    have hL : acqL ⟨0, true, xs.map nm⟩ (bsAt (xs.map nm) (nm k)) true (nm k) false = ⟨0, false, xs.map nm⟩ := rfl
    obtain ⟨w1, w2⟩ := wr_b0 h.1 h.2.1 (lkCheck_nm (sh := false) okEp0 h.2.1 (by omega) (by omega) (by simp))
    rw [ha, hL]
    simp only [ne_eq, not_true, if_false, Bool.true_eq_false, and_false]
    exact ⟨false, w2, .inl ⟨w1, hl⟩⟩
  · have ha : acqE ⟨0, true, xs.map nm⟩ true false = 19 := by
      unfold acqE othN
      simp; omega
    rw [ha]
    simp
    exact ⟨.inr h, by omega⟩
theorem rel_b0 {N : Chs} {s : Bool} {xs : List Nat} (h : HsB N s xs) {k : Nat} (hk : k < 40) (hm : k ∈ xs) :
    relV .nil N (fB 0) 0 (nm k) = 0 ∧ HsB (relN .nil N (fB 0) 0 (nm k)) (s && decide (0 < (era xs k).length)) (era xs k) := by
  obtain ⟨e1, e2, e3, e4⟩ := use_b0 h hk
  have hx := era_srt h.2.1 k
  have hle := len_era h.2.1 hk hm
  have hL : relL ⟨0, s, xs.map nm⟩ (bsAt (xs.map nm) (nm k)) = ⟨0, s && decide (0 < (era xs k).length), (era xs k).map nm⟩ := by
    unfold relL
    simp only [era_map, List.length_map]
  have h3 := hsb_len h
  have hc : lkCheck ⟨0, s && decide (0 < (era xs k).length), (era xs k).map nm⟩ = 0 := lkCheck_nm okEp0 hx (by omega)
    (by rintro ⟨q1, q2⟩
        rw [decide_eq_true (show 0 < (era xs k).length by omega), Bool.and_true] at q1
        exact h3.2.1 ⟨q1, by omega⟩)
    (by rintro ⟨q1, q2⟩; rw [q2] at q1; simp at q1)
  obtain ⟨w1, w2⟩ := wr_b0 h.1 hx hc
  unfold relV relN
  rw [e1, e2, e3, e4, decide_eq_true hm, hL]
  simp only [ne_eq, not_true, if_false, Bool.true_eq_false]
  exact ⟨w1, w2⟩
end Go.Proofs.YtkbldndbofbkcaaGreatDoor
/- replevinlaw34.LockShares: the walk. -/
namespace Go.Proofs.YtkbldndbofbkcaaGreatDoor
open Go Go.RowKit
attribute [local irreducible] WL CW DW Ret RW
theorem lockShares_ok (p t : Nat) (w0 : World) (hp : p < 256) (ht : t < 256) :
    Ret Tryz.prog 5 #[.int .u8 p, .int .u8 t] w0 fun v w' => v = .bool true ∧ Fm [] w0 w' := by
  have hs := St.init w0 []
  obtain ⟨k, hk⟩ : ∃ k : Nat, k = p % 36 := ⟨_, rfl⟩
  have hwr : ∀ x : Nat, x < 36 → IntKind.u8.wrap (x : Int) = (x : Int) := fun x hx => by
    simp [IntKind.wrap, IntKind.bits, IntKind.signed]; omega
  refine Ret_enter Tryz.func5 rfl Tryz.ntmps5 (by simp) ?_
  refine CW_seq (fun K1 hK1 => ?_)
  refine CW_region ?_
  refine asp (.bool _) rfl ?_
  refine WL_nil ?_
  refine hK1 _ _ ?_
  refine CW_seq (fun K2 hK2 => ?_)
  refine CW_seq (fun K3 hK3 => ?_)
  refine CW_region ?_
  refine cll (known_ok _) ?_
  rintro _ w ⟨rfl, hf⟩
  replace hs := hs.call hf
  refine notW rfl ?_
  refine WL_nil ?_
  refine hK3 _ _ ?_
  refine CW_condF rfl (rfl) ?_
  refine CW_skip ?_
  refine hK2 _ _ ?_
  refine CW_seq (fun K4 hK4 => ?_)
  refine CW_region ?_
  refine cll (SNew_ok _) ?_
  rintro _ w ⟨bT, rfl, hT, hb, hf⟩
  replace hs := hs.callNew hf hT (by intro x hx; simp [eT, Tr.fp] at hx; subst hx; exact hb)
  refine cll (VNew_t bT .nil _ (hs.he _)) ?_
  rintro _ w ⟨g, r1, r2, rfl, ht'⟩
  replace hs := hs.turnE rfl ht'
  refine asp (.pointer _) rfl ?_
  refine WL_nil ?_
  refine hK4 _ _ ?_
  refine CW_seq (fun K5 hK5 => ?_)
  refine CW_region ?_
  refine mvp (.int _ _) rfl ?_
  refine WL_v (v := .int .i64 (p : Int)) (X_cvintp rfl (by omega) (by omega)) ?_
  refine WL_v (v := .int .i64 (k : Int)) (X_remn 36 rfl rfl (by omega) (by rw [hk])) ?_
  refine asp (.int _ _) rfl ?_
  refine WL_nil ?_
  refine hK5 _ _ ?_
  refine CW_seq (fun K6 hK6 => ?_)
  refine CW_seq (fun K7 hK7 => ?_)
  refine CW_region ?_
  refine asp (.int _ _) rfl ?_
  refine WL_nil ?_
  refine hK7 _ _ ?_
  refine CW_block ?_
  refine CW_loop (fun kk f w' => ∃ (i m cc : Nat) (aa : Option Addr) (R C N : Chs) (s : Bool) (xs : List Nat), kk = k - i ∧ i ≤ k ∧ f 1 = .int .u8 t ∧ f 5 = .pointer (some ⟨g, 0, none⟩) ∧ f 6 = .int .i64 k ∧ f 7 = .int .i64 i ∧ m ≤ i ∧ HsB N s xs ∧ (∀ v, v ∈ xs ↔ ∃ j, j < min i 32 ∧ v = (j + t) % 36) ∧ xs.length = min i 32 ∧ (s = true ∨ xs = []) ∧ St w0 [] w' [eV g bT r1 r2 .nil aa m cc R C N]) k ?_ ?_
  · exact ⟨0, 0, 0, none, [], [], [], false, [], by omega, by omega, rfl, rfl, rfl, rfl, by omega, hsb_nil, fun v => ⟨fun q => (nomatch q), fun ⟨j, hj, _⟩ => absurd hj (by omega)⟩, rfl, .inr rfl, hs⟩
  · rintro kk f w1 ⟨i, m, cc, aa, R, C, N, s, xs, rfl, hi, e1, e5, e6, e7, hm, hH, hxs, hln, hsx, hs⟩
    refine CW_kn (i := 1) e1 (CW_kn (i := 5) e5 (CW_kn (i := 6) e6 (CW_kn (i := 7) e7 ?_)))
    refine CW_seq (fun K8 hK8 => ?_)
    refine CW_seq (fun K9 hK9 => ?_)
    refine CW_region ?_
    refine mvp (.int _ _) rfl ?_
    refine mvp (.int _ _) rfl ?_
    refine lssW rfl rfl ?_
    refine WL_nil ?_
    refine hK9 _ _ ?_
    refine CW_cond rfl (fun hc23 => ?_) (fun hc23 => ?_)
    · have hi2 : i < k := by simpa using hc23
      obtain ⟨z, hz⟩ : ∃ z : Nat, z = (i + t) % 36 := ⟨_, rfl⟩
      have hz36 : z < 36 := by omega
      refine CW_skip ?_
      refine hK8 _ _ ?_
      refine CW_seq (fun K10 hK10 => ?_)
      refine CW_block ?_
      refine CW_seq (fun K11 hK11 => ?_)
      refine CW_region ?_
      refine asp (.int _ _) rfl ?_
      refine WL_nil ?_
      refine hK11 _ _ ?_
      refine CW_cut (fun f w' => f 1 = .int .u8 t ∧ f 5 = .pointer (some ⟨g, 0, none⟩) ∧ f 6 = .int .i64 k ∧ f 7 = .int .i64 i ∧ f 8 = .int .i64 (if i < 32 then 0 else 9) ∧ St w0 [] w' [eV g bT r1 r2 .nil aa m cc R C N]) ?_ ?_
      · skip
        refine CW_seq (fun K12 hK12 => ?_)
        refine CW_region ?_
        refine mvp (.int _ _) rfl ?_
        refine geqW rfl rfl ?_
        refine WL_nil ?_
        refine hK12 _ _ ?_
        refine CW_cond rfl (fun hc27 => ?_) (fun hc27 => ?_)
        · skip
          refine CW_region ?_
          refine asp (.int _ _) rfl ?_
          refine WL_nil ?_
          first
          | (have h27 : ¬ i < 32 := by simp at hc27; omega
             exact ⟨rfl, rfl, rfl, rfl, by rw [if_neg h27]; rfl, hs⟩)
          | (have h27 : i < 32 := by simp at hc27; omega
             exact ⟨rfl, rfl, rfl, rfl, by rw [if_pos h27]; rfl, hs⟩)
        · skip
          refine CW_skip ?_
          first
          | (have h27 : ¬ i < 32 := by simp at hc27; omega
             exact ⟨rfl, rfl, rfl, rfl, by rw [if_neg h27]; rfl, hs⟩)
          | (have h27 : i < 32 := by simp at hc27; omega
             exact ⟨rfl, rfl, rfl, rfl, by rw [if_pos h27]; rfl, hs⟩)
      · skip
        rintro f w ⟨e1, e5, e6, e7, e8, hs⟩
        refine CW_kn (i := 1) e1 (CW_kn (i := 5) e5 (CW_kn (i := 6) e6 (CW_kn (i := 7) e7 (CW_kn (i := 8) e8 ?_))))
        refine CW_seq (fun K13 hK13 => ?_)
        refine CW_region ?_
        refine mvp (.pointer _) rfl ?_
        refine cll (birth_ok 0 _ (by omega)) ?_
        rintro _ w ⟨rfl, hf⟩
        replace hs := hs.call hf
        refine mvp (.int _ _) rfl ?_
        refine mvp (.int _ _) rfl ?_
        refine WL_v (v := .int .i64 (t : Int)) (X_cvintp rfl (by omega) (by omega)) ?_
        refine WL_v (v := .int .i64 ((i + t : Nat) : Int)) (X_addE rfl rfl (by omega) (by omega)) ?_
        refine WL_v (v := .int .i64 (z : Int)) (X_remn 36 rfl rfl (by omega) (by rw [hz])) ?_
        refine cviW rfl ?_
        rw [hwr z hz36]
        refine cll (name_ok z _ (by omega)) ?_
        rintro _ w ⟨rfl, hf⟩
        replace hs := hs.call hf
        refine cll (Acquire_ok g bT r1 r2 .nil aa m cc R C N (fB 0) 0 (nm z) true _ (hs.he _) (fB_size _) (by omega) (by have := get_short hH.1 (lkName (fB 0)); omega) (nm_big _)) ?_
        rintro _ w ⟨rfl, R1, a1, m1, c1, C1, hm1, ht'⟩
        replace hs := hs.turnE rfl ht'
        have hzn : z ∉ xs := fun q => by obtain ⟨j, hj, e⟩ := (hxs z).1 q; omega
        obtain ⟨N1, s1, ys, hN1, hV1, hH1, hys, hyl, hsy⟩ : ∃ N1 s1 ys, acqN .nil N (fB 0) 0 (nm z) true = N1 ∧ acqV .nil N (fB 0) 0 (nm z) true = (if i < 32 then 0 else 9) ∧ HsB N1 s1 ys ∧ (∀ v, v ∈ ys ↔ ∃ j, j < min (i + 1) 32 ∧ v = (j + t) % 36) ∧ ys.length = min (i + 1) 32 ∧ (s1 = true ∨ ys = []) := by
          by_cases h32 : i < 32
          · obtain ⟨q1, q2⟩ := acq_sh hH (by omega) hzn hsx (by omega)
            refine ⟨_, true, ins xs z, rfl, by rw [q1, if_pos h32], q2, fun v => ?_, by rw [len_ins]; omega, .inl rfl⟩
            rw [mem_ins2, hxs]
            constructor
            · rintro (q | ⟨j, hj, q⟩)
              · exact ⟨i, by omega, by omega⟩
              · exact ⟨j, by omega, q⟩
            · rintro ⟨j, hj, q⟩
              rcases Nat.lt_or_ge j i with h | h
              · exact .inr ⟨j, by omega, q⟩
              · exact .inl (by have : j = i := by omega
                               subst this; omega)
          · have hst : s = true := hsx.elim id (fun q => by rw [q] at hln; simp at hln; omega)
            subst hst
            obtain ⟨q1, q2⟩ := acq_full hH (by omega) hzn (by omega)
            refine ⟨_, true, xs, rfl, by rw [q1, if_neg h32], by rw [q2]; exact hH, fun v => ?_, by omega, .inl rfl⟩
            rw [hxs, show min (i + 1) 32 = min i 32 by omega]
        rw [hN1] at hs
        rw [hV1]
        refine mvp (.int _ _) rfl ?_
        refine neqW rfl rfl ?_
        refine WL_nil ?_
        refine hK13 _ _ ?_
        refine CW_condF rfl ((decide_eq_false (fun q => q rfl))) ?_
        refine CW_skip ?_
        refine hK10 _ _ ?_
        refine CW_region ?_
        refine mvp (.int _ _) rfl ?_
        first | refine addI rfl rfl (by omega) ?_ | refine addW rfl rfl ?_
        refine asp (.int _ _) rfl ?_
        refine WL_nil ?_
        skip
        exact ⟨k - (i + 1), by omega, i + 1, m1, c1, a1, R1, C1, N1, s1, ys, rfl, by omega, rfl, rfl, rfl, rfl, by omega, hH1, hys, hyl, hsy, hs⟩
    · have hik : i = k := by simp at hc23; omega
      subst hik
      obtain ⟨u, hu⟩ : ∃ u : Nat, u = min i 32 := ⟨_, rfl⟩
      rw [← hu] at hxs hln
      refine CW_exit ?_
      refine hK6 _ _ ?_
      refine CW_seq (fun K14 hK14 => ?_)
      refine CW_region ?_
      refine mvp (.int _ _) rfl ?_
      refine WL_v (v := .int .i64 (u : Int)) (X_minE rfl rfl (by omega)) ?_
      refine asp (.int _ _) rfl ?_
      refine WL_nil ?_
      refine hK14 _ _ ?_
      refine CW_seq (fun K15 hK15 => ?_)
      refine CW_seq (fun K16 hK16 => ?_)
      refine CW_region ?_
      refine asp (.int _ _) rfl ?_
      refine WL_nil ?_
      refine hK16 _ _ ?_
      refine CW_block ?_
      refine CW_loop (fun kk f w' => ∃ (i m cc : Nat) (aa : Option Addr) (R C N : Chs) (s : Bool) (xs : List Nat), kk = u - i ∧ i ≤ u ∧ f 1 = .int .u8 t ∧ f 5 = .pointer (some ⟨g, 0, none⟩) ∧ f 6 = .int .i64 u ∧ f 9 = .int .i64 i ∧ m ≤ 36 + 2 * i ∧ HsB N s xs ∧ (∀ v, v ∈ xs ↔ ∃ j, i ≤ j ∧ j < u ∧ v = (j + t) % 36) ∧ xs.length = u - i ∧ (s = true ∨ xs = []) ∧ St w0 [] w' [eV g bT r1 r2 .nil aa m cc R C N]) u ?_ ?_
      · exact ⟨0, m, cc, aa, R, C, N, s, xs, by omega, by omega, rfl, rfl, rfl, rfl, by omega, hH, fun v => by rw [hxs]; exact ⟨fun ⟨j, h1, h2⟩ => ⟨j, by omega, h1, h2⟩, fun ⟨j, _, h1, h2⟩ => ⟨j, h1, h2⟩⟩, by omega, hsx, hs⟩
      · rintro kk f w1 ⟨i', m, cc, aa, R, C, N, s, xs, rfl, hi', e1, e5, e6, e9, hm, hH, hxs, hln, hsx, hs⟩
        refine CW_kn (i := 1) e1 (CW_kn (i := 5) e5 (CW_kn (i := 6) e6 (CW_kn (i := 9) e9 ?_)))
        refine CW_seq (fun K17 hK17 => ?_)
        refine CW_seq (fun K18 hK18 => ?_)
        refine CW_region ?_
        refine mvp (.int _ _) rfl ?_
        refine mvp (.int _ _) rfl ?_
        refine lssW rfl rfl ?_
        refine WL_nil ?_
        refine hK18 _ _ ?_
        refine CW_cond rfl (fun hc44 => ?_) (fun hc44 => ?_)
        · have hi2 : i' < u := by simpa using hc44
          obtain ⟨z, hz⟩ : ∃ z : Nat, z = (i' + t) % 36 := ⟨_, rfl⟩
          have hz36 : z < 36 := by omega
          have hzx : z ∈ xs := (hxs z).2 ⟨i', by omega, hi2, hz⟩
          refine CW_skip ?_
          refine hK17 _ _ ?_
          refine CW_seq (fun K19 hK19 => ?_)
          refine CW_block ?_
          refine CW_seq (fun K20 hK20 => ?_)
          refine CW_region ?_
          refine mvp (.int _ _) rfl ?_
          refine mvp (.int _ _) rfl ?_
          refine WL_v (v := .int .i64 (t : Int)) (X_cvintp rfl (by omega) (by omega)) ?_
          refine WL_v (v := .int .i64 ((i' + t : Nat) : Int)) (X_addE rfl rfl (by omega) (by omega)) ?_
          refine WL_v (v := .int .i64 (z : Int)) (X_remn 36 rfl rfl (by omega) (by rw [hz])) ?_
          refine cviW rfl ?_
          rw [hwr z hz36]
          refine cll (name_ok z _ (by omega)) ?_
          rintro _ w ⟨rfl, hf⟩
          replace hs := hs.call hf
          refine asp (.string _) rfl ?_
          refine WL_nil ?_
          refine hK20 _ _ ?_
          refine CW_seq (fun K21 hK21 => ?_)
          refine CW_region ?_
          refine mvp (.pointer _) rfl ?_
          refine cll (birth_ok 0 _ (by omega)) ?_
          rintro _ w ⟨rfl, hf⟩
          replace hs := hs.call hf
          refine mvp (.string _) rfl ?_
          refine cll (Acquire_ok g bT r1 r2 .nil aa m cc R C N (fB 0) 0 (nm z) false _ (hs.he _) (fB_size _) (by omega) (by have := get_short hH.1 (lkName (fB 0)); omega) (nm_big _)) ?_
          rintro _ w ⟨rfl, R1, a1, m1, c1, C1, hm1, ht'⟩
          replace hs := hs.turnE rfl ht'
          have hst : s = true := hsx.elim id (fun q => by rw [q] at hzx; cases hzx)
          subst hst
          obtain ⟨s1, hH1, hV1⟩ := acq_alone hH (by omega) hzx
          generalize acqN .nil N (fB 0) 0 (nm z) false = N1 at hs hH1
          generalize acqV .nil N (fB 0) 0 (nm z) false = e at hV1
          obtain ⟨hrv, hH2⟩ := rel_b0 hH1 (by omega) hzx
          refine asp (.int _ _) rfl ?_
          refine WL_nil ?_
          refine hK21 _ _ ?_
          refine CW_seq (fun K22 hK22 => ?_)
          refine CW_region ?_
          refine mvp (.int _ _) rfl ?_
          refine eqlW rfl rfl ?_
          refine mvp (.int _ _) rfl ?_
          refine mvp (.int _ _) rfl ?_
          first | refine subI rfl rfl (by omega) ?_ | refine subW rfl rfl ?_
          refine eqlW rfl rfl ?_
          refine WL_v (X_neB rfl rfl) ?_
          refine mvp (.bool _) rfl ?_
          refine WL_gyb (g := 65) rfl (by decide) rfl ((by
rcases hV1 with ⟨rfl, h⟩ | ⟨rfl, h⟩
· rw [decide_eq_true rfl, decide_eq_true (by omega)]; rfl
· rw [decide_eq_false (by decide), decide_eq_false (by omega)]; rfl)) ?_
          refine mvp (.int _ _) rfl ?_
          refine WL_gy (g := 65) rfl (by decide) rfl ?_
          refine neqW rfl rfl ?_
          refine WL_gy (g := 65) rfl (by decide) rfl ?_
          refine mvp (.bool _) rfl ?_
          refine WL_g (g := 68) rfl (by decide) rfl (fun hg68 => ?_) (fun hg68 => ?_)
          · skip
            refine mvp (.int _ _) rfl ?_
            refine WL_gy (g := 68) rfl (by decide) rfl ?_
            refine neqW rfl rfl ?_
            refine WL_gy (g := 65) rfl (by decide) rfl ?_
            first | refine pkT rfl rfl ?_ | refine pkF rfl rfl ?_
            first | refine pkT rfl rfl ?_ | refine pkF rfl rfl ?_
            refine mvp (.bool _) rfl ?_
            refine WL_gyb (g := 73) rfl (by decide) rfl ((by
first
  | rfl
  | (rcases hV1 with ⟨rfl, h⟩ | ⟨rfl, h⟩
     · simp at hg68
     · rfl))) ?_
            refine mvp (.pointer _) rfl ?_
            refine WL_gy (g := 73) rfl (by decide) rfl ?_
            refine cll (birth_ok 0 _ (by omega)) ?_
            rintro _ w ⟨rfl, hf⟩
            replace hs := hs.call hf
            refine WL_gy (g := 73) rfl (by decide) rfl ?_
            refine mvp (.string _) rfl ?_
            refine WL_gy (g := 73) rfl (by decide) rfl ?_
            refine cll (Release_ok g bT r1 r2 .nil a1 m1 c1 R1 C1 N1 (fB 0) 0 (nm z) _ (hs.he _) (fB_size _) (by omega) (by have := get_short hH1.1 (lkName (fB 0)); omega) (nm_big _)) ?_
            rintro _ w ⟨rfl, R2, a2, m2, c2, C2, hm2, ht'⟩
            replace hs := hs.turnE rfl ht'
            rw [hrv]
            have hyl : (era xs z).length = u - (i' + 1) := by rw [len_era hH.2.1 (by omega) hzx, hln]; omega
            have hys : ∀ v, v ∈ era xs z ↔ ∃ j, i' + 1 ≤ j ∧ j < u ∧ v = (j + t) % 36 := fun v => by
              rw [mem_era hH.2.1 (by omega) hzx, hxs]
              constructor
              · rintro ⟨⟨j, h1, h2, h3⟩, h4⟩
                refine ⟨j, ?_, h2, h3⟩
                rcases Nat.lt_or_eq_of_le h1 with q | q
                · exact q
                · subst q; omega
              · rintro ⟨j, h1, h2, h3⟩
                exact ⟨⟨j, by omega, h2, h3⟩, by omega⟩
            have hsy : (s1 && decide (0 < (era xs z).length)) = true ∨ era xs z = [] := by
              rcases Nat.eq_zero_or_pos (era xs z).length with h | h
              · exact .inr (List.eq_nil_of_length_eq_zero h)
              · have h1 := (hsb_len hH1).2.1
                have h2 : s1 = true := by
                  cases s1 with
                  | true => rfl
                  | false => exact absurd ⟨rfl, by omega⟩ h1
                exact .inl (by rw [h2, decide_eq_true h]; rfl)
            refine WL_gy (g := 73) rfl (by decide) rfl ?_
            refine neqW rfl rfl ?_
            first | refine pkT rfl rfl ?_ | refine pkF rfl rfl ?_
            refine WL_nil ?_
            refine hK22 _ _ ?_
            refine CW_condF rfl (rfl) ?_
            refine CW_skip ?_
            refine hK19 _ _ ?_
            refine CW_region ?_
            refine mvp (.int _ _) rfl ?_
            first | refine addI rfl rfl (by omega) ?_ | refine addW rfl rfl ?_
            refine asp (.int _ _) rfl ?_
            refine WL_nil ?_
            skip
            exact ⟨u - (i' + 1), by omega, i' + 1, m2, c2, a2, R2, C2, _, _, era xs z, rfl, by omega, rfl, rfl, rfl, rfl, by omega, hH2, hys, hyl, hsy, hs⟩
          · skip
            refine WL_gn (g := 68) rfl (by decide) rfl ?_
            refine WL_gy (g := 65) rfl (by decide) rfl ?_
            first | refine pkT rfl rfl ?_ | refine pkF rfl rfl ?_
            first | refine pkT rfl rfl ?_ | refine pkF rfl rfl ?_
            refine mvp (.bool _) rfl ?_
            refine WL_gy (g := 73) rfl (by decide) rfl ?_
            refine mvp (.pointer _) rfl ?_
            refine WL_gy (g := 73) rfl (by decide) rfl ?_
            refine cll (birth_ok 0 _ (by omega)) ?_
            rintro _ w ⟨rfl, hf⟩
            replace hs := hs.call hf
            refine WL_gy (g := 73) rfl (by decide) rfl ?_
            refine mvp (.string _) rfl ?_
            refine WL_gy (g := 73) rfl (by decide) rfl ?_
            refine cll (Release_ok g bT r1 r2 .nil a1 m1 c1 R1 C1 N1 (fB 0) 0 (nm z) _ (hs.he _) (fB_size _) (by omega) (by have := get_short hH1.1 (lkName (fB 0)); omega) (nm_big _)) ?_
            rintro _ w ⟨rfl, R2, a2, m2, c2, C2, hm2, ht'⟩
            replace hs := hs.turnE rfl ht'
            rw [hrv]
            have hyl : (era xs z).length = u - (i' + 1) := by rw [len_era hH.2.1 (by omega) hzx, hln]; omega
            have hys : ∀ v, v ∈ era xs z ↔ ∃ j, i' + 1 ≤ j ∧ j < u ∧ v = (j + t) % 36 := fun v => by
              rw [mem_era hH.2.1 (by omega) hzx, hxs]
              constructor
              · rintro ⟨⟨j, h1, h2, h3⟩, h4⟩
                refine ⟨j, ?_, h2, h3⟩
                rcases Nat.lt_or_eq_of_le h1 with q | q
                · exact q
                · subst q; omega
              · rintro ⟨j, h1, h2, h3⟩
                exact ⟨⟨j, by omega, h2, h3⟩, by omega⟩
            have hsy : (s1 && decide (0 < (era xs z).length)) = true ∨ era xs z = [] := by
              rcases Nat.eq_zero_or_pos (era xs z).length with h | h
              · exact .inr (List.eq_nil_of_length_eq_zero h)
              · have h1 := (hsb_len hH1).2.1
                have h2 : s1 = true := by
                  cases s1 with
                  | true => rfl
                  | false => exact absurd ⟨rfl, by omega⟩ h1
                exact .inl (by rw [h2, decide_eq_true h]; rfl)
            refine WL_gy (g := 73) rfl (by decide) rfl ?_
            refine neqW rfl rfl ?_
            first | refine pkT rfl rfl ?_ | refine pkF rfl rfl ?_
            refine WL_nil ?_
            refine hK22 _ _ ?_
            refine CW_condF rfl (rfl) ?_
            refine CW_skip ?_
            refine hK19 _ _ ?_
            refine CW_region ?_
            refine mvp (.int _ _) rfl ?_
            first | refine addI rfl rfl (by omega) ?_ | refine addW rfl rfl ?_
            refine asp (.int _ _) rfl ?_
            refine WL_nil ?_
            skip
            exact ⟨u - (i' + 1), by omega, i' + 1, m2, c2, a2, R2, C2, _, _, era xs z, rfl, by omega, rfl, rfl, rfl, rfl, by omega, hH2, hys, hyl, hsy, hs⟩
        · have hiu : i' = u := by simp at hc44; omega
          have hx0 : xs = [] := List.eq_nil_of_length_eq_zero (by omega)
          subst hx0
          have hsf : s = false := by
            have := (hsb_len hH).2.2
            cases s with
            | false => rfl
            | true => simp at this
          subst hsf
          have hget : getE .nil N (fB 0) 0 = (⟨0, false, []⟩, 0) := by unfold getE; rw [if_neg (by rw [begE_fB 0 okEp0]; simp), hH.2.2.1]; rfl
          refine CW_exit ?_
          refine hK15 _ _ ?_
          refine CW_seq (fun K23 hK23 => ?_)
          refine CW_region ?_
          refine mvp (.pointer _) rfl ?_
          refine cll (birth_ok 0 _ (by omega)) ?_
          rintro _ w ⟨rfl, hf⟩
          replace hs := hs.call hf
          refine cll (Get_ok g bT r1 r2 .nil aa m cc R C N (fB 0) 0 _ (hs.he _) (fB_size _) (by have := get_short hH.1 (lkName (fB 0)); omega)) ?_
          rintro _ w ⟨la, ln, lc, R2, rfl, hln', ht'⟩
          replace hs := hs.turn2 ht' rfl rfl rfl
          rw [hget] at hs hln'
          rw [hget]
          replace hln' : ln = 0 := hln'
          subst hln'
          refine mvp (.tuple _) rfl ?_
          refine ext rfl rfl ?_
          refine ext rfl rfl ?_
          refine alc hs ?_
          intro w g12 hs hg12 hf12
          refine sto (.agg (lkV 0 false la 0 lc).toArray) (vl := lkV 0 false la 0 lc) hs rfl rfl rfl rfl (by simp) rfl ?_
          intro w hs _
          replace hs : St w0 [] w (eB g12 true (Blk 24 [.int .i64 0, .bool false, .slice la 0 lc]) :: _) := hs
          refine asp (.int _ _) rfl ?_
          refine WL_nil ?_
          refine hK23 _ _ ?_
          refine CW_seq (fun K24 hK24 => ?_)
          refine CW_region ?_
          refine mvp (.int _ _) rfl ?_
          refine eqlW rfl rfl ?_
          refine mvp (.bool _) rfl ?_
          refine WL_gyb (g := 88) rfl (by decide) rfl (rfl) ?_
          refine fad rfl ?_
          refine WL_gy (g := 88) rfl (by decide) rfl ?_
          refine ld hs rfl rfl ?_
          refine WL_gy (g := 88) rfl (by decide) rfl ?_
          refine lenW rfl ?_
          refine WL_gy (g := 88) rfl (by decide) rfl ?_
          refine eqlW rfl rfl ?_
          first | refine pkT rfl rfl ?_ | refine pkF rfl rfl ?_
          refine mvp (.bool _) rfl ?_
          refine WL_gyb (g := 94) rfl (by decide) rfl (rfl) ?_
          refine fad rfl ?_
          refine WL_gy (g := 94) rfl (by decide) rfl ?_
          refine ld hs rfl rfl ?_
          refine WL_gy (g := 94) rfl (by decide) rfl ?_
          refine notW rfl ?_
          first | refine pkT rfl rfl ?_ | refine pkF rfl rfl ?_
          refine asp (.bool _) rfl ?_
          refine WL_nil ?_
          refine hK24 _ _ ?_
          refine CW_ret ?_
          repeat (first | (with_reducible apply thenF_ret) | (with_reducible apply blockF_ret))
          try simp only [thenF, blockF, reduceIte]
          refine Post_r Tryz.results5 (.tmp rfl .nil) ?_
          try simp only [ev_tmp, ev_const, upd_ap, Nat.reduceLT, Nat.reduceEqDiff, reduceIte]
          exact ⟨by trivial, hs.fm⟩
end Go.Proofs.YtkbldndbofbkcaaGreatDoor
/- For any number of processes and any order, LockShares returns true: all of them can share a lock, at most MaxHolders of them; nobody gets it alone then, but the last one that remains does (the statement's tied card). No condition. -/
namespace Go.Proofs.YtkbldndbofbkcaaGreatDoor
open Go Go.ChangeShapes Go.WideShapes Go.RowKit
theorem lockShares_types : ∀ t ∈ Tryz.f5.params.toList, Tryz.prog.readableRec t = true ∧ t < Tryz.prog.types.size := by
  rw [Tryz.params5]; intro t ht; simp at ht
  first | (subst ht; exact ⟨by kernel_rfl, of_decide_eq_true (by kernel_rfl)⟩) | (rcases ht with rfl | rfl <;> exact ⟨by kernel_rfl, of_decide_eq_true (by kernel_rfl)⟩) | (rcases ht with rfl | rfl | rfl <;> exact ⟨by kernel_rfl, of_decide_eq_true (by kernel_rfl)⟩)
set_option maxRecDepth 100000 in
theorem lockShares_lifted (os : Os) (started : os.Started) (H : Type) (enc : TypeId × Value → H) :
    ReturnsInHanded {} Tryz.checked os 5 .any (fun w args => (Rows.lockSharesSpec.pre enc Tryz.prog Tryz.f5 [] false w args ∧ laidMetH Tryz.prog laid5 w) ∧ sizedMet enc Tryz.prog Tryz.f5 (OpenSpec.ofChange Rows.lockSharesSpec) false w args)
      (Rows.lockSharesSpec.post enc Tryz.prog Tryz.f5 false true false false) := by
  refine returnsInHanded_of_change_and (C := Tryz.checked) (X := fun w _ => laidMetH Tryz.prog laid5 w) (fun _ _ _ hh h => h.of_heap hh) own started (by kernel_rfl) Tryz.func5
    (ChangeSpec.witness_shaped (enc := enc) (C := Tryz.checked) (os := os) (X := fun w _ => laidMetH Tryz.prog laid5 w) false (World.doorLaid Tryz.prog 400 os) #[.int .u8 0, .int .u8 0] 8 rfl (World.shaped_of_RefB (by kernel_rfl) (by kernel_rfl)) (by kernel_rfl) (by kernel_rfl) (by kernel_rfl) (door_met os _)) ?_
  intro W base args ds gs before hval0 hW _ _ _ _
  have hval : ∀ (j : Nat) t v, Tryz.f5.params[j]? = some t → args[j]? = some v → Value.okWide Tryz.prog W .any base t v := hval0
  have hW' := hW
  obtain ⟨p, q, hA0, hV, rfl, _, _⟩ := hW
  have hA : DataW.TrodAll enc Tryz.prog W 0 (fun _ => true) true Tryz.f5.params.toList args.toList ds p := hA0
  rw [Tryz.params5] at hA hval
  obtain ⟨v0, v1, d0, d1, p0, p1, rfl, rfl, rfl, h0, h1⟩ := trodAll_two hA
  obtain ⟨rfl, rfl⟩ := trodVars_none hV
  obtain ⟨k, rfl, hk⟩ := arg_u8 (hval 0 _ v0 rfl rfl) h0
  obtain ⟨k', rfl, hk'⟩ := arg_u8 (hval 1 _ v1 rfl rfl) h1
  exact law_calls rfl rfl lockShares_types hW' rfl (lockShares_ok k k' W hk hk')
theorem lockShares_j1 : Rows.lockSharesRow.wf (OpenSpec.ofChange Rows.lockSharesSpec) = true := by kernel_rfl
theorem lockShares_j4 : Tryz.f5.params.all (Tryz.prog.readableRec ·) = true := by kernel_rfl
theorem lockShares_j5 : namedTie Tryz.prog Rows.lockSharesRow.named Rows.lockSharesSpec.vars = true := by kernel_rfl
theorem lockShares_j6 : (Rows.lockSharesRow.stops == []) = true := by kernel_rfl
theorem lockShares_j8 : (Rows.lockSharesRow.knobs == []) = true := by kernel_rfl
theorem lockShares_j10 : (Rows.lockSharesRow.inPlace == Tryz.prog.inPlace 5) = true := by kernel_rfl
theorem lockShares_j11 : (Rows.lockSharesRow.unfollowed == Tryz.prog.unfollowed 5) = true := by kernel_rfl
theorem lockShares_j12 : (Rows.lockSharesRow.recurses == Tryz.prog.recurses 5) = true := by kernel_rfl
theorem lockShares_j13 : (Rows.lockSharesRow.named == Tryz.prog.varsNamed 5) = true := by kernel_rfl
theorem lockShares_j14 : (Rows.lockSharesRow.maps == (Tryz.f5.params.toList ++ Rows.lockSharesSpec.plain.varTypes Tryz.prog).any (Tryz.prog.mapsRec ·)) = true := by kernel_rfl
theorem lockShares_j15 : (Rows.lockSharesRow.ifaces == (Tryz.f5.params.toList ++ Rows.lockSharesSpec.plain.varTypes Tryz.prog).any (Tryz.prog.ifacesRec ·)) = true := by kernel_rfl
theorem lockShares_j16 : (Rows.lockSharesRow.mapsOut == Tryz.prog.mapsAmong Tryz.f5.resultTypes.toList) = true := by kernel_rfl
theorem lockShares_j17 : (Rows.lockSharesRow.loops == (Tryz.f5.params.toList ++ Rows.lockSharesSpec.plain.varTypes Tryz.prog).any (Tryz.prog.loopsFrom ·)) = true := by kernel_rfl
theorem lockShares_j18 : (Rows.lockSharesRow.wideKeys == (Tryz.f5.params.toList ++ Rows.lockSharesSpec.plain.varTypes Tryz.prog ++ Tryz.f5.resultTypes.toList).any (Tryz.prog.wideKeysFrom ·)) = true := by kernel_rfl
theorem lockShares_j19 : Rows.lockSharesSpec.vars.all (Tryz.prog.varReadable ·) = true := by kernel_rfl
theorem lockShares_j20 : Tryz.f5.resultTypes.all (fun t => Tryz.prog.readableRec t && decide (t < Tryz.prog.types.size)) = true := by kernel_rfl
theorem lockShares_j21 : (Rows.lockSharesRow.ifacesOut == Tryz.f5.resultTypes.toList.any (Tryz.prog.ifacesRec ·)) = true := by kernel_rfl
theorem lockShares_j22 : (Rows.lockSharesRow.loopsOut == Tryz.f5.resultTypes.toList.any (Tryz.prog.loopsFrom ·)) = true := by kernel_rfl
theorem lockShares_j23 : (Rows.lockSharesRow.plainKeys == Tryz.prog.plainKeys) = true := p_keys
theorem lockShares_j24 : Rows.lockSharesRow.shortTexts.isNone = true := by kernel_rfl
theorem lockShares_j27 : (Rows.lockSharesRow.lifted == Tryz.prog.liftsFinal) = true := p_lift
theorem lockShares_j28 : (Tryz.prog.make == some Rows.lockSharesRow.make) = true := p_make
theorem lockShares_j30 : (Rows.lockSharesRow.pinned == Rows.lockSharesRow.pinnedBy) = true := by kernel_rfl
theorem lockShares_j31 : (Rows.lockSharesRow.veiled == (Tryz.f5.params.toList ++ Rows.lockSharesSpec.plain.varTypes Tryz.prog ++ Tryz.f5.resultTypes.toList).any (Tryz.prog.veiledRec ·)) = true := by kernel_rfl
theorem lockShares_j32 : Rows.lockSharesRow.veiledFits Tryz.prog Tryz.f5.params.toList (Tryz.f5.params.toList ++ Rows.lockSharesSpec.plain.varTypes Tryz.prog ++ Tryz.f5.resultTypes.toList) = true := by kernel_rfl
theorem lockShares_joined : joinedFacts Tryz.prog 5 Tryz.f5 Rows.lockSharesSpec Rows.lockSharesRow = true :=
  joined_of lockShares_j1 laidOut p_maps lockShares_j4 lockShares_j5 lockShares_j6 p_stops lockShares_j8 p_knobs lockShares_j10 lockShares_j11 lockShares_j12 lockShares_j13 lockShares_j14 lockShares_j15 lockShares_j16 lockShares_j17 lockShares_j18 lockShares_j19 lockShares_j20 lockShares_j21 lockShares_j22 lockShares_j23 lockShares_j24 p_heard p_enter lockShares_j27 lockShares_j28 rfl rfl lockShares_j30 lockShares_j31 lockShares_j32
theorem lockShares_named : Tryz.prog.funcNamed "replevin/replevinlaw34.LockShares" = some 5 := by kernel_rfl
theorem lockShares_inst : Tryz.f5.isInstance Tryz.prog Rows.lockSharesRow.origin Rows.lockSharesRow.targs := of_decide_eq_true (by kernel_rfl)
theorem lockShares_wrap : Tryz.f5.isWrapper Tryz.prog Rows.lockSharesRow.wrapper Rows.lockSharesRow.mainSum := by unfold Func.isWrapper; rw [if_neg (of_decide_eq_false (by kernel_rfl))]; exact ⟨rfl, rfl⟩
theorem lockShares_said : Rows.LockSharesSaid :=
  OpenClaim.holds_of_wide 5 Tryz.f5 rfl rfl rfl rfl rfl rfl rfl ⟨rfl, rfl, rfl, rfl, rfl⟩ rfl rfl rfl rfl rfl lockShares_named Tryz.func5 lockShares_joined lockShares_inst lockShares_wrap (fun os started H enc _ => lockShares_lifted os started H enc)
theorem lockShares_want0 : Tryz.prog.wantsStandIn 5 = false := by kernel_rfl
theorem lockShares_wf : Rows.lockSharesRow.wfByText (OpenSpec.ofChange Rows.lockSharesSpec) = true := by kernel_rfl
theorem lockShares_goes : false = Rows.lockSharesRow.goesBy Tryz.prog := by kernel_rfl
theorem lockShares_plain : ∀ f fn, Tryz.prog.funcNamed "replevin/replevinlaw34.LockShares" = some f → Tryz.prog.funcs[f]? = some fn → true = Tryz.prog.looks [] ∧ ∀ (j : Nat) t, fn.params[j]? = some t → Tryz.prog.wantsStandIn t = false := fun f fn hf hfn => by
  obtain rfl : f = 5 := (Option.some.inj (lockShares_named.symm.trans hf)).symm
  obtain rfl : fn = Tryz.f5 := (Option.some.inj (Tryz.func5.symm.trans hfn)).symm
  refine ⟨p_looks, fun j t ht => ?_⟩
  rw [Tryz.params5] at ht
  have hm := List.mem_of_getElem? (by simpa using ht)
  simp at hm
  subst hm
  exact lockShares_want0
theorem lockShares_holds : Rows.LockSharesCardSaid :=
  Claim7.holds_tied_plain_at .later [] [.data, .data, .data, .sentinel, .sentinel] true (true, "2a6453758fad6cc53dd7f591497998820b78589a43cd8ac577ef6ff2b26842bc") true
    lockShares_said (fun _ h => by cases h) lockShares_wf (fun _ h => by cases h) lockShares_row_tie rfl ⟨rfl, rfl⟩ p_main rfl lockShares_plain lockShares_goes
#print axioms lockShares_holds
end Go.Proofs.YtkbldndbofbkcaaGreatDoor
