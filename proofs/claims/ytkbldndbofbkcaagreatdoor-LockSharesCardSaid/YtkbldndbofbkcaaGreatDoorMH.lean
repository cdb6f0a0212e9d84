/- A drawn region whose next step is one of three. | A law's arguments, opened: integers, texts, structs of them, slices of these. | lock.Equal; replevinlaw34.own. | The arguments of the laws of this seat. | replevinlaw34.LockChecks: the walk. -/
import Derived.Test.YtkbldndbofbkcaaGreatDoorMA
import Derived.Test.YtkbldndbofbkcaaGreatDoorMG
import Derived.Test.YtkbldndbofbkcaaGreatDoorMF
import Derived.Test.YtkbldndbofbkcaaGreatDoorME
set_option linter.unusedSimpArgs false
set_option linter.unusedVariables false
/- A drawn region whose next step is one of three. -/
namespace Go.Proofs.YtkbldndbofbkcaaGreatDoor
open Go
section
variable {X : Cx} {P : Program} {N : Nat} {Q : Exit → Fr → World → Prop} {f : Fr} {w : World} {Hc : List Ent} {ops : Array Oper} {last n : Nat} {done : List Nat}
theorem DW_l3 (i j k : Nat) {oi oj ok : Oper} (hi : ops[i]? = some oi) (hj : ops[j]? = some oj) (hk : ops[k]? = some ok) (hr : Region.ready .any ops (Lm ops.size done) = [i, j, k])
    (h1 : WL X P N ops (onlyN fun f' w' => (i = last ∨ Hold Hc w') ∧ DW X P N ops Q last Hc n (i :: done) f' w') [oi] f w)
    (h2 : WL X P N ops (onlyN fun f' w' => (j = last ∨ Hold Hc w') ∧ DW X P N ops Q last Hc n (j :: done) f' w') [oj] f w)
    (h3 : WL X P N ops (onlyN fun f' w' => (k = last ∨ Hold Hc w') ∧ DW X P N ops Q last Hc n (k :: done) f' w') [ok] f w) : DW X P N ops Q last Hc (n + 1) done f w := by
  refine ⟨fun h0 => absurd (hr ▸ h0) (by simp), fun m hm => ?_⟩
  rw [hr] at hm
  have key : ∀ (i : Nat) (oi : Oper), ops[i]? = some oi → WL X P N ops (onlyN fun f' w' => (i = last ∨ Hold Hc w') ∧ DW X P N ops Q last Hc n (i :: done) f' w') [oi] f w →
      wpOp P ops (QA X N Q) i (fun a' w' => (((Lm ops.size done).setIfInBounds i true).getD last false = true ∨ Hold Hc w') ∧ DA P ops (QA X N Q) last (Hold Hc) n ((Lm ops.size done).setIfInBounds i true) a' w') (FA X N f) w := by
    intro i oi hi h
    refine wpOp_mono ?_ (wpOp_of_WL hi h)
    rintro a' w' ⟨f', rfl, h1, h2⟩
    refine ⟨?_, h2⟩
    rcases h1 with h1 | h1
    · left
      have hlt : i < ops.size := (Array.getElem?_eq_some_iff.1 hi).1
      rw [← h1]
      simp [Array.getD, Lm_size, hlt]
    · exact .inr h1
  simp only [List.mem_cons, List.not_mem_nil, or_false] at hm
  rcases hm with rfl | rfl | rfl
  · exact key _ _ hi h1
  · exact key _ _ hj h2
  · exact key _ _ hk h3
end
end Go.Proofs.YtkbldndbofbkcaaGreatDoor
/- A law's arguments, opened: integers, texts, structs of them, slices of these. -/
namespace Go.Proofs.YtkbldndbofbkcaaGreatDoor
open Go Go.ChangeShapes Go.WideShapes Go.RowKit
section
variable {H : Type} {enc : TypeId × Value → H} {P : Program} {w : World} {base : Nat} {sp : Nat → Bool} {held : Bool} {fuel : Nat} {t : TypeId} {cs : List Value} {x : DataW H × List MemPlace}
theorem trod_i {k : IntKind} (ht : P.underlying t = some (.int k)) (h : DataW.trod enc P w base sp held fuel t cs = some x) : ∃ n : Int, cs = [.int k n] ∧ (Lit.int k n).wf = true := by
  cases fuel with
  | zero => simp [DataW.trod] at h
  | succ n =>
    unfold DataW.trod at h
    split at h <;> rw [ht] at * <;> simp_all
theorem trod_b (ht : P.underlying t = some .bool) (h : DataW.trod enc P w base sp held fuel t cs = some x) : ∃ b : Bool, cs = [.bool b] := by
  cases fuel with
  | zero => simp [DataW.trod] at h
  | succ n =>
    unfold DataW.trod at h
    split at h <;> rw [ht] at * <;> simp_all
theorem trod_s (ht : P.underlying t = some .string) (h : DataW.trod enc P w base sp held fuel t cs = some x) : ∃ s : ByteArray, cs = [.string s] ∧ s.size ≤ maxLen := by
  cases fuel with
  | zero => simp [DataW.trod] at h
  | succ n =>
    unfold DataW.trod at h
    split at h <;> rw [ht] at * <;> simp_all
theorem flat_len {U : Type} {ec : U → List Value} {m : Nat} : ∀ (us : List U), (∀ u ∈ us, (ec u).length = m) → (us.flatMap ec).length = us.length * m
  | [], _ => by simp
  | u :: us, h => by
    rw [List.flatMap_cons, List.length_append, flat_len us (fun v hv => h v (List.mem_cons.2 (.inr hv))), h u (List.mem_cons.2 (.inl rfl)), List.length_cons, Nat.add_mul]
    omega
theorem flat_get {U : Type} {ec : U → List Value} {m : Nat} : ∀ (us : List U), (∀ u ∈ us, (ec u).length = m) → ∀ (j : Nat) (v : Value), (us.flatMap ec)[j]? = some v → ∃ i u r, us[i]? = some u ∧ r < m ∧ (ec u)[r]? = some v ∧ j = i * m + r
  | [], _, j, v, h => by simp at h
  | u :: us, hl, j, v, h => by
    have h0 := hl u (List.mem_cons.2 (.inl rfl))
    rw [List.flatMap_cons] at h
    by_cases hj : j < m
    · rw [List.getElem?_append_left (by omega)] at h
      exact ⟨0, u, j, rfl, hj, h, by omega⟩
    · rw [List.getElem?_append_right (by omega)] at h
      obtain ⟨i, u', r, h1, h2, h3, h4⟩ := flat_get us (fun v hv => hl v (List.mem_cons.2 (.inr hv))) _ v h
      exact ⟨i + 1, u', r, h1, h2, h3, by rw [Nat.add_mul]; omega⟩
theorem add_add {b off p q : Nat} : (Addr.add ⟨b, off, none⟩ p).add q = ⟨b, off + p + q, none⟩ := by
  unfold Addr.add
  split <;> split <;> simp_all
theorem trod_sl {e : TypeId} {U : Type} (ec : U → List Value) (ok : U → Prop) {m : Nat} (ht : P.underlying t = some (.slice e)) (hm : P.cellsOf e = m) (hpos : 0 < m)
    (hel : ∀ fuel cs' y, DataW.trod enc P w base sp held fuel e cs' = some y → ∃ u : U, ok u ∧ cs' = ec u) (h : DataW.trod enc P w base sp held fuel t cs = some x) :
    ∃ (a : Option Addr) (n c : Nat) (us : List U), cs = [.slice a n c] ∧ n = us.length ∧ n ≤ c ∧ c ≤ maxLen ∧ (∀ u ∈ us, ok u) ∧ Rd w a n m (us.flatMap ec) := by
  rcases DataW.trod_slice ht h with ⟨hcs, _⟩ | ⟨a, len, cap, elems, rest, n, _, hcs, _, hb, hl, hmx, hlen, hE, _⟩
  · exact ⟨none, 0, 0, [], hcs, rfl, Nat.le_refl _, by simp, by simp, by simp, by simp⟩
  · have key : ∀ i : Fin len, ∃ u : U, ok u ∧ w.cells? base (a.add (i.val * m)) m = some (ec u) := fun i => by
      have h1 := hE i.val i.isLt
      rw [hm, List.getElem?_eq_getElem (by omega)] at h1
      obtain ⟨cs', h2, h3⟩ := Option.bind_eq_some_iff.1 h1
      obtain ⟨u, h4, rfl⟩ := hel _ _ _ h3
      exact ⟨u, h4, h2⟩
    let us : List U := List.ofFn fun i => Classical.choose (key i)
    have hus : ∀ (i : Nat) u, us[i]? = some u → ok u ∧ w.cells? base (a.add (i * m)) m = some (ec u) := fun i u hi => by
      have hlt : i < len := by have := (List.getElem?_eq_some_iff.1 hi).1; simpa [us] using this
      have : u = Classical.choose (key ⟨i, hlt⟩) := by
        have := (List.getElem?_eq_some_iff.1 hi).2
        simpa [us] using this.symm
      rw [this]
      exact Classical.choose_spec (key ⟨i, hlt⟩)
    have hul : us.length = len := by simp [us]
    have hmem : ∀ u ∈ us, ∃ i, us[i]? = some u := fun u hu => List.mem_iff_getElem?.1 hu
    have hlm : ∀ u ∈ us, (ec u).length = m := fun u hu => by
      obtain ⟨i, hi⟩ := hmem u hu
      exact (World.cells?_some (hus i u hi).2).2.1
    refine ⟨some a, len, cap, us, hcs, hul.symm, hl, hmx, fun u hu => by obtain ⟨i, hi⟩ := hmem u hu; exact (hus i u hi).1, by rw [flat_len us hlm, hul], fun hne => ?_⟩
    obtain ⟨b, off, spot⟩ := a
    have hne2 : us ≠ [] := fun q => hne (by rw [q]; rfl)
    have h0 : 0 < us.length := List.length_pos_iff.2 hne2
    have hspot : spot = none := by
      have h1 := (World.cells?_some (hus 0 us[0] (List.getElem?_eq_getElem h0)).2).2.2 0 hpos
      have h2 : (ec us[0])[0]? ≠ none := by
        have := hlm us[0] (List.getElem_mem _)
        rw [List.getElem?_eq_getElem (by omega)]; simp
      rw [← h1] at h2
      simp only [Addr.add, Nat.zero_mul, if_pos, World.cell?] at h2
      cases spot with
      | none => rfl
      | some q => simp at h2; split at h2 <;> simp at h2
    subst hspot
    refine ⟨b, off, rfl, fun j u hj => ?_⟩
    obtain ⟨i, v, r, h1, h2, h3, rfl⟩ := flat_get us hlm j u hj
    have h4 := (World.cells?_some (hus i v h1).2).2.2 r h2
    rw [add_add, h3] at h4
    rw [← h4]; congr 2; omega
end
end Go.Proofs.YtkbldndbofbkcaaGreatDoor
/- lock.Equal; replevinlaw34.own. -/
namespace Go.Proofs.YtkbldndbofbkcaaGreatDoor
open Go Go.RowKit
attribute [local irreducible] WL CW DW Ret RW
theorem seq_ok (l k : List ByteArray) (a b : Option Addr) (n c m e : Nat) (w0 : World) (hr : Rd w0 a n 1 (sv l)) (hn : n = l.length) (hr2 : Rd w0 b m 1 (sv k)) (hm : m = k.length) (hl : n ≤ 4611686018427387904) :
    Ret Tryz.prog 154 #[.slice a n c, .slice b m e] w0 fun v w' => v = .bool (decide (l = k)) ∧ Fm [] w0 w' := by
  have hs := St.initS2 hr hr2
  refine Ret_enter Tryz.func154 rfl Tryz.ntmps154 (by simp) ?_
  refine CW_seq (fun K1 hK1 => ?_)
  refine CW_region ?_
  refine asp (.bool _) rfl ?_
  refine WL_nil ?_
  refine hK1 _ _ ?_
  refine CW_seq (fun K2 hK2 => ?_)
  refine CW_seq (fun K3 hK3 => ?_)
  refine CW_region ?_
  refine mvp (.slice _ _ _) rfl ?_
  refine lenW rfl ?_
  refine mvp (.slice _ _ _) rfl ?_
  refine lenW rfl ?_
  refine neqW rfl rfl ?_
  refine WL_nil ?_
  refine hK3 _ _ ?_
  refine CW_cond rfl (fun hc10 => ?_) (fun hc10 => ?_)
  · skip
    refine CW_seq (fun K4 hK4 => ?_)
    refine CW_region ?_
    refine asp (.bool _) rfl ?_
    refine WL_nil ?_
    refine hK4 _ _ ?_
    refine CW_ret ?_
    repeat (first | (with_reducible apply thenF_ret) | (with_reducible apply blockF_ret))
    try simp only [thenF, blockF, reduceIte]
    refine Post_r Tryz.results154 (.tmp rfl .nil) ?_
    try simp only [ev_tmp, ev_const, upd_ap, Nat.reduceLT, Nat.reduceEqDiff, reduceIte]
    refine ⟨?_, hs.fm⟩
    rw [decide_eq_false]
    rintro rfl
    simp at hc10; omega
  · have hnm : n = m := by simp at hc10; omega
    subst hnm
    refine CW_skip ?_
    refine hK2 _ _ ?_
    refine CW_seq (fun K5 hK5 => ?_)
    refine CW_seq (fun K6 hK6 => ?_)
    refine CW_region ?_
    refine mvp (.slice _ _ _) rfl ?_
    refine lenW rfl ?_
    refine mvp (.int _ _) rfl ?_
    refine WL_nil ?_
    refine hK6 _ _ ?_
    refine CW_block ?_
    refine CW_loop (fun kk f w' => ∃ i : Nat, kk = n - i ∧ i ≤ n ∧ f 0 = .slice a n c ∧ f 1 = .slice b n e ∧ f 12 = .int .i64 n ∧ f 13 = .int .i64 i ∧ l.take i = k.take i ∧ St w0 [] w' [eS [(a, n, sv l), (b, n, sv k)]]) n ?_ ?_
    · exact ⟨0, by omega, by omega, rfl, rfl, rfl, rfl, by simp, hs⟩
    · rintro kk f w1 ⟨i, rfl, hi, e0, e1, e12, e13, hh, hs⟩
      refine CW_kn (i := 0) e0 (CW_kn (i := 1) e1 (CW_kn (i := 12) e12 (CW_kn (i := 13) e13 ?_)))
      refine CW_seq (fun K7 hK7 => ?_)
      refine CW_region ?_
      refine lssW rfl rfl ?_
      refine WL_nil ?_
      refine hK7 _ _ ?_
      refine CW_seq (fun K8 hK8 => ?_)
      refine CW_cond rfl (fun hc14 => ?_) (fun hc14 => ?_)
      · have hi2 : i < n := by simpa using hc14
        have hi3 : i < l.length := by omega
        have hi4 : i < k.length := by omega
        obtain ⟨b1, o1, rfl, hcell⟩ := sv_at (hr.fm hs.fm) hi3
        obtain ⟨b2, o2, rfl, hcell2⟩ := sv_at (hr2.fm hs.fm) hi4
        refine CW_skip ?_
        refine hK8 _ _ ?_
        refine CW_seq (fun K9 hK9 => ?_)
        refine CW_block ?_
        refine CW_seq (fun K10 hK10 => ?_)
        refine CW_region ?_
        refine mvp (.int _ _) rfl ?_
        refine asp (.int _ _) rfl ?_
        refine WL_nil ?_
        refine hK10 _ _ ?_
        refine CW_seq (fun K11 hK11 => ?_)
        refine DW_sH hs 999 ?_
        intro w hs _
        refine DW_q hs 0 rfl (by kernel_rfl) (fun w' hw' => X_move (v := (.slice _ _ _)) rfl) ?_
        refine DW_q hs 1 rfl (by kernel_rfl) (fun w' hw' => X_move (v := (.int _ _)) rfl) ?_
        refine DW_q hs 2 rfl (by kernel_rfl) (fun w' hw' => X_indexAddr rfl rfl (by omega) (by omega) rfl) ?_
        refine DW_q hs 3 rfl (by kernel_rfl) (fun w' hw' => X_ldS (xs := sv l) (j := i) (v := .string l[i]) hw' (.head _) (by simp [sv, hi3]) rfl) ?_
        refine DW_q hs 4 rfl (by kernel_rfl) (fun w' hw' => X_move (v := (.slice _ _ _)) rfl) ?_
        refine DW_q hs 5 rfl (by kernel_rfl) (fun w' hw' => X_move (v := (.int _ _)) rfl) ?_
        refine DW_q hs 6 rfl (by kernel_rfl) (fun w' hw' => X_indexAddr rfl rfl (by omega) (by omega) rfl) ?_
        refine DW_q hs 7 rfl (by kernel_rfl) (fun w' hw' => X_ldS (xs := sv k) (j := i) (v := .string k[i]) hw' (.tail _ (.head _)) (by simp [sv, hi4]) rfl) ?_
        refine DW_q hs 8 rfl (by kernel_rfl) (fun w' hw' => X_neS rfl rfl) ?_
        refine DW_e (by kernel_rfl) ?_
        refine hK11 _ _ ?_
        refine CW_cond rfl (fun hc24 => ?_) (fun hc24 => ?_)
        · skip
          refine CW_seq (fun K12 hK12 => ?_)
          refine CW_region ?_
          refine asp (.bool _) rfl ?_
          refine WL_nil ?_
          refine hK12 _ _ ?_
          refine CW_ret ?_
          repeat (first | (with_reducible apply thenF_ret) | (with_reducible apply blockF_ret))
          try simp only [thenF, blockF, reduceIte]
          refine Post_r Tryz.results154 (.tmp rfl .nil) ?_
          try simp only [ev_tmp, ev_const, upd_ap, Nat.reduceLT, Nat.reduceEqDiff, reduceIte]
          refine ⟨?_, hs.fm⟩
          rw [decide_eq_false]
          rintro rfl
          simp at hc24
        · skip
          refine CW_skip ?_
          refine hK9 _ _ ?_
          refine CW_region ?_
          first | refine addI rfl rfl (by omega) ?_ | refine addW rfl rfl ?_
          refine mvp (.int _ _) rfl ?_
          refine WL_nil ?_
          skip
          refine ⟨n - (i + 1), by omega, i + 1, rfl, by omega, rfl, rfl, rfl, rfl, ?_, hs⟩
          rw [List.take_add_one, List.take_add_one, hh, List.getElem?_eq_getElem hi3, List.getElem?_eq_getElem hi4]
          have h44 : l[i] = k[i] := ba_ext (by simpa using hc24)
          rw [h44]
      · skip
        refine CW_exit ?_
        refine hK5 _ _ ?_
        refine CW_seq (fun K13 hK13 => ?_)
        refine CW_region ?_
        refine asp (.bool _) rfl ?_
        refine WL_nil ?_
        refine hK13 _ _ ?_
        refine CW_ret ?_
        repeat (first | (with_reducible apply thenF_ret) | (with_reducible apply blockF_ret))
        try simp only [thenF, blockF, reduceIte]
        refine Post_r Tryz.results154 (.tmp rfl .nil) ?_
        try simp only [ev_tmp, ev_const, upd_ap, Nat.reduceLT, Nat.reduceEqDiff, reduceIte]
        refine ⟨?_, hs.fm⟩
        have hi2 : i = n := by simp at hc14; omega
        rw [hi2, List.take_of_length_le (by omega), List.take_of_length_le (by omega)] at hh
        rw [decide_eq_true hh]
theorem lsame_ok (l k : Lk) (a b : Option Addr) (n c m e : Nat) (w0 : World) (hr : Rd w0 a n 1 (sv l.hs)) (hn : n = l.hs.length) (hr2 : Rd w0 b m 1 (sv k.hs)) (hm : m = k.hs.length) (hl : n ≤ 4611686018427387904) :
    Ret Tryz.prog 91 #[.agg (lkV l.ep l.sh a n c).toArray, .agg (lkV k.ep k.sh b m e).toArray] w0 fun v w' => v = .bool (lkSame l k) ∧ Fm [] w0 w' := by
  have hs := St.init w0 []
  have hsame : lkSame l k = (decide (l.ep = k.ep) && decide (l.sh = k.sh) && decide (l.hs = k.hs)) := by
    unfold lkSame
    cases l; cases k
    simp [Bool.and_assoc]
  refine Ret_enter Tryz.func91 rfl Tryz.ntmps91 (by simp) ?_
  refine CW_seq (fun K1 hK1 => ?_)
  refine CW_region ?_
  refine bx (.agg (lkV l.ep l.sh a n c).toArray) (vl := lkV l.ep l.sh a n c) hs rfl rfl ?_
  intro w g2 hs hg2 hf2
  unfold lkV at hs
  refine bx (.agg (lkV k.ep k.sh b m e).toArray) (vl := lkV k.ep k.sh b m e) hs rfl rfl ?_
  intro w g3 hs hg3 hf3
  unfold lkV at hs
  refine asp (.bool _) rfl ?_
  refine WL_nil ?_
  refine hK1 _ _ ?_
  refine CW_seq (fun K2 hK2 => ?_)
  refine CW_region ?_
  refine fad rfl ?_
  refine ld hs rfl rfl ?_
  refine fad rfl ?_
  refine ld hs rfl rfl ?_
  refine eqlW rfl rfl ?_
  refine mvp (.bool _) rfl ?_
  refine WL_g (g := 10) rfl (by decide) rfl (fun hg10 => ?_) (fun hg10 => ?_)
  · skip
    refine fad rfl ?_
    refine WL_gy (g := 10) rfl (by decide) rfl ?_
    refine ld hs rfl rfl ?_
    refine WL_gy (g := 10) rfl (by decide) rfl ?_
    refine fad rfl ?_
    refine WL_gy (g := 10) rfl (by decide) rfl ?_
    refine ld hs rfl rfl ?_
    refine WL_gy (g := 10) rfl (by decide) rfl ?_
    refine WL_v (X_eqB rfl rfl) ?_
    first | refine pkT rfl rfl ?_ | refine pkF rfl rfl ?_
    refine mvp (.bool _) rfl ?_
    refine WL_g (g := 17) rfl (by decide) rfl (fun hg17 => ?_) (fun hg17 => ?_)
    · skip
      refine fad rfl ?_
      refine WL_gy (g := 17) rfl (by decide) rfl ?_
      refine ld hs rfl rfl ?_
      refine WL_gy (g := 17) rfl (by decide) rfl ?_
      refine fad rfl ?_
      refine WL_gy (g := 17) rfl (by decide) rfl ?_
      refine ld hs rfl rfl ?_
      refine WL_gy (g := 17) rfl (by decide) rfl ?_
      refine cll (seq_ok l.hs k.hs a b n c m e _ (hr.fm hs.fm) hn (hr2.fm hs.fm) hm hl) ?_
      rintro _ w ⟨rfl, hf⟩
      replace hs := hs.call hf
      first | refine pkT rfl rfl ?_ | refine pkF rfl rfl ?_
      refine asp (.bool _) rfl ?_
      refine WL_nil ?_
      refine hK2 _ _ ?_
      refine CW_ret ?_
      repeat (first | (with_reducible apply thenF_ret) | (with_reducible apply blockF_ret))
      try simp only [thenF, blockF, reduceIte]
      refine Post_r Tryz.results91 (.tmp rfl .nil) ?_
      try simp only [ev_tmp, ev_const, upd_ap, Nat.reduceLT, Nat.reduceEqDiff, reduceIte]
      refine ⟨?_, hs.fm⟩
      rw [hsame]
      first
        | (have h10 : l.ep = k.ep := by simpa using hg10
           have h17 : l.sh = k.sh := by simpa using hg17
           rw [decide_eq_true h10, decide_eq_true h17]; simp; done)
        | (have h17 : ¬ l.sh = k.sh := by simpa using hg17
           rw [decide_eq_false h17]; simp; done)
        | (have h10 : ¬ l.ep = k.ep := by simpa using hg10
           rw [decide_eq_false h10]; simp; done)
    · skip
      refine WL_gn (g := 17) rfl (by decide) rfl ?_
      refine WL_gn (g := 17) rfl (by decide) rfl ?_
      refine WL_gn (g := 17) rfl (by decide) rfl ?_
      refine WL_gn (g := 17) rfl (by decide) rfl ?_
      first | refine pkT rfl rfl ?_ | refine pkF rfl rfl ?_
      refine asp (.bool _) rfl ?_
      refine WL_nil ?_
      refine hK2 _ _ ?_
      refine CW_ret ?_
      repeat (first | (with_reducible apply thenF_ret) | (with_reducible apply blockF_ret))
      try simp only [thenF, blockF, reduceIte]
      refine Post_r Tryz.results91 (.tmp rfl .nil) ?_
      try simp only [ev_tmp, ev_const, upd_ap, Nat.reduceLT, Nat.reduceEqDiff, reduceIte]
      refine ⟨?_, hs.fm⟩
      rw [hsame]
      first
        | (have h10 : l.ep = k.ep := by simpa using hg10
           have h17 : l.sh = k.sh := by simpa using hg17
           rw [decide_eq_true h10, decide_eq_true h17]; simp; done)
        | (have h17 : ¬ l.sh = k.sh := by simpa using hg17
           rw [decide_eq_false h17]; simp; done)
        | (have h10 : ¬ l.ep = k.ep := by simpa using hg10
           rw [decide_eq_false h10]; simp; done)
  · skip
    refine WL_gn (g := 10) rfl (by decide) rfl ?_
    refine WL_gn (g := 10) rfl (by decide) rfl ?_
    refine WL_gn (g := 10) rfl (by decide) rfl ?_
    refine WL_gn (g := 10) rfl (by decide) rfl ?_
    first | refine pkT rfl rfl ?_ | refine pkF rfl rfl ?_
    refine mvp (.bool _) rfl ?_
    refine WL_gn (g := 17) rfl (by decide) rfl ?_
    refine WL_gn (g := 17) rfl (by decide) rfl ?_
    refine WL_gn (g := 17) rfl (by decide) rfl ?_
    refine WL_gn (g := 17) rfl (by decide) rfl ?_
    refine WL_gn (g := 17) rfl (by decide) rfl ?_
    first | refine pkT rfl rfl ?_ | refine pkF rfl rfl ?_
    refine asp (.bool _) rfl ?_
    refine WL_nil ?_
    refine hK2 _ _ ?_
    refine CW_ret ?_
    repeat (first | (with_reducible apply thenF_ret) | (with_reducible apply blockF_ret))
    try simp only [thenF, blockF, reduceIte]
    refine Post_r Tryz.results91 (.tmp rfl .nil) ?_
    try simp only [ev_tmp, ev_const, upd_ap, Nat.reduceLT, Nat.reduceEqDiff, reduceIte]
    refine ⟨?_, hs.fm⟩
    rw [hsame]
    first
      | (have h10 : l.ep = k.ep := by simpa using hg10
         have h17 : l.sh = k.sh := by simpa using hg17
         rw [decide_eq_true h10, decide_eq_true h17]; simp; done)
      | (have h17 : ¬ l.sh = k.sh := by simpa using hg17
         rw [decide_eq_false h17]; simp; done)
      | (have h10 : ¬ l.ep = k.ep := by simpa using hg10
         rw [decide_eq_false h10]; simp; done)
theorem LEqual_ok (l k : Lk) (a b : Option Addr) (n c m e : Nat) (w0 : World) (hr : Rd w0 a n 1 (sv l.hs)) (hn : n = l.hs.length) (hr2 : Rd w0 b m 1 (sv k.hs)) (hm : m = k.hs.length) (hl : n ≤ 4611686018427387904) :
    Ret Tryz.prog 33 #[.agg (lkV l.ep l.sh a n c).toArray, .agg (lkV k.ep k.sh b m e).toArray] w0 fun v w' => v = .bool (lkSame l k) ∧ Fm [] w0 w' := by
  have hs := St.init w0 []
  refine Ret_enter Tryz.func33 rfl Tryz.ntmps33 (by simp) ?_
  refine CW_seq (fun K1 hK1 => ?_)
  refine CW_region ?_
  refine bx (.agg (lkV l.ep l.sh a n c).toArray) (vl := lkV l.ep l.sh a n c) hs rfl rfl ?_
  intro w g2 hs hg2 hf2
  refine bx (.agg (lkV k.ep k.sh b m e).toArray) (vl := lkV k.ep k.sh b m e) hs rfl rfl ?_
  intro w g3 hs hg3 hf3
  refine asp (.bool _) rfl ?_
  refine WL_nil ?_
  refine hK1 _ _ ?_
  refine CW_seq (fun K2 hK2 => ?_)
  refine CW_region ?_
  refine ldA hs rfl (by simp) ?_
  apply mkf
  refine asp (.func (.func 91) #[.agg (lkV l.ep l.sh a n c).toArray] #[]) rfl ?_
  refine WL_nil ?_
  refine hK2 _ _ ?_
  refine CW_seq (fun K3 hK3 => ?_)
  refine CW_region ?_
  apply mv
  refine ldA hs rfl (by simp) ?_
  refine clv (fn := 91) (first := [.agg (lkV l.ep l.sh a n c).toArray]) (cap := []) rfl (lsame_ok l k a b n c m e _ (hr.fm hs.fm) hn (hr2.fm hs.fm) hm hl) ?_
  rintro _ w ⟨rfl, hf⟩
  replace hs := hs.call hf
  refine asp (.bool _) rfl ?_
  refine WL_nil ?_
  refine hK3 _ _ ?_
  refine CW_ret ?_
  repeat (first | (with_reducible apply thenF_ret) | (with_reducible apply blockF_ret))
  try simp only [thenF, blockF, reduceIte]
  refine Post_r Tryz.results33 (.tmp rfl .nil) ?_
  try simp only [ev_tmp, ev_const, upd_ap, Nat.reduceLT, Nat.reduceEqDiff, reduceIte]
  exact ⟨by trivial, hs.fm⟩
/-! ### own -/
def rwV (ep : Int) (sh : Bool) (a : Option Addr) (n c : Nat) (t : ByteArray) : List Value := [.int .i64 ep, .bool sh, .slice a n c, .string t]
def ownH (bs : List UInt8) : List ByteArray := bs.map fun b => nm b.toNat
def ownL (ep : Int) (sh : Bool) (bs : List UInt8) (t : ByteArray) : Lk := ⟨ep, sh, ownH (bs.take 40) ++ if t.data.toList = [] then [] else [str (t.data.toList.take 60)]⟩
theorem X_minE {P : Program} {N : Nat} {f : Fr} {w : World} {d : Nat} {T : TypeId} {p : String} {aft : Array Edge} {x y : Operand} {k k' : IntKind} {m n r : Int} {Ts : Array TypeId} (hx : ev N f x = .int k m) (hy : ev N f y = .int k' n) (hr : (if n < m then n else m) = r) : Ex P N f w ⟨some d, .call ⟨.builtin .min, #[x, y], Ts⟩, T, p, aft, none⟩ (.int k r) w := by
  subst hr; exact X_min hx hy
theorem own34_ok (ep : Int) (sh : Bool) (a : Option Addr) (n c : Nat) (bs : List UInt8) (t : ByteArray) (w0 : World) (hr : Rd w0 a n 1 (bv bs)) (hn : n = bs.length) :
    Ret Tryz.prog 31 #[.agg (rwV ep sh a n c t).toArray] w0 fun v w' => (∃ a' n' c', v = .agg (lkV (ownL ep sh bs t).ep (ownL ep sh bs t).sh a' n' c').toArray ∧ n' = (ownL ep sh bs t).hs.length ∧ NewR w0 w' 42 1 n' (.slice a' n' c') (sv (ownL ep sh bs t).hs)) ∧ Fm [] w0 w' := by
  have hs := St.initS1 hr
  have htl : t.data.toList.length = t.size := by rw [Array.length_toList]; rfl
  obtain ⟨q, hq, hq1, hq2⟩ : ∃ q : Nat, (if (60 : Int) < (t.size : Int) then (60 : Int) else (t.size : Int)) = (q : Int) ∧ q ≤ t.size ∧ t.data.toList.take q = t.data.toList.take 60 := by
    by_cases h : 60 < t.size
    · exact ⟨60, by rw [if_pos (by omega)]; rfl, by omega, rfl⟩
    · exact ⟨t.size, by rw [if_neg (by omega)], by omega, by rw [List.take_of_length_le (by omega), List.take_of_length_le (by omega)]⟩
  refine Ret_enter Tryz.func31 rfl Tryz.ntmps31 (by simp) ?_
  refine CW_seq (fun K1 hK1 => ?_)
  refine CW_region ?_
  refine bx (.agg (rwV ep sh a n c t).toArray) (vl := rwV ep sh a n c t) hs rfl rfl ?_
  intro w g1 hs hg1 hf1
  unfold rwV at hs
  refine alc hs ?_
  intro w g2 hs hg2 hf2
  refine WL_nil ?_
  refine hK1 _ _ ?_
  refine CW_seq (fun K2 hK2 => ?_)
  refine CW_region ?_
  refine fad rfl ?_
  refine ld hs rfl rfl ?_
  refine fad rfl ?_
  refine ld hs rfl rfl ?_
  refine WL_v (v := .agg (lkV ep sh none 0 0).toArray) (X_build rfl rfl) ?_
  refine alc hs ?_
  intro w g3 hs hg3 hf3
  refine sto (.agg (lkV ep sh none 0 0).toArray) (vl := lkV ep sh none 0 0) hs rfl rfl rfl rfl (by simp) rfl ?_
  intro w hs _
  replace hs : St w0 [] w (eB g3 true (Blk 24 [.int .i64 ep, .bool sh, .slice none 0 0]) :: _) := hs
  replace hs := hs.nilR 42 1
  refine WL_nil ?_
  refine hK2 _ _ ?_
  refine CW_seq (fun K3 hK3 => ?_)
  refine CW_seq (fun K4 hK4 => ?_)
  refine CW_region ?_
  refine asp (.int _ _) rfl ?_
  refine WL_nil ?_
  refine hK4 _ _ ?_
  refine CW_block ?_
  refine CW_loop (fun kk f w' => ∃ (i m cc : Nat) (aa : Option Addr), kk = 40 - i ∧ i ≤ 40 ∧ i ≤ n ∧ m = i ∧ f 1 = .pointer (some ⟨g1, 0, none⟩) ∧ f 2 = .pointer (some ⟨g2, 0, none⟩) ∧ f 3 = .pointer (some ⟨g3, 0, none⟩) ∧ f 4 = .int .i64 i ∧ St w0 [] w' [eR (.slice aa m cc) 42 1 m (sv (ownH (bs.take i))), eB g3 true (Blk 24 [.int .i64 ep, .bool sh, .slice aa m cc]), eB g2 true (Blk 24 [.int .i64 0, .bool false, .slice none 0 0]), eB g1 true (Blk 56 [.int .i64 ep, .bool sh, .slice a n c, .string t]), eS [(a, n, bv bs)]]) 40 ?_ ?_
  · have hs' : St w0 [] _ [eR (.slice none 0 0) 42 1 0 [], eB g3 true (Blk 24 [.int .i64 ep, .bool sh, .slice none 0 0]), eB g2 true (Blk 24 [.int .i64 0, .bool false, .slice none 0 0]), eB g1 true (Blk 56 [.int .i64 ep, .bool sh, .slice a n c, .string t]), eS [(a, n, bv bs)]] := hs.sel
    exact ⟨0, 0, 0, none, by omega, by omega, by omega, rfl, rfl, rfl, rfl, rfl, hs'⟩
  · rintro kk f w1 ⟨i, m, cc, aa, rfl, hi, hin, hm, e1, e2, e3, e4, hs⟩
    refine CW_kn (i := 1) e1 (CW_kn (i := 2) e2 (CW_kn (i := 3) e3 (CW_kn (i := 4) e4 ?_)))
    refine CW_seq (fun K5 hK5 => ?_)
    refine CW_seq (fun K6 hK6 => ?_)
    refine CW_region ?_
    refine mvp (.int _ _) rfl ?_
    refine fad rfl ?_
    refine ld hs rfl rfl ?_
    refine lenW rfl ?_
    refine lssW rfl rfl ?_
    refine mvp (.bool _) rfl ?_
    refine WL_g (g := 15) rfl (by decide) rfl (fun hg15 => ?_) (fun hg15 => ?_)
    · skip
      refine mvp (.int _ _) rfl ?_
      refine WL_gy (g := 15) rfl (by decide) rfl ?_
      refine lssW rfl rfl ?_
      first | refine pkT rfl rfl ?_ | refine pkF rfl rfl ?_
      refine WL_nil ?_
      refine hK6 _ _ ?_
      refine CW_cond rfl (fun hc18 => ?_) (fun hc18 => ?_)
      · have hi2 : i < n := by simpa using hg15
        have hi40 : i < 40 := by simp at hc18; omega
        have hi3 : i < bs.length := by omega
        obtain ⟨b1, o1, rfl, hcell⟩ := Rd_at (hr.fm hs.fm) hi3
        refine CW_skip ?_
        refine hK5 _ _ ?_
        refine CW_seq (fun K7 hK7 => ?_)
        refine CW_block ?_
        refine DW_s hs 11 ([eB g3 true (Blk 24 [.int .i64 ep, .bool sh, .slice aa m cc]), eB g1 true (Blk 56 [.int .i64 ep, .bool sh, .slice (some ⟨b1, o1, none⟩) n c, .string t]), eS [(some ⟨b1, o1, none⟩, n, bv bs)]]) ?_
        intro w hs _
        refine DW_q hs 0 rfl (by kernel_rfl) (fun w' hw' => X_fieldAddr rfl rfl) ?_
        refine DW_q hs 1 rfl (by kernel_rfl) (fun w' hw' => X_ldH hw' rfl rfl) ?_
        refine DW_q hs 2 rfl (by kernel_rfl) (fun w' hw' => X_fieldAddr rfl rfl) ?_
        refine DW_q hs 3 rfl (by kernel_rfl) (fun w' hw' => X_ldH hw' rfl rfl) ?_
        refine DW_q hs 4 rfl (by kernel_rfl) (fun w' hw' => X_move (v := (.int _ _)) rfl) ?_
        refine DW_q hs 5 rfl (by kernel_rfl) (fun w' hw' => X_indexAddr rfl rfl (by omega) (by omega) rfl) ?_
        refine DW_q hs 6 rfl (by kernel_rfl) (fun w' hw' => X_ldS (xs := bv bs) (j := i) (v := .int .u8 (bs[i].toNat : Int)) hw' (.head _) (by rw [bv, List.getElem?_map, List.getElem?_eq_getElem hi3]; rfl) rfl) ?_
        refine DW_l 7 rfl (by kernel_rfl) ?_
        refine cll (name_ok bs[i].toNat _ bs[i].toNat_lt) ?_
        rintro _ w ⟨rfl, hf⟩
        replace hs := hs.call hf
        refine WL_nil ?_
        refine ⟨.inr hs.hold, ?_⟩
        refine DW_l 8 rfl (by kernel_rfl) ?_
        refine W_bslice hs (BS.ss rfl .nil) rfl (by simp) ?_
        intro w g29 hs hg29 hf29
        refine WL_nil ?_
        refine ⟨.inr hs.hold, ?_⟩
        refine DW_l 9 rfl (by kernel_rfl) ?_
        refine app1 hs rfl rfl (by rfl) (by rfl) (by decide) (by rfl) (by omega) (by omega) ?_
        intro a2 c2 w hs _
        refine WL_nil ?_
        refine ⟨.inr hs.hold, ?_⟩
        refine DW_q hs 10 rfl (by kernel_rfl) (fun w' hw' => X_fieldAddr rfl rfl) ?_
        refine DW_l 11 rfl (by kernel_rfl) ?_
        refine sto (.slice a2 (m + 1) c2) hs rfl rfl rfl rfl (by simp) rfl ?_
        intro w hs _
        replace hs : St w0 [] w (_ :: _ :: eB g3 true (Blk 24 [.int .i64 ep, .bool sh, .slice a2 (m + 1) c2]) :: _) := hs
        refine WL_nil ?_
        refine ⟨.inl rfl, ?_⟩
        refine DW_e (by kernel_rfl) ?_
        refine hK7 _ _ ?_
        refine CW_region ?_
        refine mvp (.int _ _) rfl ?_
        first | refine addI rfl rfl (by omega) ?_ | refine addW rfl rfl ?_
        refine asp (.int _ _) rfl ?_
        refine WL_nil ?_
        skip
        refine ⟨40 - (i + 1), by omega, i + 1, m + 1, c2, a2, rfl, by omega, by omega, by omega, rfl, rfl, rfl, rfl, ?_⟩
        have e6 : sv (ownH (bs.take (i + 1))) = sv (ownH (bs.take i)) ++ [.string (nm bs[i].toNat)] := by
          unfold sv ownH
          rw [List.take_add_one, List.getElem?_eq_getElem hi3, List.map_append, List.map_append]
          rfl
        rw [e6]
        have hs' : St w0 [] _ [eR (.slice a2 (m + 1) c2) 42 1 (m + 1) (sv (ownH (bs.take i)) ++ [.string (nm bs[i].toNat)]), eB g3 true (Blk 24 [.int .i64 ep, .bool sh, .slice a2 (m + 1) c2]), eB g2 true (Blk 24 [.int .i64 0, .bool false, .slice none 0 0]), eB g1 true (Blk 56 [.int .i64 ep, .bool sh, .slice (some ⟨b1, o1, none⟩) n c, .string t]), eS [(some ⟨b1, o1, none⟩, n, bv bs)]] := hs.sel
        exact hs'
      · skip
        refine CW_exit ?_
        refine hK3 _ _ ?_
        refine CW_seq (fun K8 hK8 => ?_)
        refine CW_seq (fun K9 hK9 => ?_)
        refine CW_region ?_
        have hie : bs.take i = bs.take 40 := by
          first
            | (have h15 : ¬ i < n := by simpa using hg15
               rw [List.take_of_length_le (by omega), List.take_of_length_le (by omega)])
            | (have h18 : i = 40 := by simp at hc18; omega
               rw [h18])
        rw [hie] at hs
        refine fad rfl ?_
        refine ld hs rfl rfl ?_
        refine neS rfl rfl ?_
        refine WL_nil ?_
        refine hK9 _ _ ?_
        refine CW_cond rfl (fun hc34 => ?_) (fun hc34 => ?_)
        · skip
          refine DW_s hs 12 ([eB g3 true (Blk 24 [.int .i64 ep, .bool sh, .slice aa m cc]), eB g1 true (Blk 56 [.int .i64 ep, .bool sh, .slice a n c, .string t])]) ?_
          intro w hs _
          refine DW_q hs 0 rfl (by kernel_rfl) (fun w' hw' => X_fieldAddr rfl rfl) ?_
          refine DW_q hs 1 rfl (by kernel_rfl) (fun w' hw' => X_ldH hw' rfl rfl) ?_
          refine DW_q hs 2 rfl (by kernel_rfl) (fun w' hw' => X_fieldAddr rfl rfl) ?_
          refine DW_q hs 3 rfl (by kernel_rfl) (fun w' hw' => X_ldH hw' rfl rfl) ?_
          refine DW_q hs 4 rfl (by kernel_rfl) (fun w' hw' => X_fieldAddr rfl rfl) ?_
          refine DW_q hs 5 rfl (by kernel_rfl) (fun w' hw' => X_ldH hw' rfl rfl) ?_
          refine DW_q hs 6 rfl (by kernel_rfl) (fun w' hw' => X_lenS rfl) ?_
          refine DW_q hs 7 rfl (by kernel_rfl) (fun w' hw' => X_minE rfl rfl hq) ?_
          refine DW_q hs 8 rfl (by kernel_rfl) (fun w' hw' => X_sliceS_h rfl rfl (by omega) (by omega)) ?_
          refine DW_l 9 rfl (by kernel_rfl) ?_
          refine W_bslice hs (BS.ss rfl .nil) rfl (by simp) ?_
          intro w g44 hs hg44 hf44
          refine WL_nil ?_
          refine ⟨.inr hs.hold, ?_⟩
          refine DW_l 10 rfl (by kernel_rfl) ?_
          refine app1 hs rfl rfl (by rfl) (by rfl) (by decide) (by rfl) (by omega) (by omega) ?_
          intro a2 c2 w hs _
          refine WL_nil ?_
          refine ⟨.inr hs.hold, ?_⟩
          refine DW_q hs 11 rfl (by kernel_rfl) (fun w' hw' => X_fieldAddr rfl rfl) ?_
          refine DW_l 12 rfl (by kernel_rfl) ?_
          refine sto (.slice a2 (m + 1) c2) hs rfl rfl rfl rfl (by simp) rfl ?_
          intro w hs _
          replace hs : St w0 [] w (_ :: _ :: eB g3 true (Blk 24 [.int .i64 ep, .bool sh, .slice a2 (m + 1) c2]) :: _) := hs
          refine WL_nil ?_
          refine ⟨.inl rfl, ?_⟩
          refine DW_e (by kernel_rfl) ?_
          refine hK8 _ _ ?_
          refine CW_seq (fun K10 hK10 => ?_)
          refine CW_region ?_
          refine ldA hs rfl (by simp) ?_
          first
          | (refine sto (.agg (lkV ep sh a2 (m + 1) c2).toArray) (vl := lkV ep sh a2 (m + 1) c2) hs rfl rfl rfl rfl (by simp) rfl ?_
             intro w hs _
             replace hs : St w0 [] w (_ :: _ :: _ :: eB g2 true (Blk 24 (lkV ep sh a2 (m + 1) c2)) :: _) := hs)
          | (refine sto (.agg (lkV ep sh aa m cc).toArray) (vl := lkV ep sh aa m cc) hs rfl rfl rfl rfl (by simp) rfl ?_
             intro w hs _
             replace hs : St w0 [] w (_ :: _ :: eB g2 true (Blk 24 (lkV ep sh aa m cc)) :: _) := hs)
          refine WL_nil ?_
          refine hK10 _ _ ?_
          refine CW_ret ?_
          repeat (first | (with_reducible apply thenF_ret) | (with_reducible apply blockF_ret))
          try simp only [thenF, blockF, reduceIte]
          refine Post_r Tryz.results31 (.cell rfl (lvA hs (by simp)) .nil) ?_
          try simp only [ev_tmp, ev_const, upd_ap, Nat.reduceLT, Nat.reduceEqDiff, reduceIte]
          have hlen40 : (ownH (bs.take 40)).length = m := by
            rw [← hie]
            unfold ownH
            rw [List.length_map, List.length_take]; omega
          refine ⟨?_, hs.fm⟩
          first
            | (have h34 : t.data.toList ≠ [] := by simpa using hc34
               have e1 : ownL ep sh bs t = ⟨ep, sh, ownH (bs.take 40) ++ [str (t.data.toList.take 60)]⟩ := by unfold ownL; rw [if_neg h34]
               have e2 : sv (ownH (bs.take 40) ++ [str (t.data.toList.take 60)]) = sv (ownH (bs.take 40)) ++ [.string (str (t.data.toList.take 60))] := by simp [sv]
               rw [e1]
               refine ⟨a2, m + 1, c2, rfl, by rw [List.length_append, hlen40]; rfl, ?_⟩
               show NewR w0 w _ 1 (m + 1) (.slice a2 (m + 1) c2) (sv (ownH (bs.take 40) ++ [str (t.data.toList.take 60)]))
               rw [e2, ← hq2]
               exact hs.newR (a := a2))
            | (have h34 : t.data.toList = [] := by simpa using hc34
               have e1 : ownL ep sh bs t = ⟨ep, sh, ownH (bs.take 40)⟩ := by unfold ownL; rw [if_pos h34, List.append_nil]
               rw [e1]
               exact ⟨aa, m, cc, rfl, hlen40.symm, hs.newR⟩)
        · skip
          refine CW_skip ?_
          refine hK8 _ _ ?_
          refine CW_seq (fun K11 hK11 => ?_)
          refine CW_region ?_
          refine ldA hs rfl (by simp) ?_
          first
          | (refine sto (.agg (lkV ep sh a2 (m + 1) c2).toArray) (vl := lkV ep sh a2 (m + 1) c2) hs rfl rfl rfl rfl (by simp) rfl ?_
             intro w hs _
             replace hs : St w0 [] w (_ :: _ :: _ :: eB g2 true (Blk 24 (lkV ep sh a2 (m + 1) c2)) :: _) := hs)
          | (refine sto (.agg (lkV ep sh aa m cc).toArray) (vl := lkV ep sh aa m cc) hs rfl rfl rfl rfl (by simp) rfl ?_
             intro w hs _
             replace hs : St w0 [] w (_ :: _ :: eB g2 true (Blk 24 (lkV ep sh aa m cc)) :: _) := hs)
          refine WL_nil ?_
          refine hK11 _ _ ?_
          refine CW_ret ?_
          repeat (first | (with_reducible apply thenF_ret) | (with_reducible apply blockF_ret))
          try simp only [thenF, blockF, reduceIte]
          refine Post_r Tryz.results31 (.cell rfl (lvA hs (by simp)) .nil) ?_
          try simp only [ev_tmp, ev_const, upd_ap, Nat.reduceLT, Nat.reduceEqDiff, reduceIte]
          have hlen40 : (ownH (bs.take 40)).length = m := by
            rw [← hie]
            unfold ownH
            rw [List.length_map, List.length_take]; omega
          refine ⟨?_, hs.fm⟩
          first
            | (have h34 : t.data.toList ≠ [] := by simpa using hc34
               have e1 : ownL ep sh bs t = ⟨ep, sh, ownH (bs.take 40) ++ [str (t.data.toList.take 60)]⟩ := by unfold ownL; rw [if_neg h34]
               have e2 : sv (ownH (bs.take 40) ++ [str (t.data.toList.take 60)]) = sv (ownH (bs.take 40)) ++ [.string (str (t.data.toList.take 60))] := by simp [sv]
               rw [e1]
               refine ⟨a2, m + 1, c2, rfl, by rw [List.length_append, hlen40]; rfl, ?_⟩
               show NewR w0 w _ 1 (m + 1) (.slice a2 (m + 1) c2) (sv (ownH (bs.take 40) ++ [str (t.data.toList.take 60)]))
               rw [e2, ← hq2]
               exact hs.newR (a := a2))
            | (have h34 : t.data.toList = [] := by simpa using hc34
               have e1 : ownL ep sh bs t = ⟨ep, sh, ownH (bs.take 40)⟩ := by unfold ownL; rw [if_pos h34, List.append_nil]
               rw [e1]
               exact ⟨aa, m, cc, rfl, hlen40.symm, hs.newR⟩)
    · skip
      refine WL_gn (g := 15) rfl (by decide) rfl ?_
      first | refine pkT rfl rfl ?_ | refine pkF rfl rfl ?_
      refine WL_nil ?_
      refine hK6 _ _ ?_
      refine CW_condF rfl rfl ?_
      refine CW_exit ?_
      refine hK3 _ _ ?_
      refine CW_seq (fun K12 hK12 => ?_)
      refine CW_seq (fun K13 hK13 => ?_)
      refine CW_region ?_
      have hie : bs.take i = bs.take 40 := by
        first
          | (have h15 : ¬ i < n := by simpa using hg15
             rw [List.take_of_length_le (by omega), List.take_of_length_le (by omega)])
          | (have h18 : i = 40 := by simp at hc18; omega
             rw [h18])
      rw [hie] at hs
      refine fad rfl ?_
      refine ld hs rfl rfl ?_
      refine neS rfl rfl ?_
      refine WL_nil ?_
      refine hK13 _ _ ?_
      refine CW_cond rfl (fun hc34 => ?_) (fun hc34 => ?_)
      · skip
        refine DW_s hs 12 ([eB g3 true (Blk 24 [.int .i64 ep, .bool sh, .slice aa m cc]), eB g1 true (Blk 56 [.int .i64 ep, .bool sh, .slice a n c, .string t])]) ?_
        intro w hs _
        refine DW_q hs 0 rfl (by kernel_rfl) (fun w' hw' => X_fieldAddr rfl rfl) ?_
        refine DW_q hs 1 rfl (by kernel_rfl) (fun w' hw' => X_ldH hw' rfl rfl) ?_
        refine DW_q hs 2 rfl (by kernel_rfl) (fun w' hw' => X_fieldAddr rfl rfl) ?_
        refine DW_q hs 3 rfl (by kernel_rfl) (fun w' hw' => X_ldH hw' rfl rfl) ?_
        refine DW_q hs 4 rfl (by kernel_rfl) (fun w' hw' => X_fieldAddr rfl rfl) ?_
        refine DW_q hs 5 rfl (by kernel_rfl) (fun w' hw' => X_ldH hw' rfl rfl) ?_
        refine DW_q hs 6 rfl (by kernel_rfl) (fun w' hw' => X_lenS rfl) ?_
        refine DW_q hs 7 rfl (by kernel_rfl) (fun w' hw' => X_minE rfl rfl hq) ?_
        refine DW_q hs 8 rfl (by kernel_rfl) (fun w' hw' => X_sliceS_h rfl rfl (by omega) (by omega)) ?_
        refine DW_l 9 rfl (by kernel_rfl) ?_
        refine W_bslice hs (BS.ss rfl .nil) rfl (by simp) ?_
        intro w g44 hs hg44 hf44
        refine WL_nil ?_
        refine ⟨.inr hs.hold, ?_⟩
        refine DW_l 10 rfl (by kernel_rfl) ?_
        refine app1 hs rfl rfl (by rfl) (by rfl) (by decide) (by rfl) (by omega) (by omega) ?_
        intro a2 c2 w hs _
        refine WL_nil ?_
        refine ⟨.inr hs.hold, ?_⟩
        refine DW_q hs 11 rfl (by kernel_rfl) (fun w' hw' => X_fieldAddr rfl rfl) ?_
        refine DW_l 12 rfl (by kernel_rfl) ?_
        refine sto (.slice a2 (m + 1) c2) hs rfl rfl rfl rfl (by simp) rfl ?_
        intro w hs _
        replace hs : St w0 [] w (_ :: _ :: eB g3 true (Blk 24 [.int .i64 ep, .bool sh, .slice a2 (m + 1) c2]) :: _) := hs
        refine WL_nil ?_
        refine ⟨.inl rfl, ?_⟩
        refine DW_e (by kernel_rfl) ?_
        refine hK12 _ _ ?_
        refine CW_seq (fun K14 hK14 => ?_)
        refine CW_region ?_
        refine ldA hs rfl (by simp) ?_
        first
        | (refine sto (.agg (lkV ep sh a2 (m + 1) c2).toArray) (vl := lkV ep sh a2 (m + 1) c2) hs rfl rfl rfl rfl (by simp) rfl ?_
           intro w hs _
           replace hs : St w0 [] w (_ :: _ :: _ :: eB g2 true (Blk 24 (lkV ep sh a2 (m + 1) c2)) :: _) := hs)
        | (refine sto (.agg (lkV ep sh aa m cc).toArray) (vl := lkV ep sh aa m cc) hs rfl rfl rfl rfl (by simp) rfl ?_
           intro w hs _
           replace hs : St w0 [] w (_ :: _ :: eB g2 true (Blk 24 (lkV ep sh aa m cc)) :: _) := hs)
        refine WL_nil ?_
        refine hK14 _ _ ?_
        refine CW_ret ?_
        repeat (first | (with_reducible apply thenF_ret) | (with_reducible apply blockF_ret))
        try simp only [thenF, blockF, reduceIte]
        refine Post_r Tryz.results31 (.cell rfl (lvA hs (by simp)) .nil) ?_
        try simp only [ev_tmp, ev_const, upd_ap, Nat.reduceLT, Nat.reduceEqDiff, reduceIte]
        have hlen40 : (ownH (bs.take 40)).length = m := by
          rw [← hie]
          unfold ownH
          rw [List.length_map, List.length_take]; omega
        refine ⟨?_, hs.fm⟩
        first
          | (have h34 : t.data.toList ≠ [] := by simpa using hc34
             have e1 : ownL ep sh bs t = ⟨ep, sh, ownH (bs.take 40) ++ [str (t.data.toList.take 60)]⟩ := by unfold ownL; rw [if_neg h34]
             have e2 : sv (ownH (bs.take 40) ++ [str (t.data.toList.take 60)]) = sv (ownH (bs.take 40)) ++ [.string (str (t.data.toList.take 60))] := by simp [sv]
             rw [e1]
             refine ⟨a2, m + 1, c2, rfl, by rw [List.length_append, hlen40]; rfl, ?_⟩
             show NewR w0 w _ 1 (m + 1) (.slice a2 (m + 1) c2) (sv (ownH (bs.take 40) ++ [str (t.data.toList.take 60)]))
             rw [e2, ← hq2]
             exact hs.newR (a := a2))
          | (have h34 : t.data.toList = [] := by simpa using hc34
             have e1 : ownL ep sh bs t = ⟨ep, sh, ownH (bs.take 40)⟩ := by unfold ownL; rw [if_pos h34, List.append_nil]
             rw [e1]
             exact ⟨aa, m, cc, rfl, hlen40.symm, hs.newR⟩)
      · skip
        refine CW_skip ?_
        refine hK12 _ _ ?_
        refine CW_seq (fun K15 hK15 => ?_)
        refine CW_region ?_
        refine ldA hs rfl (by simp) ?_
        first
        | (refine sto (.agg (lkV ep sh a2 (m + 1) c2).toArray) (vl := lkV ep sh a2 (m + 1) c2) hs rfl rfl rfl rfl (by simp) rfl ?_
           intro w hs _
           replace hs : St w0 [] w (_ :: _ :: _ :: eB g2 true (Blk 24 (lkV ep sh a2 (m + 1) c2)) :: _) := hs)
        | (refine sto (.agg (lkV ep sh aa m cc).toArray) (vl := lkV ep sh aa m cc) hs rfl rfl rfl rfl (by simp) rfl ?_
           intro w hs _
           replace hs : St w0 [] w (_ :: _ :: eB g2 true (Blk 24 (lkV ep sh aa m cc)) :: _) := hs)
        refine WL_nil ?_
        refine hK15 _ _ ?_
        refine CW_ret ?_
        repeat (first | (with_reducible apply thenF_ret) | (with_reducible apply blockF_ret))
        try simp only [thenF, blockF, reduceIte]
        refine Post_r Tryz.results31 (.cell rfl (lvA hs (by simp)) .nil) ?_
        try simp only [ev_tmp, ev_const, upd_ap, Nat.reduceLT, Nat.reduceEqDiff, reduceIte]
        have hlen40 : (ownH (bs.take 40)).length = m := by
          rw [← hie]
          unfold ownH
          rw [List.length_map, List.length_take]; omega
        refine ⟨?_, hs.fm⟩
        first
          | (have h34 : t.data.toList ≠ [] := by simpa using hc34
             have e1 : ownL ep sh bs t = ⟨ep, sh, ownH (bs.take 40) ++ [str (t.data.toList.take 60)]⟩ := by unfold ownL; rw [if_neg h34]
             have e2 : sv (ownH (bs.take 40) ++ [str (t.data.toList.take 60)]) = sv (ownH (bs.take 40)) ++ [.string (str (t.data.toList.take 60))] := by simp [sv]
             rw [e1]
             refine ⟨a2, m + 1, c2, rfl, by rw [List.length_append, hlen40]; rfl, ?_⟩
             show NewR w0 w _ 1 (m + 1) (.slice a2 (m + 1) c2) (sv (ownH (bs.take 40) ++ [str (t.data.toList.take 60)]))
             rw [e2, ← hq2]
             exact hs.newR (a := a2))
          | (have h34 : t.data.toList = [] := by simpa using hc34
             have e1 : ownL ep sh bs t = ⟨ep, sh, ownH (bs.take 40)⟩ := by unfold ownL; rw [if_pos h34, List.append_nil]
             rw [e1]
             exact ⟨aa, m, cc, rfl, hlen40.symm, hs.newR⟩)
end Go.Proofs.YtkbldndbofbkcaaGreatDoor
/- The arguments of the laws of this seat. -/
namespace Go.Proofs.YtkbldndbofbkcaaGreatDoor
open Go Go.ChangeShapes Go.WideShapes Go.RowKit
set_option maxRecDepth 100000
section
variable {H : Type} {enc : TypeId × Value → H} {w : World} {base base' : Nat} {sp : Nat → Bool} {held : Bool} {r : Reach} {v : Value} {d : DataW H} {ps : List MemPlace}
theorem arg_u8 (hval : Value.okWide Tryz.prog w r base' 5 v) (hd : DataW.Trod enc Tryz.prog w base sp held 5 v d ps) : ∃ k : Nat, v = .int .u8 k ∧ k < 256 := by
  obtain ⟨n, rfl, _, _, hn⟩ := open_int Tryz.underlying5 hval hd
  have h2 : 0 ≤ n ∧ n ≤ 255 := by simpa [Lit.wf, IntKind.min, IntKind.max, IntKind.has, IntKind.bits, IntKind.signed] using hn
  exact ⟨n.toNat, by congr 1; omega, by omega⟩
theorem el_u8 : ∀ fuel cs' y, DataW.trod enc Tryz.prog w base sp held fuel 5 cs' = some y → ∃ u : UInt8, True ∧ cs' = [.int .u8 u.toNat] := fun fuel cs' y h => by
  obtain ⟨n, rfl, hn⟩ := trod_i Tryz.underlying5 h
  have h2 : 0 ≤ n ∧ n ≤ 255 := by simpa [Lit.wf, IntKind.min, IntKind.max, IntKind.has, IntKind.bits, IntKind.signed] using hn
  refine ⟨UInt8.ofNat n.toNat, trivial, ?_⟩
  have : ((UInt8.ofNat n.toNat).toNat : Int) = n := by
    rw [UInt8.toNat_ofNat']; omega
  rw [this]
theorem bytes_bv (us : List UInt8) : us.flatMap (fun u => [Value.int .u8 u.toNat]) = bv us := by
  unfold bv; induction us <;> simp_all
theorem arg_raw (hval : Value.okWide Tryz.prog w r base' 56 v) (hd : DataW.Trod enc Tryz.prog w base sp held 56 v d ps) :
    ∃ ep sh a n c bs t, v = .agg (rwV ep sh a n c t).toArray ∧ n = bs.length ∧ Rd w a n 1 (bv bs) := by
  obtain ⟨cs, rfl, hsz⟩ := okWide_struct Tryz.underlying56 hval
  obtain ⟨fuel, h⟩ := hd
  obtain ⟨xs, m, _, _, hl, hlen, hf⟩ := DataW.trod_struct Tryz.underlying56 h
  rw [show Tryz.prog.cellsOf 56 = 4 by kernel_rfl] at hl
  obtain ⟨cs⟩ := cs
  replace hl : cs.length = 4 := hl
  replace hlen : xs.length = 4 := hlen
  match cs, hl with
  | [c0, c1, c2, c3], _ =>
    have g0 := (hf 0 _ rfl).trans (List.getElem?_eq_getElem (by omega))
    have g1 := (hf 1 _ rfl).trans (List.getElem?_eq_getElem (by omega))
    have g2 := (hf 2 _ rfl).trans (List.getElem?_eq_getElem (by omega))
    have g3 := (hf 3 _ rfl).trans (List.getElem?_eq_getElem (by omega))
    rw [show Tryz.prog.cellsOf _ = 1 by kernel_rfl] at g0 g1 g2 g3
    obtain ⟨ep, e0, _⟩ := trod_i Tryz.underlying3 g0
    obtain ⟨sh, e1⟩ := trod_b Tryz.underlying4 g1
    obtain ⟨a, n, c, us, e2, hn, _, _, _, hr⟩ := trod_sl (m := 1) (fun u : UInt8 => [Value.int .u8 u.toNat]) (fun _ => True) Tryz.underlying54 (by kernel_rfl) (by decide) el_u8 g2
    obtain ⟨t, e3, _⟩ := trod_s Tryz.underlying9 g3
    rw [bytes_bv] at hr
    refine ⟨ep, sh, a, n, c, us, t, ?_, hn, hr⟩
    injection e0 with e0; injection e1 with e1; injection e2 with e2; injection e3 with e3
    subst e0 e1 e2 e3
    rfl
end
end Go.Proofs.YtkbldndbofbkcaaGreatDoor
/- replevinlaw34.LockChecks: the walk. -/
namespace Go.Proofs.YtkbldndbofbkcaaGreatDoor
open Go Go.RowKit
attribute [local irreducible] WL CW DW Ret RW
theorem ownL_len (ep : Int) (sh : Bool) (bs : List UInt8) (t : ByteArray) : (ownL ep sh bs t).hs.length ≤ 41 := by
  unfold ownL ownH
  simp only [List.length_append, List.length_map, List.length_take]
  split <;> simp <;> omega
theorem nm_size : ∀ n, (nm n).size = 2 := fun _ => rfl
theorem ownL_short (ep : Int) (sh : Bool) (bs : List UInt8) (t : ByteArray) : ∀ h ∈ (ownL ep sh bs t).hs, h.size ≤ 60 := by
  intro h hm
  unfold ownL ownH at hm
  rcases List.mem_append.1 hm with hm | hm
  · obtain ⟨b, _, rfl⟩ := List.mem_map.1 hm
    rw [nm_size]; omega
  · split at hm
    · cases hm
    · simp only [List.mem_singleton] at hm
      subst hm
      show (t.data.toList.take 60).toArray.size ≤ 60
      simp; omega
theorem enc_short {l : Lk} (h : lkCheck l = 0) : (lkEnc l).length ≤ 2200000 := by
  have h1 := encK_len l (fun x hx => by have := lk_short h x hx; omega) (lkCheck_0 h).2.1 _ (Nat.le_refl _)
  rw [encK_all] at h1
  have h2 : l.hs.length * 65546 ≤ 32 * 65546 := Nat.mul_le_mul_right _ (lkCheck_0 h).2.1
  omega
theorem dec_enc {l : Lk} (h : lkCheck l = 0) : decR (lkEnc l) = (l, 0) := by
  have hle := enc_short h
  unfold decR
  rw [(lkDec_iff (by omega) (by omega)).2 ⟨h, rfl⟩]
theorem lockChecks_ok (ep : Int) (sh : Bool) (a : Option Addr) (n c : Nat) (bs : List UInt8) (t : ByteArray) (w0 : World) (hr : Rd w0 a n 1 (bv bs)) (hn : n = bs.length) :
    Ret Tryz.prog 6 #[.agg (rwV ep sh a n c t).toArray] w0 fun v w' => v = .bool true ∧ Fm [] w0 w' := by
  have hs := St.init w0 []
  obtain ⟨L, hL⟩ : ∃ L, ownL ep sh bs t = L := ⟨_, rfl⟩
  have hLl : L.hs.length ≤ 41 := hL ▸ ownL_len ep sh bs t
  have hLs : ∀ h ∈ L.hs, h.size ≤ 60 := hL ▸ ownL_short ep sh bs t
  have hLb : ∀ h ∈ L.hs, h.size ≤ 4611686018427387904 := fun h hm => by have := hLs h hm; omega
  have hLm : ∀ h ∈ L.hs, h.size ≤ 65536 := fun h hm => by have := hLs h hm; omega
  refine Ret_enter Tryz.func6 rfl Tryz.ntmps6 (by simp) ?_
  refine CW_seq (fun K1 hK1 => ?_)
  refine CW_region ?_
  refine bx (.agg (rwV ep sh a n c t).toArray) (vl := rwV ep sh a n c t) hs rfl rfl ?_
  intro w g1 hs hg1 hf1
  unfold rwV at hs
  refine asp (.bool _) rfl ?_
  refine WL_nil ?_
  refine hK1 _ _ ?_
  refine CW_seq (fun K2 hK2 => ?_)
  refine CW_region ?_
  refine ldA hs rfl (by simp) ?_
  refine cll (own34_ok ep sh a n c bs t _ (hr.fm hs.fm) hn) ?_
  rintro _ w ⟨⟨b, m, d, rfl, hm, hnew⟩, hf⟩
  replace hs := hs.callR hf hnew
  rw [hL] at hs hm
  rw [hL]
  refine alc hs ?_
  intro w g3 hs hg3 hf3
  refine sto (.agg (lkV L.ep L.sh b m d).toArray) (vl := lkV L.ep L.sh b m d) hs rfl rfl rfl rfl (by simp) rfl ?_
  intro w hs _
  replace hs : St w0 [] w (eB g3 true (Blk 24 (lkV L.ep L.sh b m d)) :: _) := hs
  refine WL_nil ?_
  refine hK2 _ _ ?_
  refine CW_seq (fun K3 hK3 => ?_)
  refine CW_region ?_
  refine ldA hs rfl (by simp) ?_
  refine cll (check_ok L b m d _ (hs.rd (a := b)) hm hLb) ?_
  rintro _ w ⟨rfl, hf⟩
  replace hs := hs.call hf
  refine asp (.int _ _) rfl ?_
  refine WL_nil ?_
  refine hK3 _ _ ?_
  refine CW_seq (fun K4 hK4 => ?_)
  refine CW_region ?_
  refine ldA hs rfl (by simp) ?_
  refine cll (Encode_ok L b m d _ (hs.rd (a := b)) hm hLb (fun _ => hLm)) ?_
  rintro _ w ⟨rfl, hf⟩
  replace hs := hs.call hf
  refine mvp (.tuple _) rfl ?_
  refine ext rfl rfl ?_
  refine ext rfl rfl ?_
  refine asp (.string _) rfl ?_
  refine asp (.int _ _) rfl ?_
  refine WL_nil ?_
  refine hK4 _ _ ?_
  refine CW_seq (fun K5 hK5 => ?_)
  refine CW_seq (fun K6 hK6 => ?_)
  refine CW_region ?_
  refine cll (known_ok _) ?_
  rintro _ w ⟨rfl, hf⟩
  replace hs := hs.call hf
  refine notW rfl ?_
  refine mvp (.bool _) rfl ?_
  refine WL_gyb (g := 20) rfl (by decide) rfl (rfl) ?_
  refine ldA hs rfl (by simp) ?_
  refine WL_gy (g := 20) rfl (by decide) rfl ?_
  refine cll (LCheck_ok L b m d _ (hs.rd (a := b)) hm hLb) ?_
  rintro _ w ⟨rfl, hf⟩
  replace hs := hs.call hf
  refine WL_gy (g := 20) rfl (by decide) rfl ?_
  refine mvp (.int _ _) rfl ?_
  refine WL_gy (g := 20) rfl (by decide) rfl ?_
  refine neqW rfl rfl ?_
  first | refine pkT rfl rfl ?_ | refine pkF rfl rfl ?_
  refine mvp (.bool _) rfl ?_
  refine WL_gyb (g := 26) rfl (by decide) rfl ((by simp)) ?_
  refine mvp (.int _ _) rfl ?_
  refine WL_gy (g := 26) rfl (by decide) rfl ?_
  refine mvp (.int _ _) rfl ?_
  refine WL_gy (g := 26) rfl (by decide) rfl ?_
  refine neqW rfl rfl ?_
  first | refine pkT rfl rfl ?_ | refine pkF rfl rfl ?_
  refine WL_nil ?_
  refine hK6 _ _ ?_
  refine CW_condF rfl ((by simp)) ?_
  refine CW_skip ?_
  refine hK5 _ _ ?_
  refine CW_seq (fun K7 hK7 => ?_)
  refine CW_seq (fun K8 hK8 => ?_)
  refine CW_region ?_
  refine mvp (.int _ _) rfl ?_
  refine neqW rfl rfl ?_
  refine WL_nil ?_
  refine hK8 _ _ ?_
  refine CW_cond rfl (fun hc32 => ?_) (fun hc32 => ?_)
  · have h0 : lkCheck L ≠ 0 := by simpa using hc32
    rw [if_neg h0]
    refine CW_seq (fun K9 hK9 => ?_)
    refine CW_region ?_
    refine mvp (.string _) rfl ?_
    refine eqS rfl rfl ?_
    refine asp (.bool _) rfl ?_
    refine WL_nil ?_
    refine hK9 _ _ ?_
    refine CW_ret ?_
    repeat (first | (with_reducible apply thenF_ret) | (with_reducible apply blockF_ret))
    try simp only [thenF, blockF, reduceIte]
    refine Post_r Tryz.results6 (.tmp rfl .nil) ?_
    try simp only [ev_tmp, ev_const, upd_ap, Nat.reduceLT, Nat.reduceEqDiff, reduceIte]
    exact ⟨by simp, hs.fm⟩
  · have h0 : lkCheck L = 0 := by simpa using hc32
    have hel := enc_short h0
    rw [if_pos h0]
    refine CW_skip ?_
    refine hK7 _ _ ?_
    refine CW_seq (fun K10 hK10 => ?_)
    refine CW_region ?_
    refine mvp (.string _) rfl ?_
    refine cll (Decode_ok (str (lkEnc L)) _ (by show (lkEnc L).toArray.size ≤ _; simp; omega)) ?_
    rintro _ w ⟨⟨b2, m2, d2, rfl, hm2, hnew⟩, hf⟩
    replace hs := hs.callR hf hnew
    rw [data_str, dec_enc h0] at hs hm2
    rw [data_str, dec_enc h0]
    replace hs : St w0 [] w (eR (.slice b2 m2 d2) 42 1 m2 (sv L.hs) :: _) := hs
    refine mvp (.tuple _) rfl ?_
    refine ext rfl rfl ?_
    refine ext rfl rfl ?_
    refine alc hs ?_
    intro w g7 hs hg7 hf7
    refine sto (.agg (lkV L.ep L.sh b2 m2 d2).toArray) (vl := lkV L.ep L.sh b2 m2 d2) hs rfl rfl rfl rfl (by simp) rfl ?_
    intro w hs _
    replace hs : St w0 [] w (eB g7 true (Blk 24 (lkV L.ep L.sh b2 m2 d2)) :: _) := hs
    refine asp (.int _ _) rfl ?_
    refine WL_nil ?_
    refine hK10 _ _ ?_
    refine CW_seq (fun K11 hK11 => ?_)
    refine CW_region ?_
    refine mvp (.int _ _) rfl ?_
    refine eqlW rfl rfl ?_
    refine mvp (.bool _) rfl ?_
    refine WL_gyb (g := 42) rfl (by decide) rfl (rfl) ?_
    refine ldA hs rfl (by simp) ?_
    refine WL_gy (g := 42) rfl (by decide) rfl ?_
    refine ldA hs rfl (by simp) ?_
    refine WL_gy (g := 42) rfl (by decide) rfl ?_
    refine cll (LEqual_ok L L b2 b m2 d2 m d _ (hs.rd (a := b2)) hm2 (hs.rd (a := b)) hm (by rw [hm2]; simp only; omega)) ?_
    rintro _ w ⟨rfl, hf⟩
    replace hs := hs.call hf
    rw [show lkSame L L = true from decide_eq_true rfl]
    first | refine pkT rfl rfl ?_ | refine pkF rfl rfl ?_
    refine mvp (.bool _) rfl ?_
    refine WL_gyb (g := 47) rfl (by decide) rfl (rfl) ?_
    refine ldA hs rfl (by simp) ?_
    refine WL_gy (g := 47) rfl (by decide) rfl ?_
    refine ldA hs rfl (by simp) ?_
    refine WL_gy (g := 47) rfl (by decide) rfl ?_
    refine cll (same_ok L L b2 b m2 d2 m d _ (hs.rd (a := b2)) hm2 (hs.rd (a := b)) hm (by rw [hm2]; simp only; omega)) ?_
    rintro _ w ⟨rfl, hf⟩
    replace hs := hs.call hf
    rw [show lkSame L L = true from decide_eq_true rfl]
    first | refine pkT rfl rfl ?_ | refine pkF rfl rfl ?_
    refine mvp (.bool _) rfl ?_
    refine WL_gyb (g := 52) rfl (by decide) rfl (rfl) ?_
    refine mvp (.string _) rfl ?_
    refine WL_gy (g := 52) rfl (by decide) rfl ?_
    refine ldA hs rfl (by simp) ?_
    refine WL_gy (g := 52) rfl (by decide) rfl ?_
    refine cll (value_ok L b m d _ (hs.rd (a := b)) hm h0 hLm) ?_
    rintro _ w ⟨rfl, hf⟩
    replace hs := hs.call hf
    refine WL_gy (g := 52) rfl (by decide) rfl ?_
    refine eqS rfl rfl ?_
    first | refine pkT rfl rfl ?_ | refine pkF rfl rfl ?_
    refine asp (.bool _) rfl ?_
    refine WL_nil ?_
    refine hK11 _ _ ?_
    refine CW_ret ?_
    repeat (first | (with_reducible apply thenF_ret) | (with_reducible apply blockF_ret))
    try simp only [thenF, blockF, reduceIte]
    refine Post_r Tryz.results6 (.tmp rfl .nil) ?_
    try simp only [ev_tmp, ev_const, upd_ap, Nat.reduceLT, Nat.reduceEqDiff, reduceIte]
    exact ⟨by simp, hs.fm⟩
end Go.Proofs.YtkbldndbofbkcaaGreatDoor
