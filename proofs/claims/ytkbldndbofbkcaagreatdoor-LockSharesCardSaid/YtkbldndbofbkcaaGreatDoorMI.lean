/- Plain: locks that the forty names hold. | replevinlaw34.LockExcludes: the walk. | The arguments of the laws of this seat: slices of operations. -/
import Derived.Test.YtkbldndbofbkcaaGreatDoorMH
set_option linter.unusedSimpArgs false
set_option linter.unusedVariables false
/- Plain: locks that the forty names hold. -/
namespace Go.Proofs.YtkbldndbofbkcaaGreatDoor
open Go Go.RowKit
def Srt (xs : List Nat) : Prop := xs.Pairwise (· < ·) ∧ ∀ x ∈ xs, x < 40
theorem lncmp_nm : ∀ i j : Fin 40, lncmp (nm i.val) (nm j.val) = if i.val < j.val then -1 else if i.val = j.val then 0 else 1 := by decide +kernel
theorem okWho_nm40 : ∀ i : Fin 40, okWho (nm i.val) = 0 := by decide +kernel
theorem nm_mod (n : Nat) : nm n = nm (n % 40) := by unfold nm; rw [Nat.mod_mod]
theorem okWho_nm (n : Nat) : okWho (nm n) = 0 := by rw [nm_mod]; exact okWho_nm40 ⟨n % 40, Nat.mod_lt _ (by omega)⟩
theorem lnm_lt {i j : Nat} (hi : i < 40) (hj : j < 40) : lncmp (nm i) (nm j) < 0 ↔ i < j := by
  rw [lncmp_nm ⟨i, hi⟩ ⟨j, hj⟩]; simp only; split
  · simp_all
  · split <;> simp_all
theorem lnm_eq {i j : Nat} (hi : i < 40) (hj : j < 40) : lncmp (nm i) (nm j) = 0 ↔ i = j := by
  rw [lncmp_nm ⟨i, hi⟩ ⟨j, hj⟩]; simp only; split
  · rename_i h; constructor <;> intro q <;> omega
  · split <;> simp_all
theorem getD_nm {xs : List Nat} {b : Nat} (h : b < xs.length) : (xs.map nm).getD b ⟨#[]⟩ = nm xs[b] := by simp [List.getD, h]
theorem Srt.lt {xs : List Nat} (hx : Srt xs) {a b : Nat} (hb : b < xs.length) (h : a < b) : xs[a] < xs[b] := List.pairwise_iff_getElem.1 hx.1 a b (by omega) hb h
theorem Srt.inj {xs : List Nat} (hx : Srt xs) {a b : Nat} (ha : a < xs.length) (hb : b < xs.length) (h : xs[a] = xs[b]) : a = b := by
  rcases Nat.lt_trichotomy a b with q | q | q
  · have := hx.lt hb q; omega
  · exact q
  · have := hx.lt ha q; omega
theorem Srt.b {xs : List Nat} (hx : Srt xs) {a : Nat} (ha : a < xs.length) : xs[a] < 40 := hx.2 _ (List.getElem_mem _)
theorem bs_nm {xs : List Nat} (hx : Srt xs) {k : Nat} (hk : k < 40) :
    (∀ a (h : a < xs.length), a < bsAt (xs.map nm) (nm k) → xs[a] < k) ∧ (∀ a (h : a < xs.length), bsAt (xs.map nm) (nm k) ≤ a → k ≤ xs[a]) := by
  have hlen : (xs.map nm).length = xs.length := List.length_map ..
  have key := bsI_spec (xs.map nm) (nm k) (fun a b hab hb h => by
    rw [hlen] at hb
    rw [getD_nm hb, lnm_lt (hx.b hb) hk] at h
    rw [getD_nm (by omega), lnm_lt (hx.b (by omega)) hk]
    rcases Nat.lt_or_eq_of_le hab with q | q
    · have := hx.lt hb q; omega
    · subst q; exact h) (xs.map nm |>.length.succ) 0 (xs.map nm).length (by omega) (by omega) (by omega) (by omega) (by omega)
  refine ⟨fun a h ha => ?_, fun a h ha => ?_⟩
  · have := key.1 a ha
    rw [getD_nm h, lnm_lt (hx.b h) hk] at this
    exact this
  · have := key.2 a ha (by omega)
    rw [getD_nm h, lnm_lt (hx.b h) hk] at this
    omega
theorem bsAt_nm_of {xs : List Nat} (hx : Srt xs) {k : Nat} (hk : k < 40) {p : Nat} (hp : p < xs.length) (h : xs[p] = k) : bsAt (xs.map nm) (nm k) = p := by
  obtain ⟨h1, h2⟩ := bs_nm hx hk
  rcases Nat.lt_trichotomy (bsAt (xs.map nm) (nm k)) p with q | q | q
  · have := h2 _ (by omega) (Nat.le_refl _)
    have := hx.lt hp q
    omega
  · exact q
  · have := h1 p hp q; omega
theorem bsFound_nm {xs : List Nat} (hx : Srt xs) {k : Nat} (hk : k < 40) : bsFound (xs.map nm) (nm k) = decide (k ∈ xs) := by
  unfold bsFound
  have hlen : (xs.map nm).length = xs.length := List.length_map ..
  by_cases h : k ∈ xs
  · obtain ⟨p, hp, rfl⟩ := List.getElem_of_mem h
    rw [bsAt_nm_of hx hk hp rfl, decide_eq_true (by rw [hlen]; exact hp), getD_nm hp, decide_eq_true ((lnm_eq (hx.b hp) (hx.b hp)).2 rfl), decide_eq_true h]; rfl
  · rw [decide_eq_false h]
    by_cases hi : bsAt (xs.map nm) (nm k) < xs.length
    · rw [getD_nm hi, decide_eq_false (fun q => h ((lnm_eq (hx.b hi) hk).1 q ▸ List.getElem_mem _)), Bool.and_false]
    · rw [decide_eq_false (by rw [hlen]; exact hi)]; rfl
def ins (xs : List Nat) (k : Nat) : List Nat := xs.take (bsAt (xs.map nm) (nm k)) ++ k :: xs.drop (bsAt (xs.map nm) (nm k))
theorem ins_map (xs : List Nat) (k : Nat) : (xs.map nm).take (bsAt (xs.map nm) (nm k)) ++ nm k :: (xs.map nm).drop (bsAt (xs.map nm) (nm k)) = (ins xs k).map nm := by
  unfold ins; simp [List.map_take, List.map_drop]
theorem mem_ins2 {xs : List Nat} {k v : Nat} : v ∈ ins xs k ↔ v = k ∨ v ∈ xs := by
  unfold ins
  rw [List.mem_append, List.mem_cons]
  conv => rhs; rw [← List.take_append_drop (bsAt (xs.map nm) (nm k)) xs, List.mem_append]
  constructor <;> (rintro (h | h | h) <;> simp_all)
theorem len_ins (xs : List Nat) (k : Nat) : (ins xs k).length = xs.length + 1 := by
  unfold ins
  have := bsAt_le (xs.map nm) (nm k)
  rw [List.length_map] at this
  simp; omega
theorem ins_srt {xs : List Nat} (hx : Srt xs) {k : Nat} (hk : k < 40) (hn : k ∉ xs) : Srt (ins xs k) := by
  obtain ⟨h1, h2⟩ := bs_nm hx hk
  refine ⟨?_, fun v hv => (mem_ins2.1 hv).elim (fun q => q ▸ hk) (hx.2 v)⟩
  unfold ins
  have h0 := hx.1
  rw [← List.take_append_drop (bsAt (xs.map nm) (nm k)) xs, List.pairwise_append] at h0
  refine List.pairwise_append.2 ⟨h0.1, List.pairwise_cons.2 ⟨fun v hv => ?_, h0.2.1⟩, fun a ha c hc => ?_⟩
  · obtain ⟨p, hp, rfl⟩ := List.getElem_of_mem hv
    rw [List.getElem_drop]
    rw [List.length_drop] at hp
    have := h2 (bsAt (xs.map nm) (nm k) + p) (by omega) (by omega)
    rcases Nat.lt_or_eq_of_le this with q | q
    · exact q
    · exact absurd (q ▸ List.getElem_mem _) hn
  · rcases List.mem_cons.1 hc with rfl | hc
    · obtain ⟨p, hp, rfl⟩ := List.getElem_of_mem ha
      rw [List.getElem_take]
      rw [List.length_take] at hp
      exact h1 p (by omega) (by omega)
    · exact h0.2.2 a ha c hc
def era (xs : List Nat) (k : Nat) : List Nat := xs.eraseIdx (bsAt (xs.map nm) (nm k))
theorem eraseIdx_mapN (f : Nat → ByteArray) : ∀ (l : List Nat) (i : Nat), (l.map f).eraseIdx i = (l.eraseIdx i).map f
  | [], _ => rfl
  | _ :: _, 0 => rfl
  | x :: l, i + 1 => by simp only [List.map_cons, List.eraseIdx_cons_succ, eraseIdx_mapN f l i]
theorem era_map (xs : List Nat) (k : Nat) : (xs.map nm).eraseIdx (bsAt (xs.map nm) (nm k)) = (era xs k).map nm := by
  unfold era; rw [eraseIdx_mapN]
theorem era_srt {xs : List Nat} (hx : Srt xs) (k : Nat) : Srt (era xs k) :=
  ⟨hx.1.sublist (List.eraseIdx_sublist ..), fun v hv => hx.2 v (List.mem_of_mem_eraseIdx hv)⟩
theorem mem_era {xs : List Nat} (hx : Srt xs) {k : Nat} (hk : k < 40) (hm : k ∈ xs) (v : Nat) : v ∈ era xs k ↔ v ∈ xs ∧ v ≠ k := by
  obtain ⟨p, hp, rfl⟩ := List.getElem_of_mem hm
  unfold era
  rw [bsAt_nm_of hx hk hp rfl, List.mem_eraseIdx_iff_getElem]
  constructor
  · rintro ⟨i, hi, h1, rfl⟩
    exact ⟨List.getElem_mem _, fun q => h1 (hx.inj hi hp q)⟩
  · rintro ⟨h1, h2⟩
    obtain ⟨i, hi, rfl⟩ := List.getElem_of_mem h1
    exact ⟨i, hi, fun q => h2 (by subst q; rfl), rfl⟩
theorem len_era {xs : List Nat} (hx : Srt xs) {k : Nat} (hk : k < 40) (hm : k ∈ xs) : (era xs k).length = xs.length - 1 := by
  obtain ⟨p, hp, rfl⟩ := List.getElem_of_mem hm
  unfold era
  rw [bsAt_nm_of hx hk hp rfl, List.length_eraseIdx_of_lt hp]
theorem hsCk_nm : ∀ (xs : List Nat) (p : Option Nat), Srt xs → (∀ y, p = some y → y < 40 ∧ ∀ x ∈ xs, y < x) → hsCk (p.map nm) (xs.map nm) = 0
  | [], _, _, _ => by cases ‹Option Nat› <;> rfl
  | x :: xs, p, hx, hp => by
    have hx1 := List.pairwise_cons.1 hx.1
    have hx40 := hx.2 x (List.mem_cons.2 (.inl rfl))
    rw [List.map_cons]
    unfold hsCk
    rw [if_neg (by rw [okWho_nm]; simp), if_neg]
    · exact hsCk_nm xs (some x) ⟨hx1.2, fun v hv => hx.2 v (List.mem_cons.2 (.inr hv))⟩ (fun y hy => by cases hy; exact ⟨hx40, hx1.1⟩)
    · cases p with
      | none => simp
      | some y =>
        obtain ⟨h1, h2⟩ := hp y rfl
        have h3 := (lnm_lt h1 hx40).2 (h2 x (List.mem_cons.2 (.inl rfl)))
        simp only [Option.map_some, decide_eq_true_eq]
        omega
theorem lkCheck_nm {ep : Int} {sh : Bool} {xs : List Nat} (hep : okEp ep = 0) (hx : Srt xs) (h1 : xs.length ≤ 32) (h2 : ¬ (sh = false ∧ 1 < xs.length)) (h3 : ¬ (sh = true ∧ xs.length = 0)) : lkCheck ⟨ep, sh, xs.map nm⟩ = 0 := by
  unfold lkCheck
  simp only [List.length_map]
  have h4 : hsAt (xs.map nm) 0 = 0 := hsCk_nm xs none hx (fun _ h => by cases h)
  rw [if_neg (by rw [hep]; simp), if_neg (by omega), if_neg (by rw [h4]; simp), if_neg h2, if_neg h3]
/-! ### what a view holds -/
def GoodV (v : ByteArray) : Prop := ∃ ep sh xs, Srt xs ∧ lkCheck ⟨ep, sh, xs.map nm⟩ = 0 ∧ v = str (lkEnc ⟨ep, sh, xs.map nm⟩)
def Inv (N : Chs) : Prop := ∀ n c, nget N n = some c → c.2 = false ∧ GoodV c.1
theorem inv_nil : Inv [] := fun n c h => by cases h
theorem get_short {N : Chs} (hN : Inv N) (n : ONm) : (vwGet .nil N n).1.size ≤ 2200000 := by
  unfold vwGet
  split
  · exact Nat.zero_le _
  · split
    · rename_i c hc
      obtain ⟨_, ep, sh, xs, _, h2, h3⟩ := hN _ _ hc
      show c.1.size ≤ _
      rw [h3, str_size]; exact enc_short h2
    · exact Nat.zero_le _
theorem srt_nil : Srt [] := ⟨.nil, fun _ h => by cases h⟩
theorem read_inv {N : Chs} (hN : Inv N) (b : Bir) {ep : Int} (hep : okEp ep = 0) : ∃ sh xs, Srt xs ∧ lkCheck ⟨ep, sh, xs.map nm⟩ = 0 ∧ lkRead .nil N b ep = (⟨ep, sh, xs.map nm⟩, 0) := by
  have h0 : ∀ A, A = ((⟨ep, false, []⟩, 0) : Lk × Int) → ∃ sh xs, Srt xs ∧ lkCheck ⟨ep, sh, xs.map nm⟩ = 0 ∧ A = (⟨ep, sh, xs.map nm⟩, 0) := fun A h => ⟨false, [], srt_nil, lkCheck_nm hep srt_nil (by simp) (by simp) (by simp), h⟩
  unfold lkRead vwGet
  by_cases h1 : onCheckB (lkName b) ≠ 0
  · rw [if_pos h1]; exact h0 _ rfl
  · rw [if_neg h1]
    cases hc : nget N (lkName b) with
    | none => exact h0 _ rfl
    | some c =>
      obtain ⟨h2, ep', sh, xs, h3, h4, h5⟩ := hN _ _ hc
      simp only [h2, h5, data_str, dec_enc h4]
      rw [if_neg (by simp), if_neg (by simp)]
      by_cases h6 : ep' = ep
      · subst h6
        rw [if_neg (by simp)]
        exact ⟨sh, xs, h3, h4, rfl⟩
      · rw [if_pos h6]; exact h0 _ rfl
theorem inv_wr {N : Chs} (hN : Inv N) (b : Bir) {ep : Int} {sh : Bool} {xs : List Nat} (hx : Srt xs) : Inv (wrN N b ⟨ep, sh, xs.map nm⟩) := by
  unfold wrN
  split
  · exact hN
  · rename_i h
    unfold callN
    split
    · intro n c hc
      rw [nget_nset] at hc
      split at hc
      · injection hc with hc
        subst hc
        exact ⟨rfl, ep, sh, xs, hx, Classical.not_not.1 h, rfl⟩
      · exact hN n c hc
    · exact hN
theorem use_nm {N : Chs} {b : Bir} {ep : Int} {L : Lk} (hb : begE b ep = 0) (hr : lkRead .nil N b ep = (L, 0)) (k : Nat) :
    useE .nil N b ep (nm k) = 0 ∧ useL .nil N b ep (nm k) = L ∧ useAt .nil N b ep (nm k) = bsAt L.hs (nm k) ∧ useH .nil N b ep (nm k) = bsFound L.hs (nm k) := by
  have h0 : useE .nil N b ep (nm k) = 0 := by
    unfold useE
    rw [if_neg (by rw [hb]; simp), if_neg (by rw [okWho_nm]; simp), hr]
  unfold useL useAt useH
  rw [if_neg (by rw [h0]; simp), if_neg (by rw [h0]; simp), if_neg (by rw [h0]; simp), hr]
  exact ⟨h0, rfl, rfl, rfl⟩
theorem inv_acq {N : Chs} (hN : Inv N) {b : Bir} {ep : Int} (hep : okEp ep = 0) (hb : begE b ep = 0) (k : Nat) (sh : Bool) : Inv (acqN .nil N b ep (nm k) sh) := by
  obtain ⟨s, xs, hx, _, hr⟩ := read_inv hN b hep
  obtain ⟨e1, e2, e3, e4⟩ := use_nm hb hr k
  have hk : k % 40 < 40 := Nat.mod_lt _ (by omega)
  unfold acqN
  rw [e1, e2, e3, e4, nm_mod k]
  rw [if_neg (by simp)]
  split
  · exact hN
  · split
    · exact hN
    · unfold acqL
      simp only
      rw [bsFound_nm hx hk]
      by_cases h : k % 40 ∈ xs
      · rw [decide_eq_true h, if_pos rfl]; exact inv_wr hN b hx
      · rw [decide_eq_false h, if_neg (by simp), ins_map]; exact inv_wr hN b (ins_srt hx hk h)
theorem inv_rel {N : Chs} (hN : Inv N) {b : Bir} {ep : Int} (hep : okEp ep = 0) (hb : begE b ep = 0) (k : Nat) : Inv (relN .nil N b ep (nm k)) := by
  obtain ⟨s, xs, hx, _, hr⟩ := read_inv hN b hep
  obtain ⟨e1, e2, e3, e4⟩ := use_nm hb hr k
  unfold relN
  rw [e1, e2, e3, e4, nm_mod k]
  rw [if_neg (by simp)]
  split
  · exact hN
  · unfold relL
    simp only
    rw [era_map]; exact inv_wr hN b (era_srt hx _)
theorem begE_f : ∀ f : Fin 3, birCheck ⟨⟨#[49]⟩, f.val⟩ = 0 := by decide +kernel
/-! ### how many of the forty -/
def cnt (xs : List Nat) (k : Nat) : Nat := (xs.filter fun x => decide (x < k)).length
theorem cnt_0 (xs : List Nat) : cnt xs 0 = 0 := by simp [cnt]
theorem cnt_step {xs : List Nat} (hx : xs.Pairwise (· < ·)) (k : Nat) : cnt xs (k + 1) = cnt xs k + if k ∈ xs then 1 else 0 := by
  induction xs with
  | nil => rfl
  | cons x xs ih =>
    obtain ⟨h1, h2⟩ := List.pairwise_cons.1 hx
    have ih := ih h2
    unfold cnt at ih ⊢
    by_cases hxk : x < k
    · rw [List.filter_cons_of_pos (by simp; omega), List.filter_cons_of_pos (by simp; omega), List.length_cons, List.length_cons, ih]
      have : k ∈ x :: xs ↔ k ∈ xs := by rw [List.mem_cons]; exact ⟨fun q => q.elim (fun q => by omega) id, .inr⟩
      simp only [this]; omega
    · have hno : ∀ m, m ≤ x + 1 → (xs.filter fun y => decide (y < m)) = [] := fun m hm => List.filter_eq_nil_iff.2 fun y hy => by have := h1 y hy; simp; omega
      rw [List.filter_cons_of_neg (p := fun y => decide (y < k)) (by simp; omega), hno k (by omega)]
      by_cases he : x = k
      · subst he
        rw [List.filter_cons_of_pos (by simp), if_pos (List.mem_cons.2 (.inl rfl)), List.length_cons, hno _ (by omega)]
      · rw [List.filter_cons_of_neg (by simp; omega), hno _ (by omega), if_neg (fun q => (List.mem_cons.1 q).elim (fun q => he q.symm) (fun q => by have := h1 k q; omega))]; rfl
theorem cnt_40 {xs : List Nat} (hx : Srt xs) : cnt xs 40 = xs.length := by
  unfold cnt
  rw [List.filter_eq_self.2]
  intro x h; have := hx.2 x h; simp; omega
end Go.Proofs.YtkbldndbofbkcaaGreatDoor
/- replevinlaw34.LockExcludes: the walk. -/
namespace Go.Proofs.YtkbldndbofbkcaaGreatDoor
open Go Go.RowKit
attribute [local irreducible] WL CW DW Ret RW
structure OpL where
  kind : UInt8
  file : UInt8
  epoch : UInt8
  who : UInt8
def opC (o : OpL) : List Value := [.int .u8 o.kind.toNat, .int .u8 o.file.toNat, .int .u8 o.epoch.toNat, .int .u8 o.who.toNat]
theorem flat_at {U : Type} {ec : U → List Value} {m : Nat} : ∀ (us : List U), (∀ u ∈ us, (ec u).length = m) → ∀ (i : Nat) (h : i < us.length) (r : Nat), r < m → (us.flatMap ec)[i * m + r]? = (ec us[i])[r]?
  | [], _, i, h, _, _ => by simp at h
  | u :: us, hl, 0, _, r, hr => by
    have h0 := hl u (List.mem_cons.2 (.inl rfl))
    rw [List.flatMap_cons, List.getElem?_append_left (by omega), Nat.zero_mul, Nat.zero_add]; rfl
  | u :: us, hl, i + 1, h, r, hr => by
    have h0 := hl u (List.mem_cons.2 (.inl rfl))
    rw [List.flatMap_cons, List.getElem?_append_right (by rw [h0, Nat.add_mul]; omega), h0, show (i + 1) * m + r - m = i * m + r by rw [Nat.add_mul]; omega]
    exact flat_at us (fun v hv => hl v (List.mem_cons.2 (.inr hv))) i (by simpa using h) r hr
theorem op_at {w : World} {a : Option Addr} {n : Nat} {us : List OpL} (h : Rd w a n 4 (us.flatMap opC)) {i : Nat} (hi : i < us.length) : ∃ b off, a = some ⟨b, off, none⟩ ∧ ∀ j u, (opC us[i])[j]? = some u → w.cell? ⟨b, off + i * 4 + j, none⟩ = some u := by
  have hl : ∀ u ∈ us, (opC u).length = 4 := fun _ _ => rfl
  obtain ⟨b, off, e, h2⟩ := h.2 (fun q => by have := flat_len us hl; rw [q] at this; simp at this; omega)
  refine ⟨b, off, e, fun j u hj => ?_⟩
  have hj4 : j < 4 := by have := (List.getElem?_eq_some_iff.1 hj).1; exact this
  rw [Nat.add_assoc]
  exact h2 _ u (by rw [flat_at us hl i hi j hj4]; exact hj)
theorem begE_fB (n : Nat) {ep : Int} (h : okEp ep = 0) : begE (fB n) ep = 0 := by
  unfold begE fB
  have := begE_f ⟨n % 3, Nat.mod_lt _ (by omega)⟩
  simp only at this
  rw [if_neg (by rw [this]; simp), h]
theorem fB_size (n : Nat) : (fB n).maker.size ≤ 4611686018427387904 := by show (⟨#[49]⟩ : ByteArray).size ≤ _; decide
theorem okEp_2 (k : Nat) : okEp ((k % 2 : Nat) : Int) = 0 := by unfold okEp; rw [if_neg (by omega)]
theorem nm_big (n : Nat) : (nm n).size ≤ 4611686018427387904 := by rw [nm_size]; omega
theorem X_remn {P : Program} {N : Nat} {f : Fr} {w : World} {d : Nat} {T A B : TypeId} {p : String} {aft : Array Edge} {x y : Operand} {k : IntKind} {m : Nat} (n : Nat) {r : Int} (hx : ev N f x = .int k m) (hy : ev N f y = .int k n) (hn : n ≠ 0) (hr : r = ((m % n : Nat) : Int)) : Ex P N f w ⟨some d, .binOp .rem A x y B, T, p, aft, none⟩ (.int k r) w := by
  subst hr; exact X_rem hx hy (by omega)
theorem lockExcludes_ok (a : Option Addr) (n c : Nat) (us : List OpL) (w0 : World) (hr : Rd w0 a n 4 (us.flatMap opC)) (hn : n = us.length) :
    Ret Tryz.prog 4 #[.slice a n c] w0 fun v w' => v = .bool true ∧ Fm [] w0 w' := by
  have hs := St.init w0 []
  refine Ret_enter Tryz.func4 rfl Tryz.ntmps4 (by simp) ?_
  refine CW_seq (fun K1 hK1 => ?_)
  refine CW_region ?_
  refine asp (.bool _) rfl ?_
  refine WL_nil ?_
  refine hK1 _ _ ?_
  refine CW_seq (fun K2 hK2 => ?_)
  refine CW_seq (fun K3 hK3 => ?_)
  refine CW_region ?_
  refine cll (known_ok _) ?_
  rintro _ w ⟨rfl, hf⟩
  replace hs := hs.call hf
  refine notW rfl ?_
  refine mvp (.bool _) rfl ?_
  refine WL_gyb (g := 14) rfl (by decide) rfl (rfl) ?_
  refine mvp (.slice _ _ _) rfl ?_
  refine WL_gy (g := 14) rfl (by decide) rfl ?_
  refine lenW rfl ?_
  refine WL_gy (g := 14) rfl (by decide) rfl ?_
  refine gtrW rfl rfl ?_
  first | refine pkT rfl rfl ?_ | refine pkF rfl rfl ?_
  refine WL_nil ?_
  refine hK3 _ _ ?_
  refine CW_cond rfl (fun hc18 => ?_) (fun hc18 => ?_)
  · skip
    refine CW_seq (fun K4 hK4 => ?_)
    refine CW_region ?_
    refine cll (known_ok _) ?_
    rintro _ w ⟨rfl, hf⟩
    replace hs := hs.call hf
    refine asp (.bool _) rfl ?_
    refine WL_nil ?_
    refine hK4 _ _ ?_
    refine CW_ret ?_
    repeat (first | (with_reducible apply thenF_ret) | (with_reducible apply blockF_ret))
    try simp only [thenF, blockF, reduceIte]
    refine Post_r Tryz.results4 (.tmp rfl .nil) ?_
    try simp only [ev_tmp, ev_const, upd_ap, Nat.reduceLT, Nat.reduceEqDiff, reduceIte]
    exact ⟨by trivial, hs.fm⟩
  · have hn40 : n ≤ 40 := by simp at hc18; omega
    refine CW_skip ?_
    refine hK2 _ _ ?_
    refine CW_seq (fun K5 hK5 => ?_)
    refine CW_region ?_
    refine cll (SNew_ok _) ?_
    rintro _ w ⟨bT, rfl, hT, hb, hf⟩
    replace hs := hs.callNew hf hT (by intro x hx; simp [eT, Tr.fp] at hx; subst hx; exact hb)
    refine cll (VNew_t bT .nil _ (hs.he _)) ?_
    rintro _ w ⟨g, r1, r2, rfl, ht⟩
    replace hs := hs.turnE rfl ht
    refine asp (.pointer _) rfl ?_
    refine WL_nil ?_
    refine hK5 _ _ ?_
    refine CW_seq (fun K6 hK6 => ?_)
    refine CW_seq (fun K7 hK7 => ?_)
    refine CW_region ?_
    refine asp (.int _ _) rfl ?_
    refine WL_nil ?_
    refine hK7 _ _ ?_
    refine CW_block ?_
    refine CW_loop (fun kk f w' => ∃ (i m cc : Nat) (aa : Option Addr) (R C N : Chs), kk = n - i ∧ i ≤ n ∧ f 0 = .slice a n c ∧ f 3 = .pointer (some ⟨g, 0, none⟩) ∧ f 4 = .int .i64 i ∧ m ≤ i ∧ Inv N ∧ St w0 [] w' [eV g bT r1 r2 .nil aa m cc R C N]) n ?_ ?_
    · exact ⟨0, 0, 0, none, [], [], [], by omega, by omega, rfl, rfl, rfl, by omega, inv_nil, hs⟩
    · rintro kk f w1 ⟨i, m, cc, aa, R, C, N, rfl, hi, e0, e3, e4, hm, hN, hs⟩
      refine CW_kn (i := 0) e0 (CW_kn (i := 3) e3 (CW_kn (i := 4) e4 ?_))
      refine CW_seq (fun K8 hK8 => ?_)
      refine CW_seq (fun K9 hK9 => ?_)
      refine CW_region ?_
      refine mvp (.int _ _) rfl ?_
      refine mvp (.slice _ _ _) rfl ?_
      refine lenW rfl ?_
      refine lssW rfl rfl ?_
      refine WL_nil ?_
      refine hK9 _ _ ?_
      refine CW_cond rfl (fun hc25 => ?_) (fun hc25 => ?_)
      · have hi2 : i < n := by simpa using hc25
        have hi3 : i < us.length := by omega
        obtain ⟨bo, off, rfl, hcell⟩ := op_at (hr.fm hs.fm) hi3
        obtain ⟨o, ho⟩ : ∃ o, us[i] = o := ⟨_, rfl⟩
        rw [ho] at hcell
        refine CW_skip ?_
        refine hK8 _ _ ?_
        refine CW_seq (fun K10 hK10 => ?_)
        refine CW_block ?_
        refine CW_seq (fun K11 hK11 => ?_)
        refine CW_region ?_
        refine mvp (.slice _ _ _) rfl ?_
        refine mvp (.int _ _) rfl ?_
        refine iad rfl rfl (by omega) ?_
        refine WL_v (v := .agg (opC o).toArray) (X_loadAc rfl rfl hcell) ?_
        refine alc hs ?_
        intro w g5 hs hg5 hf5
        refine sto (.agg (opC o).toArray) (vl := opC o) hs rfl rfl rfl rfl (by simp [opC]) rfl ?_
        intro w hs _
        replace hs : St w0 [] w (eB g5 true (Blk 41 [.int .u8 o.kind.toNat, .int .u8 o.file.toNat, .int .u8 o.epoch.toNat, .int .u8 o.who.toNat]) :: _) := hs
        refine WL_nil ?_
        refine hK11 _ _ ?_
        refine CW_cut (fun f w' => ∃ g6 : Nat, f 0 = .slice (some ⟨bo, off, none⟩) n c ∧ f 3 = .pointer (some ⟨g, 0, none⟩) ∧ f 4 = .int .i64 i ∧ f 5 = .pointer (some ⟨g5, 0, none⟩) ∧ f 6 = .pointer (some ⟨g6, 0, none⟩) ∧ f 7 = .string (nm o.who.toNat) ∧ St w0 [] w' [eB g6 true (Blk 44 (birV (fB o.file.toNat))), eB g5 true (Blk 41 [.int .u8 o.kind.toNat, .int .u8 o.file.toNat, .int .u8 o.epoch.toNat, .int .u8 o.who.toNat]), eV g bT r1 r2 .nil aa m cc R C N]) ?_ ?_
        · skip
          refine DW_s hs 7 ([eB g5 true (Blk 41 [.int .u8 o.kind.toNat, .int .u8 o.file.toNat, .int .u8 o.epoch.toNat, .int .u8 o.who.toNat])]) ?_
          intro w hs _
          refine DW_q hs 0 rfl (by kernel_rfl) (fun w' hw' => X_fieldAddr rfl rfl) ?_
          refine DW_q hs 1 rfl (by kernel_rfl) (fun w' hw' => X_ldH hw' rfl rfl) ?_
          refine DW_q hs 3 rfl (by kernel_rfl) (fun w' hw' => X_fieldAddr rfl rfl) ?_
          refine DW_q hs 4 rfl (by kernel_rfl) (fun w' hw' => X_ldH hw' rfl rfl) ?_
          refine DW_l2 2 6 rfl rfl (by kernel_rfl) ?_ ?_
          · skip
            refine cll (birth_ok o.file.toNat _ o.file.toNat_lt) ?_
            rintro _ w ⟨rfl, hf⟩
            replace hs := hs.call hf
            refine WL_nil ?_
            refine ⟨.inr hs.hold, ?_⟩
            refine DW_l2 5 6 rfl rfl (by kernel_rfl) ?_ ?_
            · skip
              refine cll (name_ok o.who.toNat _ o.who.toNat_lt) ?_
              rintro _ w ⟨rfl, hf⟩
              replace hs := hs.call hf
              refine WL_nil ?_
              refine ⟨.inr hs.hold, ?_⟩
              refine DW_l 6 rfl (by kernel_rfl) ?_
              refine alc hs ?_
              intro w g6 hs hg6 hf6
              refine WL_nil ?_
              refine ⟨.inr hs.hold, ?_⟩
              refine DW_l 7 rfl (by kernel_rfl) ?_
              refine sto (.agg (birV (fB o.file.toNat)).toArray) (vl := birV (fB o.file.toNat)) hs rfl rfl rfl rfl (by simp) rfl ?_
              intro w hs _
              replace hs : St w0 [] w (eB g6 true (Blk 44 (birV (fB o.file.toNat))) :: _) := hs
              refine WL_nil ?_
              refine ⟨.inl rfl, ?_⟩
              refine DW_l 8 rfl (by kernel_rfl) ?_
              refine asp (.string _) rfl ?_
              refine WL_nil ?_
              refine ⟨.inr hs.hold, ?_⟩
              refine DW_e (by kernel_rfl) ?_
              exact ⟨g6, rfl, rfl, rfl, rfl, rfl, rfl, hs⟩
            · skip
              refine alc hs ?_
              intro w g6 hs hg6 hf6
              refine WL_nil ?_
              refine ⟨.inr hs.hold, ?_⟩
              refine DW_l 5 rfl (by kernel_rfl) ?_
              refine cll (name_ok o.who.toNat _ o.who.toNat_lt) ?_
              rintro _ w ⟨rfl, hf⟩
              replace hs := hs.call hf
              refine WL_nil ?_
              refine ⟨.inr hs.hold, ?_⟩
              refine DW_l 7 rfl (by kernel_rfl) ?_
              refine sto (.agg (birV (fB o.file.toNat)).toArray) (vl := birV (fB o.file.toNat)) hs rfl rfl rfl rfl (by simp) rfl ?_
              intro w hs _
              replace hs : St w0 [] w (eB g6 true (Blk 44 (birV (fB o.file.toNat))) :: _) := hs
              refine WL_nil ?_
              refine ⟨.inl rfl, ?_⟩
              refine DW_l 8 rfl (by kernel_rfl) ?_
              refine asp (.string _) rfl ?_
              refine WL_nil ?_
              refine ⟨.inr hs.hold, ?_⟩
              refine DW_e (by kernel_rfl) ?_
              exact ⟨g6, rfl, rfl, rfl, rfl, rfl, rfl, hs⟩
          · skip
            refine alc hs ?_
            intro w g6 hs hg6 hf6
            refine WL_nil ?_
            refine ⟨.inr hs.hold, ?_⟩
            refine DW_l 2 rfl (by kernel_rfl) ?_
            refine cll (birth_ok o.file.toNat _ o.file.toNat_lt) ?_
            rintro _ w ⟨rfl, hf⟩
            replace hs := hs.call hf
            refine WL_nil ?_
            refine ⟨.inr hs.hold, ?_⟩
            refine DW_l 5 rfl (by kernel_rfl) ?_
            refine cll (name_ok o.who.toNat _ o.who.toNat_lt) ?_
            rintro _ w ⟨rfl, hf⟩
            replace hs := hs.call hf
            refine WL_nil ?_
            refine ⟨.inr hs.hold, ?_⟩
            refine DW_l 7 rfl (by kernel_rfl) ?_
            refine sto (.agg (birV (fB o.file.toNat)).toArray) (vl := birV (fB o.file.toNat)) hs rfl rfl rfl rfl (by simp) rfl ?_
            intro w hs _
            replace hs : St w0 [] w (eB g6 true (Blk 44 (birV (fB o.file.toNat))) :: _) := hs
            refine WL_nil ?_
            refine ⟨.inl rfl, ?_⟩
            refine DW_l 8 rfl (by kernel_rfl) ?_
            refine asp (.string _) rfl ?_
            refine WL_nil ?_
            refine ⟨.inr hs.hold, ?_⟩
            refine DW_e (by kernel_rfl) ?_
            exact ⟨g6, rfl, rfl, rfl, rfl, rfl, rfl, hs⟩
        · skip
          rintro f w ⟨g6, e0, e3, e4, e5, e6, e7, hs⟩
          refine CW_kn (i := 0) e0 (CW_kn (i := 3) e3 (CW_kn (i := 4) e4 (CW_kn (i := 5) e5 (CW_kn (i := 6) e6 (CW_kn (i := 7) e7 ?_)))))
          obtain ⟨ep, hep⟩ : ∃ ep : Int, ep = ((o.epoch.toNat % 2 : Nat) : Int) := ⟨_, rfl⟩
          have hep0 : okEp ep = 0 := hep ▸ okEp_2 _
          have hbe := begE_fB o.file.toNat hep0
          have hel := o.epoch.toNat_lt
          refine CW_cut (fun f w' => ∃ (m cc : Nat) (aa : Option Addr) (R C N : Chs), f 0 = .slice (some ⟨bo, off, none⟩) n c ∧ f 3 = .pointer (some ⟨g, 0, none⟩) ∧ f 4 = .int .i64 i ∧ f 5 = .pointer (some ⟨g5, 0, none⟩) ∧ f 6 = .pointer (some ⟨g6, 0, none⟩) ∧ m ≤ i + 1 ∧ Inv N ∧ St w0 [] w' [eV g bT r1 r2 .nil aa m cc R C N, eB g6 true (Blk 44 (birV (fB o.file.toNat))), eB g5 true (Blk 41 [.int .u8 o.kind.toNat, .int .u8 o.file.toNat, .int .u8 o.epoch.toNat, .int .u8 o.who.toNat])]) ?_ ?_
          · skip
            refine CW_seq (fun K12 hK12 => ?_)
            refine CW_region ?_
            refine fad rfl ?_
            refine ld hs rfl rfl ?_
            refine remW rfl rfl (by omega) ?_
            refine eqlW rfl rfl ?_
            refine WL_nil ?_
            refine hK12 _ _ ?_
            refine CW_cond rfl (fun hc41 => ?_) (fun hc41 => ?_)
            · skip
              refine CW_region ?_
              refine mvp (.pointer _) rfl ?_
              refine ldA hs rfl (by simp) ?_
              refine fad rfl ?_
              refine ld hs rfl rfl ?_
              refine WL_v (v := .int .u8 ep) (X_remn 2 rfl rfl (by omega) hep) ?_
              refine WL_v (v := .int .i64 ep) (X_cvintp rfl (by omega) (by omega)) ?_
              refine mvp (.string _) rfl ?_
              refine cll (Release_ok g bT r1 r2 .nil aa m cc R C N (fB o.file.toNat) ep (nm o.who.toNat) _ (hs.he _) (fB_size _) (by omega) (by have := get_short hN (lkName (fB o.file.toNat)); omega) (nm_big _)) ?_
              rintro _ w ⟨rfl, R1, a1, m1, c1, C1, hm1, ht⟩
              replace hs := hs.turnE rfl ht
              have hN1 := inv_rel hN hep0 hbe o.who.toNat
              generalize relN .nil N (fB o.file.toNat) ep (nm o.who.toNat) = N1 at hs hN1
              refine WL_nil ?_
              exact ⟨m1, c1, a1, R1, C1, N1, rfl, rfl, rfl, rfl, rfl, by omega, hN1, hs.sel⟩
            · skip
              refine CW_region ?_
              refine mvp (.pointer _) rfl ?_
              refine ldA hs rfl (by simp) ?_
              refine fad rfl ?_
              refine ld hs rfl rfl ?_
              refine WL_v (v := .int .u8 ep) (X_remn 2 rfl rfl (by omega) hep) ?_
              refine WL_v (v := .int .i64 ep) (X_cvintp rfl (by omega) (by omega)) ?_
              refine mvp (.string _) rfl ?_
              refine fad rfl ?_
              refine ld hs rfl rfl ?_
              refine remW rfl rfl (by omega) ?_
              refine eqlW rfl rfl ?_
              refine cll (Acquire_ok g bT r1 r2 .nil aa m cc R C N (fB o.file.toNat) ep (nm o.who.toNat) _ _ (hs.he _) (fB_size _) (by omega) (by have := get_short hN (lkName (fB o.file.toNat)); omega) (nm_big _)) ?_
              rintro _ w ⟨rfl, R1, a1, m1, c1, C1, hm1, ht⟩
              replace hs := hs.turnE rfl ht
              obtain ⟨N1, hN1, hs⟩ : ∃ N1, Inv N1 ∧ St w0 [] w [_, _, eV g bT r1 r2 .nil a1 m1 c1 R1 C1 N1] := ⟨_, inv_acq hN hep0 hbe o.who.toNat _, hs⟩
              refine WL_nil ?_
              exact ⟨m1, c1, a1, R1, C1, N1, rfl, rfl, rfl, rfl, rfl, by omega, hN1, hs.sel⟩
          · skip
            rintro f w ⟨m, cc, aa, R, C, N, e0, e3, e4, e5, e6, hm, hN, hs⟩
            refine CW_kn (i := 0) e0 (CW_kn (i := 3) e3 (CW_kn (i := 4) e4 (CW_kn (i := 5) e5 (CW_kn (i := 6) e6 ?_))))
            obtain ⟨sh, xs, hx, hck, hrd⟩ := read_inv hN (fB o.file.toNat) hep0
            have hget : getE .nil N (fB o.file.toNat) ep = (⟨ep, sh, xs.map nm⟩, 0) := by unfold getE; rw [if_neg (by rw [hbe]; simp), hrd]
            obtain ⟨L, hL⟩ : ∃ L : Lk, L = ⟨ep, sh, xs.map nm⟩ := ⟨_, rfl⟩
            have hk0 := lkCheck_0 hck
            simp only [List.length_map] at hk0
            rw [← hL] at hget hck
            refine CW_seq (fun K13 hK13 => ?_)
            refine CW_region ?_
            refine mvp (.pointer _) rfl ?_
            refine ldA hs rfl (by simp) ?_
            refine fad rfl ?_
            refine ld hs rfl rfl ?_
            refine WL_v (v := .int .u8 ep) (X_remn 2 rfl rfl (by omega) hep) ?_
            refine WL_v (v := .int .i64 ep) (X_cvintp rfl (by omega) (by omega)) ?_
            refine cll (Get_ok g bT r1 r2 .nil aa m cc R C N (fB o.file.toNat) ep _ (hs.he _) (fB_size _) (by have := get_short hN (lkName (fB o.file.toNat)); omega)) ?_
            rintro _ w ⟨la, ln, lc, R2, rfl, hln, ht⟩
            replace hs := hs.turn2 ht rfl rfl rfl
            rw [hget] at hs hln
            rw [hget]
            replace hln : ln = L.hs.length := hln
            refine mvp (.tuple _) rfl ?_
            refine ext rfl rfl ?_
            refine ext rfl rfl ?_
            refine alc hs ?_
            intro w g8 hs hg8 hf8
            refine sto (.agg (lkV L.ep L.sh la ln lc).toArray) (vl := lkV L.ep L.sh la ln lc) hs rfl rfl rfl rfl (by simp) rfl ?_
            intro w hs _
            replace hs : St w0 [] w (eB g8 true (Blk 24 [.int .i64 L.ep, .bool L.sh, .slice la ln lc]) :: _) := hs
            have hlen : ln = xs.length := by rw [hln, hL]; simp
            refine asp (.int _ _) rfl ?_
            refine WL_nil ?_
            refine hK13 _ _ ?_
            refine CW_seq (fun K14 hK14 => ?_)
            refine CW_seq (fun K15 hK15 => ?_)
            refine CW_region ?_
            refine mvp (.int _ _) rfl ?_
            refine neqW rfl rfl ?_
            refine mvp (.bool _) rfl ?_
            refine WL_gyb (g := 74) rfl (by decide) rfl (rfl) ?_
            refine ldA hs rfl (by simp) ?_
            refine WL_gy (g := 74) rfl (by decide) rfl ?_
            refine cll (LCheck_ok L la ln lc _ (hs.rd (a := la)) hln (fun x hx => by have := lk_short hck x hx; omega)) ?_
            rintro _ w ⟨rfl, hf⟩
            replace hs := hs.call hf
            rw [hck]
            refine WL_gy (g := 74) rfl (by decide) rfl ?_
            refine neqW rfl rfl ?_
            first | refine pkT rfl rfl ?_ | refine pkF rfl rfl ?_
            refine mvp (.bool _) rfl ?_
            refine WL_gyb (g := 79) rfl (by decide) rfl (rfl) ?_
            refine fad rfl ?_
            refine WL_gy (g := 79) rfl (by decide) rfl ?_
            refine ld hs rfl rfl ?_
            refine WL_gy (g := 79) rfl (by decide) rfl ?_
            refine notW rfl ?_
            refine WL_gy (g := 79) rfl (by decide) rfl ?_
            refine mvp (.bool _) rfl ?_
            refine WL_g (g := 83) rfl (by decide) rfl (fun hg83 => ?_) (fun hg83 => ?_)
            · skip
              refine fad rfl ?_
              refine WL_gy (g := 83) rfl (by decide) rfl ?_
              refine ld hs rfl rfl ?_
              refine WL_gy (g := 83) rfl (by decide) rfl ?_
              refine lenW rfl ?_
              refine WL_gy (g := 83) rfl (by decide) rfl ?_
              refine gtrW rfl rfl ?_
              refine WL_gy (g := 79) rfl (by decide) rfl ?_
              first | refine pkT rfl rfl ?_ | refine pkF rfl rfl ?_
              first | refine pkT rfl rfl ?_ | refine pkF rfl rfl ?_
              refine WL_nil ?_
              refine hK15 _ _ ?_
              refine CW_condF rfl ((by
first
  | rfl
  | (have h1 : sh = false := by have := hg83; rw [hL] at this; simpa using this
     have h2 := hk0.2.2.2.1
     exact decide_eq_false (fun q => h2 ⟨h1, by omega⟩)))) ?_
              refine CW_skip ?_
              refine hK14 _ _ ?_
              refine CW_seq (fun K16 hK16 => ?_)
              refine CW_region ?_
              refine asp (.int _ _) rfl ?_
              refine WL_nil ?_
              refine hK16 _ _ ?_
              refine CW_seq (fun K17 hK17 => ?_)
              refine CW_seq (fun K18 hK18 => ?_)
              refine CW_region ?_
              refine asp (.int _ _) rfl ?_
              refine WL_nil ?_
              refine hK18 _ _ ?_
              refine CW_block ?_
              refine CW_loop (fun kk f w' => ∃ (j : Nat) (R : Chs), kk = 40 - j ∧ j ≤ 40 ∧ f 0 = .slice (some ⟨bo, off, none⟩) n c ∧ f 3 = .pointer (some ⟨g, 0, none⟩) ∧ f 4 = .int .i64 i ∧ f 5 = .pointer (some ⟨g5, 0, none⟩) ∧ f 6 = .pointer (some ⟨g6, 0, none⟩) ∧ f 8 = .pointer (some ⟨g8, 0, none⟩) ∧ f 10 = .int .i64 (cnt xs j) ∧ f 11 = .int .u8 j ∧ St w0 [] w' [eV g bT r1 r2 .nil aa m cc R C N, eB g8 true (Blk 24 [.int .i64 L.ep, .bool L.sh, .slice la ln lc]), eB g6 true (Blk 44 (birV (fB o.file.toNat))), eB g5 true (Blk 41 [.int .u8 o.kind.toNat, .int .u8 o.file.toNat, .int .u8 o.epoch.toNat, .int .u8 o.who.toNat])]) 40 ?_ ?_
              · exact ⟨0, R2, by omega, by omega, rfl, rfl, rfl, rfl, rfl, rfl, by rw [cnt_0]; rfl, rfl, hs.sel⟩
              · rintro kk f w1 ⟨j, R3, rfl, hj, e0, e3, e4, e5, e6, e8, e10, e11, hs⟩
                refine CW_kn (i := 0) e0 (CW_kn (i := 3) e3 (CW_kn (i := 4) e4 (CW_kn (i := 5) e5 (CW_kn (i := 6) e6 (CW_kn (i := 8) e8 (CW_kn (i := 10) e10 (CW_kn (i := 11) e11 ?_)))))))
                refine CW_seq (fun K19 hK19 => ?_)
                refine CW_seq (fun K20 hK20 => ?_)
                refine CW_region ?_
                refine mvp (.int _ _) rfl ?_
                refine lssW rfl rfl ?_
                refine WL_nil ?_
                refine hK20 _ _ ?_
                refine CW_cond rfl (fun hc91 => ?_) (fun hc91 => ?_)
                · have hj2 : j < 40 := by simp at hc91; omega
                  have hcb : cnt xs j ≤ 32 := Nat.le_trans (List.length_filter_le ..) hk0.2.1
                  refine CW_skip ?_
                  refine hK19 _ _ ?_
                  refine CW_seq (fun K21 hK21 => ?_)
                  refine CW_block ?_
                  refine CW_seq (fun K22 hK22 => ?_)
                  refine DW_s hs 8 ([eB g6 true (Blk 44 (birV (fB o.file.toNat))), eB g5 true (Blk 41 [.int .u8 o.kind.toNat, .int .u8 o.file.toNat, .int .u8 o.epoch.toNat, .int .u8 o.who.toNat])]) ?_
                  intro w hs _
                  refine DW_q hs 0 rfl (by kernel_rfl) (fun w' hw' => X_move (v := (.pointer _)) rfl) ?_
                  refine DW_q hs 1 rfl (by kernel_rfl) (fun w' hw' => X_ldAH hw' rfl (by simp)) ?_
                  refine DW_q hs 2 rfl (by kernel_rfl) (fun w' hw' => X_fieldAddr rfl rfl) ?_
                  refine DW_q hs 3 rfl (by kernel_rfl) (fun w' hw' => X_ldH hw' rfl rfl) ?_
                  refine DW_q hs 4 rfl (by kernel_rfl) (fun w' hw' => X_remn 2 rfl rfl (by omega) hep) ?_
                  refine DW_q hs 5 rfl (by kernel_rfl) (fun w' hw' => X_cvintp rfl (by omega) (by omega)) ?_
                  refine DW_q hs 6 rfl (by kernel_rfl) (fun w' hw' => X_move (v := (.int _ _)) rfl) ?_
                  refine DW_l 7 rfl (by kernel_rfl) ?_
                  refine cll (name_ok j _ (by omega)) ?_
                  rintro _ w ⟨rfl, hf⟩
                  replace hs := hs.call hf
                  refine WL_nil ?_
                  refine ⟨.inr hs.hold, ?_⟩
                  refine DW_l 8 rfl (by kernel_rfl) ?_
                  refine cll (Holds_ok g bT r1 r2 .nil aa m cc R3 C N (fB o.file.toNat) ep (nm j) _ (hs.he _) (fB_size _) (by have := get_short hN (lkName (fB o.file.toNat)); omega) (nm_big _)) ?_
                  rintro _ w ⟨rfl, R4, ht⟩
                  replace hs := hs.turnE rfl ht
                  refine WL_nil ?_
                  refine ⟨.inl rfl, ?_⟩
                  refine DW_e (by kernel_rfl) ?_
                  refine hK22 _ _ ?_
                  refine CW_cond rfl (fun hc102 => ?_) (fun hc102 => ?_)
                  · skip
                    refine CW_region ?_
                    refine mvp (.int _ _) rfl ?_
                    first | refine addI rfl rfl (by omega) ?_ | refine addW rfl rfl ?_
                    refine asp (.int _ _) rfl ?_
                    refine WL_nil ?_
                    refine hK21 _ _ ?_
                    refine CW_region ?_
                    refine mvp (.int _ _) rfl ?_
                    refine addW rfl rfl ?_
                    refine asp (.int _ _) rfl ?_
                    refine WL_nil ?_
                    skip
                    obtain ⟨u1, u2, u3, u4⟩ := use_nm hbe hrd j
                    rw [u1, u4, bsFound_nm hx hj2] at hc102
                    have hst := cnt_step hx.1 j
                    refine ⟨40 - (j + 1), by omega, j + 1, R4, rfl, by omega, rfl, rfl, rfl, rfl, rfl, rfl, ?_, ?_, hs.sel⟩
                    · show Value.int .i64 _ = _
                      rw [hst]
                      first
                        | (have h1 : j ∈ xs := by simpa using hc102
                           rw [if_pos h1]; rfl)
                        | (have h1 : j ∉ xs := by simpa using hc102
                           rw [if_neg h1]; rfl)
                    · show Value.int .u8 (IntKind.u8.wrap ((j : Int) + 1)) = _
                      congr 1
                      simp [IntKind.wrap, IntKind.bits, IntKind.signed]
                      omega
                  · skip
                    refine CW_skip ?_
                    refine hK21 _ _ ?_
                    refine CW_region ?_
                    refine mvp (.int _ _) rfl ?_
                    refine addW rfl rfl ?_
                    refine asp (.int _ _) rfl ?_
                    refine WL_nil ?_
                    skip
                    obtain ⟨u1, u2, u3, u4⟩ := use_nm hbe hrd j
                    rw [u1, u4, bsFound_nm hx hj2] at hc102
                    have hst := cnt_step hx.1 j
                    refine ⟨40 - (j + 1), by omega, j + 1, R4, rfl, by omega, rfl, rfl, rfl, rfl, rfl, rfl, ?_, ?_, hs.sel⟩
                    · show Value.int .i64 _ = _
                      rw [hst]
                      first
                        | (have h1 : j ∈ xs := by simpa using hc102
                           rw [if_pos h1]; rfl)
                        | (have h1 : j ∉ xs := by simpa using hc102
                           rw [if_neg h1]; rfl)
                    · show Value.int .u8 (IntKind.u8.wrap ((j : Int) + 1)) = _
                      congr 1
                      simp [IntKind.wrap, IntKind.bits, IntKind.signed]
                      omega
                · have hj40 : j = 40 := by simp at hc91; omega
                  have hcnt := cnt_40 hx
                  subst hj40
                  refine CW_exit ?_
                  refine hK17 _ _ ?_
                  refine CW_seq (fun K23 hK23 => ?_)
                  refine CW_region ?_
                  refine mvp (.int _ _) rfl ?_
                  refine fad rfl ?_
                  refine ld hs rfl rfl ?_
                  refine lenW rfl ?_
                  refine neqW rfl rfl ?_
                  refine WL_nil ?_
                  refine hK23 _ _ ?_
                  refine CW_condF rfl ((decide_eq_false (by omega))) ?_
                  refine CW_skip ?_
                  refine hK10 _ _ ?_
                  refine CW_region ?_
                  refine mvp (.int _ _) rfl ?_
                  first | refine addI rfl rfl (by omega) ?_ | refine addW rfl rfl ?_
                  refine asp (.int _ _) rfl ?_
                  refine WL_nil ?_
                  skip
                  have hs' : St w0 [] _ [eV g bT r1 r2 .nil aa m cc R3 C N] := hs.sel
                  exact ⟨n - (i + 1), by omega, i + 1, m, cc, aa, R3, C, N, rfl, by omega, rfl, rfl, rfl, by omega, hN, hs'⟩
            · skip
              refine WL_gn (g := 83) rfl (by decide) rfl ?_
              refine WL_gn (g := 83) rfl (by decide) rfl ?_
              refine WL_gn (g := 83) rfl (by decide) rfl ?_
              refine WL_gy (g := 79) rfl (by decide) rfl ?_
              first | refine pkT rfl rfl ?_ | refine pkF rfl rfl ?_
              first | refine pkT rfl rfl ?_ | refine pkF rfl rfl ?_
              refine WL_nil ?_
              refine hK15 _ _ ?_
              refine CW_condF rfl rfl ?_
              refine CW_skip ?_
              refine hK14 _ _ ?_
              refine CW_seq (fun K24 hK24 => ?_)
              refine CW_region ?_
              refine asp (.int _ _) rfl ?_
              refine WL_nil ?_
              refine hK24 _ _ ?_
              refine CW_seq (fun K25 hK25 => ?_)
              refine CW_seq (fun K26 hK26 => ?_)
              refine CW_region ?_
              refine asp (.int _ _) rfl ?_
              refine WL_nil ?_
              refine hK26 _ _ ?_
              refine CW_block ?_
              refine CW_loop (fun kk f w' => ∃ (j : Nat) (R : Chs), kk = 40 - j ∧ j ≤ 40 ∧ f 0 = .slice (some ⟨bo, off, none⟩) n c ∧ f 3 = .pointer (some ⟨g, 0, none⟩) ∧ f 4 = .int .i64 i ∧ f 5 = .pointer (some ⟨g5, 0, none⟩) ∧ f 6 = .pointer (some ⟨g6, 0, none⟩) ∧ f 8 = .pointer (some ⟨g8, 0, none⟩) ∧ f 10 = .int .i64 (cnt xs j) ∧ f 11 = .int .u8 j ∧ St w0 [] w' [eV g bT r1 r2 .nil aa m cc R C N, eB g8 true (Blk 24 [.int .i64 L.ep, .bool L.sh, .slice la ln lc]), eB g6 true (Blk 44 (birV (fB o.file.toNat))), eB g5 true (Blk 41 [.int .u8 o.kind.toNat, .int .u8 o.file.toNat, .int .u8 o.epoch.toNat, .int .u8 o.who.toNat])]) 40 ?_ ?_
              · exact ⟨0, R2, by omega, by omega, rfl, rfl, rfl, rfl, rfl, rfl, by rw [cnt_0]; rfl, rfl, hs.sel⟩
              · rintro kk f w1 ⟨j, R3, rfl, hj, e0, e3, e4, e5, e6, e8, e10, e11, hs⟩
                refine CW_kn (i := 0) e0 (CW_kn (i := 3) e3 (CW_kn (i := 4) e4 (CW_kn (i := 5) e5 (CW_kn (i := 6) e6 (CW_kn (i := 8) e8 (CW_kn (i := 10) e10 (CW_kn (i := 11) e11 ?_)))))))
                refine CW_seq (fun K27 hK27 => ?_)
                refine CW_seq (fun K28 hK28 => ?_)
                refine CW_region ?_
                refine mvp (.int _ _) rfl ?_
                refine lssW rfl rfl ?_
                refine WL_nil ?_
                refine hK28 _ _ ?_
                refine CW_cond rfl (fun hc91 => ?_) (fun hc91 => ?_)
                · have hj2 : j < 40 := by simp at hc91; omega
                  have hcb : cnt xs j ≤ 32 := Nat.le_trans (List.length_filter_le ..) hk0.2.1
                  refine CW_skip ?_
                  refine hK27 _ _ ?_
                  refine CW_seq (fun K29 hK29 => ?_)
                  refine CW_block ?_
                  refine CW_seq (fun K30 hK30 => ?_)
                  refine DW_s hs 8 ([eB g6 true (Blk 44 (birV (fB o.file.toNat))), eB g5 true (Blk 41 [.int .u8 o.kind.toNat, .int .u8 o.file.toNat, .int .u8 o.epoch.toNat, .int .u8 o.who.toNat])]) ?_
                  intro w hs _
                  refine DW_q hs 0 rfl (by kernel_rfl) (fun w' hw' => X_move (v := (.pointer _)) rfl) ?_
                  refine DW_q hs 1 rfl (by kernel_rfl) (fun w' hw' => X_ldAH hw' rfl (by simp)) ?_
                  refine DW_q hs 2 rfl (by kernel_rfl) (fun w' hw' => X_fieldAddr rfl rfl) ?_
                  refine DW_q hs 3 rfl (by kernel_rfl) (fun w' hw' => X_ldH hw' rfl rfl) ?_
                  refine DW_q hs 4 rfl (by kernel_rfl) (fun w' hw' => X_remn 2 rfl rfl (by omega) hep) ?_
                  refine DW_q hs 5 rfl (by kernel_rfl) (fun w' hw' => X_cvintp rfl (by omega) (by omega)) ?_
                  refine DW_q hs 6 rfl (by kernel_rfl) (fun w' hw' => X_move (v := (.int _ _)) rfl) ?_
                  refine DW_l 7 rfl (by kernel_rfl) ?_
                  refine cll (name_ok j _ (by omega)) ?_
                  rintro _ w ⟨rfl, hf⟩
                  replace hs := hs.call hf
                  refine WL_nil ?_
                  refine ⟨.inr hs.hold, ?_⟩
                  refine DW_l 8 rfl (by kernel_rfl) ?_
                  refine cll (Holds_ok g bT r1 r2 .nil aa m cc R3 C N (fB o.file.toNat) ep (nm j) _ (hs.he _) (fB_size _) (by have := get_short hN (lkName (fB o.file.toNat)); omega) (nm_big _)) ?_
                  rintro _ w ⟨rfl, R4, ht⟩
                  replace hs := hs.turnE rfl ht
                  refine WL_nil ?_
                  refine ⟨.inl rfl, ?_⟩
                  refine DW_e (by kernel_rfl) ?_
                  refine hK30 _ _ ?_
                  refine CW_cond rfl (fun hc102 => ?_) (fun hc102 => ?_)
                  · skip
                    refine CW_region ?_
                    refine mvp (.int _ _) rfl ?_
                    first | refine addI rfl rfl (by omega) ?_ | refine addW rfl rfl ?_
                    refine asp (.int _ _) rfl ?_
                    refine WL_nil ?_
                    refine hK29 _ _ ?_
                    refine CW_region ?_
                    refine mvp (.int _ _) rfl ?_
                    refine addW rfl rfl ?_
                    refine asp (.int _ _) rfl ?_
                    refine WL_nil ?_
                    skip
                    obtain ⟨u1, u2, u3, u4⟩ := use_nm hbe hrd j
                    rw [u1, u4, bsFound_nm hx hj2] at hc102
                    have hst := cnt_step hx.1 j
                    refine ⟨40 - (j + 1), by omega, j + 1, R4, rfl, by omega, rfl, rfl, rfl, rfl, rfl, rfl, ?_, ?_, hs.sel⟩
                    · show Value.int .i64 _ = _
                      rw [hst]
                      first
                        | (have h1 : j ∈ xs := by simpa using hc102
                           rw [if_pos h1]; rfl)
                        | (have h1 : j ∉ xs := by simpa using hc102
                           rw [if_neg h1]; rfl)
                    · show Value.int .u8 (IntKind.u8.wrap ((j : Int) + 1)) = _
                      congr 1
                      simp [IntKind.wrap, IntKind.bits, IntKind.signed]
                      omega
                  · skip
                    refine CW_skip ?_
                    refine hK29 _ _ ?_
                    refine CW_region ?_
                    refine mvp (.int _ _) rfl ?_
                    refine addW rfl rfl ?_
                    refine asp (.int _ _) rfl ?_
                    refine WL_nil ?_
                    skip
                    obtain ⟨u1, u2, u3, u4⟩ := use_nm hbe hrd j
                    rw [u1, u4, bsFound_nm hx hj2] at hc102
                    have hst := cnt_step hx.1 j
                    refine ⟨40 - (j + 1), by omega, j + 1, R4, rfl, by omega, rfl, rfl, rfl, rfl, rfl, rfl, ?_, ?_, hs.sel⟩
                    · show Value.int .i64 _ = _
                      rw [hst]
                      first
                        | (have h1 : j ∈ xs := by simpa using hc102
                           rw [if_pos h1]; rfl)
                        | (have h1 : j ∉ xs := by simpa using hc102
                           rw [if_neg h1]; rfl)
                    · show Value.int .u8 (IntKind.u8.wrap ((j : Int) + 1)) = _
                      congr 1
                      simp [IntKind.wrap, IntKind.bits, IntKind.signed]
                      omega
                · have hj40 : j = 40 := by simp at hc91; omega
                  have hcnt := cnt_40 hx
                  subst hj40
                  refine CW_exit ?_
                  refine hK25 _ _ ?_
                  refine CW_seq (fun K31 hK31 => ?_)
                  refine CW_region ?_
                  refine mvp (.int _ _) rfl ?_
                  refine fad rfl ?_
                  refine ld hs rfl rfl ?_
                  refine lenW rfl ?_
                  refine neqW rfl rfl ?_
                  refine WL_nil ?_
                  refine hK31 _ _ ?_
                  refine CW_condF rfl ((decide_eq_false (by omega))) ?_
                  refine CW_skip ?_
                  refine hK10 _ _ ?_
                  refine CW_region ?_
                  refine mvp (.int _ _) rfl ?_
                  first | refine addI rfl rfl (by omega) ?_ | refine addW rfl rfl ?_
                  refine asp (.int _ _) rfl ?_
                  refine WL_nil ?_
                  skip
                  have hs' : St w0 [] _ [eV g bT r1 r2 .nil aa m cc R3 C N] := hs.sel
                  exact ⟨n - (i + 1), by omega, i + 1, m, cc, aa, R3, C, N, rfl, by omega, rfl, rfl, rfl, by omega, hN, hs'⟩
      · skip
        refine CW_exit ?_
        refine hK6 _ _ ?_
        refine CW_seq (fun K32 hK32 => ?_)
        refine CW_region ?_
        refine asp (.bool _) rfl ?_
        refine WL_nil ?_
        refine hK32 _ _ ?_
        refine CW_ret ?_
        repeat (first | (with_reducible apply thenF_ret) | (with_reducible apply blockF_ret))
        try simp only [thenF, blockF, reduceIte]
        refine Post_r Tryz.results4 (.tmp rfl .nil) ?_
        try simp only [ev_tmp, ev_const, upd_ap, Nat.reduceLT, Nat.reduceEqDiff, reduceIte]
        exact ⟨by trivial, hs.fm⟩
end Go.Proofs.YtkbldndbofbkcaaGreatDoor
/- The arguments of the laws of this seat: slices of operations. -/
namespace Go.Proofs.YtkbldndbofbkcaaGreatDoor
open Go Go.ChangeShapes Go.WideShapes Go.RowKit
set_option maxRecDepth 100000
section
variable {H : Type} {enc : TypeId × Value → H} {w : World} {base base' : Nat} {sp : Nat → Bool} {held : Bool} {r : Reach} {v : Value} {d : DataW H} {ps : List MemPlace}
theorem cells_slice {P : Program} {t e : TypeId} (ht : P.underlying t = some (.slice e)) (hval : Value.okWide P w r base' t v) : v.cells.toList = [v] := by
  unfold Value.okWide at hval
  rw [ht] at hval
  unfold Cell.okWide at hval
  cases v <;> simp_all [Value.cells, Cell.ok]
theorem el_op : ∀ fuel cs' y, DataW.trod enc Tryz.prog w base sp held fuel 41 cs' = some y → ∃ u : OpL, True ∧ cs' = opC u := fun fuel cs y h => by
  obtain ⟨xs, m, _, _, hl, hlen, hf⟩ := DataW.trod_struct Tryz.underlying41 h
  rw [show Tryz.prog.cellsOf 41 = 4 by kernel_rfl] at hl
  replace hlen : xs.length = 4 := hlen
  match cs, hl with
  | [c0, c1, c2, c3], _ =>
    have g0 := (hf 0 _ rfl).trans (List.getElem?_eq_getElem (by omega))
    have g1 := (hf 1 _ rfl).trans (List.getElem?_eq_getElem (by omega))
    have g2 := (hf 2 _ rfl).trans (List.getElem?_eq_getElem (by omega))
    have g3 := (hf 3 _ rfl).trans (List.getElem?_eq_getElem (by omega))
    rw [show Tryz.prog.cellsOf _ = 1 by kernel_rfl] at g0 g1 g2 g3
    obtain ⟨k0, _, e0⟩ := el_u8 _ _ _ g0
    obtain ⟨k1, _, e1⟩ := el_u8 _ _ _ g1
    obtain ⟨k2, _, e2⟩ := el_u8 _ _ _ g2
    obtain ⟨k3, _, e3⟩ := el_u8 _ _ _ g3
    refine ⟨⟨k0, k1, k2, k3⟩, trivial, ?_⟩
    injection e0 with e0; injection e1 with e1; injection e2 with e2; injection e3 with e3
    subst e0 e1 e2 e3
    rfl
theorem arg_ops (hval : Value.okWide Tryz.prog w r base' 35 v) (hd : DataW.Trod enc Tryz.prog w base sp held 35 v d ps) :
    ∃ (a : Option Addr) (n c : Nat) (us : List OpL), v = .slice a n c ∧ n = us.length ∧ Rd w a n 4 (us.flatMap opC) := by
  obtain ⟨fuel, h⟩ := hd
  rw [cells_slice Tryz.underlying35 hval] at h
  obtain ⟨a, n, c, us, e, hn, _, _, _, hr⟩ := trod_sl (m := 4) opC (fun _ => True) Tryz.underlying35 (by kernel_rfl) (by decide) el_op h
  injection e with e
  exact ⟨a, n, c, us, e, hn, hr⟩
end
end Go.Proofs.YtkbldndbofbkcaaGreatDoor
