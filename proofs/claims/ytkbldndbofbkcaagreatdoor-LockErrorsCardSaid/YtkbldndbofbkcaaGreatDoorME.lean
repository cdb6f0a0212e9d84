/- Plain: what is written is read back, and what is read was written. | Plain: locks. | lock: checkEpoch, checkHolder, Check. | lock: Encode, Decode. | lock: Decode. | Plain: what is done with locks in a view. | lock: begin, read, write, the search. | lock: the search, Get, use. | slices.Insert and slices.Delete at names. | lock: Acquire, Release, Holds. | lock: Acquire, Release. -/
import Derived.Test.YtkbldndbofbkcaaGreatDoorMC
import Derived.Test.YtkbldndbofbkcaaGreatDoorMD
import Derived.Test.YtkbldndbofbkcaaGreatDoorMA
set_option linter.unusedSimpArgs false
set_option linter.unusedVariables false
/- Plain: what is written is read back, and what is read was written. -/
namespace Go.Proofs.YtkbldndbofbkcaaGreatDoor
open Go Go.RowKit
theorem u8_toNat (n : Nat) (h : n < 256) : (UInt8.ofNat n).toNat = n := by simp; omega
/-- A number that was written is read. -/
theorem pg_vint (k : Nat) : ∀ (i acc u : Nat) (rest : List UInt8), i ≤ 9 → u < 2 ^ (7 * (9 - i)) → u < 2 ^ (7 * (k + 1)) → (0 < i → 0 < u) →
    pg 9 i acc (vint (k + 1) u ++ rest) = (acc + u * 2 ^ (7 * i), i + (vint (k + 1) u).length, 0) := by
  induction k with
  | zero =>
    intro i acc u rest hi h9 hk h0
    have hu : u < 128 := by simpa using hk
    have hi9 : i ≠ 9 := by
      rintro rfl
      have := h0 (by omega)
      simp at h9; omega
    simp only [vint, if_pos hu, List.cons_append, List.nil_append, pg, if_neg hi9, u8_toNat u (by omega), List.length_singleton]
    rw [if_neg (by omega)]
    rw [Nat.mod_eq_of_lt hu]
  | succ k ih =>
    intro i acc u rest hi h9 hk h0
    have hi9 : i ≠ 9 := by
      rintro rfl
      have := h0 (by omega)
      simp at h9; omega
    by_cases hu : u < 128
    · rw [vint_last hu]
      simp only [List.cons_append, List.nil_append, pg, if_neg hi9, u8_toNat u (by omega), if_pos hu, List.length_singleton]
      rw [if_neg (by omega)]
      rw [Nat.mod_eq_of_lt hu]
    · rw [vint_step (by omega)]
      have e1 : (UInt8.ofNat (u % 128 + 128)).toNat = u % 128 + 128 := u8_toNat _ (by omega)
      have e9 : 9 - i = (9 - (i + 1)) + 1 := by omega
      have h9' : u / 128 < 2 ^ (7 * (9 - (i + 1))) := by
        rw [e9, pow7] at h9
        exact Nat.div_lt_of_lt_mul h9
      have hk' : u / 128 < 2 ^ (7 * (k + 1)) := by
        rw [pow7] at hk
        exact Nat.div_lt_of_lt_mul hk
      simp only [List.cons_append, pg, if_neg hi9, e1]
      rw [if_neg (by omega), ih (i + 1) _ (u / 128) rest (by omega) h9' hk' (fun _ => by omega)]
      have e2 : (u % 128 + 128) % 128 = u % 128 := by omega
      have e3 : acc + (u % 128 + 128) % 128 * 2 ^ (7 * i) + u / 128 * 2 ^ (7 * (i + 1)) = acc + u * 2 ^ (7 * i) := by
        rw [e2, pow7]
        have : u * 2 ^ (7 * i) = (u % 128 + 128 * (u / 128)) * 2 ^ (7 * i) := by rw [Nat.mod_add_div]
        rw [this, Nat.add_mul]
        have : u / 128 * (128 * 2 ^ (7 * i)) = 128 * (u / 128) * 2 ^ (7 * i) := by
          rw [← Nat.mul_assoc, Nat.mul_comm (u / 128) 128]
        omega
      rw [e3, List.length_cons]
      congr 2
      omega
theorem ppg_vnat (u : Nat) (rest : List UInt8) (h : u < 2 ^ 63) : ppg (vnat u ++ rest) = (u, (vnat u).length, 0) := by
  have := pg_vint 9 0 0 u rest (by omega) (by simpa using h) (Nat.lt_of_lt_of_le h (Nat.pow_le_pow_right (by omega) (by omega))) (by omega)
  unfold ppg vnat
  rw [this]; simp
/-- A number that is read was written so. -/
theorem pg_inv (cs : List UInt8) : ∀ (i acc v n : Nat), i ≤ 9 → pg 9 i acc cs = (v, n, 0) → ∃ u rest, v = acc + u * 2 ^ (7 * i) ∧ cs = vint (10 - i) u ++ rest ∧ n = i + (vint (10 - i) u).length ∧ (0 < i → 0 < u) := by
  induction cs with
  | nil => intro i acc v n _ h; simp only [pg] at h; split at h <;> simp at h
  | cons c cs ih =>
    intro i acc v n hi h
    simp only [pg] at h
    split at h
    · simp at h
    · rename_i hi9
      have e10 : 10 - i = (9 - i) + 1 := by omega
      have hc := c.toNat_lt
      split at h
      · rename_i h128
        split at h
        · simp at h
        · rename_i h0
          simp only [Prod.mk.injEq, and_true] at h
          obtain ⟨rfl, rfl⟩ := h
          refine ⟨c.toNat, cs, by rw [Nat.mod_eq_of_lt h128], ?_, ?_, ?_⟩
          · rw [e10, vint_last h128]; simp
          · rw [e10, vint_last h128]; simp
          · intro hpos; omega
      · rename_i h128
        obtain ⟨u, rest, h1, h2, h3, h4⟩ := ih (i + 1) _ v n (by omega) h
        have hu := h4 (by omega)
        have e11 : 10 - (i + 1) = 9 - i := by omega
        have e12 : (u * 128 + c.toNat % 128) / 128 = u := by omega
        have e13 : (u * 128 + c.toNat % 128) % 128 = c.toNat % 128 := by omega
        have e14 : UInt8.ofNat (c.toNat % 128 + 128) = c := by
          apply UInt8.toNat_inj.1
          rw [u8_toNat _ (by omega)]; omega
        have e15 : vint (10 - i) (u * 128 + c.toNat % 128) = c :: vint (10 - (i + 1)) u := by
          rw [e10, vint_step (by omega), e12, e13, e14, e11]
        refine ⟨u * 128 + c.toNat % 128, rest, ?_, ?_, ?_, fun _ => by omega⟩
        · rw [h1, pow7, Nat.add_mul]
          have : u * (128 * 2 ^ (7 * i)) = u * 128 * 2 ^ (7 * i) := by rw [Nat.mul_assoc]
          omega
        · rw [e15, h2]; rfl
        · rw [e15, h3, List.length_cons]; omega
theorem ppg_inv {bs : List UInt8} (h : (ppg bs).2.2 = 0) : ∃ rest, bs = vnat (ppg bs).1 ++ rest ∧ (ppg bs).2.1 = (vnat (ppg bs).1).length := by
  obtain ⟨u, rest, h1, h2, h3, _⟩ := pg_inv bs 0 0 (ppg bs).1 (ppg bs).2.1 (by omega) (by unfold ppg at h ⊢; exact Prod.ext rfl (Prod.ext rfl h))
  have : u = (ppg bs).1 := by rw [h1]; simp
  subst this
  exact ⟨rest, h2, by rw [h3]; simp [vnat]⟩
/-! ### one value -/
/-- A reader of values reads what is written, and nothing else. -/
structure Cdc {α : Type} (q : List UInt8 → α × Nat × Int) (enc : α → List UInt8) (ok : α → Prop) : Prop where
  rd : ∀ x rest, ok x → q (enc x ++ rest) = (x, (enc x).length, 0)
  inv : ∀ bs, (q bs).2.2 = 0 → ok (q bs).1 ∧ ∃ rest, bs = enc (q bs).1 ++ rest ∧ (q bs).2.1 = (enc (q bs).1).length
theorem cdcN (most : Nat) (hm : most < 2 ^ 63) : Cdc (pNum most) vnat (fun u => u ≤ most) := by
  refine ⟨fun u rest hu => ?_, fun bs h => ?_⟩
  · unfold pNum
    rw [ppg_vnat u rest (by omega), if_neg (by simp; omega)]
  · unfold pNum at h ⊢
    by_cases hc : (ppg bs).2.2 = 0 ∧ most < (ppg bs).1
    · rw [if_pos hc] at h; simp at h
    · rw [if_neg hc] at h
      rw [if_neg hc]
      exact ⟨by omega, ppg_inv h⟩
def encB (b : Bool) : List UInt8 := [if b then 1 else 0]
theorem cdcB : Cdc pFlag encB (fun _ => True) := by
  refine ⟨fun b rest _ => ?_, fun bs h => ⟨trivial, ?_⟩⟩
  · cases b <;> simp [pFlag, encB]
  · cases bs with
    | nil => simp [pFlag] at h
    | cons c cs =>
      simp only [pFlag] at h ⊢
      by_cases hc : 1 < c.toNat
      · rw [if_pos hc] at h; simp at h
      · rw [if_neg hc]
        refine ⟨cs, ?_, by simp [encB]⟩
        by_cases h1 : c.toNat = 1
        · have : c = 1 := UInt8.toNat_inj.1 (by simpa using h1)
          subst this; simp [encB]
        · have : c = 0 := UInt8.toNat_inj.1 (by simp; omega)
          subst this; simp [encB]
def encT (t : List UInt8) : List UInt8 := vnat t.length ++ t
theorem cdcT (most : Nat) : Cdc (pText most) encT (fun t => t.length ≤ min most 16777216) := by
  refine ⟨fun t rest ht => ?_, fun bs h => ?_⟩
  · unfold pText encT
    rw [List.append_assoc, ppg_vnat t.length (t ++ rest) (by omega)]
    simp only
    rw [if_neg (by simp), if_neg (by omega), if_neg (by simp), List.drop_left, List.take_left]
    simp
  · unfold pText at h ⊢
    by_cases h1 : (ppg bs).2.2 ≠ 0
    · rw [if_pos h1] at h; exact absurd h h1
    · have h1' : (ppg bs).2.2 = 0 := by simpa using h1
      rw [if_neg h1] at h ⊢
      by_cases h2 : min most 16777216 < (ppg bs).1
      · rw [if_pos h2] at h; simp at h
      · rw [if_neg h2] at h ⊢
        by_cases h3 : bs.length - (ppg bs).2.1 < (ppg bs).1
        · rw [if_pos h3] at h; simp at h
        · rw [if_neg h3]
          obtain ⟨rest, k1, k2⟩ := ppg_inv h1'
          obtain ⟨u, hu⟩ : ∃ u, (ppg bs).1 = u := ⟨_, rfl⟩
          rw [hu] at k1 k2 h2 h3
          rw [hu, k2]
          rw [k2] at h3
          have hd : bs.drop (vnat u).length = rest := by
            have : (vnat u ++ rest).drop (vnat u).length = rest := List.drop_left
            rwa [← k1] at this
          have hl : bs.length = (vnat u).length + rest.length := by
            have := congrArg List.length k1
            simpa using this
          have hlen : (rest.take u).length = u := by rw [List.length_take]; omega
          simp only [hd]
          refine ⟨by omega, rest.drop u, ?_, ?_⟩
          · unfold encT; rw [hlen, List.append_assoc, List.take_append_drop]; exact k1
          · unfold encT; rw [List.length_append, hlen]
/-! ### in a row -/
section
variable {α : Type} {q : List UInt8 → α × Nat × Int} {enc : α → List UInt8} {ok : α → Prop} {z : α}
theorem rstep_err {bs : List UInt8} {s : RS} (h : (rstep z q bs s).2.2 = 0) : s.2 = 0 := by
  unfold rstep at h
  split at h
  · exact h
  · rename_i h1; simpa using h1
theorem rstep_rd (hc : Cdc q enc ok) {bs rest : List UInt8} {at_ : Nat} {x : α} (hx : ok x) (h : bs.drop at_ = enc x ++ rest) : rstep z q bs (at_, 0) = (x, (at_ + (enc x).length, 0)) := by
  unfold rstep
  simp only [h, hc.rd x rest hx]
  simp
theorem drop_more {bs rest a : List UInt8} {at_ : Nat} (h : bs.drop at_ = a ++ rest) : bs.drop (at_ + a.length) = rest := by
  rw [← List.drop_drop, h, List.drop_left]
theorem rstep_inv (hc : Cdc q enc ok) {bs : List UInt8} {s : RS} (h : (rstep z q bs s).2.2 = 0) :
    ok (rstep z q bs s).1 ∧ bs.drop s.1 = enc (rstep z q bs s).1 ++ bs.drop (rstep z q bs s).2.1 ∧ (rstep z q bs s).2.1 = s.1 + (enc (rstep z q bs s).1).length := by
  have h0 := rstep_err h
  unfold rstep at h ⊢
  rw [if_neg (by simp [h0])] at h ⊢
  by_cases hq : (q (bs.drop s.1)).2.2 ≠ 0
  · rw [if_pos hq] at h; exact absurd h hq
  · rw [if_neg hq]
    obtain ⟨k1, rest, k2, k3⟩ := hc.inv _ (by simpa using hq)
    refine ⟨k1, ?_, by rw [k3]⟩
    simp only [k3]
    have := drop_more k2
    rw [this]; exact k2
end
end Go.Proofs.YtkbldndbofbkcaaGreatDoor
/- Plain: locks. -/
namespace Go.Proofs.YtkbldndbofbkcaaGreatDoor
open Go Go.RowKit
structure Lk where
  ep : Int
  sh : Bool
  hs : List ByteArray
deriving DecidableEq
def okEp (n : Int) : Int := if n < 0 ∨ 1073741824 < n then 2 else 0
def okWho (s : ByteArray) : Int := if s.data.toList = [] ∨ lvalid s.data.toList = false then 12 else 0
/-- The first error of holders; the one before the first is given. -/
def hsCk : Option ByteArray → List ByteArray → Int
  | _, [] => 0
  | p, h :: t => if okWho h ≠ 0 then okWho h else if (match p with | some q => decide (0 ≤ lncmp q h) | none => false) = true then 32 else hsCk (some h) t
def hsAt (l : List ByteArray) (i : Nat) : Int := hsCk (if i = 0 then none else l[i - 1]?) (l.drop i)
theorem hsAt_step {l : List ByteArray} {i : Nat} (h : i < l.length) : hsAt l i = if okWho l[i] ≠ 0 then okWho l[i] else if 0 < i ∧ 0 ≤ lncmp (l.getD (i - 1) ⟨#[]⟩) l[i] then 32 else hsAt l (i + 1) := by
  have h2 : l[i + 1 - 1]? = some l[i] := List.getElem?_eq_getElem (by omega)
  unfold hsAt
  rw [List.drop_eq_getElem_cons h, if_neg (show ¬ i + 1 = 0 by omega), h2]
  rcases Nat.eq_zero_or_pos i with rfl | hp
  · simp [hsCk]
  · have h1 : l[i - 1]? = some l[i - 1] := List.getElem?_eq_getElem (by omega)
    rw [if_neg (by omega), h1]
    simp [hsCk, hp, List.getD, h1]
theorem hsAt_end {l : List ByteArray} {i : Nat} (h : l.length ≤ i) : hsAt l i = 0 := by
  unfold hsAt; rw [List.drop_eq_nil_of_le h]; cases (if i = 0 then none else l[i - 1]?) <;> rfl
def lkCheck (l : Lk) : Int :=
  if okEp l.ep ≠ 0 then okEp l.ep else if 32 < l.hs.length then 9 else if hsAt l.hs 0 ≠ 0 then hsAt l.hs 0 else
  if l.sh = false ∧ 1 < l.hs.length then 10 else if l.sh = true ∧ l.hs.length = 0 then 3 else 0
def lkEnc (l : Lk) : List UInt8 := vnat l.ep.toNat ++ (encB l.sh ++ (vnat l.hs.length ++ l.hs.flatMap fun h => encT h.data.toList))
/-- n texts are read. -/
def rTs (mt : Nat) (bs : List UInt8) : Nat → RS → List (List UInt8) × RS
  | 0, s => ([], s)
  | n + 1, s => ((rTs mt bs n s).1 ++ [(rT mt bs (rTs mt bs n s).2).1], (rT mt bs (rTs mt bs n s).2).2)
theorem rTs_len (mt : Nat) (bs : List UInt8) (s : RS) : ∀ n, (rTs mt bs n s).1.length = n := by
  intro n
  induction n with
  | zero => rfl
  | succ n ih => simp [rTs, ih]
theorem rTs_rd {mt : Nat} {bs rest : List UInt8} {at_ : Nat} (l : List (List UInt8)) (hl : ∀ t ∈ l, t.length ≤ min mt 16777216) (h : bs.drop at_ = l.flatMap encT ++ rest) :
    ∀ n, n ≤ l.length → rTs mt bs n (at_, 0) = (l.take n, (at_ + ((l.take n).flatMap encT).length, 0)) := by
  intro n
  induction n with
  | zero => intro _; simp [rTs]
  | succ n ih =>
    intro hn
    have e1 : l.take (n + 1) = l.take n ++ [l[n]] := by rw [List.take_add_one, List.getElem?_eq_getElem (by omega)]; rfl
    have e2 : l.flatMap encT = (l.take n).flatMap encT ++ (encT l[n] ++ (l.drop (n + 1)).flatMap encT) := by
      have e3 : l = l.take n ++ (l[n] :: l.drop (n + 1)) := by
        rw [← List.drop_eq_getElem_cons (show n < l.length by omega), List.take_append_drop]
      have e4 := congrArg (List.flatMap encT) e3
      rw [List.flatMap_append, List.flatMap_cons] at e4
      exact e4
    have h2 : bs.drop (at_ + ((l.take n).flatMap encT).length) = encT l[n] ++ ((l.drop (n + 1)).flatMap encT ++ rest) := by
      refine drop_more (rest := encT l[n] ++ ((l.drop (n + 1)).flatMap encT ++ rest)) ?_
      rw [h, e2]; simp
    have h3 := rstep_rd (z := []) (cdcT mt) (hl l[n] (List.getElem_mem _)) h2
    simp only [rTs, ih (by omega), rT, h3, e1, List.flatMap_append, List.length_append, List.flatMap_cons, List.flatMap_nil, List.append_nil, Nat.add_assoc]
theorem rTs_inv {mt : Nat} {bs : List UInt8} {s : RS} : ∀ n, (rTs mt bs n s).2.2 = 0 →
    s.2 = 0 ∧ bs.drop s.1 = (rTs mt bs n s).1.flatMap encT ++ bs.drop (rTs mt bs n s).2.1 ∧ (rTs mt bs n s).2.1 = s.1 + ((rTs mt bs n s).1.flatMap encT).length := by
  intro n
  induction n with
  | zero => intro h; exact ⟨h, by simp [rTs], by simp [rTs]⟩
  | succ n ih =>
    intro h
    simp only [rTs] at h ⊢
    obtain ⟨k1, k2, k3⟩ := ih (rstep_err h)
    obtain ⟨_, j2, j3⟩ := rstep_inv (cdcT mt) h
    refine ⟨k1, ?_, ?_⟩
    · rw [k2, List.flatMap_append, List.append_assoc]
      congr 1
      simp only [List.flatMap_cons, List.flatMap_nil, List.append_nil]
      exact j2
    · rw [List.flatMap_append, List.length_append]
      simp only [List.flatMap_cons, List.flatMap_nil, List.append_nil]
      have : (rT mt bs (rTs mt bs n s).2).2.1 = (rTs mt bs n s).2.1 + (encT (rT mt bs (rTs mt bs n s).2).1).length := j3
      omega
def lkRd (mt : Nat) (bs : List UInt8) : Lk × RS :=
  (⟨(rN 1073741824 bs (0, 0)).1, (rB bs (rN 1073741824 bs (0, 0)).2).1,
    (rTs mt bs (rN 32 bs (rB bs (rN 1073741824 bs (0, 0)).2).2).1 (rN 32 bs (rB bs (rN 1073741824 bs (0, 0)).2).2).2).1.map str⟩,
   (rTs mt bs (rN 32 bs (rB bs (rN 1073741824 bs (0, 0)).2).2).1 (rN 32 bs (rB bs (rN 1073741824 bs (0, 0)).2).2).2).2)
def lkDec (mt : Nat) (bs : List UInt8) : Option Lk := if rClose bs (lkRd mt bs).2 = 0 ∧ lkCheck (lkRd mt bs).1 = 0 then some (lkRd mt bs).1 else none
theorem str_self (s : ByteArray) : str s.data.toList = s := rfl
theorem data_str (l : List UInt8) : (str l).data.toList = l := rfl
theorem okEp_0 {n : Int} (h : okEp n = 0) : 0 ≤ n ∧ n ≤ 1073741824 := by
  unfold okEp at h; split at h
  · cases h
  · omega
theorem lkCheck_0 {l : Lk} (h : lkCheck l = 0) : (0 ≤ l.ep ∧ l.ep ≤ 1073741824) ∧ l.hs.length ≤ 32 ∧ hsAt l.hs 0 = 0 ∧ ¬ (l.sh = false ∧ 1 < l.hs.length) ∧ ¬ (l.sh = true ∧ l.hs.length = 0) := by
  unfold lkCheck at h
  by_cases h1 : okEp l.ep ≠ 0
  · rw [if_pos h1] at h; exact absurd h h1
  rw [if_neg h1] at h
  by_cases h2 : 32 < l.hs.length
  · rw [if_pos h2] at h; cases h
  rw [if_neg h2] at h
  by_cases h3 : hsAt l.hs 0 ≠ 0
  · rw [if_pos h3] at h; exact absurd h h3
  rw [if_neg h3] at h
  by_cases h4 : l.sh = false ∧ 1 < l.hs.length
  · rw [if_pos h4] at h; cases h
  rw [if_neg h4] at h
  by_cases h5 : l.sh = true ∧ l.hs.length = 0
  · rw [if_pos h5] at h; cases h
  exact ⟨okEp_0 (by simpa using h1), by omega, by simpa using h3, h4, h5⟩
theorem len_enc {l : Lk} {h : ByteArray} (hm : h ∈ l.hs) : h.size ≤ (lkEnc l).length := by
  obtain ⟨a, b, e⟩ := List.append_of_mem hm
  unfold lkEnc
  simp only [List.length_append, e, List.flatMap_append, List.flatMap_cons, encT]
  have : h.data.toList.length = h.size := by rw [Array.length_toList]; rfl
  omega
theorem lkRd_enc {mt : Nat} {l : Lk} (hc : lkCheck l = 0) (hm : ∀ h ∈ l.hs, h.size ≤ min mt 16777216) : lkRd mt (lkEnc l) = (l, ((lkEnc l).length, 0)) := by
  obtain ⟨h1, h2, _⟩ := lkCheck_0 hc
  have hl : ∀ t ∈ l.hs.map (fun h => h.data.toList), t.length ≤ min mt 16777216 := by
    intro t ht
    obtain ⟨h, hh, rfl⟩ := List.mem_map.1 ht
    rw [Array.length_toList]; exact hm h hh
  have e1 : (rN 1073741824 (lkEnc l) (0, 0)) = (l.ep.toNat, (0 + (vnat l.ep.toNat).length, 0)) :=
    rstep_rd (cdcN _ (by decide)) (by omega) (rest := encB l.sh ++ (vnat l.hs.length ++ l.hs.flatMap fun h => encT h.data.toList)) (by simp [lkEnc])
  have d1 : (lkEnc l).drop (0 + (vnat l.ep.toNat).length) = encB l.sh ++ (vnat l.hs.length ++ l.hs.flatMap fun h => encT h.data.toList) := drop_more (by simp [lkEnc])
  have e2 : rB (lkEnc l) (0 + (vnat l.ep.toNat).length, 0) = (l.sh, (0 + (vnat l.ep.toNat).length + (encB l.sh).length, 0)) := rstep_rd cdcB trivial d1
  have d2 := drop_more d1
  have e3 : rN 32 (lkEnc l) (0 + (vnat l.ep.toNat).length + (encB l.sh).length, 0) = (l.hs.length, (0 + (vnat l.ep.toNat).length + (encB l.sh).length + (vnat l.hs.length).length, 0)) := rstep_rd (cdcN 32 (by decide)) h2 d2
  have d3 := drop_more d2
  have e4 := rTs_rd (rest := []) (l.hs.map (fun h => h.data.toList)) hl (by rw [d3]; simp [List.flatMap_map]) l.hs.length (by simp)
  have e5 : (l.hs.map (fun h => h.data.toList)).take l.hs.length = l.hs.map (fun h => h.data.toList) := List.take_of_length_le (by simp)
  rw [e5] at e4
  unfold lkRd
  simp only [e1, e2, e3, e4]
  have e6 : (l.hs.map (fun h => h.data.toList)).map str = l.hs := by
    rw [List.map_map]; exact (List.map_congr_left (fun a _ => str_self a)).trans (List.map_id _)
  have e7 : ((l.ep.toNat : Nat) : Int) = l.ep := by omega
  rw [e6, e7]
  refine Prod.ext rfl (Prod.ext ?_ rfl)
  simp only [lkEnc, List.length_append, List.flatMap_map]
  omega
theorem lkRd_inv {mt : Nat} {bs : List UInt8} (h : rClose bs (lkRd mt bs).2 = 0) : bs = lkEnc (lkRd mt bs).1 := by
  unfold rClose at h
  have h0 : (lkRd mt bs).2.2 = 0 ∧ bs.length ≤ (lkRd mt bs).2.1 := by
    split at h
    · cases h
    · rename_i hc
      refine ⟨h, ?_⟩
      rcases Nat.lt_or_ge (lkRd mt bs).2.1 bs.length with h1 | h1
      · exact absurd ⟨h, h1⟩ hc
      · exact h1
  obtain ⟨h1, h2⟩ := h0
  unfold lkRd at h1 h2 ⊢
  simp only at h1 h2 ⊢
  obtain ⟨k1, k2, k3⟩ := rTs_inv _ h1
  obtain ⟨_, j2, j3⟩ := rstep_inv (cdcN 32 (by decide)) k1
  have i0 := rstep_err k1
  obtain ⟨_, i2, i3⟩ := rstep_inv cdcB i0
  have m0 := rstep_err i0
  obtain ⟨_, m2, m3⟩ := rstep_inv (cdcN 1073741824 (by decide)) m0
  rw [List.drop_eq_nil_of_le h2] at k2
  simp only [List.drop_zero] at m2
  unfold lkEnc
  simp only [List.length_map, rTs_len, List.flatMap_map, data_str]
  refine m2.trans ?_
  show _ = vnat ((((rN 1073741824 bs (0, 0)).1 : Nat) : Int).toNat) ++ _
  rw [Int.toNat_natCast]
  rw [List.append_nil] at k2
  refine congrArg (fun z => vnat (rN 1073741824 bs (0, 0)).1 ++ z) (i2.trans (congrArg (fun z => encB (rB bs (rN 1073741824 bs (0, 0)).2).1 ++ z) (j2.trans (congrArg (fun z => vnat (rN 32 bs (rB bs (rN 1073741824 bs (0, 0)).2).2).1 ++ z) k2))))
theorem lkDec_iff {mt : Nat} {bs : List UInt8} {l : Lk} (h1 : bs.length ≤ mt) (h2 : bs.length ≤ 16777216) : lkDec mt bs = some l ↔ lkCheck l = 0 ∧ bs = lkEnc l := by
  unfold lkDec
  constructor
  · intro h
    split at h
    · rename_i hc
      injection h with h
      rw [← h]
      exact ⟨hc.2, lkRd_inv hc.1⟩
    · cases h
  · rintro ⟨hc, rfl⟩
    have := lkRd_enc (mt := mt) hc (fun h hm => by have := len_enc hm; omega)
    rw [this]
    simp [rClose, hc]
theorem lkDec_eq {m1 m2 : Nat} {bs : List UInt8} (h1 : bs.length ≤ m1) (h2 : bs.length ≤ m2) (h : bs.length ≤ 16777216) : lkDec m1 bs = lkDec m2 bs := by
  cases e : lkDec m1 bs with
  | some l => exact ((lkDec_iff h2 h).2 ((lkDec_iff h1 h).1 e)).symm
  | none =>
    cases e2 : lkDec m2 bs with
    | none => rfl
    | some l => rw [(lkDec_iff h1 h).2 ((lkDec_iff h2 h).1 e2)] at e; cases e
theorem lkDec_check {mt : Nat} {bs : List UInt8} {l : Lk} (h : lkDec mt bs = some l) : lkCheck l = 0 := by
  unfold lkDec at h
  split at h
  · rename_i hc; injection h with h; rw [← h]; exact hc.2
  · cases h
/-! ### valid names are short -/
theorem pts_short (k : Nat) : ∀ a r, (pts k a r).all (fun p => p.e == 0) = true → r.length + 1 ≤ 7 * k := by
  induction k with
  | zero => intro a r h; simp [pts] at h
  | succ k ih =>
    intro a r h
    simp only [pts] at h
    split at h
    · rename_i he; simp at h; exact absurd h he
    · rename_i he
      have he' : perr r = 0 := by simpa using he
      have hd : dlen r ≤ 6 := by
        unfold perr at he'
        repeat' split at he'
        all_goals (first | (cases he'; done) | omega)
      simp only [List.all_cons, Bool.and_eq_true] at h
      have h2 := h.2
      have hl : (r.drop (dlen r)).length = r.length - dlen r := by simp
      cases hr : r.drop (dlen r) with
      | nil => rw [hr] at hl; simp at hl; omega
      | cons c r' =>
        rw [hr] at h2 hl
        simp only at h2
        split at h2
        · simp at h2
        · have := ih _ _ h2
          simp at hl; omega
theorem lvalid_short {bs : List UInt8} (h : lvalid bs = true) : bs.length ≤ 55 := by
  unfold lvalid parts at h
  split at h
  · rename_i h0; subst h0; simp
  · have := pts_short 8 0 bs h; omega
end Go.Proofs.YtkbldndbofbkcaaGreatDoor
/- lock: checkEpoch, checkHolder, Check. -/
namespace Go.Proofs.YtkbldndbofbkcaaGreatDoor
open Go Go.RowKit
attribute [local irreducible] WL CW DW Ret RW
def sv (l : List ByteArray) : List Value := l.map Value.string
@[simp] theorem sv_length (l : List ByteArray) : (sv l).length = l.length := by simp [sv]
theorem sv_snoc (l : List ByteArray) (s : ByteArray) : sv (l ++ [s]) = sv l ++ [.string s] := by simp [sv]
theorem sv_at {w : World} {a : Option Addr} {n : Nat} {l : List ByteArray} (h : Rd w a n 1 (sv l)) {i : Nat} (hi : i < l.length) : ∃ b off, a = some ⟨b, off, none⟩ ∧ ∀ j (hj : j < l.length), w.cell? ⟨b, off + j * 1, none⟩ = some (.string l[j]) := by
  obtain ⟨b, off, e, hc⟩ := h.2 (by intro hq; simp [sv] at hq; subst hq; simp at hi)
  exact ⟨b, off, e, fun j hj => by rw [Nat.mul_one]; exact hc j _ (by simp [sv, hj])⟩
def lkV (ep : Int) (sh : Bool) (a : Option Addr) (n c : Nat) : List Value := [.int .i64 ep, .bool sh, .slice a n c]
@[simp] theorem lkV_length (ep : Int) (sh : Bool) (a : Option Addr) (n c : Nat) : (lkV ep sh a n c).length = 3 := rfl
theorem checkEpoch_ok (n : Int) (w0 : World) : Ret Tryz.prog 88 #[.int .i64 n] w0 fun v w' => v = .int .i64 (okEp n) ∧ Fm [] w0 w' := by
  have hs := St.init w0 []
  refine Ret_enter Tryz.func88 rfl Tryz.ntmps88 (by simp) ?_
  refine CW_seq (fun K1 hK1 => ?_)
  refine CW_region ?_
  refine asp (.int _ _) rfl ?_
  refine WL_nil ?_
  refine hK1 _ _ ?_
  refine CW_seq (fun K2 hK2 => ?_)
  refine CW_seq (fun K3 hK3 => ?_)
  refine CW_region ?_
  refine mvp (.int _ _) rfl ?_
  refine lssW rfl rfl ?_
  refine mvp (.bool _) rfl ?_
  refine WL_g (g := 5) rfl (by decide) rfl (fun hg5 => ?_) (fun hg5 => ?_)
  · skip
    refine mvp (.int _ _) rfl ?_
    refine WL_gy (g := 5) rfl (by decide) rfl ?_
    refine gtrW rfl rfl ?_
    first | refine pkT rfl rfl ?_ | refine pkF rfl rfl ?_
    refine WL_nil ?_
    refine hK3 _ _ ?_
    refine CW_cond rfl (fun hc8 => ?_) (fun hc8 => ?_)
    · skip
      refine CW_seq (fun K4 hK4 => ?_)
      refine CW_region ?_
      refine asp (.int _ _) rfl ?_
      refine WL_nil ?_
      refine hK4 _ _ ?_
      refine CW_ret ?_
      repeat (first | (with_reducible apply thenF_ret) | (with_reducible apply blockF_ret))
      try simp only [thenF, blockF, reduceIte]
      refine Post_r Tryz.results88 (.tmp rfl .nil) ?_
      try simp only [ev_tmp, ev_const, upd_ap, Nat.reduceLT, Nat.reduceEqDiff, reduceIte]
      refine ⟨?_, hs.fm⟩
      unfold okEp
      rw [if_pos (by simp_all <;> omega)]
    · skip
      refine CW_skip ?_
      refine hK2 _ _ ?_
      refine CW_seq (fun K5 hK5 => ?_)
      refine CW_region ?_
      refine asp (.int _ _) rfl ?_
      refine WL_nil ?_
      refine hK5 _ _ ?_
      refine CW_ret ?_
      repeat (first | (with_reducible apply thenF_ret) | (with_reducible apply blockF_ret))
      try simp only [thenF, blockF, reduceIte]
      refine Post_r Tryz.results88 (.tmp rfl .nil) ?_
      try simp only [ev_tmp, ev_const, upd_ap, Nat.reduceLT, Nat.reduceEqDiff, reduceIte]
      refine ⟨?_, hs.fm⟩
      unfold okEp
      rw [if_neg (by simp_all <;> omega)]
  · skip
    refine WL_gn (g := 5) rfl (by decide) rfl ?_
    first | refine pkT rfl rfl ?_ | refine pkF rfl rfl ?_
    refine WL_nil ?_
    refine hK3 _ _ ?_
    refine CW_condT rfl rfl ?_
    refine CW_seq (fun K6 hK6 => ?_)
    refine CW_region ?_
    refine asp (.int _ _) rfl ?_
    refine WL_nil ?_
    refine hK6 _ _ ?_
    refine CW_ret ?_
    repeat (first | (with_reducible apply thenF_ret) | (with_reducible apply blockF_ret))
    try simp only [thenF, blockF, reduceIte]
    refine Post_r Tryz.results88 (.tmp rfl .nil) ?_
    try simp only [ev_tmp, ev_const, upd_ap, Nat.reduceLT, Nat.reduceEqDiff, reduceIte]
    refine ⟨?_, hs.fm⟩
    unfold okEp
    rw [if_pos (by simp_all <;> omega)]
theorem checkHolder_ok (s : ByteArray) (w0 : World) (hsz : s.size ≤ 9223372036854775807) : Ret Tryz.prog 89 #[.string s] w0 fun v w' => v = .int .i64 (okWho s) ∧ Fm [] w0 w' := by
  have hs := St.init w0 []
  refine Ret_enter Tryz.func89 rfl Tryz.ntmps89 (by simp) ?_
  refine CW_seq (fun K1 hK1 => ?_)
  refine CW_region ?_
  refine asp (.int _ _) rfl ?_
  refine WL_nil ?_
  refine hK1 _ _ ?_
  refine CW_seq (fun K2 hK2 => ?_)
  refine CW_seq (fun K3 hK3 => ?_)
  refine CW_region ?_
  refine mvp (.string _) rfl ?_
  refine eqS rfl rfl ?_
  refine mvp (.bool _) rfl ?_
  refine WL_g (g := 5) rfl (by decide) rfl (fun hg5 => ?_) (fun hg5 => ?_)
  · skip
    refine mvp (.string _) rfl ?_
    refine WL_gy (g := 5) rfl (by decide) rfl ?_
    refine cll (Valid_ok s _ hsz) ?_
    rintro _ w ⟨rfl, hf⟩
    replace hs := hs.call hf
    refine WL_gy (g := 5) rfl (by decide) rfl ?_
    refine notW rfl ?_
    first | refine pkT rfl rfl ?_ | refine pkF rfl rfl ?_
    refine WL_nil ?_
    refine hK3 _ _ ?_
    refine CW_cond rfl (fun hc9 => ?_) (fun hc9 => ?_)
    · skip
      refine CW_seq (fun K4 hK4 => ?_)
      refine CW_region ?_
      refine asp (.int _ _) rfl ?_
      refine WL_nil ?_
      refine hK4 _ _ ?_
      refine CW_ret ?_
      repeat (first | (with_reducible apply thenF_ret) | (with_reducible apply blockF_ret))
      try simp only [thenF, blockF, reduceIte]
      refine Post_r Tryz.results89 (.tmp rfl .nil) ?_
      try simp only [ev_tmp, ev_const, upd_ap, Nat.reduceLT, Nat.reduceEqDiff, reduceIte]
      refine ⟨?_, hs.fm⟩
      unfold okWho
      rw [if_pos (by simp_all)]
    · skip
      refine CW_skip ?_
      refine hK2 _ _ ?_
      refine CW_seq (fun K5 hK5 => ?_)
      refine CW_region ?_
      refine asp (.int _ _) rfl ?_
      refine WL_nil ?_
      refine hK5 _ _ ?_
      refine CW_ret ?_
      repeat (first | (with_reducible apply thenF_ret) | (with_reducible apply blockF_ret))
      try simp only [thenF, blockF, reduceIte]
      refine Post_r Tryz.results89 (.tmp rfl .nil) ?_
      try simp only [ev_tmp, ev_const, upd_ap, Nat.reduceLT, Nat.reduceEqDiff, reduceIte]
      refine ⟨?_, hs.fm⟩
      unfold okWho
      rw [if_neg (by simp_all)]
  · skip
    refine WL_gn (g := 5) rfl (by decide) rfl ?_
    refine WL_gn (g := 5) rfl (by decide) rfl ?_
    first | refine pkT rfl rfl ?_ | refine pkF rfl rfl ?_
    refine WL_nil ?_
    refine hK3 _ _ ?_
    refine CW_condT rfl rfl ?_
    refine CW_seq (fun K6 hK6 => ?_)
    refine CW_region ?_
    refine asp (.int _ _) rfl ?_
    refine WL_nil ?_
    refine hK6 _ _ ?_
    refine CW_ret ?_
    repeat (first | (with_reducible apply thenF_ret) | (with_reducible apply blockF_ret))
    try simp only [thenF, blockF, reduceIte]
    refine Post_r Tryz.results89 (.tmp rfl .nil) ?_
    try simp only [ev_tmp, ev_const, upd_ap, Nat.reduceLT, Nat.reduceEqDiff, reduceIte]
    refine ⟨?_, hs.fm⟩
    unfold okWho
    rw [if_pos (by simp_all)]
theorem LCheck_ok (l : Lk) (a : Option Addr) (n c : Nat) (w0 : World) (hr : Rd w0 a n 1 (sv l.hs)) (hn : n = l.hs.length) (hsz : ∀ h ∈ l.hs, h.size ≤ 9223372036854775807) :
    Ret Tryz.prog 29 #[.agg (lkV l.ep l.sh a n c).toArray] w0 fun v w' => v = .int .i64 (lkCheck l) ∧ Fm [] w0 w' := by
  have hs := St.init w0 []
  refine Ret_enter Tryz.func29 rfl Tryz.ntmps29 (by simp) ?_
  refine CW_seq (fun K1 hK1 => ?_)
  refine CW_region ?_
  refine bx (.agg (lkV l.ep l.sh a n c).toArray) (vl := lkV l.ep l.sh a n c) hs rfl rfl ?_
  intro w g1 hs hg1 hf1
  unfold lkV at hs
  refine asp (.int _ _) rfl ?_
  refine WL_nil ?_
  refine hK1 _ _ ?_
  refine CW_seq (fun K2 hK2 => ?_)
  refine CW_seq (fun K3 hK3 => ?_)
  refine CW_region ?_
  refine fad rfl ?_
  refine ld hs rfl rfl ?_
  refine cll (checkEpoch_ok l.ep _) ?_
  rintro _ w ⟨rfl, hf⟩
  replace hs := hs.call hf
  refine asp (.int _ _) rfl ?_
  refine WL_nil ?_
  refine hK3 _ _ ?_
  refine CW_seq (fun K4 hK4 => ?_)
  refine CW_region ?_
  refine mvp (.int _ _) rfl ?_
  refine neqW rfl rfl ?_
  refine WL_nil ?_
  refine hK4 _ _ ?_
  refine CW_cond rfl (fun hc11 => ?_) (fun hc11 => ?_)
  · skip
    refine CW_seq (fun K5 hK5 => ?_)
    refine CW_region ?_
    refine mvp (.int _ _) rfl ?_
    refine asp (.int _ _) rfl ?_
    refine WL_nil ?_
    refine hK5 _ _ ?_
    refine CW_ret ?_
    repeat (first | (with_reducible apply thenF_ret) | (with_reducible apply blockF_ret))
    try simp only [thenF, blockF, reduceIte]
    refine Post_r Tryz.results29 (.tmp rfl .nil) ?_
    try simp only [ev_tmp, ev_const, upd_ap, Nat.reduceLT, Nat.reduceEqDiff, reduceIte]
    refine ⟨?_, hs.fm⟩
    unfold lkCheck
    rw [if_pos (by simpa using hc11)]
  · skip
    refine CW_skip ?_
    refine hK2 _ _ ?_
    refine CW_seq (fun K6 hK6 => ?_)
    refine CW_seq (fun K7 hK7 => ?_)
    refine CW_region ?_
    refine fad rfl ?_
    refine ld hs rfl rfl ?_
    refine lenW rfl ?_
    refine gtrW rfl rfl ?_
    refine WL_nil ?_
    refine hK7 _ _ ?_
    refine CW_cond rfl (fun hc16 => ?_) (fun hc16 => ?_)
    · skip
      refine CW_seq (fun K8 hK8 => ?_)
      refine CW_region ?_
      refine asp (.int _ _) rfl ?_
      refine WL_nil ?_
      refine hK8 _ _ ?_
      refine CW_ret ?_
      repeat (first | (with_reducible apply thenF_ret) | (with_reducible apply blockF_ret))
      try simp only [thenF, blockF, reduceIte]
      refine Post_r Tryz.results29 (.tmp rfl .nil) ?_
      try simp only [ev_tmp, ev_const, upd_ap, Nat.reduceLT, Nat.reduceEqDiff, reduceIte]
      refine ⟨?_, hs.fm⟩
      have h16 : 32 < l.hs.length := by simp at hc16; omega
      unfold lkCheck
      rw [if_neg (by simpa using hc11), if_pos h16]
    · skip
      refine CW_skip ?_
      refine hK6 _ _ ?_
      refine CW_seq (fun K9 hK9 => ?_)
      refine CW_seq (fun K10 hK10 => ?_)
      refine CW_region ?_
      refine fad rfl ?_
      refine ld hs rfl rfl ?_
      refine lenW rfl ?_
      refine mvp (.int _ _) rfl ?_
      refine WL_nil ?_
      refine hK10 _ _ ?_
      refine CW_block ?_
      refine CW_loop (fun k f w' => ∃ i : Nat, k = n - i ∧ i ≤ n ∧ f 1 = .pointer (some ⟨g1, 0, none⟩) ∧ f 18 = .slice a n c ∧ f 19 = .int .i64 n ∧ f 20 = .int .i64 i ∧ hsAt l.hs 0 = hsAt l.hs i ∧ St w0 [] w' [eB g1 true (Blk 24 [.int .i64 l.ep, .bool l.sh, .slice a n c])]) n ?_ ?_
      · exact ⟨0, by omega, by omega, rfl, rfl, rfl, rfl, rfl, hs⟩
      · rintro k f w1 ⟨i, rfl, hi, e1, e18, e19, e20, hh, hs⟩
        refine CW_kn (i := 1) e1 (CW_kn (i := 18) e18 (CW_kn (i := 19) e19 (CW_kn (i := 20) e20 ?_)))
        refine CW_seq (fun K11 hK11 => ?_)
        refine CW_region ?_
        refine lssW rfl rfl ?_
        refine WL_nil ?_
        refine hK11 _ _ ?_
        refine CW_seq (fun K12 hK12 => ?_)
        refine CW_cond rfl (fun hc21 => ?_) (fun hc21 => ?_)
        · have hi2 : i < n := by simpa using hc21
          have hi3 : i < l.hs.length := by omega
          have h32 : n ≤ 32 := by simp at hc16; omega
          obtain ⟨b, off, rfl, hcell⟩ := sv_at (hr.fm hs.fm) hi3
          have hstep := hsAt_step hi3
          have hsi := hsz l.hs[i] (List.getElem_mem _)
          refine CW_skip ?_
          refine hK12 _ _ ?_
          refine CW_seq (fun K13 hK13 => ?_)
          refine CW_block ?_
          refine CW_seq (fun K14 hK14 => ?_)
          refine CW_region ?_
          refine mvp (.int _ _) rfl ?_
          refine iad rfl rfl (by omega) ?_
          refine ldc (v := .string l.hs[i]) rfl (by simpa using hcell i hi3) ?_
          refine asp (.int _ _) rfl ?_
          refine asp (.string _) rfl ?_
          refine WL_nil ?_
          refine hK14 _ _ ?_
          refine CW_seq (fun K15 hK15 => ?_)
          refine CW_seq (fun K16 hK16 => ?_)
          refine CW_region ?_
          refine mvp (.string _) rfl ?_
          refine cll (checkHolder_ok l.hs[i] _ hsi) ?_
          rintro _ w ⟨rfl, hf⟩
          replace hs := hs.call hf
          refine asp (.int _ _) rfl ?_
          refine WL_nil ?_
          refine hK16 _ _ ?_
          refine CW_seq (fun K17 hK17 => ?_)
          refine CW_region ?_
          refine mvp (.int _ _) rfl ?_
          refine neqW rfl rfl ?_
          refine WL_nil ?_
          refine hK17 _ _ ?_
          refine CW_cond rfl (fun hc28 => ?_) (fun hc28 => ?_)
          · skip
            refine CW_seq (fun K18 hK18 => ?_)
            refine CW_region ?_
            refine mvp (.int _ _) rfl ?_
            refine asp (.int _ _) rfl ?_
            refine WL_nil ?_
            refine hK18 _ _ ?_
            refine CW_ret ?_
            repeat (first | (with_reducible apply thenF_ret) | (with_reducible apply blockF_ret))
            try simp only [thenF, blockF, reduceIte]
            refine Post_r Tryz.results29 (.tmp rfl .nil) ?_
            try simp only [ev_tmp, ev_const, upd_ap, Nat.reduceLT, Nat.reduceEqDiff, reduceIte]
            refine ⟨?_, hs.fm⟩
            have h16 : ¬ 32 < l.hs.length := by simp at hc16; omega
            have h28 : okWho l.hs[i] ≠ 0 := by simpa using hc28
            have e : hsAt l.hs 0 = okWho l.hs[i] := by rw [hh, hstep, if_pos h28]
            unfold lkCheck
            rw [if_neg (by simpa using hc11), if_neg h16, e, if_pos h28]
          · skip
            refine CW_skip ?_
            refine hK15 _ _ ?_
            refine CW_seq (fun K19 hK19 => ?_)
            refine CW_region ?_
            refine mvp (.int _ _) rfl ?_
            refine gtrW rfl rfl ?_
            refine mvp (.bool _) rfl ?_
            refine WL_g (g := 32) rfl (by decide) rfl (fun hg32 => ?_) (fun hg32 => ?_)
            · skip
              have hi5 : 0 < i := by simp at hg32; omega
              refine fad rfl ?_
              refine WL_gy (g := 32) rfl (by decide) rfl ?_
              refine ld hs rfl rfl ?_
              refine WL_gy (g := 32) rfl (by decide) rfl ?_
              refine mvp (.int _ _) rfl ?_
              refine WL_gy (g := 32) rfl (by decide) rfl ?_
              first | refine subI rfl rfl (by omega) ?_ | refine subW rfl rfl ?_
              refine WL_gy (g := 32) rfl (by decide) rfl ?_
              refine iad rfl rfl (by omega) ?_
              refine WL_gy (g := 32) rfl (by decide) rfl ?_
              have hi4 : i - 1 < l.hs.length := by omega
              refine ldc (v := .string (l.hs.getD (i - 1) ⟨#[]⟩)) rfl ?_ ?_
              · have := (hr.fm hs.fm)
                obtain ⟨b2, off2, e2, hcell2⟩ := sv_at this hi4
                injection e2 with e2; injection e2 with e2 e3; subst e2 e3
                have e4 : ((i : Int) - 1).toNat = i - 1 := by omega
                rw [e4, hcell2 (i - 1) hi4]
                simp [List.getD, hi4]
              refine WL_gy (g := 32) rfl (by decide) rfl ?_
              refine mvp (.string _) rfl ?_
              refine WL_gy (g := 32) rfl (by decide) rfl ?_
              refine cll (LCompare_ok (l.hs.getD (i - 1) ⟨#[]⟩) l.hs[i] _ (by rw [show l.hs.getD (i - 1) ⟨#[]⟩ = l.hs[i - 1] from by simp [List.getD, hi4]]; exact hsz _ (List.getElem_mem _)) hsi) ?_
              rintro _ w ⟨rfl, hf⟩
              replace hs := hs.call hf
              refine WL_gy (g := 32) rfl (by decide) rfl ?_
              refine geqW rfl rfl ?_
              first | refine pkT rfl rfl ?_ | refine pkF rfl rfl ?_
              refine WL_nil ?_
              refine hK19 _ _ ?_
              refine CW_cond rfl (fun hc42 => ?_) (fun hc42 => ?_)
              · skip
                refine CW_seq (fun K20 hK20 => ?_)
                refine CW_region ?_
                refine asp (.int _ _) rfl ?_
                refine WL_nil ?_
                refine hK20 _ _ ?_
                refine CW_ret ?_
                repeat (first | (with_reducible apply thenF_ret) | (with_reducible apply blockF_ret))
                try simp only [thenF, blockF, reduceIte]
                refine Post_r Tryz.results29 (.tmp rfl .nil) ?_
                try simp only [ev_tmp, ev_const, upd_ap, Nat.reduceLT, Nat.reduceEqDiff, reduceIte]
                refine ⟨?_, hs.fm⟩
                have h16 : ¬ 32 < l.hs.length := by simp at hc16; omega
                have h28 : ¬ okWho l.hs[i] ≠ 0 := by simpa using hc28
                have e : hsAt l.hs 0 = 32 := by
                  rw [hh, hstep, if_neg h28, if_pos]
                  simp at hg32 hc42
                  exact ⟨by omega, hc42⟩
                unfold lkCheck
                rw [if_neg (by simpa using hc11), if_neg h16, e, if_pos (by simp)]
              · skip
                refine CW_skip ?_
                refine hK13 _ _ ?_
                refine CW_region ?_
                first | refine addI rfl rfl (by omega) ?_ | refine addW rfl rfl ?_
                refine mvp (.int _ _) rfl ?_
                refine WL_nil ?_
                skip
                refine ⟨n - (i + 1), by omega, i + 1, rfl, by omega, rfl, rfl, rfl, rfl, ?_, hs⟩
                rw [hh, hstep, if_neg (by simpa using hc28)]
                rw [if_neg]
                intro hq
                simp_all <;> omega
            · skip
              refine WL_gn (g := 32) rfl (by decide) rfl ?_
              refine WL_gn (g := 32) rfl (by decide) rfl ?_
              refine WL_gn (g := 32) rfl (by decide) rfl ?_
              refine WL_gn (g := 32) rfl (by decide) rfl ?_
              refine WL_gn (g := 32) rfl (by decide) rfl ?_
              refine WL_gn (g := 32) rfl (by decide) rfl ?_
              refine WL_gn (g := 32) rfl (by decide) rfl ?_
              refine WL_gn (g := 32) rfl (by decide) rfl ?_
              first | refine pkT rfl rfl ?_ | refine pkF rfl rfl ?_
              refine WL_nil ?_
              refine hK19 _ _ ?_
              refine CW_condF rfl rfl ?_
              refine CW_skip ?_
              refine hK13 _ _ ?_
              refine CW_region ?_
              first | refine addI rfl rfl (by omega) ?_ | refine addW rfl rfl ?_
              refine mvp (.int _ _) rfl ?_
              refine WL_nil ?_
              skip
              refine ⟨n - (i + 1), by omega, i + 1, rfl, by omega, rfl, rfl, rfl, rfl, ?_, hs⟩
              rw [hh, hstep, if_neg (by simpa using hc28)]
              rw [if_neg]
              intro hq
              simp_all <;> omega
        · skip
          refine CW_exit ?_
          refine hK9 _ _ ?_
          refine CW_seq (fun K21 hK21 => ?_)
          refine CW_seq (fun K22 hK22 => ?_)
          refine CW_region ?_
          refine fad rfl ?_
          refine ld hs rfl rfl ?_
          refine notW rfl ?_
          refine mvp (.bool _) rfl ?_
          refine WL_g (g := 47) rfl (by decide) rfl (fun hg47 => ?_) (fun hg47 => ?_)
          · skip
            refine fad rfl ?_
            refine WL_gy (g := 47) rfl (by decide) rfl ?_
            refine ld hs rfl rfl ?_
            refine WL_gy (g := 47) rfl (by decide) rfl ?_
            refine lenW rfl ?_
            refine WL_gy (g := 47) rfl (by decide) rfl ?_
            refine gtrW rfl rfl ?_
            first | refine pkT rfl rfl ?_ | refine pkF rfl rfl ?_
            refine WL_nil ?_
            refine hK22 _ _ ?_
            refine CW_cond rfl (fun hc52 => ?_) (fun hc52 => ?_)
            · skip
              refine CW_seq (fun K23 hK23 => ?_)
              refine CW_region ?_
              refine asp (.int _ _) rfl ?_
              refine WL_nil ?_
              refine hK23 _ _ ?_
              refine CW_ret ?_
              repeat (first | (with_reducible apply thenF_ret) | (with_reducible apply blockF_ret))
              try simp only [thenF, blockF, reduceIte]
              refine Post_r Tryz.results29 (.tmp rfl .nil) ?_
              try simp only [ev_tmp, ev_const, upd_ap, Nat.reduceLT, Nat.reduceEqDiff, reduceIte]
              refine ⟨?_, hs.fm⟩
              have h16 : ¬ 32 < l.hs.length := by simp at hc16; omega
              have e : hsAt l.hs 0 = 0 := by rw [hh, hsAt_end (by simp at hc21; omega)]
              unfold lkCheck
              rw [if_neg (by simpa using hc11), if_neg h16, e, if_neg (by simp), if_pos]
              simp at hg47 hc52
              exact ⟨hg47, by omega⟩
            · skip
              refine CW_skip ?_
              refine hK21 _ _ ?_
              refine CW_seq (fun K24 hK24 => ?_)
              refine CW_seq (fun K25 hK25 => ?_)
              refine CW_region ?_
              refine fad rfl ?_
              refine ld hs rfl rfl ?_
              refine mvp (.bool _) rfl ?_
              refine WL_g (g := 55) rfl (by decide) rfl (fun hg55 => ?_) (fun hg55 => ?_)
              · skip
                refine fad rfl ?_
                refine WL_gy (g := 55) rfl (by decide) rfl ?_
                refine ld hs rfl rfl ?_
                refine WL_gy (g := 55) rfl (by decide) rfl ?_
                refine lenW rfl ?_
                refine WL_gy (g := 55) rfl (by decide) rfl ?_
                refine eqlW rfl rfl ?_
                first | refine pkT rfl rfl ?_ | refine pkF rfl rfl ?_
                refine WL_nil ?_
                refine hK25 _ _ ?_
                refine CW_cond rfl (fun hc60 => ?_) (fun hc60 => ?_)
                · skip
                  refine CW_seq (fun K26 hK26 => ?_)
                  refine CW_region ?_
                  refine asp (.int _ _) rfl ?_
                  refine WL_nil ?_
                  refine hK26 _ _ ?_
                  refine CW_ret ?_
                  repeat (first | (with_reducible apply thenF_ret) | (with_reducible apply blockF_ret))
                  try simp only [thenF, blockF, reduceIte]
                  refine Post_r Tryz.results29 (.tmp rfl .nil) ?_
                  try simp only [ev_tmp, ev_const, upd_ap, Nat.reduceLT, Nat.reduceEqDiff, reduceIte]
                  refine ⟨?_, hs.fm⟩
                  have h16 : ¬ 32 < l.hs.length := by simp at hc16; omega
                  have e : hsAt l.hs 0 = 0 := by rw [hh, hsAt_end (by simp at hc21; omega)]
                  unfold lkCheck
                  rw [if_neg (by simpa using hc11), if_neg h16, e, if_neg (by simp), if_neg, if_pos]
                  · simp at hg55 hc60
                    exact ⟨hg55, by omega⟩
                  · intro hq
                    have h55 : l.sh = true := by simpa using hg55
                    rw [hq.1] at h55; cases h55
                · skip
                  refine CW_skip ?_
                  refine hK24 _ _ ?_
                  refine CW_seq (fun K27 hK27 => ?_)
                  refine CW_region ?_
                  refine asp (.int _ _) rfl ?_
                  refine WL_nil ?_
                  refine hK27 _ _ ?_
                  refine CW_ret ?_
                  repeat (first | (with_reducible apply thenF_ret) | (with_reducible apply blockF_ret))
                  try simp only [thenF, blockF, reduceIte]
                  refine Post_r Tryz.results29 (.tmp rfl .nil) ?_
                  try simp only [ev_tmp, ev_const, upd_ap, Nat.reduceLT, Nat.reduceEqDiff, reduceIte]
                  refine ⟨?_, hs.fm⟩
                  have h16 : ¬ 32 < l.hs.length := by simp at hc16; omega
                  have e : hsAt l.hs 0 = 0 := by rw [hh, hsAt_end (by simp at hc21; omega)]
                  unfold lkCheck
                  rw [if_neg (by simpa using hc11), if_neg h16, e, if_neg (by simp), if_neg, if_neg]
                  all_goals
                    clear hs hr hh
                    rintro ⟨q1, q2⟩
                    simp_all <;> omega
              · skip
                refine WL_gn (g := 55) rfl (by decide) rfl ?_
                refine WL_gn (g := 55) rfl (by decide) rfl ?_
                refine WL_gn (g := 55) rfl (by decide) rfl ?_
                first | refine pkT rfl rfl ?_ | refine pkF rfl rfl ?_
                refine WL_nil ?_
                refine hK25 _ _ ?_
                refine CW_condF rfl rfl ?_
                refine CW_skip ?_
                refine hK24 _ _ ?_
                refine CW_seq (fun K28 hK28 => ?_)
                refine CW_region ?_
                refine asp (.int _ _) rfl ?_
                refine WL_nil ?_
                refine hK28 _ _ ?_
                refine CW_ret ?_
                repeat (first | (with_reducible apply thenF_ret) | (with_reducible apply blockF_ret))
                try simp only [thenF, blockF, reduceIte]
                refine Post_r Tryz.results29 (.tmp rfl .nil) ?_
                try simp only [ev_tmp, ev_const, upd_ap, Nat.reduceLT, Nat.reduceEqDiff, reduceIte]
                refine ⟨?_, hs.fm⟩
                have h16 : ¬ 32 < l.hs.length := by simp at hc16; omega
                have e : hsAt l.hs 0 = 0 := by rw [hh, hsAt_end (by simp at hc21; omega)]
                unfold lkCheck
                rw [if_neg (by simpa using hc11), if_neg h16, e, if_neg (by simp), if_neg, if_neg]
                all_goals
                  clear hs hr hh
                  rintro ⟨q1, q2⟩
                  simp_all <;> omega
          · skip
            refine WL_gn (g := 47) rfl (by decide) rfl ?_
            refine WL_gn (g := 47) rfl (by decide) rfl ?_
            refine WL_gn (g := 47) rfl (by decide) rfl ?_
            first | refine pkT rfl rfl ?_ | refine pkF rfl rfl ?_
            refine WL_nil ?_
            refine hK22 _ _ ?_
            refine CW_condF rfl rfl ?_
            refine CW_skip ?_
            refine hK21 _ _ ?_
            refine CW_seq (fun K29 hK29 => ?_)
            refine CW_seq (fun K30 hK30 => ?_)
            refine CW_region ?_
            refine fad rfl ?_
            refine ld hs rfl rfl ?_
            refine mvp (.bool _) rfl ?_
            refine WL_g (g := 55) rfl (by decide) rfl (fun hg55 => ?_) (fun hg55 => ?_)
            · skip
              refine fad rfl ?_
              refine WL_gy (g := 55) rfl (by decide) rfl ?_
              refine ld hs rfl rfl ?_
              refine WL_gy (g := 55) rfl (by decide) rfl ?_
              refine lenW rfl ?_
              refine WL_gy (g := 55) rfl (by decide) rfl ?_
              refine eqlW rfl rfl ?_
              first | refine pkT rfl rfl ?_ | refine pkF rfl rfl ?_
              refine WL_nil ?_
              refine hK30 _ _ ?_
              refine CW_cond rfl (fun hc60 => ?_) (fun hc60 => ?_)
              · skip
                refine CW_seq (fun K31 hK31 => ?_)
                refine CW_region ?_
                refine asp (.int _ _) rfl ?_
                refine WL_nil ?_
                refine hK31 _ _ ?_
                refine CW_ret ?_
                repeat (first | (with_reducible apply thenF_ret) | (with_reducible apply blockF_ret))
                try simp only [thenF, blockF, reduceIte]
                refine Post_r Tryz.results29 (.tmp rfl .nil) ?_
                try simp only [ev_tmp, ev_const, upd_ap, Nat.reduceLT, Nat.reduceEqDiff, reduceIte]
                refine ⟨?_, hs.fm⟩
                have h16 : ¬ 32 < l.hs.length := by simp at hc16; omega
                have e : hsAt l.hs 0 = 0 := by rw [hh, hsAt_end (by simp at hc21; omega)]
                unfold lkCheck
                rw [if_neg (by simpa using hc11), if_neg h16, e, if_neg (by simp), if_neg, if_pos]
                · simp at hg55 hc60
                  exact ⟨hg55, by omega⟩
                · intro hq
                  have h55 : l.sh = true := by simpa using hg55
                  rw [hq.1] at h55; cases h55
              · skip
                refine CW_skip ?_
                refine hK29 _ _ ?_
                refine CW_seq (fun K32 hK32 => ?_)
                refine CW_region ?_
                refine asp (.int _ _) rfl ?_
                refine WL_nil ?_
                refine hK32 _ _ ?_
                refine CW_ret ?_
                repeat (first | (with_reducible apply thenF_ret) | (with_reducible apply blockF_ret))
                try simp only [thenF, blockF, reduceIte]
                refine Post_r Tryz.results29 (.tmp rfl .nil) ?_
                try simp only [ev_tmp, ev_const, upd_ap, Nat.reduceLT, Nat.reduceEqDiff, reduceIte]
                refine ⟨?_, hs.fm⟩
                have h16 : ¬ 32 < l.hs.length := by simp at hc16; omega
                have e : hsAt l.hs 0 = 0 := by rw [hh, hsAt_end (by simp at hc21; omega)]
                unfold lkCheck
                rw [if_neg (by simpa using hc11), if_neg h16, e, if_neg (by simp), if_neg, if_neg]
                all_goals
                  clear hs hr hh
                  rintro ⟨q1, q2⟩
                  simp_all <;> omega
            · skip
              refine WL_gn (g := 55) rfl (by decide) rfl ?_
              refine WL_gn (g := 55) rfl (by decide) rfl ?_
              refine WL_gn (g := 55) rfl (by decide) rfl ?_
              first | refine pkT rfl rfl ?_ | refine pkF rfl rfl ?_
              refine WL_nil ?_
              refine hK30 _ _ ?_
              refine CW_condF rfl rfl ?_
              refine CW_skip ?_
              refine hK29 _ _ ?_
              refine CW_seq (fun K33 hK33 => ?_)
              refine CW_region ?_
              refine asp (.int _ _) rfl ?_
              refine WL_nil ?_
              refine hK33 _ _ ?_
              refine CW_ret ?_
              repeat (first | (with_reducible apply thenF_ret) | (with_reducible apply blockF_ret))
              try simp only [thenF, blockF, reduceIte]
              refine Post_r Tryz.results29 (.tmp rfl .nil) ?_
              try simp only [ev_tmp, ev_const, upd_ap, Nat.reduceLT, Nat.reduceEqDiff, reduceIte]
              refine ⟨?_, hs.fm⟩
              have h16 : ¬ 32 < l.hs.length := by simp at hc16; omega
              have e : hsAt l.hs 0 = 0 := by rw [hh, hsAt_end (by simp at hc21; omega)]
              unfold lkCheck
              rw [if_neg (by simpa using hc11), if_neg h16, e, if_neg (by simp), if_neg, if_neg]
              all_goals
                clear hs hr hh
                rintro ⟨q1, q2⟩
                simp_all <;> omega
end Go.Proofs.YtkbldndbofbkcaaGreatDoor
/- lock: Encode, Decode. -/
namespace Go.Proofs.YtkbldndbofbkcaaGreatDoor
open Go Go.RowKit
attribute [local irreducible] WL CW DW Ret RW
/-- What is written before the holders, and with n of them. -/
def encK (l : Lk) (n : Nat) : List UInt8 := vnat l.ep.toNat ++ (encB l.sh ++ (vnat l.hs.length ++ (l.hs.take n).flatMap fun h => encT h.data.toList))
theorem encK_all (l : Lk) : encK l l.hs.length = lkEnc l := by unfold encK lkEnc; rw [List.take_length]
theorem encK_step {l : Lk} {i : Nat} (h : i < l.hs.length) : encK l (i + 1) = encK l i ++ encT l.hs[i].data.toList := by
  unfold encK
  rw [List.take_add_one, List.getElem?_eq_getElem h, List.flatMap_append]
  simp only [Option.toList_some, List.flatMap_cons, List.flatMap_nil, List.append_nil, List.append_assoc]
theorem encK_len (l : Lk) (hs : ∀ h ∈ l.hs, h.size ≤ 65536) (hl : l.hs.length ≤ 32) : ∀ i, i ≤ l.hs.length → (encK l i).length ≤ 21 + i * 65546 := by
  intro i
  induction i with
  | zero => intro _; have := vnat_le l.ep.toNat; have := vnat_le l.hs.length; simp [encK, encB]; omega
  | succ i ih =>
    intro hi
    have h1 := ih (by omega)
    have h2 := hs l.hs[i] (List.getElem_mem _)
    have h3 := vnat_le l.hs[i].data.toList.length
    have h4 : l.hs[i].data.toList.length = l.hs[i].size := by rw [Array.length_toList]; rfl
    rw [encK_step (by omega), List.length_append]
    unfold encT
    rw [List.length_append]
    omega
/-- The steps of the writer. -/
theorem wN_0 (bs : List UInt8) (n : Int) (h : 0 ≤ n) : wN (bs, 0) n = (bs ++ vnat n.toNat, 0) := by
  unfold wN wr; rw [if_neg (by omega)]; simp
theorem wB_0 (bs : List UInt8) (b : Bool) : wB (bs, 0) b = (bs ++ encB b, 0) := by
  unfold wB wr encB; simp
theorem wT_0 (bs t : List UInt8) (h : t.length ≤ 16777216) : wT (bs, 0) t = (bs ++ encT t, 0) := by
  unfold wT wr encT; rw [if_neg (by omega)]; simp
theorem St.wrp {w0 w w' : World} {M : List Nat} {H : List Ent} {p : Nat} {a : Option Addr} {s : WS} {t : WS} {F : Ent → List Ent} (hs : St w0 M w H) [h : RpE (eWr p a t.1 t.2) H F] (hp : WrPost p a s w w') : ∃ a', St w0 M w' (F (eWr p a' s.1 s.2)) := by
  obtain ⟨a', h1, h2, h3⟩ := hp
  exact ⟨a', hs.rep (h.h _) rfl h3 h1 h2⟩
theorem Encode_ok (l : Lk) (a : Option Addr) (n c : Nat) (w0 : World) (hr : Rd w0 a n 1 (sv l.hs)) (hn : n = l.hs.length) (hsz : ∀ h ∈ l.hs, h.size ≤ 9223372036854775807) (hck : lkCheck l = 0 → ∀ h ∈ l.hs, h.size ≤ 65536) :
    Ret Tryz.prog 21 #[.agg (lkV l.ep l.sh a n c).toArray] w0 fun v w' => v = .tuple #[.string (if lkCheck l = 0 then str (lkEnc l) else ⟨#[]⟩), .int .i64 (lkCheck l)] ∧ Fm [] w0 w' := by
  have hs := St.init w0 []
  refine Ret_enter Tryz.func21 rfl Tryz.ntmps21 (by simp) ?_
  refine CW_seq (fun K1 hK1 => ?_)
  refine CW_region ?_
  refine bx (.agg (lkV l.ep l.sh a n c).toArray) (vl := lkV l.ep l.sh a n c) hs rfl rfl ?_
  intro w g1 hs hg1 hf1
  unfold lkV at hs
  refine asp (.string _) rfl ?_
  refine asp (.int _ _) rfl ?_
  refine WL_nil ?_
  refine hK1 _ _ ?_
  refine CW_seq (fun K2 hK2 => ?_)
  refine CW_seq (fun K3 hK3 => ?_)
  refine CW_region ?_
  refine ldA hs rfl (by simp) ?_
  refine cll (LCheck_ok l a n c _ (hr.fm hs.fm) hn hsz) ?_
  rintro _ w ⟨rfl, hf⟩
  replace hs := hs.call hf
  refine asp (.int _ _) rfl ?_
  refine WL_nil ?_
  refine hK3 _ _ ?_
  refine CW_seq (fun K4 hK4 => ?_)
  refine CW_region ?_
  refine mvp (.int _ _) rfl ?_
  refine neqW rfl rfl ?_
  refine WL_nil ?_
  refine hK4 _ _ ?_
  refine CW_cond rfl (fun hc13 => ?_) (fun hc13 => ?_)
  · skip
    refine CW_seq (fun K5 hK5 => ?_)
    refine CW_region ?_
    refine mvp (.int _ _) rfl ?_
    refine asp (.string _) rfl ?_
    refine asp (.int _ _) rfl ?_
    refine WL_nil ?_
    refine hK5 _ _ ?_
    refine CW_ret ?_
    repeat (first | (with_reducible apply thenF_ret) | (with_reducible apply blockF_ret))
    try simp only [thenF, blockF, reduceIte]
    refine Post_r Tryz.results21 (.tmp rfl (.tmp rfl .nil)) ?_
    try simp only [ev_tmp, ev_const, upd_ap, Nat.reduceLT, Nat.reduceEqDiff, reduceIte]
    have h13 : lkCheck l ≠ 0 := by simpa using hc13
    rw [if_neg h13]
    exact ⟨by trivial, hs.fm⟩
  · have h13 : lkCheck l = 0 := by simpa using hc13
    have h14 := lkCheck_0 h13
    have hsm := hck h13
    have hkl := fun i hi => encK_len l hsm h14.2.1 i hi
    have hwl : ∀ i, i ≤ l.hs.length → (encK l i).length ≤ 2200000 := fun i hi => by
      have h1 := hkl i hi
      have h2 : i * 65546 ≤ 32 * 65546 := Nat.mul_le_mul_right _ (by omega)
      omega
    refine CW_skip ?_
    refine hK2 _ _ ?_
    refine CW_seq (fun K6 hK6 => ?_)
    refine CW_region ?_
    refine cll (NewWriter_ok _) ?_
    rintro _ w ⟨p, rfl, hw, hp, hf⟩
    replace hs := hs.callNew hf (e := eWr p none [] 0) hw (by intro b hb; simp [eWr, ab] at hb; omega)
    refine asp (.pointer _) rfl ?_
    refine WL_nil ?_
    refine hK6 _ _ ?_
    refine CW_seq (fun K7 hK7 => ?_)
    refine CW_region ?_
    refine mvp (.pointer _) rfl ?_
    refine fad rfl ?_
    refine ld hs rfl rfl ?_
    refine cll (WNumber_ok p none ([], 0) l.ep _ (hs.he (eWr p none [] 0)) (by omega) (by simp)) ?_
    rintro _ w ⟨rfl, hp⟩
    rw [wN_0 _ _ h14.1.1] at hp
    obtain ⟨a1, hs⟩ := hs.wrp (t := ([], 0)) hp
    refine WL_nil ?_
    refine hK7 _ _ ?_
    refine CW_seq (fun K8 hK8 => ?_)
    refine CW_region ?_
    refine mvp (.pointer _) rfl ?_
    refine fad rfl ?_
    refine ld hs rfl rfl ?_
    refine cll (WFlag_ok p a1 ([] ++ vnat l.ep.toNat, 0) l.sh _ (hs.he (eWr p a1 ([] ++ vnat l.ep.toNat) 0)) (by have := vnat_le l.ep.toNat; simp; omega)) ?_
    rintro _ w ⟨rfl, hp⟩
    rw [wB_0] at hp
    obtain ⟨a2, hs⟩ := hs.wrp (t := ([] ++ vnat l.ep.toNat, 0)) hp
    refine WL_nil ?_
    refine hK8 _ _ ?_
    refine CW_seq (fun K9 hK9 => ?_)
    refine CW_region ?_
    refine mvp (.pointer _) rfl ?_
    refine fad rfl ?_
    refine ld hs rfl rfl ?_
    refine lenW rfl ?_
    refine cll (WNumber_ok p a2 (([] ++ vnat l.ep.toNat) ++ encB l.sh, 0) n _ (hs.he (eWr p a2 (([] ++ vnat l.ep.toNat) ++ encB l.sh) 0)) (by omega) (by have := vnat_le l.ep.toNat; simp [encB]; omega)) ?_
    rintro _ w ⟨rfl, hp⟩
    rw [wN_0 _ _ (by omega)] at hp
    obtain ⟨a3, hs⟩ := hs.wrp (t := (([] ++ vnat l.ep.toNat) ++ encB l.sh, 0)) hp
    have e0 : (([] ++ vnat l.ep.toNat) ++ encB l.sh) ++ vnat (n : Int).toNat = encK l 0 := by simp [encK, hn]
    rw [e0] at hs
    refine WL_nil ?_
    refine hK9 _ _ ?_
    refine CW_seq (fun K10 hK10 => ?_)
    refine CW_seq (fun K11 hK11 => ?_)
    refine CW_region ?_
    refine fad rfl ?_
    refine ld hs rfl rfl ?_
    refine lenW rfl ?_
    refine mvp (.int _ _) rfl ?_
    refine WL_nil ?_
    refine hK11 _ _ ?_
    refine CW_block ?_
    refine CW_loop (fun k f w' => ∃ (i : Nat) (a' : Option Addr), k = n - i ∧ i ≤ n ∧ f 1 = .pointer (some ⟨g1, 0, none⟩) ∧ f 5 = .pointer (some ⟨p, 0, none⟩) ∧ f 30 = .slice a n c ∧ f 31 = .int .i64 n ∧ f 32 = .int .i64 i ∧ St w0 [] w' [eWr p a' (encK l i) 0, eB g1 true (Blk 24 [.int .i64 l.ep, .bool l.sh, .slice a n c])]) n ?_ ?_
    · exact ⟨0, a3, by omega, by omega, rfl, rfl, rfl, rfl, rfl, hs⟩
    · rintro k f w1 ⟨i, a', rfl, hi, e1, e5, e30, e31, e32, hs⟩
      refine CW_kn (i := 1) e1 (CW_kn (i := 5) e5 (CW_kn (i := 30) e30 (CW_kn (i := 31) e31 (CW_kn (i := 32) e32 ?_))))
      refine CW_seq (fun K12 hK12 => ?_)
      refine CW_region ?_
      refine lssW rfl rfl ?_
      refine WL_nil ?_
      refine hK12 _ _ ?_
      refine CW_seq (fun K13 hK13 => ?_)
      refine CW_cond rfl (fun hc33 => ?_) (fun hc33 => ?_)
      · have hi2 : i < n := by simpa using hc33
        have hi3 : i < l.hs.length := by omega
        obtain ⟨b, off, rfl, hcell⟩ := sv_at (hr.fm hs.fm) hi3
        have hsi := hsm l.hs[i] (List.getElem_mem _)
        have hsl : l.hs[i].data.toList.length = l.hs[i].size := by rw [Array.length_toList]; rfl
        have hki := hwl i (by omega)
        refine CW_skip ?_
        refine hK13 _ _ ?_
        refine CW_seq (fun K14 hK14 => ?_)
        refine CW_block ?_
        refine CW_seq (fun K15 hK15 => ?_)
        refine CW_region ?_
        refine iad rfl rfl (by omega) ?_
        refine ldc (v := .string l.hs[i]) rfl (by simpa using hcell i hi3) ?_
        refine asp (.string _) rfl ?_
        refine WL_nil ?_
        refine hK15 _ _ ?_
        refine CW_region ?_
        refine mvp (.pointer _) rfl ?_
        refine mvp (.string _) rfl ?_
        refine cll (WText_ok p a' (encK l i, 0) l.hs[i] _ (hs.he (eWr p a' (encK l i) 0)) (by simp only; omega)) ?_
        rintro _ w ⟨rfl, hp⟩
        rw [wT_0 _ _ (by omega)] at hp
        obtain ⟨a4, hs⟩ := hs.wrp (t := (encK l i, 0)) hp
        refine WL_nil ?_
        refine hK14 _ _ ?_
        refine CW_region ?_
        first | refine addI rfl rfl (by omega) ?_ | refine addW rfl rfl ?_
        refine mvp (.int _ _) rfl ?_
        refine WL_nil ?_
        skip
        refine ⟨n - (i + 1), by omega, i + 1, a4, rfl, by omega, rfl, rfl, rfl, rfl, rfl, ?_⟩
        rw [encK_step hi3]
        exact hs
      · skip
        refine CW_exit ?_
        refine hK10 _ _ ?_
        refine CW_seq (fun K16 hK16 => ?_)
        refine CW_region ?_
        refine mvp (.pointer _) rfl ?_
        refine cll (WBytes_ok p a' (encK l i, 0) _ (hs.he (eWr p a' (encK l i) 0)) (by have := hwl i (by omega); simp only; omega)) ?_
        intro v w ⟨hv, hf⟩
        rw [if_neg (by simp)] at hv
        obtain ⟨gb, cb, rfl, hnew⟩ := hv
        replace hs := hs.callR hf hnew
        refine mvp (.tuple _) rfl ?_
        refine ext rfl rfl ?_
        refine ext rfl rfl ?_
        refine asp (.slice _ _ _) rfl ?_
        refine asp (.int _ _) rfl ?_
        refine WL_nil ?_
        refine hK16 _ _ ?_
        refine CW_seq (fun K17 hK17 => ?_)
        refine CW_region ?_
        refine mvp (.slice _ _ _) rfl ?_
        refine WL_v (X_cvStr rfl (hs.rd (a := gb)) rfl) ?_
        refine mvp (.int _ _) rfl ?_
        refine asp (.string _) rfl ?_
        refine asp (.int _ _) rfl ?_
        refine WL_nil ?_
        refine hK17 _ _ ?_
        refine CW_ret ?_
        repeat (first | (with_reducible apply thenF_ret) | (with_reducible apply blockF_ret))
        try simp only [thenF, blockF, reduceIte]
        refine Post_r Tryz.results21 (.tmp rfl (.tmp rfl .nil)) ?_
        try simp only [ev_tmp, ev_const, upd_ap, Nat.reduceLT, Nat.reduceEqDiff, reduceIte]
        have hi2 : i = l.hs.length := by simp at hc33; omega
        rw [if_pos h13, h13]
        rw [hi2, encK_all]
        exact ⟨by trivial, hs.fm⟩
end Go.Proofs.YtkbldndbofbkcaaGreatDoor
/- lock: Decode. -/
namespace Go.Proofs.YtkbldndbofbkcaaGreatDoor
open Go Go.RowKit
attribute [local irreducible] WL CW DW Ret RW
theorem rN_le (most : Nat) (bs : List UInt8) (s : RS) : (rN most bs s).1 ≤ most := by
  unfold rN rstep pNum
  repeat' split
  all_goals (simp only; try omega)
theorem rT_len (mt : Nat) (bs : List UInt8) (s : RS) : (rT mt bs s).1.length ≤ 16777216 := by
  by_cases h : (rT mt bs s).2.2 = 0
  · have := (rstep_inv (z := []) (cdcT mt) h).1
    have h2 : (rstep [] (pText mt) bs s).1 = (rT mt bs s).1 := rfl
    rw [h2] at this; omega
  · have : (rT mt bs s).1 = [] := by
      unfold rT rstep at h ⊢
      repeat' split
      all_goals (first | rfl | skip)
      rename_i h1 h2
      rw [if_neg h1, if_neg h2] at h; exact absurd rfl h
    rw [this]; simp
theorem rTs_short (mt : Nat) (bs : List UInt8) (s : RS) : ∀ n, ∀ h ∈ (rTs mt bs n s).1.map str, h.size ≤ 9223372036854775807 := by
  intro n
  induction n with
  | zero => simp [rTs]
  | succ n ih =>
    intro h hm
    rw [rTs, List.map_append] at hm
    rcases List.mem_append.1 hm with hm | hm
    · exact ih h hm
    · simp at hm; subst hm
      have := rT_len mt bs (rTs mt bs n s).2
      rw [str_size]; omega
theorem St.rdr {w0 w w' : World} {M : List Nat} {H : List Ent} {r g : Nat} {bs : List UInt8} {s' : RS} {F : Ent → List Ent} (hs : St w0 M w H) (s : RS) [h : RpE (eRd r g bs s) H F] (hR : (eRd r g bs s').holds w') (hf : Fm [r] w w') : St w0 M w' (F (eRd r g bs s')) :=
  hs.rep (h.h _) rfl (hf.mono (by simp [eRd])) hR (fun b hb => .inl hb)
def decR (bs : List UInt8) : Lk × Int := match lkDec 16777216 bs with | some l => (l, 0) | none => (⟨0, false, []⟩, 3)
theorem Decode_ok (s : ByteArray) (w0 : World) (hsz : s.size ≤ 140737488355328) :
    Ret Tryz.prog 17 #[.string s] w0 fun v w' => (∃ a n c, v = .tuple #[.agg (lkV (decR s.data.toList).1.ep (decR s.data.toList).1.sh a n c).toArray, .int .i64 (decR s.data.toList).2] ∧ n = (decR s.data.toList).1.hs.length ∧
      NewR w0 w' 42 1 n (.slice a n c) (sv (decR s.data.toList).1.hs)) ∧ Fm [] w0 w' := by
  have hs := St.init w0 []
  have ht : s.data.toList.length = s.size := by rw [Array.length_toList]; rfl
  obtain ⟨bs, hbs⟩ : ∃ bs, s.data.toList = bs := ⟨_, rfl⟩
  obtain ⟨s1, hs1⟩ : ∃ s1, rN 1073741824 bs (0, 0) = s1 := ⟨_, rfl⟩
  obtain ⟨s2, hs2⟩ : ∃ s2, rB bs s1.2 = s2 := ⟨_, rfl⟩
  obtain ⟨s3, hs3⟩ : ∃ s3, rN 32 bs s2.2 = s3 := ⟨_, rfl⟩
  have hcnt : s3.1 ≤ 32 := by rw [← hs3]; exact rN_le _ _ _
  have hrd : lkRd 16777216 bs = (⟨s1.1, s2.1, (rTs 16777216 bs s3.1 s3.2).1.map str⟩, (rTs 16777216 bs s3.1 s3.2).2) := by
    unfold lkRd; rw [hs1, hs2, hs3]
  refine Ret_enter Tryz.func17 rfl Tryz.ntmps17 (by simp) ?_
  refine CW_seq (fun K1 hK1 => ?_)
  refine CW_region ?_
  refine alc hs ?_
  intro w g2 hs hg2 hf2
  refine asp (.int _ _) rfl ?_
  refine WL_nil ?_
  refine hK1 _ _ ?_
  refine CW_seq (fun K2 hK2 => ?_)
  refine CW_region ?_
  refine mvp (.string _) rfl ?_
  refine W_cvBytes hs rfl ?_
  intro w g7 cap7 zs7 k7 hs hg7 hf7 hcap7
  rw [hbs] at hs
  rw [hbs] at ht
  refine cll (NewReader_ok (some ⟨g7, 0, none⟩) s.size cap7 bs _ (rdB hs (by rw [List.length_append, bv_length]; omega) (by rw [subl_eq, List.drop_zero, List.take_append_of_le_length (by rw [bv_length]; omega), List.take_of_length_le (by rw [bv_length]; omega)])) ht.symm (by omega) (fun _ h => by cases h)) ?_
  rintro _ w ⟨r, g, rfl, hR, hr, hg, hf⟩
  replace hs := hs.callNew hf hR (by intro b hb; simp [eRd] at hb; omega)
  refine asp (.pointer _) rfl ?_
  refine WL_nil ?_
  refine hK2 _ _ ?_
  refine CW_seq (fun K3 hK3 => ?_)
  refine CW_region ?_
  refine mvp (.pointer _) rfl ?_
  refine cll (RNumber_ok r g 1073741824 bs (0, 0) _ (hs.he (eRd r g bs (0, 0))) (by omega)) ?_
  rintro _ w ⟨rfl, hR, hf⟩
  replace hs := hs.rdr (0, 0) hR hf
  rw [hs1] at hs ⊢
  refine mvp (.pointer _) rfl ?_
  refine cll (RFlag_ok r g bs s1.2 _ (hs.he (eRd r g bs s1.2))) ?_
  rintro _ w ⟨rfl, hR, hf⟩
  replace hs := hs.rdr s1.2 hR hf
  rw [hs2] at hs ⊢
  refine WL_v (v := .agg (lkV s1.1 s2.1 none 0 0).toArray) (X_build rfl rfl) ?_
  refine alc hs ?_
  intro w g5 hs hg5 hf5
  refine sto (.agg (lkV s1.1 s2.1 none 0 0).toArray) (vl := lkV s1.1 s2.1 none 0 0) hs rfl rfl rfl rfl (by simp) rfl ?_
  intro w hs _
  replace hs : St w0 [] w (eB g5 true (Blk 24 [.int .i64 s1.1, .bool s2.1, .slice none 0 0]) :: _) := hs
  refine WL_nil ?_
  refine hK3 _ _ ?_
  refine CW_seq (fun K4 hK4 => ?_)
  refine CW_seq (fun K5 hK5 => ?_)
  refine CW_region ?_
  refine mvp (.pointer _) rfl ?_
  refine cll (RNumber_ok r g 32 bs s2.2 _ (hs.he (eRd r g bs s2.2)) (by omega)) ?_
  rintro _ w ⟨rfl, hR, hf⟩
  replace hs := hs.rdr s2.2 hR hf
  rw [hs3] at hs ⊢
  replace hs := hs.nilR 42 1
  refine mvp (.int _ _) rfl ?_
  refine WL_nil ?_
  refine hK5 _ _ ?_
  refine CW_block ?_
  refine CW_loop (fun k f w' => ∃ (i n c : Nat) (a : Option Addr), k = s3.1 - i ∧ i ≤ s3.1 ∧ n = i ∧ f 2 = .pointer (some ⟨g2, 0, none⟩) ∧ f 4 = .pointer (some ⟨r, 0, none⟩) ∧ f 5 = .pointer (some ⟨g5, 0, none⟩) ∧ f 15 = .int .i64 s3.1 ∧ f 16 = .int .i64 i ∧ St w0 [] w' [eR (.slice a n c) 42 1 n (sv ((rTs 16777216 bs i s3.2).1.map str)), eB g5 true (Blk 24 [.int .i64 s1.1, .bool s2.1, .slice a n c]), eRd r g bs (rTs 16777216 bs i s3.2).2, eB g2 true (Blk 24 [.int .i64 0, .bool false, .slice none 0 0])]) s3.1 ?_ ?_
  · have hs' : St w0 [] _ [eR (.slice none 0 0) 42 1 0 [], eB g5 true (Blk 24 [.int .i64 s1.1, .bool s2.1, .slice none 0 0]), eRd r g bs s3.2, eB g2 true (Blk 24 [.int .i64 0, .bool false, .slice none 0 0])] := hs.wk
    exact ⟨0, 0, 0, none, by omega, by omega, rfl, rfl, rfl, rfl, rfl, rfl, hs'⟩
  · rintro k f w1 ⟨i, n, c, a, rfl, hi, hn, e2, e4, e5, e15, e16, hs⟩
    refine CW_kn (i := 2) e2 (CW_kn (i := 4) e4 (CW_kn (i := 5) e5 (CW_kn (i := 15) e15 (CW_kn (i := 16) e16 ?_))))
    refine CW_seq (fun K6 hK6 => ?_)
    refine CW_region ?_
    refine lssW rfl rfl ?_
    refine WL_nil ?_
    refine hK6 _ _ ?_
    refine CW_seq (fun K7 hK7 => ?_)
    refine CW_cond rfl (fun hc17 => ?_) (fun hc17 => ?_)
    · skip
      refine CW_skip ?_
      refine hK7 _ _ ?_
      refine CW_seq (fun K8 hK8 => ?_)
      refine CW_block ?_
      refine DW_s hs 7 ([eB g5 true (Blk 24 [.int .i64 s1.1, .bool s2.1, .slice a n c])]) ?_
      intro w hs _
      refine DW_q hs 0 rfl (by kernel_rfl) (fun w' hw' => X_fieldAddr rfl rfl) ?_
      refine DW_q hs 1 rfl (by kernel_rfl) (fun w' hw' => X_ldH hw' rfl rfl) ?_
      refine DW_q hs 2 rfl (by kernel_rfl) (fun w' hw' => X_move (v := (.pointer _)) rfl) ?_
      refine DW_l 3 rfl (by kernel_rfl) ?_
      refine cll (RText_ok r g 16777216 bs (rTs 16777216 bs i s3.2).2 _ (hs.he (eRd r g bs (rTs 16777216 bs i s3.2).2)) (by omega)) ?_
      rintro _ w ⟨rfl, hR, hf⟩
      replace hs := hs.rdr (rTs 16777216 bs i s3.2).2 hR hf
      refine WL_nil ?_
      refine ⟨.inr hs.hold, ?_⟩
      refine DW_l 4 rfl (by kernel_rfl) ?_
      refine W_bslice hs (BS.ss rfl .nil) rfl (by simp) ?_
      intro w g22 hs hg22 hf22
      refine WL_nil ?_
      refine ⟨.inr hs.hold, ?_⟩
      refine DW_l 5 rfl (by kernel_rfl) ?_
      refine app1 hs rfl rfl (by rfl) (by rfl) (by decide) (by rfl) (by simp at hc17; omega) (by simp at hc17; omega) ?_
      intro a2 c2 w hs _
      refine WL_nil ?_
      refine ⟨.inr hs.hold, ?_⟩
      refine DW_q hs 6 rfl (by kernel_rfl) (fun w' hw' => X_fieldAddr rfl rfl) ?_
      refine DW_l 7 rfl (by kernel_rfl) ?_
      refine sto (.slice a2 (n + 1) c2) hs rfl rfl rfl rfl (by simp) rfl ?_
      intro w hs _
      replace hs : St w0 [] w (_ :: _ :: eB g5 true (Blk 24 [.int .i64 s1.1, .bool s2.1, .slice a2 (n + 1) c2]) :: _) := hs
      refine WL_nil ?_
      refine ⟨.inl rfl, ?_⟩
      refine DW_e (by kernel_rfl) ?_
      refine hK8 _ _ ?_
      refine CW_region ?_
      first | refine addI rfl rfl (by omega) ?_ | refine addW rfl rfl ?_
      refine mvp (.int _ _) rfl ?_
      refine WL_nil ?_
      skip
      refine ⟨s3.1 - (i + 1), by simp at hc17; omega, i + 1, n + 1, c2, a2, rfl, by simp at hc17; omega, by omega, rfl, rfl, rfl, rfl, rfl, ?_⟩
      have e6 : sv ((rTs 16777216 bs (i + 1) s3.2).1.map str) = sv ((rTs 16777216 bs i s3.2).1.map str) ++ [.string (str (rT 16777216 bs (rTs 16777216 bs i s3.2).2).1)] := by simp [rTs, sv]
      rw [e6]
      have hs' : St w0 [] _ [eR (.slice a2 (n + 1) c2) 42 1 (n + 1) (sv ((rTs 16777216 bs i s3.2).1.map str) ++ [.string (str (rT 16777216 bs (rTs 16777216 bs i s3.2).2).1)]), eB g5 true (Blk 24 [.int .i64 s1.1, .bool s2.1, .slice a2 (n + 1) c2]), eRd r g bs (rT 16777216 bs (rTs 16777216 bs i s3.2).2).2, eB g2 true (Blk 24 [.int .i64 0, .bool false, .slice none 0 0])] := hs.wk
      exact hs'
    · have hi2 : i = s3.1 := by simp at hc17; omega
      subst hi2
      refine CW_exit ?_
      refine hK4 _ _ ?_
      refine CW_seq (fun K9 hK9 => ?_)
      refine CW_seq (fun K10 hK10 => ?_)
      refine CW_region ?_
      refine mvp (.pointer _) rfl ?_
      refine cll (RClose_ok r g bs (rTs 16777216 bs s3.1 s3.2).2 _ (hs.he (eRd r g bs (rTs 16777216 bs s3.1 s3.2).2))) ?_
      rintro _ w ⟨rfl, hf⟩
      replace hs := hs.call hf
      refine neqW rfl rfl ?_
      refine mvp (.bool _) rfl ?_
      refine WL_g (g := 29) rfl (by decide) rfl (fun hg29 => ?_) (fun hg29 => ?_)
      · skip
        refine ldA hs rfl (by simp) ?_
        refine WL_gy (g := 29) rfl (by decide) rfl ?_
        refine cll (LCheck_ok ⟨s1.1, s2.1, (rTs 16777216 bs s3.1 s3.2).1.map str⟩ a n c _ (hs.rd (a := a)) (by simp [rTs_len, hn]) (rTs_short _ _ _ _)) ?_
        rintro _ w ⟨rfl, hf⟩
        replace hs := hs.call hf
        refine WL_gy (g := 29) rfl (by decide) rfl ?_
        refine neqW rfl rfl ?_
        first | refine pkT rfl rfl ?_ | refine pkF rfl rfl ?_
        refine WL_nil ?_
        refine hK10 _ _ ?_
        refine CW_cond rfl (fun hc33 => ?_) (fun hc33 => ?_)
        · skip
          refine CW_seq (fun K11 hK11 => ?_)
          refine CW_region ?_
          refine WL_v (v := .agg (lkV 0 false none 0 0).toArray) (X_build rfl rfl) ?_
          refine sto (.agg (lkV 0 false none 0 0).toArray) (vl := lkV 0 false none 0 0) hs rfl rfl rfl rfl (by simp) rfl ?_
          intro w hs _
          replace hs : St w0 [] w (_ :: _ :: _ :: eB g2 true (Blk 24 (lkV 0 false none 0 0)) :: _) := hs
          refine asp (.int _ _) rfl ?_
          refine WL_nil ?_
          refine hK11 _ _ ?_
          refine CW_ret ?_
          repeat (first | (with_reducible apply thenF_ret) | (with_reducible apply blockF_ret))
          try simp only [thenF, blockF, reduceIte]
          refine Post_r Tryz.results17 (.cell rfl (lvA hs (by simp)) (.tmp rfl .nil)) ?_
          try simp only [ev_tmp, ev_const, upd_ap, Nat.reduceLT, Nat.reduceEqDiff, reduceIte]
          have hd : decR s.data.toList = (⟨0, false, []⟩, 3) := by
            unfold decR lkDec
            rw [hbs, hrd, if_neg]
            rintro ⟨q1, q2⟩
            first
              | (have h29 : rClose bs (rTs 16777216 bs s3.1 s3.2).2 ≠ 0 := by simpa using hg29
                 exact h29 q1)
              | (have h33 : lkCheck ⟨s1.1, s2.1, (rTs 16777216 bs s3.1 s3.2).1.map str⟩ ≠ 0 := by simpa using hc33
                 exact h33 q2)
          rw [hd]
          exact ⟨⟨none, 0, 0, rfl, rfl, World.ownsRow_nil _ _ _ _⟩, hs.fm⟩
        · skip
          refine CW_skip ?_
          refine hK9 _ _ ?_
          refine CW_seq (fun K12 hK12 => ?_)
          refine CW_region ?_
          refine ldA hs rfl (by simp) ?_
          refine sto (.agg (lkV s1.1 s2.1 a n c).toArray) (vl := lkV s1.1 s2.1 a n c) hs rfl rfl rfl rfl (by simp) rfl ?_
          intro w hs _
          replace hs : St w0 [] w (_ :: _ :: _ :: eB g2 true (Blk 24 (lkV s1.1 s2.1 a n c)) :: _) := hs
          refine asp (.int _ _) rfl ?_
          refine WL_nil ?_
          refine hK12 _ _ ?_
          refine CW_ret ?_
          repeat (first | (with_reducible apply thenF_ret) | (with_reducible apply blockF_ret))
          try simp only [thenF, blockF, reduceIte]
          refine Post_r Tryz.results17 (.cell rfl (lvA hs (by simp)) (.tmp rfl .nil)) ?_
          try simp only [ev_tmp, ev_const, upd_ap, Nat.reduceLT, Nat.reduceEqDiff, reduceIte]
          have hd : decR s.data.toList = (⟨s1.1, s2.1, (rTs 16777216 bs s3.1 s3.2).1.map str⟩, 0) := by
            unfold decR lkDec
            rw [hbs, hrd, if_pos]
            exact ⟨by simpa using hg29, by simpa using hc33⟩
          rw [hd]
          exact ⟨⟨a, n, c, rfl, by simp [rTs_len, hn], hs.newR⟩, hs.fm⟩
      · skip
        refine WL_gn (g := 29) rfl (by decide) rfl ?_
        refine WL_gn (g := 29) rfl (by decide) rfl ?_
        first | refine pkT rfl rfl ?_ | refine pkF rfl rfl ?_
        refine WL_nil ?_
        refine hK10 _ _ ?_
        refine CW_condT rfl rfl ?_
        refine CW_seq (fun K13 hK13 => ?_)
        refine CW_region ?_
        refine WL_v (v := .agg (lkV 0 false none 0 0).toArray) (X_build rfl rfl) ?_
        refine sto (.agg (lkV 0 false none 0 0).toArray) (vl := lkV 0 false none 0 0) hs rfl rfl rfl rfl (by simp) rfl ?_
        intro w hs _
        replace hs : St w0 [] w (_ :: _ :: _ :: eB g2 true (Blk 24 (lkV 0 false none 0 0)) :: _) := hs
        refine asp (.int _ _) rfl ?_
        refine WL_nil ?_
        refine hK13 _ _ ?_
        refine CW_ret ?_
        repeat (first | (with_reducible apply thenF_ret) | (with_reducible apply blockF_ret))
        try simp only [thenF, blockF, reduceIte]
        refine Post_r Tryz.results17 (.cell rfl (lvA hs (by simp)) (.tmp rfl .nil)) ?_
        try simp only [ev_tmp, ev_const, upd_ap, Nat.reduceLT, Nat.reduceEqDiff, reduceIte]
        have hd : decR s.data.toList = (⟨0, false, []⟩, 3) := by
          unfold decR lkDec
          rw [hbs, hrd, if_neg]
          rintro ⟨q1, q2⟩
          first
            | (have h29 : rClose bs (rTs 16777216 bs s3.1 s3.2).2 ≠ 0 := by simpa using hg29
               exact h29 q1)
            | (have h33 : lkCheck ⟨s1.1, s2.1, (rTs 16777216 bs s3.1 s3.2).1.map str⟩ ≠ 0 := by simpa using hc33
               exact h33 q2)
        rw [hd]
        exact ⟨⟨none, 0, 0, rfl, rfl, World.ownsRow_nil _ _ _ _⟩, hs.fm⟩
end Go.Proofs.YtkbldndbofbkcaaGreatDoor
/- Plain: what is done with locks in a view. -/
namespace Go.Proofs.YtkbldndbofbkcaaGreatDoor
open Go Go.RowKit
def bsI (l : List ByteArray) (who : ByteArray) : Nat → Nat → Nat → Nat
  | 0, i, _ => i
  | k + 1, i, j => if i < j then (if lncmp (l.getD ((i + j) / 2) ⟨#[]⟩) who < 0 then bsI l who k ((i + j) / 2 + 1) j else bsI l who k i ((i + j) / 2)) else i
def bsAt (l : List ByteArray) (who : ByteArray) : Nat := bsI l who (l.length + 1) 0 l.length
def bsFound (l : List ByteArray) (who : ByteArray) : Bool := decide (bsAt l who < l.length) && decide (lncmp (l.getD (bsAt l who) ⟨#[]⟩) who = 0)
theorem bsI_end (l : List ByteArray) (who : ByteArray) (k i j : Nat) (h : j ≤ i) : bsI l who k i j = i := by
  cases k with
  | zero => rfl
  | succ k => rw [bsI, if_neg (by omega)]
theorem bsI_le (l : List ByteArray) (who : ByteArray) : ∀ k i j, i ≤ j → bsI l who k i j ≤ j := by
  intro k
  induction k with
  | zero => intro i j h; exact h
  | succ k ih =>
    intro i j h
    rw [bsI]
    split
    · split
      · exact ih _ _ (by omega)
      · have := ih i ((i + j) / 2) (by omega); omega
    · omega
theorem bsAt_le (l : List ByteArray) (who : ByteArray) : bsAt l who ≤ l.length := bsI_le _ _ _ _ _ (Nat.zero_le _)
/-- Where what is less comes first, the place is behind all of it. -/
theorem bsI_spec (l : List ByteArray) (who : ByteArray) (mono : ∀ a b, a ≤ b → b < l.length → lncmp (l.getD b ⟨#[]⟩) who < 0 → lncmp (l.getD a ⟨#[]⟩) who < 0) :
    ∀ k i j, j - i < k → i ≤ j → j ≤ l.length → (∀ a, a < i → lncmp (l.getD a ⟨#[]⟩) who < 0) → (∀ b, j ≤ b → b < l.length → ¬ lncmp (l.getD b ⟨#[]⟩) who < 0) →
      (∀ a, a < bsI l who k i j → lncmp (l.getD a ⟨#[]⟩) who < 0) ∧ (∀ b, bsI l who k i j ≤ b → b < l.length → ¬ lncmp (l.getD b ⟨#[]⟩) who < 0) := by
  intro k
  induction k with
  | zero => intro i j h; omega
  | succ k ih =>
    intro i j h hij hj h1 h2
    rw [bsI]
    split
    · split
      · rename_i hc
        refine ih _ _ (by omega) (by omega) hj (fun a ha => mono a ((i + j) / 2) (by omega) (by omega) hc) h2
      · rename_i hc
        refine ih _ _ (by omega) (by omega) (by omega) h1 (fun b hb hbl hq => hc (mono _ b hb hbl hq))
    · have : i = j := by omega
      subst this
      exact ⟨h1, h2⟩
abbrev lkName (b : Bir) : ONm := ⟨12, b.maker, b.num, 0, ⟨#[]⟩⟩
def begE (b : Bir) (ep : Int) : Int := if birCheck b ≠ 0 then birCheck b else okEp ep
def lkRead (t : Tr) (N : Chs) (b : Bir) (ep : Int) : Lk × Int :=
  if (vwGet t N (lkName b)).2 = false then (⟨ep, false, []⟩, 0) else
  if (decR (vwGet t N (lkName b)).1.data.toList).2 ≠ 0 then (⟨0, false, []⟩, (decR (vwGet t N (lkName b)).1.data.toList).2) else
  if (decR (vwGet t N (lkName b)).1.data.toList).1.ep ≠ ep then (⟨ep, false, []⟩, 0) else ((decR (vwGet t N (lkName b)).1.data.toList).1, 0)
def getE (t : Tr) (N : Chs) (b : Bir) (ep : Int) : Lk × Int := if begE b ep ≠ 0 then (⟨0, false, []⟩, begE b ep) else lkRead t N b ep
/-- The error of use; the lock if there is none. -/
def useE (t : Tr) (N : Chs) (b : Bir) (ep : Int) (who : ByteArray) : Int := if begE b ep ≠ 0 then begE b ep else if okWho who ≠ 0 then okWho who else (lkRead t N b ep).2
def useL (t : Tr) (N : Chs) (b : Bir) (ep : Int) (who : ByteArray) : Lk := if useE t N b ep who ≠ 0 then ⟨0, false, []⟩ else (lkRead t N b ep).1
def useAt (t : Tr) (N : Chs) (b : Bir) (ep : Int) (who : ByteArray) : Nat := if useE t N b ep who ≠ 0 then 0 else bsAt (lkRead t N b ep).1.hs who
def useH (t : Tr) (N : Chs) (b : Bir) (ep : Int) (who : ByteArray) : Bool := if useE t N b ep who ≠ 0 then false else bsFound (lkRead t N b ep).1.hs who
/-- A lock is written. -/
def wrE (b : Bir) (l : Lk) : Int := if lkCheck l ≠ 0 then lkCheck l else callE (lkName b) (str (lkEnc l), false)
def wrN (N : Chs) (b : Bir) (l : Lk) : Chs := if lkCheck l ≠ 0 then N else callN N (lkName b) (str (lkEnc l), false)
theorem St.turnL {w0 w w' : World} {M : List Nat} {H H1 K : List Ent} {e : Ent} (hs : St w0 M w H) [k : RemE e H H1] (ho : e.own = true) (ht : Turned e (eL K) w w') (hK : ∀ x ∈ K, x.own = true) : St w0 M w' (K ++ H1) := by
  have h1 : St w0 M w' (eL K :: H1) := (hs.perm k.h).rep .here ho ht.2.2.1 ht.2.1 ht.2.2.2
  obtain ⟨q1, q2⟩ := h1.has (eL K) (.head _)
  have hsep := List.pairwise_cons.1 h1.sep
  refine ⟨h1.fm, fun x hx => ?_, fun x hx hq b hb => ?_, List.pairwise_append.2 ⟨q2, hsep.2, fun x hx y hy b hb => hsep.1 y hy b (eL_mem.2 ⟨x, hx, hb⟩)⟩⟩
  · rcases List.mem_append.1 hx with hx | hx
    · exact q1 x hx
    · exact h1.has x (.tail _ hx)
  · rcases List.mem_append.1 hx with hx | hx
    · exact h1.own (eL K) (.head _) rfl b (eL_mem.2 ⟨x, hx, hb⟩)
    · exact h1.own x (.tail _ hx) hq b hb
theorem St.turn2 {w0 w w' : World} {M : List Nat} {H H1 : List Ent} {e e1 e2 : Ent} (hs : St w0 M w H) [k : RemE e H H1] (ht : Turned e (eL [e1, e2]) w w') (ho : e.own = true) (h1 : e1.own = true) (h2 : e2.own = true) : St w0 M w' (e1 :: e2 :: H1) :=
  hs.turnL ho ht (by intro x hx; simp at hx; rcases hx with rfl | rfl <;> assumption)
theorem St.ret2 {w0 w : World} {e e1 e2 : Ent} {H : List Ent} (hs : St w0 e.fp w H) [k : SelL [e1, e2] H] (h1 : e1.own = true) (h2 : e2.own = true) : Turned e (eL [e1, e2]) w0 w :=
  ((hs.sel (H' := [e1, e2])).pack (by intro x hx; simp at hx; rcases hx with rfl | rfl <;> assumption)).turned _ rfl
theorem St.ret1 {w0 w : World} {e e1 : Ent} {H : List Ent} (hs : St w0 e.fp w H) [k : SelL [e1] H] (h1 : e1.own = true) : Turned e e1 w0 w := (hs.sel (H' := [e1])).turned _ h1
theorem St.ret2n {w0 w : World} {e e1 : Ent} {H : List Ent} (hs : St w0 e.fp w H) [k : SelL [e1] H] (h1 : e1.own = true) (E size : Nat) : Turned e (eL [e1, eR (.slice none 0 0) E size 0 []]) w0 w :=
  (((hs.sel (H' := [e1])).nilR E size).sel (H' := [e1, eR (.slice none 0 0) E size 0 []]) |>.pack (fun x hx => (List.mem_cons.1 hx).elim (fun q => q ▸ h1) (fun q => by simp at q; subst q; rfl))).turned _ rfl
end Go.Proofs.YtkbldndbofbkcaaGreatDoor
/- lock: begin, read, write, the search. -/
namespace Go.Proofs.YtkbldndbofbkcaaGreatDoor
open Go Go.RowKit
attribute [local irreducible] WL CW DW Ret RW
theorem begin_ok (g : Nat) (b : Bir) (ep : Int) (w0 : World) (hb : b.maker.size ≤ 9223372036854775807) :
    Ret Tryz.prog 86 #[.pointer (some ⟨g, 0, none⟩), .agg (birV b).toArray, .int .i64 ep] w0 fun v w' => v = .int .i64 (begE b ep) ∧ Fm [] w0 w' := by
  have hs := St.init w0 []
  refine Ret_enter Tryz.func86 rfl Tryz.ntmps86 (by simp) ?_
  refine CW_seq (fun K1 hK1 => ?_)
  refine CW_region ?_
  refine bx (.agg (birV b).toArray) (vl := birV b) hs rfl rfl ?_
  intro w g4 hs hg4 hf4
  refine asp (.int _ _) rfl ?_
  refine WL_nil ?_
  refine hK1 _ _ ?_
  refine CW_seq (fun K2 hK2 => ?_)
  refine CW_seq (fun K3 hK3 => ?_)
  refine CW_region ?_
  refine mvp (.pointer _) rfl ?_
  refine eqnP rfl rfl ?_
  refine WL_nil ?_
  refine hK3 _ _ ?_
  refine CW_condF rfl (rfl) ?_
  refine CW_skip ?_
  refine hK2 _ _ ?_
  refine CW_seq (fun K4 hK4 => ?_)
  refine CW_seq (fun K5 hK5 => ?_)
  refine CW_region ?_
  refine ldA hs rfl (by simp) ?_
  refine cll (BCheck_ok b _ hb) ?_
  rintro _ w ⟨rfl, hf⟩
  replace hs := hs.call hf
  refine asp (.int _ _) rfl ?_
  refine WL_nil ?_
  refine hK5 _ _ ?_
  refine CW_seq (fun K6 hK6 => ?_)
  refine CW_region ?_
  refine mvp (.int _ _) rfl ?_
  refine neqW rfl rfl ?_
  refine WL_nil ?_
  refine hK6 _ _ ?_
  refine CW_cond rfl (fun hc13 => ?_) (fun hc13 => ?_)
  · skip
    refine CW_seq (fun K7 hK7 => ?_)
    refine CW_region ?_
    refine mvp (.int _ _) rfl ?_
    refine asp (.int _ _) rfl ?_
    refine WL_nil ?_
    refine hK7 _ _ ?_
    refine CW_ret ?_
    repeat (first | (with_reducible apply thenF_ret) | (with_reducible apply blockF_ret))
    try simp only [thenF, blockF, reduceIte]
    refine Post_r Tryz.results86 (.tmp rfl .nil) ?_
    try simp only [ev_tmp, ev_const, upd_ap, Nat.reduceLT, Nat.reduceEqDiff, reduceIte]
    unfold begE
    rw [if_pos (by simpa using hc13)]
    exact ⟨by trivial, hs.fm⟩
  · skip
    refine CW_skip ?_
    refine hK4 _ _ ?_
    refine CW_seq (fun K8 hK8 => ?_)
    refine CW_region ?_
    refine mvp (.int _ _) rfl ?_
    refine cll (checkEpoch_ok ep _) ?_
    rintro _ w ⟨rfl, hf⟩
    replace hs := hs.call hf
    refine asp (.int _ _) rfl ?_
    refine WL_nil ?_
    refine hK8 _ _ ?_
    refine CW_ret ?_
    repeat (first | (with_reducible apply thenF_ret) | (with_reducible apply blockF_ret))
    try simp only [thenF, blockF, reduceIte]
    refine Post_r Tryz.results86 (.tmp rfl .nil) ?_
    try simp only [ev_tmp, ev_const, upd_ap, Nat.reduceLT, Nat.reduceEqDiff, reduceIte]
    unfold begE
    rw [if_neg (by simpa using hc13)]
    exact ⟨by trivial, hs.fm⟩
theorem begin_nil (b : Bir) (ep : Int) (w0 : World) :
    Ret Tryz.prog 86 #[.pointer none, .agg (birV b).toArray, .int .i64 ep] w0 fun v w' => v = .int .i64 1 ∧ Fm [] w0 w' := by
  have hs := St.init w0 []
  refine Ret_enter Tryz.func86 rfl Tryz.ntmps86 (by simp) ?_
  refine CW_seq (fun K1 hK1 => ?_)
  refine CW_region ?_
  refine bx (.agg (birV b).toArray) (vl := birV b) hs rfl rfl ?_
  intro w g4 hs hg4 hf4
  refine asp (.int _ _) rfl ?_
  refine WL_nil ?_
  refine hK1 _ _ ?_
  refine CW_seq (fun K2 hK2 => ?_)
  refine CW_seq (fun K3 hK3 => ?_)
  refine CW_region ?_
  refine mvp (.pointer _) rfl ?_
  refine eqnP rfl rfl ?_
  refine WL_nil ?_
  refine hK3 _ _ ?_
  refine CW_condT rfl (rfl) ?_
  refine CW_seq (fun K4 hK4 => ?_)
  refine CW_region ?_
  refine asp (.int _ _) rfl ?_
  refine WL_nil ?_
  refine hK4 _ _ ?_
  refine CW_ret ?_
  repeat (first | (with_reducible apply thenF_ret) | (with_reducible apply blockF_ret))
  try simp only [thenF, blockF, reduceIte]
  refine Post_r Tryz.results86 (.tmp rfl .nil) ?_
  try simp only [ev_tmp, ev_const, upd_ap, Nat.reduceLT, Nat.reduceEqDiff, reduceIte]
  exact ⟨by trivial, hs.fm⟩
theorem read_ok (g b r1 r2 : Nat) (t : Tr) (a : Option Addr) (m c : Nat) (R C N : Chs) (bi : Bir) (ep : Int) (w0 : World) (hV : (eV g b r1 r2 t a m c R C N).holds w0) (ho : bi.maker.size ≤ 9223372036854775807)
    (hsz : (vwGet t N (lkName bi)).1.size ≤ 140737488355328) :
    Ret Tryz.prog 87 #[.pointer (some ⟨g, 0, none⟩), .agg (birV bi).toArray, .int .i64 ep] w0 fun v w' => ∃ la ln lc, v = .tuple #[.agg (lkV (lkRead t N bi ep).1.ep (lkRead t N bi ep).1.sh la ln lc).toArray, .int .i64 (lkRead t N bi ep).2] ∧ ln = (lkRead t N bi ep).1.hs.length ∧
      Turned (eV g b r1 r2 t a m c R C N) (eL [eV g b r1 r2 t a m c (vwRead t R N (lkName bi)) C N, eR (.slice la ln lc) 42 1 ln (sv (lkRead t N bi ep).1.hs)]) w0 w' := by
  have hs := St.ent hV
  refine Ret_enter Tryz.func87 rfl Tryz.ntmps87 (by simp) ?_
  refine CW_seq (fun K1 hK1 => ?_)
  refine CW_region ?_
  refine bx (.agg (birV bi).toArray) (vl := birV bi) hs rfl rfl ?_
  intro w g4 hs hg4 hf4
  refine alc hs ?_
  intro w g6 hs hg6 hf6
  refine asp (.int _ _) rfl ?_
  refine WL_nil ?_
  refine hK1 _ _ ?_
  refine CW_seq (fun K2 hK2 => ?_)
  refine CW_region ?_
  refine mvp (.pointer _) rfl ?_
  refine ldA hs rfl (by simp) ?_
  refine cll (OfLock_ok bi _) ?_
  rintro _ w ⟨rfl, hf⟩
  replace hs := hs.call hf
  refine cll (VGet_ok g b r1 r2 t a m c R C N (lkName bi) _ (hs.he _) ho) ?_
  rintro _ w ⟨rfl, ht⟩
  replace hs := hs.turnE rfl ht
  refine mvp (.tuple _) rfl ?_
  refine ext rfl rfl ?_
  refine ext rfl rfl ?_
  refine asp (.string _) rfl ?_
  refine asp (.bool _) rfl ?_
  refine WL_nil ?_
  refine hK2 _ _ ?_
  refine CW_seq (fun K3 hK3 => ?_)
  refine CW_seq (fun K4 hK4 => ?_)
  refine CW_region ?_
  refine mvp (.bool _) rfl ?_
  refine notW rfl ?_
  refine WL_nil ?_
  refine hK4 _ _ ?_
  refine CW_cond rfl (fun hc20 => ?_) (fun hc20 => ?_)
  · skip
    refine CW_seq (fun K5 hK5 => ?_)
    refine CW_region ?_
    refine mvp (.int _ _) rfl ?_
    refine WL_v (v := .agg (lkV ep false none 0 0).toArray) (X_build rfl rfl) ?_
    refine sto (.agg (lkV ep false none 0 0).toArray) (vl := lkV ep false none 0 0) hs rfl rfl rfl rfl (by simp) rfl ?_
    intro w hs _
    replace hs : St w0 _ w (eB g6 true (Blk 24 (lkV ep false none 0 0)) :: _) := hs
    refine asp (.int _ _) rfl ?_
    refine WL_nil ?_
    refine hK5 _ _ ?_
    refine CW_ret ?_
    repeat (first | (with_reducible apply thenF_ret) | (with_reducible apply blockF_ret))
    try simp only [thenF, blockF, reduceIte]
    refine Post_r Tryz.results87 (.cell rfl (lvA hs (by simp)) (.tmp rfl .nil)) ?_
    try simp only [ev_tmp, ev_const, upd_ap, Nat.reduceLT, Nat.reduceEqDiff, reduceIte]
    have e1 : lkRead t N bi ep = (⟨ep, false, []⟩, 0) := by unfold lkRead; rw [if_pos (by simpa using hc20)]
    rw [e1]
    exact ⟨none, 0, 0, rfl, rfl, hs.ret2n rfl _ _⟩
  · skip
    refine CW_skip ?_
    refine hK3 _ _ ?_
    refine CW_seq (fun K6 hK6 => ?_)
    refine CW_region ?_
    refine mvp (.string _) rfl ?_
    refine cll (Decode_ok (vwGet t N (lkName bi)).1 _ hsz) ?_
    rintro _ w ⟨⟨la, ln, lc, rfl, hln, hnew⟩, hf⟩
    replace hs := hs.callR hf hnew
    refine mvp (.tuple _) rfl ?_
    refine ext rfl rfl ?_
    refine ext rfl rfl ?_
    refine alc hs ?_
    intro w g10 hs hg10 hf10
    refine sto (.agg (lkV (decR (vwGet t N (lkName bi)).1.data.toList).1.ep (decR (vwGet t N (lkName bi)).1.data.toList).1.sh la ln lc).toArray) (vl := lkV (decR (vwGet t N (lkName bi)).1.data.toList).1.ep (decR (vwGet t N (lkName bi)).1.data.toList).1.sh la ln lc) hs rfl rfl rfl rfl (by simp) rfl ?_
    intro w hs _
    replace hs : St w0 _ w (eB g10 true (Blk 24 (lkV (decR (vwGet t N (lkName bi)).1.data.toList).1.ep (decR (vwGet t N (lkName bi)).1.data.toList).1.sh la ln lc)) :: _) := hs
    refine asp (.int _ _) rfl ?_
    refine WL_nil ?_
    refine hK6 _ _ ?_
    refine CW_seq (fun K7 hK7 => ?_)
    refine CW_seq (fun K8 hK8 => ?_)
    refine CW_region ?_
    refine mvp (.int _ _) rfl ?_
    refine neqW rfl rfl ?_
    refine WL_nil ?_
    refine hK8 _ _ ?_
    refine CW_cond rfl (fun hc29 => ?_) (fun hc29 => ?_)
    · skip
      refine CW_seq (fun K9 hK9 => ?_)
      refine CW_region ?_
      refine WL_v (v := .agg (lkV 0 false none 0 0).toArray) (X_build rfl rfl) ?_
      refine mvp (.int _ _) rfl ?_
      refine sto (.agg (lkV 0 false none 0 0).toArray) (vl := lkV 0 false none 0 0) hs rfl rfl rfl rfl (by simp) rfl ?_
      intro w hs _
      replace hs : St w0 _ w (_ :: _ :: eB g6 true (Blk 24 (lkV 0 false none 0 0)) :: _) := hs
      refine asp (.int _ _) rfl ?_
      refine WL_nil ?_
      refine hK9 _ _ ?_
      refine CW_ret ?_
      repeat (first | (with_reducible apply thenF_ret) | (with_reducible apply blockF_ret))
      try simp only [thenF, blockF, reduceIte]
      refine Post_r Tryz.results87 (.cell rfl (lvA hs (by simp)) (.tmp rfl .nil)) ?_
      try simp only [ev_tmp, ev_const, upd_ap, Nat.reduceLT, Nat.reduceEqDiff, reduceIte]
      have e1 : lkRead t N bi ep = (⟨0, false, []⟩, (decR (vwGet t N (lkName bi)).1.data.toList).2) := by unfold lkRead; rw [if_neg (by simpa using hc20), if_pos (by simpa using hc29)]
      rw [e1]
      exact ⟨none, 0, 0, rfl, rfl, hs.ret2n rfl _ _⟩
    · skip
      refine CW_skip ?_
      refine hK7 _ _ ?_
      refine CW_seq (fun K10 hK10 => ?_)
      refine CW_seq (fun K11 hK11 => ?_)
      refine CW_region ?_
      refine fad rfl ?_
      refine ld hs rfl rfl ?_
      refine mvp (.int _ _) rfl ?_
      refine neqW rfl rfl ?_
      refine WL_nil ?_
      refine hK11 _ _ ?_
      refine CW_cond rfl (fun hc35 => ?_) (fun hc35 => ?_)
      · skip
        refine CW_seq (fun K12 hK12 => ?_)
        refine CW_region ?_
        refine mvp (.int _ _) rfl ?_
        refine WL_v (v := .agg (lkV ep false none 0 0).toArray) (X_build rfl rfl) ?_
        refine sto (.agg (lkV ep false none 0 0).toArray) (vl := lkV ep false none 0 0) hs rfl rfl rfl rfl (by simp) rfl ?_
        intro w hs _
        replace hs : St w0 _ w (_ :: _ :: eB g6 true (Blk 24 (lkV ep false none 0 0)) :: _) := hs
        refine asp (.int _ _) rfl ?_
        refine WL_nil ?_
        refine hK12 _ _ ?_
        refine CW_ret ?_
        repeat (first | (with_reducible apply thenF_ret) | (with_reducible apply blockF_ret))
        try simp only [thenF, blockF, reduceIte]
        refine Post_r Tryz.results87 (.cell rfl (lvA hs (by simp)) (.tmp rfl .nil)) ?_
        try simp only [ev_tmp, ev_const, upd_ap, Nat.reduceLT, Nat.reduceEqDiff, reduceIte]
        have e1 : lkRead t N bi ep = (⟨ep, false, []⟩, 0) := by unfold lkRead; rw [if_neg (by simpa using hc20), if_neg (by simpa using hc29), if_pos (by simpa using hc35)]
        rw [e1]
        exact ⟨none, 0, 0, rfl, rfl, hs.ret2n rfl _ _⟩
      · skip
        refine CW_skip ?_
        refine hK10 _ _ ?_
        refine CW_seq (fun K13 hK13 => ?_)
        refine CW_region ?_
        refine ldA hs rfl (by simp) ?_
        refine sto (.agg (lkV (decR (vwGet t N (lkName bi)).1.data.toList).1.ep (decR (vwGet t N (lkName bi)).1.data.toList).1.sh la ln lc).toArray) (vl := lkV (decR (vwGet t N (lkName bi)).1.data.toList).1.ep (decR (vwGet t N (lkName bi)).1.data.toList).1.sh la ln lc) hs rfl rfl rfl rfl (by simp) rfl ?_
        intro w hs _
        replace hs : St w0 _ w (_ :: _ :: eB g6 true (Blk 24 (lkV (decR (vwGet t N (lkName bi)).1.data.toList).1.ep (decR (vwGet t N (lkName bi)).1.data.toList).1.sh la ln lc)) :: _) := hs
        refine asp (.int _ _) rfl ?_
        refine WL_nil ?_
        refine hK13 _ _ ?_
        refine CW_ret ?_
        repeat (first | (with_reducible apply thenF_ret) | (with_reducible apply blockF_ret))
        try simp only [thenF, blockF, reduceIte]
        refine Post_r Tryz.results87 (.cell rfl (lvA hs (by simp)) (.tmp rfl .nil)) ?_
        try simp only [ev_tmp, ev_const, upd_ap, Nat.reduceLT, Nat.reduceEqDiff, reduceIte]
        have e1 : lkRead t N bi ep = ((decR (vwGet t N (lkName bi)).1.data.toList).1, 0) := by unfold lkRead; rw [if_neg (by simpa using hc20), if_neg (by simpa using hc29), if_neg (by simpa using hc35)]
        rw [e1]
        exact ⟨la, ln, lc, rfl, hln, hs.ret2 rfl rfl⟩
theorem write_lk_ok (g b r1 r2 : Nat) (t : Tr) (a : Option Addr) (m c : Nat) (R C N : Chs) (bi : Bir) (l : Lk) (la : Option Addr) (ln lc : Nat) (w0 : World) (hV : (eV g b r1 r2 t a m c R C N).holds w0) (ho : bi.maker.size ≤ 9223372036854775807) (hm : m ≤ 1000000)
    (hr : Rd w0 la ln 1 (sv l.hs)) (hn : ln = l.hs.length) (hsz : ∀ h ∈ l.hs, h.size ≤ 9223372036854775807) (hck : lkCheck l = 0 → ∀ h ∈ l.hs, h.size ≤ 65536) (hd : ∀ w, Fm [] w0 w → Rd w la ln 1 (sv l.hs)) :
    Ret Tryz.prog 81 #[.pointer (some ⟨g, 0, none⟩), .agg (birV bi).toArray, .agg (lkV l.ep l.sh la ln lc).toArray] w0 fun v w' => v = .int .i64 (wrE bi l) ∧ ∃ a' m' c' C', m' ≤ m + 1 ∧ Turned (eV g b r1 r2 t a m c R C N) (eV g b r1 r2 t a' m' c' R C' (wrN N bi l)) w0 w' := by
  have hs := St.ent hV
  have hf0 : Fm [] w0 w0 := Fm.refl _ _
  refine Ret_enter Tryz.func81 rfl Tryz.ntmps81 (by simp) ?_
  refine CW_seq (fun K1 hK1 => ?_)
  refine CW_region ?_
  refine bx (.agg (birV bi).toArray) (vl := birV bi) hs rfl rfl ?_
  intro w g4 hs hg4 hf4
  refine bx (.agg (lkV l.ep l.sh la ln lc).toArray) (vl := lkV l.ep l.sh la ln lc) hs rfl rfl ?_
  intro w g5 hs hg5 hf5
  refine asp (.int _ _) rfl ?_
  refine WL_nil ?_
  refine hK1 _ _ ?_
  refine CW_seq (fun K2 hK2 => ?_)
  refine CW_region ?_
  refine ldA hs rfl (by simp) ?_
  refine cll (Encode_ok l la ln lc _ (hd _ (hf4.then hf5)) hn hsz hck) ?_
  rintro _ w ⟨rfl, hf⟩
  replace hs := hs.call hf
  refine mvp (.tuple _) rfl ?_
  refine ext rfl rfl ?_
  refine ext rfl rfl ?_
  refine asp (.string _) rfl ?_
  refine asp (.int _ _) rfl ?_
  refine WL_nil ?_
  refine hK2 _ _ ?_
  refine CW_seq (fun K3 hK3 => ?_)
  refine CW_seq (fun K4 hK4 => ?_)
  refine CW_region ?_
  refine mvp (.int _ _) rfl ?_
  refine neqW rfl rfl ?_
  refine WL_nil ?_
  refine hK4 _ _ ?_
  refine CW_cond rfl (fun hc15 => ?_) (fun hc15 => ?_)
  · skip
    refine CW_seq (fun K5 hK5 => ?_)
    refine CW_region ?_
    refine mvp (.int _ _) rfl ?_
    refine asp (.int _ _) rfl ?_
    refine WL_nil ?_
    refine hK5 _ _ ?_
    refine CW_ret ?_
    repeat (first | (with_reducible apply thenF_ret) | (with_reducible apply blockF_ret))
    try simp only [thenF, blockF, reduceIte]
    refine Post_r Tryz.results81 (.tmp rfl .nil) ?_
    try simp only [ev_tmp, ev_const, upd_ap, Nat.reduceLT, Nat.reduceEqDiff, reduceIte]
    have h15 : lkCheck l ≠ 0 := by simpa using hc15
    unfold wrE wrN
    rw [if_pos h15, if_pos h15]
    exact ⟨by trivial, a, m, c, C, by omega, hs.ret1 rfl⟩
  · skip
    refine CW_skip ?_
    refine hK3 _ _ ?_
    refine CW_seq (fun K6 hK6 => ?_)
    refine CW_region ?_
    refine mvp (.pointer _) rfl ?_
    refine ldA hs rfl (by simp) ?_
    refine cll (OfLock_ok bi _) ?_
    rintro _ w ⟨rfl, hf⟩
    replace hs := hs.call hf
    rw [if_pos (show lkCheck l = 0 by simpa using hc15)]
    refine mvp (.string _) rfl ?_
    refine cll (VSet_ok g b r1 r2 t a m c R C N (lkName bi) (str (lkEnc l)) _ (hs.he _) ho hm) ?_
    rintro _ w ⟨rfl, a', m', c', C', hm', ht⟩
    replace hs := hs.turnE rfl ht
    refine asp (.int _ _) rfl ?_
    refine WL_nil ?_
    refine hK6 _ _ ?_
    refine CW_ret ?_
    repeat (first | (with_reducible apply thenF_ret) | (with_reducible apply blockF_ret))
    try simp only [thenF, blockF, reduceIte]
    refine Post_r Tryz.results81 (.tmp rfl .nil) ?_
    try simp only [ev_tmp, ev_const, upd_ap, Nat.reduceLT, Nat.reduceEqDiff, reduceIte]
    have h15 : ¬ lkCheck l ≠ 0 := by simpa using hc15
    unfold wrE wrN
    rw [if_neg h15, if_neg h15]
    exact ⟨by trivial, a', m', c', C', hm', hs.ret1 rfl⟩
end Go.Proofs.YtkbldndbofbkcaaGreatDoor
/- lock: the search, Get, use. -/
namespace Go.Proofs.YtkbldndbofbkcaaGreatDoor
open Go Go.RowKit
attribute [local irreducible] WL CW DW Ret RW
theorem shr1 (u : Int) (h0 : 0 ≤ u) : u.fdiv (2 ^ (min (1 : Int).toNat IntKind.u64.bits)) = u / 2 := by
  have e : (2 : Int) ^ (min (1 : Int).toNat IntKind.u64.bits) = 2 := by decide
  rw [e, Int.fdiv_eq_ediv_of_nonneg _ (by omega)]
theorem getD_at {l : List ByteArray} {i : Nat} (h : i < l.length) : l.getD i ⟨#[]⟩ = l[i] := by simp [List.getD, h]
theorem BS_ok (a : Option Addr) (n c : Nat) (l : List ByteArray) (who : ByteArray) (w0 : World) (hr : Rd w0 a n 1 (sv l)) (hn : n = l.length) (hl : n ≤ 2305843009213693952) (hsz : ∀ h ∈ l, h.size ≤ 9223372036854775807) (hw : who.size ≤ 9223372036854775807) :
    Ret Tryz.prog 147 #[.slice a n c, .string who, .func (.func 90) #[] #[]] w0 fun v w' => v = .tuple #[.int .i64 (bsAt l who), .bool (bsFound l who)] ∧ Fm [] w0 w' := by
  have hs := St.init w0 []
  refine Ret_enter Tryz.func147 rfl Tryz.ntmps147 (by simp) ?_
  refine CW_seq (fun K1 hK1 => ?_)
  refine CW_region ?_
  refine asp (.int _ _) rfl ?_
  refine asp (.bool _) rfl ?_
  refine WL_nil ?_
  refine hK1 _ _ ?_
  refine CW_seq (fun K2 hK2 => ?_)
  refine CW_region ?_
  refine mvp (.slice _ _ _) rfl ?_
  refine lenW rfl ?_
  refine asp (.int _ _) rfl ?_
  refine WL_nil ?_
  refine hK2 _ _ ?_
  refine CW_seq (fun K3 hK3 => ?_)
  refine CW_region ?_
  refine mvp (.int _ _) rfl ?_
  refine asp (.int _ _) rfl ?_
  refine asp (.int _ _) rfl ?_
  refine WL_nil ?_
  refine hK3 _ _ ?_
  refine CW_seq (fun K4 hK4 => ?_)
  refine CW_block ?_
  refine CW_loop (fun k f w' => ∃ i j k0 : Nat, k = j - i ∧ i ≤ j ∧ j ≤ n ∧ j - i < k0 ∧ bsI l who k0 i j = bsAt l who ∧ f 0 = .slice a n c ∧ f 1 = .string who ∧ f 2 = .func (.func 90) #[] #[] ∧ f 8 = .int .i64 n ∧ f 9 = .int .i64 i ∧ f 10 = .int .i64 j ∧ St w0 [] w' []) n ?_ ?_
  · exact ⟨0, n, l.length + 1, by omega, by omega, by omega, by omega, by rw [hn]; rfl, rfl, rfl, rfl, rfl, rfl, rfl, hs⟩
  · rintro k f w1 ⟨i, j, k0, rfl, hij, hj, hk0, hb, e0, e1, e2, e8, e9, e10, hs⟩
    refine CW_kn (i := 0) e0 (CW_kn (i := 1) e1 (CW_kn (i := 2) e2 (CW_kn (i := 8) e8 (CW_kn (i := 9) e9 (CW_kn (i := 10) e10 ?_)))))
    refine CW_seq (fun K5 hK5 => ?_)
    refine CW_seq (fun K6 hK6 => ?_)
    refine CW_region ?_
    refine mvp (.int _ _) rfl ?_
    refine mvp (.int _ _) rfl ?_
    refine lssW rfl rfl ?_
    refine WL_nil ?_
    refine hK6 _ _ ?_
    refine CW_cond rfl (fun hc17 => ?_) (fun hc17 => ?_)
    · have hlt : i < j := by simpa using hc17
      obtain ⟨h, hh⟩ : ∃ h : Nat, (i + j) / 2 = h := ⟨_, rfl⟩
      obtain ⟨k1, rfl⟩ : ∃ k1, k0 = k1 + 1 := ⟨k0 - 1, by omega⟩
      have hh2 : ((i : Int) + j) / 2 = (h : Int) := by omega
      have hh3 : h < l.length := by omega
      rw [bsI, if_pos hlt, hh] at hb
      obtain ⟨bb, off, rfl, hcell⟩ := sv_at (hr.fm hs.fm) hh3
      refine CW_skip ?_
      refine hK5 _ _ ?_
      refine CW_block ?_
      refine CW_seq (fun K7 hK7 => ?_)
      refine CW_region ?_
      refine mvp (.int _ _) rfl ?_
      refine mvp (.int _ _) rfl ?_
      first | refine addI rfl rfl (by omega) ?_ | refine addW rfl rfl ?_
      refine cviW rfl ?_
      rw [u64_wrap _ (by omega) (by omega)]
      refine shrW rfl rfl (by omega) ?_
      rw [shr1 _ (by omega), hh2]
      first | refine cviI rfl (by omega) ?_ | refine cviW rfl ?_
      refine asp (.int _ _) rfl ?_
      refine WL_nil ?_
      refine hK7 _ _ ?_
      refine CW_seq (fun K8 hK8 => ?_)
      refine CW_region ?_
      apply mv
      refine mvp (.slice _ _ _) rfl ?_
      refine mvp (.int _ _) rfl ?_
      refine iad rfl rfl (by omega) ?_
      refine ldc (v := .string l[h]) rfl (by simpa using hcell h hh3) ?_
      refine mvp (.string _) rfl ?_
      refine clv (fn := 90) (first := []) (cap := []) rfl (LCompare_ok l[h] who _ (hsz _ (List.getElem_mem _)) hw) ?_
      rintro _ w ⟨rfl, hf⟩
      replace hs := hs.call hf
      refine lssW rfl rfl ?_
      refine WL_nil ?_
      refine hK8 _ _ ?_
      refine CW_cond rfl (fun hc31 => ?_) (fun hc31 => ?_)
      · skip
        refine CW_region ?_
        refine mvp (.int _ _) rfl ?_
        first | refine addI rfl rfl (by omega) ?_ | refine addW rfl rfl ?_
        refine asp (.int _ _) rfl ?_
        refine WL_nil ?_
        skip
        first
          | (refine ⟨j - (h + 1), by omega, h + 1, j, k1, rfl, by omega, hj, by omega, ?_, rfl, rfl, rfl, rfl, rfl, rfl, hs⟩
             rw [if_pos (by rw [getD_at hh3]; simpa using hc31)] at hb
             exact hb)
          | (refine ⟨h - i, by omega, i, h, k1, rfl, by omega, by omega, by omega, ?_, rfl, rfl, rfl, rfl, rfl, rfl, hs⟩
             rw [if_neg (by rw [getD_at hh3]; simpa using hc31)] at hb
             exact hb)
      · skip
        refine CW_region ?_
        refine mvp (.int _ _) rfl ?_
        refine asp (.int _ _) rfl ?_
        refine WL_nil ?_
        skip
        first
          | (refine ⟨j - (h + 1), by omega, h + 1, j, k1, rfl, by omega, hj, by omega, ?_, rfl, rfl, rfl, rfl, rfl, rfl, hs⟩
             rw [if_pos (by rw [getD_at hh3]; simpa using hc31)] at hb
             exact hb)
          | (refine ⟨h - i, by omega, i, h, k1, rfl, by omega, by omega, by omega, ?_, rfl, rfl, rfl, rfl, rfl, rfl, hs⟩
             rw [if_neg (by rw [getD_at hh3]; simpa using hc31)] at hb
             exact hb)
    · have hlt : ¬ i < j := by simpa using hc17
      have hi : bsAt l who = i := by rw [← hb]; exact bsI_end _ _ _ _ _ (by omega)
      refine CW_exit ?_
      refine hK4 _ _ ?_
      refine CW_seq (fun K9 hK9 => ?_)
      refine CW_region ?_
      refine mvp (.int _ _) rfl ?_
      refine mvp (.int _ _) rfl ?_
      refine mvp (.int _ _) rfl ?_
      refine lssW rfl rfl ?_
      refine mvp (.bool _) rfl ?_
      refine WL_g (g := 39) rfl (by decide) rfl (fun hg39 => ?_) (fun hg39 => ?_)
      · skip
        have hi3 : i < l.length := by simp at hg39; omega
        obtain ⟨bb, off, rfl, hcell⟩ := sv_at (hr.fm hs.fm) hi3
        refine mvp (.func _ _ _) rfl ?_
        refine WL_gy (g := 39) rfl (by decide) rfl ?_
        refine mvp (.slice _ _ _) rfl ?_
        refine WL_gy (g := 39) rfl (by decide) rfl ?_
        refine mvp (.int _ _) rfl ?_
        refine WL_gy (g := 39) rfl (by decide) rfl ?_
        refine iad rfl rfl (by omega) ?_
        refine WL_gy (g := 39) rfl (by decide) rfl ?_
        refine ldc (v := .string l[i]) rfl (by simpa using hcell i hi3) ?_
        refine WL_gy (g := 39) rfl (by decide) rfl ?_
        refine mvp (.string _) rfl ?_
        refine WL_gy (g := 39) rfl (by decide) rfl ?_
        refine clv (fn := 90) (first := []) (cap := []) rfl (LCompare_ok l[i] who _ (hsz _ (List.getElem_mem _)) hw) ?_
        rintro _ w ⟨rfl, hf⟩
        replace hs := hs.call hf
        refine WL_gy (g := 39) rfl (by decide) rfl ?_
        refine eqlW rfl rfl ?_
        first | refine pkT rfl rfl ?_ | refine pkF rfl rfl ?_
        refine asp (.int _ _) rfl ?_
        refine asp (.bool _) rfl ?_
        refine WL_nil ?_
        refine hK9 _ _ ?_
        refine CW_ret ?_
        repeat (first | (with_reducible apply thenF_ret) | (with_reducible apply blockF_ret))
        try simp only [thenF, blockF, reduceIte]
        refine Post_r Tryz.results147 (.tmp rfl (.tmp rfl .nil)) ?_
        try simp only [ev_tmp, ev_const, upd_ap, Nat.reduceLT, Nat.reduceEqDiff, reduceIte]
        refine ⟨?_, hs.fm⟩
        unfold bsFound
        rw [hi]
        first
          | (rw [decide_eq_true (show i < l.length from hi3), getD_at hi3]; rfl)
          | (rw [decide_eq_false (show ¬ i < l.length by simp at hg39; omega)]; rfl)
      · skip
        refine WL_gn (g := 39) rfl (by decide) rfl ?_
        refine WL_gn (g := 39) rfl (by decide) rfl ?_
        refine WL_gn (g := 39) rfl (by decide) rfl ?_
        refine WL_gn (g := 39) rfl (by decide) rfl ?_
        refine WL_gn (g := 39) rfl (by decide) rfl ?_
        refine WL_gn (g := 39) rfl (by decide) rfl ?_
        refine WL_gn (g := 39) rfl (by decide) rfl ?_
        first | refine pkT rfl rfl ?_ | refine pkF rfl rfl ?_
        refine asp (.int _ _) rfl ?_
        refine asp (.bool _) rfl ?_
        refine WL_nil ?_
        refine hK9 _ _ ?_
        refine CW_ret ?_
        repeat (first | (with_reducible apply thenF_ret) | (with_reducible apply blockF_ret))
        try simp only [thenF, blockF, reduceIte]
        refine Post_r Tryz.results147 (.tmp rfl (.tmp rfl .nil)) ?_
        try simp only [ev_tmp, ev_const, upd_ap, Nat.reduceLT, Nat.reduceEqDiff, reduceIte]
        refine ⟨?_, hs.fm⟩
        unfold bsFound
        rw [hi]
        first
          | (rw [decide_eq_true (show i < l.length from hi3), getD_at hi3]; rfl)
          | (rw [decide_eq_false (show ¬ i < l.length by simp at hg39; omega)]; rfl)
theorem lkRead_short {t : Tr} {N : Chs} {b : Bir} {ep : Int} : ∀ h ∈ (lkRead t N b ep).1.hs, h.size ≤ 9223372036854775807 := by
  intro h hm
  unfold lkRead at hm
  have key : ∀ bs : List UInt8, ∀ h ∈ (decR bs).1.hs, h.size ≤ 9223372036854775807 := by
    intro bs h hm
    unfold decR lkDec at hm
    split at hm
    · rename_i l hl
      split at hl
      · injection hl with hl; rw [← hl] at hm; exact rTs_short _ _ _ _ h hm
      · cases hl
    · cases hm
  split at hm
  · cases hm
  · split at hm
    · cases hm
    · split at hm
      · cases hm
      · exact key _ h hm
theorem Get_ok (g b r1 r2 : Nat) (t : Tr) (a : Option Addr) (m c : Nat) (R C N : Chs) (bi : Bir) (ep : Int) (w0 : World) (hV : (eV g b r1 r2 t a m c R C N).holds w0) (ho : bi.maker.size ≤ 9223372036854775807)
    (hsz : (vwGet t N (lkName bi)).1.size ≤ 140737488355328) :
    Ret Tryz.prog 28 #[.pointer (some ⟨g, 0, none⟩), .agg (birV bi).toArray, .int .i64 ep] w0 fun v w' => ∃ la ln lc R', v = .tuple #[.agg (lkV (getE t N bi ep).1.ep (getE t N bi ep).1.sh la ln lc).toArray, .int .i64 (getE t N bi ep).2] ∧ ln = (getE t N bi ep).1.hs.length ∧
      Turned (eV g b r1 r2 t a m c R C N) (eL [eV g b r1 r2 t a m c R' C N, eR (.slice la ln lc) 42 1 ln (sv (getE t N bi ep).1.hs)]) w0 w' := by
  have hs := St.ent hV
  refine Ret_enter Tryz.func28 rfl Tryz.ntmps28 (by simp) ?_
  refine CW_seq (fun K1 hK1 => ?_)
  refine CW_region ?_
  refine bx (.agg (birV bi).toArray) (vl := birV bi) hs rfl rfl ?_
  intro w g4 hs hg4 hf4
  refine alc hs ?_
  intro w g6 hs hg6 hf6
  refine asp (.int _ _) rfl ?_
  refine WL_nil ?_
  refine hK1 _ _ ?_
  refine CW_seq (fun K2 hK2 => ?_)
  refine CW_seq (fun K3 hK3 => ?_)
  refine CW_region ?_
  refine mvp (.pointer _) rfl ?_
  refine ldA hs rfl (by simp) ?_
  refine mvp (.int _ _) rfl ?_
  refine cll (begin_ok g bi ep _ ho) ?_
  rintro _ w ⟨rfl, hf⟩
  replace hs := hs.call hf
  refine asp (.int _ _) rfl ?_
  refine WL_nil ?_
  refine hK3 _ _ ?_
  refine CW_seq (fun K4 hK4 => ?_)
  refine CW_region ?_
  refine mvp (.int _ _) rfl ?_
  refine neqW rfl rfl ?_
  refine WL_nil ?_
  refine hK4 _ _ ?_
  refine CW_cond rfl (fun hc14 => ?_) (fun hc14 => ?_)
  · skip
    refine CW_seq (fun K5 hK5 => ?_)
    refine CW_region ?_
    refine WL_v (v := .agg (lkV 0 false none 0 0).toArray) (X_build rfl rfl) ?_
    refine mvp (.int _ _) rfl ?_
    refine sto (.agg (lkV 0 false none 0 0).toArray) (vl := lkV 0 false none 0 0) hs rfl rfl rfl rfl (by simp) rfl ?_
    intro w hs _
    replace hs : St w0 _ w (eB g6 true (Blk 24 (lkV 0 false none 0 0)) :: _) := hs
    refine asp (.int _ _) rfl ?_
    refine WL_nil ?_
    refine hK5 _ _ ?_
    refine CW_ret ?_
    repeat (first | (with_reducible apply thenF_ret) | (with_reducible apply blockF_ret))
    try simp only [thenF, blockF, reduceIte]
    refine Post_r Tryz.results28 (.cell rfl (lvA hs (by simp)) (.tmp rfl .nil)) ?_
    try simp only [ev_tmp, ev_const, upd_ap, Nat.reduceLT, Nat.reduceEqDiff, reduceIte]
    have e1 : getE t N bi ep = (⟨0, false, []⟩, begE bi ep) := by unfold getE; rw [if_pos (by simpa using hc14)]
    rw [e1]
    exact ⟨none, 0, 0, R, rfl, rfl, hs.ret2n rfl _ _⟩
  · skip
    refine CW_skip ?_
    refine hK2 _ _ ?_
    refine CW_seq (fun K6 hK6 => ?_)
    refine CW_region ?_
    refine mvp (.pointer _) rfl ?_
    refine ldA hs rfl (by simp) ?_
    refine mvp (.int _ _) rfl ?_
    refine cll (read_ok g b r1 r2 t a m c R C N bi ep _ (hs.he _) ho hsz) ?_
    rintro _ w ⟨la, ln, lc, rfl, hln, ht⟩
    replace hs := hs.turn2 ht rfl rfl rfl
    refine ext rfl rfl ?_
    refine ext rfl rfl ?_
    refine sto (.agg (lkV (lkRead t N bi ep).1.ep (lkRead t N bi ep).1.sh la ln lc).toArray) (vl := lkV (lkRead t N bi ep).1.ep (lkRead t N bi ep).1.sh la ln lc) hs rfl rfl rfl rfl (by simp) rfl ?_
    intro w hs _
    replace hs : St w0 _ w (_ :: _ :: eB g6 true (Blk 24 (lkV (lkRead t N bi ep).1.ep (lkRead t N bi ep).1.sh la ln lc)) :: _) := hs
    refine asp (.int _ _) rfl ?_
    refine WL_nil ?_
    refine hK6 _ _ ?_
    refine CW_ret ?_
    repeat (first | (with_reducible apply thenF_ret) | (with_reducible apply blockF_ret))
    try simp only [thenF, blockF, reduceIte]
    refine Post_r Tryz.results28 (.cell rfl (lvA hs (by simp)) (.tmp rfl .nil)) ?_
    try simp only [ev_tmp, ev_const, upd_ap, Nat.reduceLT, Nat.reduceEqDiff, reduceIte]
    have e1 : getE t N bi ep = lkRead t N bi ep := by unfold getE; rw [if_neg (by simpa using hc14)]
    rw [e1]
    exact ⟨la, ln, lc, vwRead t R N (lkName bi), rfl, hln, hs.ret2 rfl rfl⟩
theorem use_ok (g b r1 r2 : Nat) (t : Tr) (a : Option Addr) (m c : Nat) (R C N : Chs) (bi : Bir) (ep : Int) (who : ByteArray) (w0 : World) (hV : (eV g b r1 r2 t a m c R C N).holds w0) (ho : bi.maker.size ≤ 9223372036854775807)
    (hsz : (vwGet t N (lkName bi)).1.size ≤ 140737488355328) (hw : who.size ≤ 9223372036854775807) (hlen : (lkRead t N bi ep).1.hs.length ≤ 32) :
    Ret Tryz.prog 79 #[.pointer (some ⟨g, 0, none⟩), .agg (birV bi).toArray, .int .i64 ep, .string who] w0 fun v w' => ∃ la ln lc R', v = .tuple #[.agg (lkV (useL t N bi ep who).ep (useL t N bi ep who).sh la ln lc).toArray, .int .i64 (useAt t N bi ep who), .bool (useH t N bi ep who), .int .i64 (useE t N bi ep who)] ∧ ln = (useL t N bi ep who).hs.length ∧
      Turned (eV g b r1 r2 t a m c R C N) (eL [eV g b r1 r2 t a m c R' C N, eR (.slice la ln lc) 42 1 ln (sv (useL t N bi ep who).hs)]) w0 w' := by
  have hs := St.ent hV
  refine Ret_enter Tryz.func79 rfl Tryz.ntmps79 (by simp) ?_
  refine CW_seq (fun K1 hK1 => ?_)
  refine CW_region ?_
  refine bx (.agg (birV bi).toArray) (vl := birV bi) hs rfl rfl ?_
  intro w g5 hs hg5 hf5
  refine alc hs ?_
  intro w g8 hs hg8 hf8
  refine asp (.int _ _) rfl ?_
  refine asp (.bool _) rfl ?_
  refine asp (.int _ _) rfl ?_
  refine WL_nil ?_
  refine hK1 _ _ ?_
  refine CW_seq (fun K2 hK2 => ?_)
  refine CW_seq (fun K3 hK3 => ?_)
  refine CW_region ?_
  refine mvp (.pointer _) rfl ?_
  refine ldA hs rfl (by simp) ?_
  refine mvp (.int _ _) rfl ?_
  refine cll (begin_ok g bi ep _ ho) ?_
  rintro _ w ⟨rfl, hf⟩
  replace hs := hs.call hf
  refine asp (.int _ _) rfl ?_
  refine WL_nil ?_
  refine hK3 _ _ ?_
  refine CW_seq (fun K4 hK4 => ?_)
  refine CW_region ?_
  refine mvp (.int _ _) rfl ?_
  refine neqW rfl rfl ?_
  refine WL_nil ?_
  refine hK4 _ _ ?_
  refine CW_cond rfl (fun hc19 => ?_) (fun hc19 => ?_)
  · skip
    refine CW_seq (fun K5 hK5 => ?_)
    refine CW_region ?_
    refine WL_v (v := .agg (lkV 0 false none 0 0).toArray) (X_build rfl rfl) ?_
    refine mvp (.int _ _) rfl ?_
    refine sto (.agg (lkV 0 false none 0 0).toArray) (vl := lkV 0 false none 0 0) hs rfl rfl rfl rfl (by simp) rfl ?_
    intro w hs _
    replace hs : St w0 _ w (eB g8 true (Blk 24 (lkV 0 false none 0 0)) :: _) := hs
    refine asp (.int _ _) rfl ?_
    refine asp (.bool _) rfl ?_
    refine asp (.int _ _) rfl ?_
    refine WL_nil ?_
    refine hK5 _ _ ?_
    refine CW_ret ?_
    repeat (first | (with_reducible apply thenF_ret) | (with_reducible apply blockF_ret))
    try simp only [thenF, blockF, reduceIte]
    refine Post_r Tryz.results79 (.cell rfl (lvA hs (by simp)) (.tmp rfl (.tmp rfl (.tmp rfl .nil)))) ?_
    try simp only [ev_tmp, ev_const, upd_ap, Nat.reduceLT, Nat.reduceEqDiff, reduceIte]
    have h0 : begE bi ep ≠ 0 := by simpa using hc19
    have e0 : useE t N bi ep who = begE bi ep := by unfold useE; rw [if_pos h0]
    unfold useL useAt useH
    rw [e0, if_pos h0, if_pos h0, if_pos h0]
    exact ⟨none, 0, 0, R, rfl, rfl, hs.ret2n rfl _ _⟩
  · skip
    refine CW_skip ?_
    refine hK2 _ _ ?_
    refine CW_seq (fun K6 hK6 => ?_)
    refine CW_seq (fun K7 hK7 => ?_)
    refine CW_region ?_
    refine mvp (.string _) rfl ?_
    refine cll (checkHolder_ok who _ hw) ?_
    rintro _ w ⟨rfl, hf⟩
    replace hs := hs.call hf
    refine asp (.int _ _) rfl ?_
    refine WL_nil ?_
    refine hK7 _ _ ?_
    refine CW_seq (fun K8 hK8 => ?_)
    refine CW_region ?_
    refine mvp (.int _ _) rfl ?_
    refine neqW rfl rfl ?_
    refine WL_nil ?_
    refine hK8 _ _ ?_
    refine CW_cond rfl (fun hc25 => ?_) (fun hc25 => ?_)
    · skip
      refine CW_seq (fun K9 hK9 => ?_)
      refine CW_region ?_
      refine WL_v (v := .agg (lkV 0 false none 0 0).toArray) (X_build rfl rfl) ?_
      refine mvp (.int _ _) rfl ?_
      refine sto (.agg (lkV 0 false none 0 0).toArray) (vl := lkV 0 false none 0 0) hs rfl rfl rfl rfl (by simp) rfl ?_
      intro w hs _
      replace hs : St w0 _ w (eB g8 true (Blk 24 (lkV 0 false none 0 0)) :: _) := hs
      refine asp (.int _ _) rfl ?_
      refine asp (.bool _) rfl ?_
      refine asp (.int _ _) rfl ?_
      refine WL_nil ?_
      refine hK9 _ _ ?_
      refine CW_ret ?_
      repeat (first | (with_reducible apply thenF_ret) | (with_reducible apply blockF_ret))
      try simp only [thenF, blockF, reduceIte]
      refine Post_r Tryz.results79 (.cell rfl (lvA hs (by simp)) (.tmp rfl (.tmp rfl (.tmp rfl .nil)))) ?_
      try simp only [ev_tmp, ev_const, upd_ap, Nat.reduceLT, Nat.reduceEqDiff, reduceIte]
      have h0 : ¬ begE bi ep ≠ 0 := by simpa using hc19
      have h1 : okWho who ≠ 0 := by simpa using hc25
      have e0 : useE t N bi ep who = okWho who := by unfold useE; rw [if_neg h0, if_pos h1]
      unfold useL useAt useH
      rw [e0, if_pos h1, if_pos h1, if_pos h1]
      exact ⟨none, 0, 0, R, rfl, rfl, hs.ret2n rfl _ _⟩
    · skip
      refine CW_skip ?_
      refine hK6 _ _ ?_
      refine CW_seq (fun K10 hK10 => ?_)
      refine CW_seq (fun K11 hK11 => ?_)
      refine CW_region ?_
      refine mvp (.pointer _) rfl ?_
      refine ldA hs rfl (by simp) ?_
      refine mvp (.int _ _) rfl ?_
      refine cll (read_ok g b r1 r2 t a m c R C N bi ep _ (hs.he _) ho hsz) ?_
      rintro _ w ⟨la, ln, lc, rfl, hln, ht⟩
      replace hs := hs.turn2 ht rfl rfl rfl
      refine mvp (.tuple _) rfl ?_
      refine ext rfl rfl ?_
      refine ext rfl rfl ?_
      refine sto (.agg (lkV (lkRead t N bi ep).1.ep (lkRead t N bi ep).1.sh la ln lc).toArray) (vl := lkV (lkRead t N bi ep).1.ep (lkRead t N bi ep).1.sh la ln lc) hs rfl rfl rfl rfl (by simp) rfl ?_
      intro w hs _
      replace hs : St w0 _ w (_ :: _ :: eB g8 true (Blk 24 (lkV (lkRead t N bi ep).1.ep (lkRead t N bi ep).1.sh la ln lc)) :: _) := hs
      refine asp (.int _ _) rfl ?_
      refine WL_nil ?_
      refine hK11 _ _ ?_
      refine CW_seq (fun K12 hK12 => ?_)
      refine CW_region ?_
      refine mvp (.int _ _) rfl ?_
      refine neqW rfl rfl ?_
      refine WL_nil ?_
      refine hK12 _ _ ?_
      refine CW_cond rfl (fun hc36 => ?_) (fun hc36 => ?_)
      · skip
        refine CW_seq (fun K13 hK13 => ?_)
        refine CW_region ?_
        refine WL_v (v := .agg (lkV 0 false none 0 0).toArray) (X_build rfl rfl) ?_
        refine mvp (.int _ _) rfl ?_
        refine sto (.agg (lkV 0 false none 0 0).toArray) (vl := lkV 0 false none 0 0) hs rfl rfl rfl rfl (by simp) rfl ?_
        intro w hs _
        replace hs : St w0 _ w (_ :: _ :: eB g8 true (Blk 24 (lkV 0 false none 0 0)) :: _) := hs
        refine asp (.int _ _) rfl ?_
        refine asp (.bool _) rfl ?_
        refine asp (.int _ _) rfl ?_
        refine WL_nil ?_
        refine hK13 _ _ ?_
        refine CW_ret ?_
        repeat (first | (with_reducible apply thenF_ret) | (with_reducible apply blockF_ret))
        try simp only [thenF, blockF, reduceIte]
        refine Post_r Tryz.results79 (.cell rfl (lvA hs (by simp)) (.tmp rfl (.tmp rfl (.tmp rfl .nil)))) ?_
        try simp only [ev_tmp, ev_const, upd_ap, Nat.reduceLT, Nat.reduceEqDiff, reduceIte]
        have h0 : ¬ begE bi ep ≠ 0 := by simpa using hc19
        have h1 : ¬ okWho who ≠ 0 := by simpa using hc25
        have h2 : (lkRead t N bi ep).2 ≠ 0 := by simpa using hc36
        have e0 : useE t N bi ep who = (lkRead t N bi ep).2 := by unfold useE; rw [if_neg h0, if_neg h1]
        unfold useL useAt useH
        rw [e0, if_pos h2, if_pos h2, if_pos h2]
        exact ⟨none, 0, 0, vwRead t R N (lkName bi), rfl, rfl, hs.ret2n rfl _ _⟩
      · skip
        refine CW_skip ?_
        refine hK10 _ _ ?_
        refine CW_seq (fun K14 hK14 => ?_)
        refine CW_region ?_
        refine fad rfl ?_
        refine ld hs rfl rfl ?_
        refine mvp (.string _) rfl ?_
        refine cll (BS_ok la ln lc (lkRead t N bi ep).1.hs who _ (hs.rd (a := la)) hln (by omega) lkRead_short hw) ?_
        rintro _ w ⟨rfl, hf⟩
        replace hs := hs.call hf
        refine mvp (.tuple _) rfl ?_
        refine ext rfl rfl ?_
        refine ext rfl rfl ?_
        refine asp (.int _ _) rfl ?_
        refine asp (.bool _) rfl ?_
        refine WL_nil ?_
        refine hK14 _ _ ?_
        refine CW_seq (fun K15 hK15 => ?_)
        refine CW_region ?_
        refine ldA hs rfl (by simp) ?_
        refine mvp (.int _ _) rfl ?_
        refine mvp (.bool _) rfl ?_
        refine sto (.agg (lkV (lkRead t N bi ep).1.ep (lkRead t N bi ep).1.sh la ln lc).toArray) (vl := lkV (lkRead t N bi ep).1.ep (lkRead t N bi ep).1.sh la ln lc) hs rfl rfl rfl rfl (by simp) rfl ?_
        intro w hs _
        replace hs : St w0 _ w (_ :: _ :: eB g8 true (Blk 24 (lkV (lkRead t N bi ep).1.ep (lkRead t N bi ep).1.sh la ln lc)) :: _) := hs
        refine asp (.int _ _) rfl ?_
        refine asp (.bool _) rfl ?_
        refine asp (.int _ _) rfl ?_
        refine WL_nil ?_
        refine hK15 _ _ ?_
        refine CW_ret ?_
        repeat (first | (with_reducible apply thenF_ret) | (with_reducible apply blockF_ret))
        try simp only [thenF, blockF, reduceIte]
        refine Post_r Tryz.results79 (.cell rfl (lvA hs (by simp)) (.tmp rfl (.tmp rfl (.tmp rfl .nil)))) ?_
        try simp only [ev_tmp, ev_const, upd_ap, Nat.reduceLT, Nat.reduceEqDiff, reduceIte]
        have h0 : ¬ begE bi ep ≠ 0 := by simpa using hc19
        have h1 : ¬ okWho who ≠ 0 := by simpa using hc25
        have h2 : (lkRead t N bi ep).2 = 0 := by simpa using hc36
        have e0 : useE t N bi ep who = 0 := by unfold useE; rw [if_neg h0, if_neg h1, h2]
        unfold useL useAt useH
        rw [e0, if_neg (by simp), if_neg (by simp), if_neg (by simp)]
        exact ⟨la, ln, lc, vwRead t R N (lkName bi), rfl, hln, hs.ret2 rfl rfl⟩
end Go.Proofs.YtkbldndbofbkcaaGreatDoor
/- slices.Insert and slices.Delete at names. -/
namespace Go.Proofs.YtkbldndbofbkcaaGreatDoor
open Go Go.RowKit
attribute [local irreducible] WL CW DW Ret RW
theorem sv_one (l : List ByteArray) : ∀ u ∈ sv l, u.oneCell' = true := by
  intro u hu; simp [sv] at hu; obtain ⟨b, _, rfl⟩ := hu; rfl
theorem ovl_W {X : Cx} {N : Nat} {Q : Exit → Fr → World → Prop} {f : Fr} {w : World} {ops : Array Oper} {rest : List Oper} {d : Nat} {T : TypeId} {p : String} {aft : Array Edge} {Ts : Array TypeId} {x y : Operand} {g g' o o' la ca lb cb : Nat} {l l' : List Value} {T1 T2 : TypeId}
    (hx : ev N f x = .slice (some ⟨g, o, none⟩) la ca) (hy : ev N f y = .slice (some ⟨g', o', none⟩) lb cb) (h1 : w.heap[g]? = some (Blk T1 l)) (h2 : w.heap[g']? = some (Blk T2 l')) (hne : g ≠ g') (hl : l'.length ≠ 0)
    (K : WL X Tryz.prog N ops Q rest (upd f d (.bool false)) w) : WL X Tryz.prog N ops Q (⟨some d, .call ⟨.value (.func 148), #[x, y], Ts⟩, T, p, aft, none⟩ :: rest) f w := by
  refine WL_v (v := .bool false) (w' := w) ?_ K
  have h := run_ovl (P := Tryz.prog) (A := 22) (R := 4) (E := 42) (o := o) (o' := o') (la := la) (ca := ca) (lb := lb) (cb := cb) Tryz.func148 (by decide) rfl (by kernel_rfl) (by kernel_rfl) h1 h2 hne hl
  simp [Ex, execOp, resolve, Deferred.ofValue, ev_func, invoke, hx, hy, h]
theorem Insert_ok (a : Option Addr) (n c gv : Nat) (l : List ByteArray) (who : ByteArray) (i : Nat) (w0 : World) (he : (eR (.slice a n c) 42 1 n (sv l)).holds w0) (hgv : w0.heap[gv]? = some (Blk 42 [.string who]))
    (hne : gv ∉ (eR (.slice a n c) 42 1 n (sv l)).fp) (hi : i ≤ n) (hn : n = l.length) (h32 : n ≤ 1000) :
    Ret Tryz.prog 85 #[.slice a n c, .int .i64 i, .slice (some ⟨gv, 0, none⟩) 1 1] w0 fun v w' => ∃ a' c', v = .slice a' (n + 1) c' ∧
      Turned (eR (.slice a n c) 42 1 n (sv l)) (eR (.slice a' (n + 1) c') 42 1 (n + 1) (sv (l.take i ++ who :: l.drop i))) w0 w' := by
  have hs := (St.ent he).put (e := eB gv false (Blk 42 [.string who])) hgv (fun x hx b hb hq => by simp at hx; subst hx; simp [eB] at hb; subst hb; exact hne hq) (by intro h; cases h)
  have hsv : sv (l.take i ++ who :: l.drop i) = (sv l).take i ++ .string who :: (sv l).drop i := by simp [sv, List.map_take, List.map_drop]
  have hxl : (sv l).length = n := by simp [hn]
  have hc63 : c ≤ 9223372036854775807 := by
    rcases he.2 with ⟨h, _⟩ | ⟨g', cp, cur, hv, _, _, _, hcm, _⟩
    · injection h with _ _ h; omega
    · injection hv with _ _ h; unfold maxLen at hcm; omega
  refine Ret_enter Tryz.func85 rfl Tryz.ntmps85 (by simp) ?_
  refine CW_seq (fun K1 hK1 => ?_)
  refine CW_region ?_
  refine asp (.slice _ _ _) rfl ?_
  refine WL_nil ?_
  refine hK1 _ _ ?_
  refine CW_seq (fun K2 hK2 => ?_)
  refine CW_region ?_
  refine mvp (.slice _ _ _) rfl ?_
  refine mvp (.int _ _) rfl ?_
  refine slAny (lo := i) rfl rfl hi ?_
  intro v12
  refine WL_nil ?_
  refine hK2 _ _ ?_
  refine CW_seq (fun K3 hK3 => ?_)
  refine CW_region ?_
  refine mvp (.slice _ _ _) rfl ?_
  refine lenW rfl ?_
  refine asp (.int _ _) rfl ?_
  refine WL_nil ?_
  refine hK3 _ _ ?_
  refine CW_seq (fun K4 hK4 => ?_)
  refine CW_seq (fun K5 hK5 => ?_)
  refine CW_region ?_
  refine mvp (.int _ _) rfl ?_
  refine eqlW rfl rfl ?_
  refine WL_nil ?_
  refine hK5 _ _ ?_
  refine CW_condF rfl (rfl) ?_
  refine CW_skip ?_
  refine hK4 _ _ ?_
  refine CW_seq (fun K6 hK6 => ?_)
  refine CW_region ?_
  refine mvp (.slice _ _ _) rfl ?_
  refine lenW rfl ?_
  refine asp (.int _ _) rfl ?_
  refine WL_nil ?_
  refine hK6 _ _ ?_
  refine CW_seq (fun K7 hK7 => ?_)
  refine CW_seq (fun K8 hK8 => ?_)
  refine CW_region ?_
  refine mvp (.int _ _) rfl ?_
  refine mvp (.int _ _) rfl ?_
  refine eqlW rfl rfl ?_
  refine WL_nil ?_
  refine hK8 _ _ ?_
  refine CW_cond rfl (fun hc22 => ?_) (fun hc22 => ?_)
  · skip
    refine CW_seq (fun K9 hK9 => ?_)
    refine CW_region ?_
    refine mvp (.slice _ _ _) rfl ?_
    refine mvp (.slice _ _ _) rfl ?_
    refine app1 hs rfl rfl (by rfl) (by rfl) (by decide) (by rfl) (by omega) (by omega) ?_
    intro a2 c2 w hs _
    refine asp (.slice _ _ _) rfl ?_
    refine WL_nil ?_
    refine hK9 _ _ ?_
    refine CW_ret ?_
    repeat (first | (with_reducible apply thenF_ret) | (with_reducible apply blockF_ret))
    try simp only [thenF, blockF, reduceIte]
    refine Post_r Tryz.results85 (.tmp rfl .nil) ?_
    try simp only [ev_tmp, ev_const, upd_ap, Nat.reduceLT, Nat.reduceEqDiff, reduceIte]
    have hin : i = n := by simp at hc22; omega
    have e1 : sv (l.take i ++ who :: l.drop i) = sv l ++ [.string who] := by
      rw [hsv, List.take_of_length_le (by omega), List.drop_eq_nil_of_le (by omega)]
    rw [e1]
    exact ⟨a2, c2, rfl, hs.ret1 rfl⟩
  · have hin : i < n := by simp at hc22; omega
    obtain ⟨g, L, rfl, hs, ht, hL, hnc⟩ := hs.openR (a := a) (by omega)
    simp only [Nat.mul_one] at ht hL
    have hgg : gv ≠ g := hs.ne (by simp [eB]) (by simp [eB])
    refine CW_skip ?_
    refine hK7 _ _ ?_
    refine CW_seq (fun K10 hK10 => ?_)
    refine CW_seq (fun K11 hK11 => ?_)
    refine CW_region ?_
    refine mvp (.int _ _) rfl ?_
    refine mvp (.int _ _) rfl ?_
    first | refine addI rfl rfl (by omega) ?_ | refine addW rfl rfl ?_
    refine mvp (.slice _ _ _) rfl ?_
    refine capW rfl ?_
    refine gtrW rfl rfl ?_
    refine WL_nil ?_
    refine hK11 _ _ ?_
    refine CW_cond rfl (fun hc31 => ?_) (fun hc31 => ?_)
    · skip
      refine CW_seq (fun K12 hK12 => ?_)
      refine CW_region ?_
      refine mvp (.slice _ _ _) rfl ?_
      refine mvp (.int _ _) rfl ?_
      refine WL_v (X_sh1 (hi := i) rfl rfl (by omega)) ?_
      refine mvp (.int _ _) rfl ?_
      refine mvp (.int _ _) rfl ?_
      first | refine addI rfl rfl (by omega) ?_ | refine addW rfl rfl ?_
      refine mvp (.int _ _) rfl ?_
      refine WL_v (v := .int .i64 ((n + 1 - i : Nat) : Int)) (X_subE rfl rfl (by rw [wrap_in (by omega) (by omega)]; omega)) ?_
      have hcc : c < n + 1 := by simp at hc31; omega
      refine W_appZ hs rfl rfl (rdB (ys := (sv l).take i) hs (by omega) (by rw [subl_eq, List.drop_zero, Nat.mul_one, ← ht, List.take_take, Nat.min_eq_left (by omega)])) (by omega) (by omega) (by omega) (by omega) ?_
      intro w g2 r hs hg2 hr63
      have e9 : i + (n + 1 - i) = n + 1 := by omega
      rw [e9]
      refine asp (.slice _ _ _) rfl ?_
      refine WL_nil ?_
      refine hK12 _ _ ?_
      refine CW_seq (fun K13 hK13 => ?_)
      refine CW_region ?_
      refine mvp (.slice _ _ _) rfl ?_
      refine mvp (.int _ _) rfl ?_
      refine WL_v (X_sl1 (lo := i) rfl rfl (by omega) (by omega)) ?_
      refine mvp (.slice _ _ _) rfl ?_
      refine W_copy hs rfl rfl (rdB (ys := [.string who]) hs (by simp) rfl) (by intro u hu; have := List.mem_of_mem_take hu; simp at this; subst this; rfl) (by simp; omega) ?_
      intro w hs _
      rw [show min 1 (n + 1 - i) = 1 by omega, Nat.zero_add] at hs
      replace hs : St w0 _ w (eB g2 true (Blk 42 (wrt ((sv l).take i ++ List.replicate (n + 1 - i + r) (.string ⟨#[]⟩)) i [.string who])) :: _) := hs
      refine WL_nil ?_
      refine hK13 _ _ ?_
      refine CW_seq (fun K14 hK14 => ?_)
      refine DW_sH hs 8 ?_
      intro w hs _
      refine DW_q hs 0 rfl (by kernel_rfl) (fun w' hw' => X_move (v := (.slice _ _ _)) rfl) ?_
      refine DW_q hs 1 rfl (by kernel_rfl) (fun w' hw' => X_move (v := (.int _ _)) rfl) ?_
      refine DW_q hs 2 rfl (by kernel_rfl) (fun w' hw' => X_move (v := (.int _ _)) rfl) ?_
      refine DW_q hs 3 rfl (by kernel_rfl) (fun w' hw' => X_addp rfl rfl (by omega) (by omega)) ?_
      refine DW_q hs 4 rfl (by kernel_rfl) (fun w' hw' => X_sl1 (lo := i + 1) rfl rfl (by omega) (by omega)) ?_
      refine DW_q hs 5 rfl (by kernel_rfl) (fun w' hw' => X_move (v := (.slice _ _ _)) rfl) ?_
      refine DW_q hs 6 rfl (by kernel_rfl) (fun w' hw' => X_move (v := (.int _ _)) rfl) ?_
      refine DW_q hs 7 rfl (by kernel_rfl) (fun w' hw' => X_sl1 (lo := i) rfl rfl (by omega) (by omega)) ?_
      refine DW_l 8 rfl (by kernel_rfl) ?_
      refine W_copy hs rfl rfl (rdB (ys := (sv l).drop i) hs (by omega) (by rw [subl_eq, Nat.zero_add, Nat.mul_one, ← ht, List.drop_take])) (fun u hu => sv_one l u (List.mem_of_mem_drop (List.mem_of_mem_take hu))) (by rw [wrt_length (by simp; omega)]; simp; omega) ?_
      intro w hs _
      have e10 : ((sv l).drop i).take (n - i) = (sv l).drop i := List.take_of_length_le (by rw [List.length_drop, hxl]; omega)
      rw [show min (n - i) (n + 1 - (i + 1)) = n - i by omega, Nat.zero_add, e10] at hs
      refine WL_nil ?_
      refine ⟨.inl rfl, ?_⟩
      refine DW_e (by kernel_rfl) ?_
      refine hK14 _ _ ?_
      refine CW_seq (fun K15 hK15 => ?_)
      refine CW_region ?_
      refine mvp (.slice _ _ _) rfl ?_
      refine asp (.slice _ _ _) rfl ?_
      refine WL_nil ?_
      refine hK15 _ _ ?_
      refine CW_ret ?_
      repeat (first | (with_reducible apply thenF_ret) | (with_reducible apply blockF_ret))
      try simp only [thenF, blockF, reduceIte]
      refine Post_r Tryz.results85 (.tmp rfl .nil) ?_
      try simp only [ev_tmp, ev_const, upd_ap, Nat.reduceLT, Nat.reduceEqDiff, reduceIte]
      have hs2 : St w0 _ w [eB g2 true (Blk 42 (wrt (wrt ((sv l).take i ++ List.replicate (n + 1 - i + r) (.string ⟨#[]⟩)) i [.string who]) (i + 1) ((sv l).drop i)))] := hs.sel
      have hlen : (wrt (wrt ((sv l).take i ++ List.replicate (n + 1 - i + r) (Value.string ⟨#[]⟩)) i [.string who]) (i + 1) ((sv l).drop i)).length = n + 1 + r := by
        rw [wrt_length (by rw [wrt_length (by simp; omega)]; simp; omega), wrt_length (by simp; omega)]
        rw [List.length_append, List.length_take, List.length_replicate]; omega
      have hs3 := hs2.toR (n := n + 1) (cap := n + 1 + r) (size := 1) .here (by rw [hlen, Nat.mul_one]) (by omega) (by omega)
      rw [Nat.mul_one, ins_grow _ _ i n _ hxl hin (by rw [List.length_replicate]; omega), ← hsv] at hs3
      exact ⟨_, _, rfl, hs3.ret1 rfl⟩
    · skip
      refine CW_skip ?_
      refine hK10 _ _ ?_
      refine CW_seq (fun K16 hK16 => ?_)
      refine CW_region ?_
      refine mvp (.slice _ _ _) rfl ?_
      refine mvp (.int _ _) rfl ?_
      refine mvp (.int _ _) rfl ?_
      first | refine addI rfl rfl (by omega) ?_ | refine addW rfl rfl ?_
      have hcc : n + 1 ≤ c := by simp at hc31; omega
      refine WL_v (X_sh1 (hi := n + 1) rfl rfl (by omega)) ?_
      refine asp (.slice _ _ _) rfl ?_
      refine WL_nil ?_
      refine hK16 _ _ ?_
      refine CW_seq (fun K17 hK17 => ?_)
      refine CW_seq (fun K18 hK18 => ?_)
      refine CW_region ?_
      refine mvp (.slice _ _ _) rfl ?_
      refine mvp (.slice _ _ _) rfl ?_
      refine mvp (.int _ _) rfl ?_
      refine mvp (.int _ _) rfl ?_
      first | refine addI rfl rfl (by omega) ?_ | refine addW rfl rfl ?_
      refine WL_v (X_sl1 (lo := i + 1) rfl rfl (by omega) (by omega)) ?_
      refine ovl_W rfl rfl (hs.get (b := gv) InB.h) (hs.get (b := g) InB.h) hgg (by omega) ?_
      refine notW rfl ?_
      refine WL_nil ?_
      refine hK18 _ _ ?_
      refine CW_condT rfl (rfl) ?_
      refine CW_seq (fun K19 hK19 => ?_)
      refine DW_sH hs 8 ?_
      intro w hs _
      refine DW_q hs 0 rfl (by kernel_rfl) (fun w' hw' => X_move (v := (.slice _ _ _)) rfl) ?_
      refine DW_q hs 1 rfl (by kernel_rfl) (fun w' hw' => X_move (v := (.int _ _)) rfl) ?_
      refine DW_q hs 2 rfl (by kernel_rfl) (fun w' hw' => X_move (v := (.int _ _)) rfl) ?_
      refine DW_q hs 3 rfl (by kernel_rfl) (fun w' hw' => X_addp rfl rfl (by omega) (by omega)) ?_
      refine DW_q hs 4 rfl (by kernel_rfl) (fun w' hw' => X_sl1 (lo := i + 1) rfl rfl (by omega) (by omega)) ?_
      refine DW_q hs 5 rfl (by kernel_rfl) (fun w' hw' => X_move (v := (.slice _ _ _)) rfl) ?_
      refine DW_q hs 6 rfl (by kernel_rfl) (fun w' hw' => X_move (v := (.int _ _)) rfl) ?_
      refine DW_q hs 7 rfl (by kernel_rfl) (fun w' hw' => X_sl1 (lo := i) rfl rfl (by omega) (by omega)) ?_
      refine DW_l 8 rfl (by kernel_rfl) ?_
      refine W_copy hs rfl rfl (rdB (ys := (L.drop i).take (n + 1 - i)) hs (by omega) (by rw [subl_eq, Nat.zero_add, Nat.mul_one])) (by
        intro u hu
        rw [show min (n + 1 - i) (n + 1 - (i + 1)) = n - i by omega, List.take_take, Nat.min_eq_left (by omega)] at hu
        refine sv_one l u ?_
        rw [← ht]
        exact List.mem_of_mem_drop (i := i) (by rw [List.drop_take]; exact hu)) (by omega) ?_
      intro w hs _
      rw [show min (n + 1 - i) (n + 1 - (i + 1)) = n - i by omega, Nat.zero_add, List.take_take, Nat.min_eq_left (by omega)] at hs
      replace hs : St w0 _ w (_ :: eB g true (Blk 42 (wrt L (i + 1) ((L.drop i).take (n - i)))) :: _) := hs
      refine WL_nil ?_
      refine ⟨.inl rfl, ?_⟩
      refine DW_e (by kernel_rfl) ?_
      refine hK19 _ _ ?_
      refine CW_seq (fun K20 hK20 => ?_)
      refine CW_region ?_
      refine mvp (.slice _ _ _) rfl ?_
      refine mvp (.int _ _) rfl ?_
      refine WL_v (X_sl1 (lo := i) rfl rfl (by omega) (by omega)) ?_
      refine mvp (.slice _ _ _) rfl ?_
      refine W_copy hs rfl rfl (rdB (ys := [.string who]) hs (by simp) rfl) (by intro u hu; have := List.mem_of_mem_take hu; simp at this; subst this; rfl) (by rw [wrt_length (by simp; omega)]; simp; omega) ?_
      intro w hs _
      rw [show min 1 (n + 1 - i) = 1 by omega, Nat.zero_add, show ([Value.string who] : List Value).take 1 = [.string who] from rfl] at hs
      refine WL_nil ?_
      refine hK20 _ _ ?_
      refine CW_seq (fun K21 hK21 => ?_)
      refine CW_region ?_
      refine mvp (.slice _ _ _) rfl ?_
      refine asp (.slice _ _ _) rfl ?_
      refine WL_nil ?_
      refine hK21 _ _ ?_
      refine CW_ret ?_
      repeat (first | (with_reducible apply thenF_ret) | (with_reducible apply blockF_ret))
      try simp only [thenF, blockF, reduceIte]
      refine Post_r Tryz.results85 (.tmp rfl .nil) ?_
      try simp only [ev_tmp, ev_const, upd_ap, Nat.reduceLT, Nat.reduceEqDiff, reduceIte]
      have hs2 : St w0 _ w [eB g true (Blk 42 (wrt (wrt L (i + 1) ((L.drop i).take (n - i))) i [.string who]))] := hs.sel
      have hlen : (wrt (wrt L (i + 1) ((L.drop i).take (n - i))) i [.string who]).length = c := by
        rw [wrt_length (by rw [wrt_length (by simp; omega)]; simp; omega), wrt_length (by simp; omega)]
        exact hL
      have hs3 := hs2.toR (n := n + 1) (cap := c) (size := 1) .here (by rw [hlen]; omega) (by omega) (by omega)
      rw [Nat.mul_one, ins_shift _ i n _ hin (by omega), ht, ← hsv] at hs3
      exact ⟨_, _, rfl, hs3.ret1 rfl⟩
theorem del_list (L : List Value) (i n : Nat) (hi : i < n) (hn : n ≤ L.length) (v : Value) : (wrt (wrt L i ((L.take n).drop (i + 1))) (n - 1) [v]).take (n - 1) = (L.take n).take i ++ (L.take n).drop (i + 1) := by
  have hl1 : ((L.take n).drop (i + 1)).length = n - (i + 1) := by simp; omega
  have h1 : i + ((L.take n).drop (i + 1)).length ≤ L.length := by omega
  apply List.ext_getElem?
  intro j
  rw [List.getElem?_take, wrt_get (by rw [wrt_length h1]; simp; omega), wrt_get h1, hl1]
  simp only [List.getElem?_append, List.length_take, List.getElem?_take, List.getElem?_drop]
  have hm : min i (min n L.length) = i := by omega
  rw [hm]
  by_cases a1 : j < n - 1
  · rw [if_pos a1, if_pos a1]
    by_cases a2 : j < i
    · rw [if_pos a2, if_pos a2, if_pos a2, if_pos (by omega)]
    · rw [if_neg a2, if_neg a2, if_pos (by omega)]
  · rw [if_neg a1, if_neg (by omega), if_neg (by omega)]
theorem Delete_ok (a : Option Addr) (n c : Nat) (l : List ByteArray) (i : Nat) (w0 : World) (he : (eR (.slice a n c) 42 1 n (sv l)).holds w0) (hi : i < n) (hn : n = l.length) (h32 : n ≤ 1000) :
    Ret Tryz.prog 80 #[.slice a n c, .int .i64 i, .int .i64 (i + 1 : Nat)] w0 fun v w' => ∃ a' c', v = .slice a' (n - 1) c' ∧
      Turned (eR (.slice a n c) 42 1 n (sv l)) (eR (.slice a' (n - 1) c') 42 1 (n - 1) (sv (l.eraseIdx i))) w0 w' := by
  have hsv : sv (l.eraseIdx i) = (sv l).take i ++ (sv l).drop (i + 1) := by rw [List.eraseIdx_eq_take_drop_succ]; simp [sv, List.map_take, List.map_drop]
  have hxl : (sv l).length = n := by simp [hn]
  have hc63 : c ≤ 9223372036854775807 := by
    rcases he.2 with ⟨h, _⟩ | ⟨g', cp, cur, hv, _, _, _, hcm, _⟩
    · injection h with _ _ h; omega
    · injection hv with _ _ h; unfold maxLen at hcm; omega
  have hs := St.ent he
  obtain ⟨g, L, rfl, hs, ht, hL, hnc⟩ := hs.openR (a := a) (by omega)
  simp only [Nat.mul_one] at ht hL
  refine Ret_enter Tryz.func80 rfl Tryz.ntmps80 (by simp) ?_
  refine CW_seq (fun K1 hK1 => ?_)
  refine CW_region ?_
  refine asp (.slice _ _ _) rfl ?_
  refine WL_nil ?_
  refine hK1 _ _ ?_
  refine CW_seq (fun K2 hK2 => ?_)
  refine CW_region ?_
  refine mvp (.slice _ _ _) rfl ?_
  refine mvp (.int _ _) rfl ?_
  refine mvp (.int _ _) rfl ?_
  refine mvp (.slice _ _ _) rfl ?_
  refine lenW rfl ?_
  refine slAny3 (lo := i) (hi := i + 1) (mx := n) rfl rfl rfl rfl (by omega) (by omega) hnc ?_
  intro v13
  refine WL_nil ?_
  refine hK2 _ _ ?_
  refine CW_seq (fun K3 hK3 => ?_)
  refine CW_seq (fun K4 hK4 => ?_)
  refine CW_region ?_
  refine mvp (.int _ _) rfl ?_
  refine mvp (.int _ _) rfl ?_
  refine eqlW rfl rfl ?_
  refine WL_nil ?_
  refine hK4 _ _ ?_
  refine CW_condF rfl ((by simp; omega)) ?_
  refine CW_skip ?_
  refine hK3 _ _ ?_
  refine CW_seq (fun K5 hK5 => ?_)
  refine CW_region ?_
  refine mvp (.slice _ _ _) rfl ?_
  refine lenW rfl ?_
  refine asp (.int _ _) rfl ?_
  refine WL_nil ?_
  refine hK5 _ _ ?_
  refine CW_seq (fun K6 hK6 => ?_)
  refine DW_s hs 999 ([]) ?_
  intro w hs _
  refine DW_q hs 0 rfl (by kernel_rfl) (fun w' hw' => X_move (v := (.slice _ _ _)) rfl) ?_
  refine DW_q hs 1 rfl (by kernel_rfl) (fun w' hw' => X_move (v := (.int _ _)) rfl) ?_
  refine DW_q hs 2 rfl (by kernel_rfl) (fun w' hw' => X_sh1 (hi := i) rfl rfl (by omega)) ?_
  refine DW_q hs 3 rfl (by kernel_rfl) (fun w' hw' => X_move (v := (.slice _ _ _)) rfl) ?_
  refine DW_q hs 4 rfl (by kernel_rfl) (fun w' hw' => X_move (v := (.int _ _)) rfl) ?_
  refine DW_q hs 5 rfl (by kernel_rfl) (fun w' hw' => X_sl1' (lo := i + 1) rfl rfl (by omega)) ?_
  refine DW_l 6 rfl (by kernel_rfl) ?_
  have hrd : Rd w (some ⟨g, if c = i + 1 then 0 else 0 + (i + 1), none⟩) (n - (i + 1)) 1 ((sv l).drop (i + 1)) := by
    by_cases hc1 : c = i + 1
    · have h0 : (sv l).drop (i + 1) = [] := List.drop_eq_nil_of_le (by omega)
      rw [h0]
      exact ⟨by simp; omega, fun h => absurd rfl h⟩
    · rw [if_neg hc1, Nat.zero_add]
      exact rdB hs (by omega) (by rw [subl_eq, Nat.mul_one, ← ht, List.drop_take])
  refine W_appIn hs rfl rfl hrd (fun u hu => sv_one l u (List.mem_of_mem_drop hu)) (by omega) (by omega) ?_
  intro w hs _
  rw [show i + (n - (i + 1)) = n - 1 by omega, ← ht]
  rw [← ht] at hs
  refine WL_nil ?_
  refine ⟨.inr hs.hold, ?_⟩
  refine DW_q hs 7 rfl (by kernel_rfl) (fun w' hw' => X_assign (v := (.slice _ _ _)) rfl) ?_
  refine DW_e (by kernel_rfl) ?_
  refine hK6 _ _ ?_
  refine CW_seq (fun K7 hK7 => ?_)
  refine CW_region ?_
  refine mvp (.slice _ _ _) rfl ?_
  refine mvp (.slice _ _ _) rfl ?_
  refine lenW rfl ?_
  refine mvp (.int _ _) rfl ?_
  refine WL_v (X_slh1 (lo := n - 1) (hi := n) rfl rfl rfl (by omega) (by omega)) ?_
  have e31 : (if c = n - 1 then 0 else 0 + (n - 1)) = n - 1 := by rw [if_neg (by omega)]; omega
  rw [e31]
  have hw1 : (wrt L i ((L.take n).drop (i + 1))).length = c := by rw [wrt_length (by simp; omega)]; exact hL
  refine W_clear hs (by rfl) rfl (by omega) ?_
  intro w hs _
  rw [show n - (n - 1) = 1 by omega, show List.replicate 1 (Value.string ⟨#[]⟩) = [.string ⟨#[]⟩] from rfl] at hs
  refine WL_nil ?_
  refine hK7 _ _ ?_
  refine CW_seq (fun K8 hK8 => ?_)
  refine CW_region ?_
  refine mvp (.slice _ _ _) rfl ?_
  refine asp (.slice _ _ _) rfl ?_
  refine WL_nil ?_
  refine hK8 _ _ ?_
  refine CW_ret ?_
  repeat (first | (with_reducible apply thenF_ret) | (with_reducible apply blockF_ret))
  try simp only [thenF, blockF, reduceIte]
  refine Post_r Tryz.results80 (.tmp rfl .nil) ?_
  try simp only [ev_tmp, ev_const, upd_ap, Nat.reduceLT, Nat.reduceEqDiff, reduceIte]
  have hs2 : St w0 _ w [eB g true (Blk 42 (wrt (wrt L i ((L.take n).drop (i + 1))) (n - 1) [.string ⟨#[]⟩]))] := hs.sel
  have hlen : (wrt (wrt L i ((L.take n).drop (i + 1))) (n - 1) [Value.string ⟨#[]⟩]).length = c := by
    rw [wrt_length (by rw [hw1]; simp; omega)]; exact hw1
  have hs3 := hs2.toR (n := n - 1) (cap := c) (size := 1) .here (by rw [hlen, Nat.mul_one]) (by omega) (by omega)
  rw [Nat.mul_one, del_list L i n hi (by omega), ht, ← hsv] at hs3
  exact ⟨_, _, rfl, hs3.ret1 rfl⟩
end Go.Proofs.YtkbldndbofbkcaaGreatDoor
/- lock: Acquire, Release, Holds. -/
namespace Go.Proofs.YtkbldndbofbkcaaGreatDoor
open Go Go.RowKit
attribute [local irreducible] WL CW DW Ret RW
theorem X_idxA {P : Program} {N : Nat} {f : Fr} {w : World} {d b off k n i : Nat} {T A E : TypeId} {p : String} {aft : Array Edge} {x y : Operand} {q : IntKind} [hA : UnE P A (.array k E)] [hn : SzE P E n] (hx : ev N f x = .pointer (some ⟨b, off, none⟩)) (hy : ev N f y = .int q (i : Nat)) (h : i < k) :
    Ex P N f w ⟨some d, .indexAddr A x y, T, p, aft, none⟩ (.pointer (some ⟨b, off + i * n, none⟩)) w := by
  simp [Ex, execOp, hx, hy, Instr.indexAt, Instr.sureAddr, asIntOf, run_underlying hA.h, hn.h, h, addr_add]
/-! ### plain -/
def othN (l : Lk) (h : Bool) : Int := if h then (l.hs.length : Int) - 1 else l.hs.length
def acqE (l : Lk) (h sh : Bool) : Int := if l.sh = true ∧ sh = true then (if othN l h = 32 then 9 else 0) else (if 0 < othN l h then 19 else 0)
def acqL (l : Lk) (i : Nat) (h : Bool) (who : ByteArray) (sh : Bool) : Lk := ⟨l.ep, sh, if h then l.hs else l.hs.take i ++ who :: l.hs.drop i⟩
def relL (l : Lk) (i : Nat) : Lk := ⟨l.ep, l.sh && decide (0 < (l.hs.eraseIdx i).length), l.hs.eraseIdx i⟩
def acqV (t : Tr) (N : Chs) (b : Bir) (ep : Int) (who : ByteArray) (sh : Bool) : Int :=
  if useE t N b ep who ≠ 0 then useE t N b ep who else if acqE (useL t N b ep who) (useH t N b ep who) sh ≠ 0 then acqE (useL t N b ep who) (useH t N b ep who) sh else
  if useH t N b ep who = true ∧ (useL t N b ep who).sh = sh then 0 else wrE b (acqL (useL t N b ep who) (useAt t N b ep who) (useH t N b ep who) who sh)
def acqN (t : Tr) (N : Chs) (b : Bir) (ep : Int) (who : ByteArray) (sh : Bool) : Chs :=
  if useE t N b ep who ≠ 0 then N else if acqE (useL t N b ep who) (useH t N b ep who) sh ≠ 0 then N else
  if useH t N b ep who = true ∧ (useL t N b ep who).sh = sh then N else wrN N b (acqL (useL t N b ep who) (useAt t N b ep who) (useH t N b ep who) who sh)
def relV (t : Tr) (N : Chs) (b : Bir) (ep : Int) (who : ByteArray) : Int :=
  if useE t N b ep who ≠ 0 then useE t N b ep who else if useH t N b ep who = false then 8 else wrE b (relL (useL t N b ep who) (useAt t N b ep who))
def relN (t : Tr) (N : Chs) (b : Bir) (ep : Int) (who : ByteArray) : Chs :=
  if useE t N b ep who ≠ 0 then N else if useH t N b ep who = false then N else wrN N b (relL (useL t N b ep who) (useAt t N b ep who))
theorem hsAt_all {l : List ByteArray} : ∀ i, hsAt l i = 0 → ∀ j (h : j < l.length), i ≤ j → okWho l[j] = 0 := by
  have key : ∀ k i, l.length - i = k → hsAt l i = 0 → ∀ j (h : j < l.length), i ≤ j → okWho l[j] = 0 := by
    intro k
    induction k with
    | zero => intro i hk _ j h hj; omega
    | succ k ih =>
      intro i hk h0 j h hj
      rw [hsAt_step (by omega)] at h0
      by_cases h1 : okWho l[i] ≠ 0
      · rw [if_pos h1] at h0; exact absurd h0 h1
      · rw [if_neg h1] at h0
        split at h0
        · cases h0
        · by_cases hij : i = j
          · subst hij; simpa using h1
          · exact ih (i + 1) (by omega) h0 j h (by omega)
  exact fun i => key _ i rfl
theorem okWho_short {s : ByteArray} (h : okWho s = 0) : s.size ≤ 55 := by
  unfold okWho at h
  split at h
  · cases h
  · rename_i h1
    have h2 : lvalid s.data.toList = true := by
      cases hq : lvalid s.data.toList
      · exact absurd (.inr hq) h1
      · rfl
    have := lvalid_short h2
    rw [Array.length_toList] at this; exact this
theorem lk_short {l : Lk} (h : lkCheck l = 0) : ∀ s ∈ l.hs, s.size ≤ 55 := by
  intro s hs
  obtain ⟨j, hj, rfl⟩ := List.getElem_of_mem hs
  exact okWho_short (hsAt_all 0 (lkCheck_0 h).2.2.1 j hj (Nat.zero_le _))
theorem decR_len (bs : List UInt8) : (decR bs).1.hs.length ≤ 32 := by
  unfold decR
  split
  · rename_i l hl; exact (lkCheck_0 (lkDec_check hl)).2.1
  · simp
theorem lkRead_len {t : Tr} {N : Chs} {b : Bir} {ep : Int} : (lkRead t N b ep).1.hs.length ≤ 32 := by
  unfold lkRead
  split
  · simp
  · split
    · simp
    · split
      · simp
      · exact decR_len _
theorem useL_short {t : Tr} {N : Chs} {b : Bir} {ep : Int} {who : ByteArray} : ∀ h ∈ (useL t N b ep who).hs, h.size ≤ 9223372036854775807 := by
  intro h hm
  unfold useL at hm
  split at hm
  · cases hm
  · exact lkRead_short h hm
theorem useL_len {t : Tr} {N : Chs} {b : Bir} {ep : Int} {who : ByteArray} : (useL t N b ep who).hs.length ≤ 32 := by
  unfold useL
  split
  · simp
  · exact lkRead_len
theorem useAt_le {t : Tr} {N : Chs} {b : Bir} {ep : Int} {who : ByteArray} : useAt t N b ep who ≤ (useL t N b ep who).hs.length := by
  unfold useAt useL
  split
  · simp
  · exact bsAt_le _ _
theorem useAt_lt {t : Tr} {N : Chs} {b : Bir} {ep : Int} {who : ByteArray} (h : useH t N b ep who = true) : useAt t N b ep who < (useL t N b ep who).hs.length := by
  unfold useAt useL useH at *
  split
  · rename_i h1; rw [if_pos h1] at h; cases h
  · rename_i h1; rw [if_neg h1] at h
    unfold bsFound at h
    simp at h
    exact h.1
/-! ### the walks -/
theorem others_ok (l : Lk) (a : Option Addr) (n c : Nat) (h : Bool) (w0 : World) (hn : n = l.hs.length) (hl : n ≤ 1000) :
    Ret Tryz.prog 83 #[.agg (lkV l.ep l.sh a n c).toArray, .bool h] w0 fun v w' => v = .int .i64 (othN l h) ∧ Fm [] w0 w' := by
  have hs := St.init w0 []
  refine Ret_enter Tryz.func83 rfl Tryz.ntmps83 (by simp) ?_
  refine CW_seq (fun K1 hK1 => ?_)
  refine CW_region ?_
  refine bx (.agg (lkV l.ep l.sh a n c).toArray) (vl := lkV l.ep l.sh a n c) hs rfl rfl ?_
  intro w g2 hs hg2 hf2
  unfold lkV at hs
  refine asp (.int _ _) rfl ?_
  refine WL_nil ?_
  refine hK1 _ _ ?_
  refine CW_seq (fun K2 hK2 => ?_)
  refine CW_seq (fun K3 hK3 => ?_)
  refine CW_region ?_
  refine mvp (.bool _) rfl ?_
  refine WL_nil ?_
  refine hK3 _ _ ?_
  refine CW_cond rfl (fun hc5 => ?_) (fun hc5 => ?_)
  · skip
    refine CW_seq (fun K4 hK4 => ?_)
    refine CW_region ?_
    refine fad rfl ?_
    refine ld hs rfl rfl ?_
    refine lenW rfl ?_
    first | refine subI rfl rfl (by omega) ?_ | refine subW rfl rfl ?_
    refine asp (.int _ _) rfl ?_
    refine WL_nil ?_
    refine hK4 _ _ ?_
    refine CW_ret ?_
    repeat (first | (with_reducible apply thenF_ret) | (with_reducible apply blockF_ret))
    try simp only [thenF, blockF, reduceIte]
    refine Post_r Tryz.results83 (.tmp rfl .nil) ?_
    try simp only [ev_tmp, ev_const, upd_ap, Nat.reduceLT, Nat.reduceEqDiff, reduceIte]
    refine ⟨?_, hs.fm⟩
    have h5 : h = true := hc5
    unfold othN
    rw [h5, hn]; rfl
  · skip
    refine CW_skip ?_
    refine hK2 _ _ ?_
    refine CW_seq (fun K5 hK5 => ?_)
    refine CW_region ?_
    refine fad rfl ?_
    refine ld hs rfl rfl ?_
    refine lenW rfl ?_
    refine asp (.int _ _) rfl ?_
    refine WL_nil ?_
    refine hK5 _ _ ?_
    refine CW_ret ?_
    repeat (first | (with_reducible apply thenF_ret) | (with_reducible apply blockF_ret))
    try simp only [thenF, blockF, reduceIte]
    refine Post_r Tryz.results83 (.tmp rfl .nil) ?_
    try simp only [ev_tmp, ev_const, upd_ap, Nat.reduceLT, Nat.reduceEqDiff, reduceIte]
    refine ⟨?_, hs.fm⟩
    have h5 : h = false := hc5
    unfold othN
    rw [h5, hn]; rfl
theorem Acq1_ok (l : Lk) (a : Option Addr) (n c g1 g2 : Nat) (h sh : Bool) (w0 : World) (hn : n = l.hs.length) (hl : n ≤ 1000) (hk : ¬ (l.sh = true ∧ sh = true)) (hb1 : w0.heap[g1]? = some (Blk 24 (lkV l.ep l.sh a n c))) (hb2 : w0.heap[g2]? = some (Blk 4 [.bool h])) (hne : g1 ≠ g2) :
    Ret Tryz.prog 82 #[.pointer (some ⟨g1, 0, none⟩), .pointer (some ⟨g2, 0, none⟩)] w0 fun v w' => v = .int .i64 (acqE l h sh) ∧ Fm [] w0 w' := by
  have hs := St.two (M := []) (q := false) (r := false) hb1 hb2 hne (by simp) (by simp)
  refine Ret_enter Tryz.func82 rfl Tryz.ntmps82 (by simp) ?_
  refine CW_seq (fun K1 hK1 => ?_)
  refine CW_region ?_
  refine asp (.int _ _) rfl ?_
  refine WL_nil ?_
  refine hK1 _ _ ?_
  refine CW_seq (fun K2 hK2 => ?_)
  refine CW_seq (fun K3 hK3 => ?_)
  refine CW_region ?_
  refine ldA hs rfl (by simp) ?_
  refine ld hs rfl rfl ?_
  refine cll (others_ok l a n c h _ hn hl) ?_
  rintro _ w ⟨rfl, hf⟩
  replace hs := hs.call hf
  refine gtrW rfl rfl ?_
  refine WL_nil ?_
  refine hK3 _ _ ?_
  refine CW_cond rfl (fun hc6 => ?_) (fun hc6 => ?_)
  · skip
    refine CW_seq (fun K4 hK4 => ?_)
    refine CW_region ?_
    refine asp (.int _ _) rfl ?_
    refine WL_nil ?_
    refine hK4 _ _ ?_
    refine CW_ret ?_
    repeat (first | (with_reducible apply thenF_ret) | (with_reducible apply blockF_ret))
    try simp only [thenF, blockF, reduceIte]
    refine Post_r Tryz.results82 (.tmp rfl .nil) ?_
    try simp only [ev_tmp, ev_const, upd_ap, Nat.reduceLT, Nat.reduceEqDiff, reduceIte]
    refine ⟨?_, hs.fm⟩
    unfold acqE
    rw [if_neg hk, if_pos (by simpa using hc6)]
  · skip
    refine CW_skip ?_
    refine hK2 _ _ ?_
    refine CW_seq (fun K5 hK5 => ?_)
    refine CW_region ?_
    refine asp (.int _ _) rfl ?_
    refine WL_nil ?_
    refine hK5 _ _ ?_
    refine CW_ret ?_
    repeat (first | (with_reducible apply thenF_ret) | (with_reducible apply blockF_ret))
    try simp only [thenF, blockF, reduceIte]
    refine Post_r Tryz.results82 (.tmp rfl .nil) ?_
    try simp only [ev_tmp, ev_const, upd_ap, Nat.reduceLT, Nat.reduceEqDiff, reduceIte]
    refine ⟨?_, hs.fm⟩
    unfold acqE
    rw [if_neg hk, if_neg (by simpa using hc6)]
theorem Acq2_ok (l : Lk) (a : Option Addr) (n c g1 g2 : Nat) (h sh : Bool) (w0 : World) (hn : n = l.hs.length) (hl : n ≤ 1000) (hk : l.sh = true ∧ sh = true) (hb1 : w0.heap[g1]? = some (Blk 24 (lkV l.ep l.sh a n c))) (hb2 : w0.heap[g2]? = some (Blk 4 [.bool h])) (hne : g1 ≠ g2) :
    Ret Tryz.prog 84 #[.pointer (some ⟨g1, 0, none⟩), .pointer (some ⟨g2, 0, none⟩)] w0 fun v w' => v = .int .i64 (acqE l h sh) ∧ Fm [] w0 w' := by
  have hs := St.two (M := []) (q := false) (r := false) hb1 hb2 hne (by simp) (by simp)
  refine Ret_enter Tryz.func84 rfl Tryz.ntmps84 (by simp) ?_
  refine CW_seq (fun K1 hK1 => ?_)
  refine CW_region ?_
  refine asp (.int _ _) rfl ?_
  refine WL_nil ?_
  refine hK1 _ _ ?_
  refine CW_seq (fun K2 hK2 => ?_)
  refine CW_seq (fun K3 hK3 => ?_)
  refine CW_region ?_
  refine ldA hs rfl (by simp) ?_
  refine ld hs rfl rfl ?_
  refine cll (others_ok l a n c h _ hn hl) ?_
  rintro _ w ⟨rfl, hf⟩
  replace hs := hs.call hf
  refine eqlW rfl rfl ?_
  refine WL_nil ?_
  refine hK3 _ _ ?_
  refine CW_cond rfl (fun hc6 => ?_) (fun hc6 => ?_)
  · skip
    refine CW_seq (fun K4 hK4 => ?_)
    refine CW_region ?_
    refine asp (.int _ _) rfl ?_
    refine WL_nil ?_
    refine hK4 _ _ ?_
    refine CW_ret ?_
    repeat (first | (with_reducible apply thenF_ret) | (with_reducible apply blockF_ret))
    try simp only [thenF, blockF, reduceIte]
    refine Post_r Tryz.results84 (.tmp rfl .nil) ?_
    try simp only [ev_tmp, ev_const, upd_ap, Nat.reduceLT, Nat.reduceEqDiff, reduceIte]
    refine ⟨?_, hs.fm⟩
    unfold acqE
    rw [if_pos hk, if_pos (by simpa using hc6)]
  · skip
    refine CW_skip ?_
    refine hK2 _ _ ?_
    refine CW_seq (fun K5 hK5 => ?_)
    refine CW_region ?_
    refine asp (.int _ _) rfl ?_
    refine WL_nil ?_
    refine hK5 _ _ ?_
    refine CW_ret ?_
    repeat (first | (with_reducible apply thenF_ret) | (with_reducible apply blockF_ret))
    try simp only [thenF, blockF, reduceIte]
    refine Post_r Tryz.results84 (.tmp rfl .nil) ?_
    try simp only [ev_tmp, ev_const, upd_ap, Nat.reduceLT, Nat.reduceEqDiff, reduceIte]
    refine ⟨?_, hs.fm⟩
    unfold acqE
    rw [if_pos hk, if_neg (by simpa using hc6)]
theorem Holds_ok (g b r1 r2 : Nat) (t : Tr) (a : Option Addr) (m c : Nat) (R C N : Chs) (bi : Bir) (ep : Int) (who : ByteArray) (w0 : World) (hV : (eV g b r1 r2 t a m c R C N).holds w0) (ho : bi.maker.size ≤ 9223372036854775807)
    (hsz : (vwGet t N (lkName bi)).1.size ≤ 140737488355328) (hw : who.size ≤ 9223372036854775807) :
    Ret Tryz.prog 30 #[.pointer (some ⟨g, 0, none⟩), .agg (birV bi).toArray, .int .i64 ep, .string who] w0 fun v w' => v = .bool (decide (useE t N bi ep who = 0) && useH t N bi ep who) ∧ ∃ R', Turned (eV g b r1 r2 t a m c R C N) (eV g b r1 r2 t a m c R' C N) w0 w' := by
  have hs := St.ent hV
  refine Ret_enter Tryz.func30 rfl Tryz.ntmps30 (by simp) ?_
  refine CW_seq (fun K1 hK1 => ?_)
  refine CW_region ?_
  refine bx (.agg (birV bi).toArray) (vl := birV bi) hs rfl rfl ?_
  intro w g5 hs hg5 hf5
  refine asp (.bool _) rfl ?_
  refine WL_nil ?_
  refine hK1 _ _ ?_
  refine CW_seq (fun K2 hK2 => ?_)
  refine CW_region ?_
  refine mvp (.pointer _) rfl ?_
  refine ldA hs rfl (by simp) ?_
  refine mvp (.int _ _) rfl ?_
  refine mvp (.string _) rfl ?_
  refine cll (use_ok g b r1 r2 t a m c R C N bi ep who _ (hs.he _) ho hsz hw lkRead_len) ?_
  rintro _ w ⟨la, ln, lc, R', rfl, hln, ht⟩
  replace hs := hs.turn2 ht rfl rfl rfl
  refine mvp (.tuple _) rfl ?_
  refine ext rfl rfl ?_
  refine ext rfl rfl ?_
  refine ext rfl rfl ?_
  refine ext rfl rfl ?_
  refine alc hs ?_
  intro w g9 hs hg9 hf9
  refine sto (.agg (lkV (useL t N bi ep who).ep (useL t N bi ep who).sh la ln lc).toArray) (vl := lkV (useL t N bi ep who).ep (useL t N bi ep who).sh la ln lc) hs rfl rfl rfl rfl (by simp) rfl ?_
  intro w hs _
  refine asp (.int _ _) rfl ?_
  refine asp (.bool _) rfl ?_
  refine asp (.int _ _) rfl ?_
  refine WL_nil ?_
  refine hK2 _ _ ?_
  refine CW_seq (fun K3 hK3 => ?_)
  refine CW_region ?_
  refine mvp (.int _ _) rfl ?_
  refine eqlW rfl rfl ?_
  refine mvp (.bool _) rfl ?_
  refine WL_g (g := 25) rfl (by decide) rfl (fun hg25 => ?_) (fun hg25 => ?_)
  · skip
    refine mvp (.bool _) rfl ?_
    first | refine pkT rfl rfl ?_ | refine pkF rfl rfl ?_
    refine asp (.bool _) rfl ?_
    refine WL_nil ?_
    refine hK3 _ _ ?_
    refine CW_ret ?_
    repeat (first | (with_reducible apply thenF_ret) | (with_reducible apply blockF_ret))
    try simp only [thenF, blockF, reduceIte]
    refine Post_r Tryz.results30 (.tmp rfl .nil) ?_
    try simp only [ev_tmp, ev_const, upd_ap, Nat.reduceLT, Nat.reduceEqDiff, reduceIte]
    refine ⟨?_, R', hs.ret1 rfl⟩
    first
      | (have h25 : useE t N bi ep who = 0 := by simpa using hg25
         rw [decide_eq_true h25]; rfl)
      | (have h25 : ¬ useE t N bi ep who = 0 := by simpa using hg25
         rw [decide_eq_false h25]; rfl)
  · skip
    first | refine pkT rfl rfl ?_ | refine pkF rfl rfl ?_
    refine asp (.bool _) rfl ?_
    refine WL_nil ?_
    refine hK3 _ _ ?_
    refine CW_ret ?_
    repeat (first | (with_reducible apply thenF_ret) | (with_reducible apply blockF_ret))
    try simp only [thenF, blockF, reduceIte]
    refine Post_r Tryz.results30 (.tmp rfl .nil) ?_
    try simp only [ev_tmp, ev_const, upd_ap, Nat.reduceLT, Nat.reduceEqDiff, reduceIte]
    refine ⟨?_, R', hs.ret1 rfl⟩
    first
      | (have h25 : useE t N bi ep who = 0 := by simpa using hg25
         rw [decide_eq_true h25]; rfl)
      | (have h25 : ¬ useE t N bi ep who = 0 := by simpa using hg25
         rw [decide_eq_false h25]; rfl)
end Go.Proofs.YtkbldndbofbkcaaGreatDoor
/- lock: Acquire, Release. -/
namespace Go.Proofs.YtkbldndbofbkcaaGreatDoor
open Go Go.RowKit
attribute [local irreducible] WL CW DW Ret RW
theorem Release_ok (g b r1 r2 : Nat) (t : Tr) (a : Option Addr) (m c : Nat) (R C N : Chs) (bi : Bir) (ep : Int) (who : ByteArray) (w0 : World) (hV : (eV g b r1 r2 t a m c R C N).holds w0) (ho : bi.maker.size ≤ 9223372036854775807) (hm : m ≤ 1000000)
    (hsz : (vwGet t N (lkName bi)).1.size ≤ 140737488355328) (hw : who.size ≤ 9223372036854775807) :
    Ret Tryz.prog 26 #[.pointer (some ⟨g, 0, none⟩), .agg (birV bi).toArray, .int .i64 ep, .string who] w0 fun v w' => v = .int .i64 (relV t N bi ep who) ∧ ∃ R' a' m' c' C', m' ≤ m + 1 ∧ Turned (eV g b r1 r2 t a m c R C N) (eV g b r1 r2 t a' m' c' R' C' (relN t N bi ep who)) w0 w' := by
  have hs := St.ent hV
  obtain ⟨L, hL⟩ : ∃ L, useL t N bi ep who = L := ⟨_, rfl⟩
  obtain ⟨i, hi⟩ : ∃ i, useAt t N bi ep who = i := ⟨_, rfl⟩
  obtain ⟨h, hh⟩ : ∃ h, useH t N bi ep who = h := ⟨_, rfl⟩
  obtain ⟨e, he⟩ : ∃ e, useE t N bi ep who = e := ⟨_, rfl⟩
  have hlen : L.hs.length ≤ 32 := by rw [← hL]; exact useL_len
  have hshort : ∀ x ∈ L.hs, x.size ≤ 9223372036854775807 := by rw [← hL]; exact useL_short
  have hilt : h = true → i < L.hs.length := by rw [← hL, ← hi, ← hh]; exact useAt_lt
  have eV1 : relV t N bi ep who = if e ≠ 0 then e else if h = false then 8 else wrE bi (relL L i) := by unfold relV; rw [hL, hi, hh, he]
  have eN1 : relN t N bi ep who = if e ≠ 0 then N else if h = false then N else wrN N bi (relL L i) := by unfold relN; rw [hL, hi, hh, he]
  refine Ret_enter Tryz.func26 rfl Tryz.ntmps26 (by simp) ?_
  refine CW_seq (fun K1 hK1 => ?_)
  refine CW_region ?_
  refine bx (.agg (birV bi).toArray) (vl := birV bi) hs rfl rfl ?_
  intro w g5 hs hg5 hf5
  refine asp (.int _ _) rfl ?_
  refine WL_nil ?_
  refine hK1 _ _ ?_
  refine CW_seq (fun K2 hK2 => ?_)
  refine CW_region ?_
  refine mvp (.pointer _) rfl ?_
  refine ldA hs rfl (by simp) ?_
  refine mvp (.int _ _) rfl ?_
  refine mvp (.string _) rfl ?_
  refine cll (use_ok g b r1 r2 t a m c R C N bi ep who _ (hs.he _) ho hsz hw lkRead_len) ?_
  rintro _ w ⟨la, ln, lc, R', rfl, hln, ht⟩
  replace hs := hs.turn2 ht rfl rfl rfl
  rw [hL] at hs hln
  rw [hL, hi, hh, he]
  refine mvp (.tuple _) rfl ?_
  refine ext rfl rfl ?_
  refine ext rfl rfl ?_
  refine ext rfl rfl ?_
  refine ext rfl rfl ?_
  refine alc hs ?_
  intro w g9 hs hg9 hf9
  refine sto (.agg (lkV L.ep L.sh la ln lc).toArray) (vl := lkV L.ep L.sh la ln lc) hs rfl rfl rfl rfl (by simp) rfl ?_
  intro w hs _
  replace hs : St w0 _ w (eB g9 true (Blk 24 (lkV L.ep L.sh la ln lc)) :: _) := hs
  refine asp (.int _ _) rfl ?_
  refine asp (.bool _) rfl ?_
  refine asp (.int _ _) rfl ?_
  refine WL_nil ?_
  refine hK2 _ _ ?_
  refine CW_seq (fun K3 hK3 => ?_)
  refine CW_seq (fun K4 hK4 => ?_)
  refine CW_region ?_
  refine mvp (.int _ _) rfl ?_
  refine neqW rfl rfl ?_
  refine WL_nil ?_
  refine hK4 _ _ ?_
  refine CW_cond rfl (fun hc24 => ?_) (fun hc24 => ?_)
  · skip
    refine CW_seq (fun K5 hK5 => ?_)
    refine CW_region ?_
    refine mvp (.int _ _) rfl ?_
    refine asp (.int _ _) rfl ?_
    refine WL_nil ?_
    refine hK5 _ _ ?_
    refine CW_ret ?_
    repeat (first | (with_reducible apply thenF_ret) | (with_reducible apply blockF_ret))
    try simp only [thenF, blockF, reduceIte]
    refine Post_r Tryz.results26 (.tmp rfl .nil) ?_
    try simp only [ev_tmp, ev_const, upd_ap, Nat.reduceLT, Nat.reduceEqDiff, reduceIte]
    have h24 : e ≠ 0 := by simpa using hc24
    rw [eV1, eN1, if_pos h24, if_pos h24]
    exact ⟨by trivial, R', a, m, c, C, by omega, hs.ret1 rfl⟩
  · skip
    refine CW_skip ?_
    refine hK3 _ _ ?_
    refine CW_seq (fun K6 hK6 => ?_)
    refine CW_seq (fun K7 hK7 => ?_)
    refine CW_region ?_
    refine mvp (.bool _) rfl ?_
    refine notW rfl ?_
    refine WL_nil ?_
    refine hK7 _ _ ?_
    refine CW_cond rfl (fun hc27 => ?_) (fun hc27 => ?_)
    · skip
      refine CW_seq (fun K8 hK8 => ?_)
      refine CW_region ?_
      refine asp (.int _ _) rfl ?_
      refine WL_nil ?_
      refine hK8 _ _ ?_
      refine CW_ret ?_
      repeat (first | (with_reducible apply thenF_ret) | (with_reducible apply blockF_ret))
      try simp only [thenF, blockF, reduceIte]
      refine Post_r Tryz.results26 (.tmp rfl .nil) ?_
      try simp only [ev_tmp, ev_const, upd_ap, Nat.reduceLT, Nat.reduceEqDiff, reduceIte]
      have h24 : ¬ e ≠ 0 := by simpa using hc24
      have h27 : h = false := by simpa using hc27
      rw [eV1, eN1, if_neg h24, if_neg h24, if_pos h27, if_pos h27]
      exact ⟨by trivial, R', a, m, c, C, by omega, hs.ret1 rfl⟩
    · have hht : h = true := by simpa using hc27
      have hil := hilt hht
      refine CW_skip ?_
      refine hK6 _ _ ?_
      refine CW_seq (fun K9 hK9 => ?_)
      refine CW_region ?_
      refine fad rfl ?_
      refine ld hs rfl rfl ?_
      refine mvp (.int _ _) rfl ?_
      refine mvp (.int _ _) rfl ?_
      first | refine addI rfl rfl (by omega) ?_ | refine addW rfl rfl ?_
      refine cll (Delete_ok la ln lc L.hs i _ (hs.he _) (by omega) hln (by omega)) ?_
      rintro _ w ⟨a2, c2, rfl, ht⟩
      replace hs := hs.turnE rfl ht
      refine fad rfl ?_
      refine sto (.slice a2 (ln - 1) c2) hs rfl rfl rfl rfl (by simp) rfl ?_
      intro w hs _
      replace hs : St w0 _ w (eB g9 true (Blk 24 [.int .i64 L.ep, .bool L.sh, .slice a2 (ln - 1) c2]) :: _) := hs
      have hle : (L.hs.eraseIdx i).length = ln - 1 := by rw [List.length_eraseIdx, if_pos hil, hln]
      refine WL_nil ?_
      refine hK9 _ _ ?_
      refine CW_seq (fun K10 hK10 => ?_)
      refine CW_region ?_
      refine fad rfl ?_
      refine ld hs rfl rfl ?_
      refine mvp (.bool _) rfl ?_
      refine WL_g (g := 37) rfl (by decide) rfl (fun hg37 => ?_) (fun hg37 => ?_)
      · skip
        refine fad rfl ?_
        refine WL_gy (g := 37) rfl (by decide) rfl ?_
        refine ld hs rfl rfl ?_
        refine WL_gy (g := 37) rfl (by decide) rfl ?_
        refine lenW rfl ?_
        refine WL_gy (g := 37) rfl (by decide) rfl ?_
        refine gtrW rfl rfl ?_
        first | refine pkT rfl rfl ?_ | refine pkF rfl rfl ?_
        refine fad rfl ?_
        refine sto (.bool _) hs rfl rfl rfl rfl (by simp) rfl ?_
        intro w hs _
        first
          | (have h37 : L.sh = true := by simpa using hg37
             have hX : (relL L i).sh = decide ((0 : Int) < ((ln - 1 : Nat) : Int)) := by
               show (L.sh && decide (0 < (L.hs.eraseIdx i).length)) = _
               rw [h37, hle, Bool.true_and]
               exact decide_eq_decide.2 (by omega)
             replace hs : St w0 _ w (eB g9 true (Blk 24 (lkV L.ep (decide ((0 : Int) < ((ln - 1 : Nat) : Int))) a2 (ln - 1) c2)) :: _) := hs
             rw [← hX] at hs)
          | (have h37 : L.sh = false := by simpa using hg37
             have hX : (relL L i).sh = false := by
               show (L.sh && decide (0 < (L.hs.eraseIdx i).length)) = _
               rw [h37, Bool.false_and]
             replace hs : St w0 _ w (eB g9 true (Blk 24 (lkV L.ep false a2 (ln - 1) c2)) :: _) := hs
             rw [← hX] at hs)
        refine WL_nil ?_
        refine hK10 _ _ ?_
        refine CW_seq (fun K11 hK11 => ?_)
        refine CW_region ?_
        refine mvp (.pointer _) rfl ?_
        refine ldA hs rfl (by simp) ?_
        refine ldA hs rfl (by simp) ?_
        refine cll (write_lk_ok g b r1 r2 t a m c R' C N bi (relL L i) a2 (ln - 1) c2 _ (hs.he _) ho hm (hs.rd (a := a2)) hle.symm (fun x hx => hshort x (List.mem_of_mem_eraseIdx hx)) (fun q x hx => by have := lk_short q x hx; omega) (fun w hf => (hs.rd (a := a2)).fm hf)) ?_
        rintro _ w ⟨rfl, a', m', c', C', hm', ht⟩
        replace hs := hs.turnE rfl ht
        refine asp (.int _ _) rfl ?_
        refine WL_nil ?_
        refine hK11 _ _ ?_
        refine CW_ret ?_
        repeat (first | (with_reducible apply thenF_ret) | (with_reducible apply blockF_ret))
        try simp only [thenF, blockF, reduceIte]
        refine Post_r Tryz.results26 (.tmp rfl .nil) ?_
        try simp only [ev_tmp, ev_const, upd_ap, Nat.reduceLT, Nat.reduceEqDiff, reduceIte]
        have h24 : ¬ e ≠ 0 := by simpa using hc24
        have h27 : ¬ h = false := by rw [hht]; simp
        rw [eV1, eN1, if_neg h24, if_neg h24, if_neg h27, if_neg h27]
        exact ⟨by trivial, R', a', m', c', C', hm', hs.ret1 rfl⟩
      · skip
        refine WL_gn (g := 37) rfl (by decide) rfl ?_
        refine WL_gn (g := 37) rfl (by decide) rfl ?_
        refine WL_gn (g := 37) rfl (by decide) rfl ?_
        first | refine pkT rfl rfl ?_ | refine pkF rfl rfl ?_
        refine fad rfl ?_
        refine sto (.bool _) hs rfl rfl rfl rfl (by simp) rfl ?_
        intro w hs _
        first
          | (have h37 : L.sh = true := by simpa using hg37
             have hX : (relL L i).sh = decide ((0 : Int) < ((ln - 1 : Nat) : Int)) := by
               show (L.sh && decide (0 < (L.hs.eraseIdx i).length)) = _
               rw [h37, hle, Bool.true_and]
               exact decide_eq_decide.2 (by omega)
             replace hs : St w0 _ w (eB g9 true (Blk 24 (lkV L.ep (decide ((0 : Int) < ((ln - 1 : Nat) : Int))) a2 (ln - 1) c2)) :: _) := hs
             rw [← hX] at hs)
          | (have h37 : L.sh = false := by simpa using hg37
             have hX : (relL L i).sh = false := by
               show (L.sh && decide (0 < (L.hs.eraseIdx i).length)) = _
               rw [h37, Bool.false_and]
             replace hs : St w0 _ w (eB g9 true (Blk 24 (lkV L.ep false a2 (ln - 1) c2)) :: _) := hs
             rw [← hX] at hs)
        refine WL_nil ?_
        refine hK10 _ _ ?_
        refine CW_seq (fun K12 hK12 => ?_)
        refine CW_region ?_
        refine mvp (.pointer _) rfl ?_
        refine ldA hs rfl (by simp) ?_
        refine ldA hs rfl (by simp) ?_
        refine cll (write_lk_ok g b r1 r2 t a m c R' C N bi (relL L i) a2 (ln - 1) c2 _ (hs.he _) ho hm (hs.rd (a := a2)) hle.symm (fun x hx => hshort x (List.mem_of_mem_eraseIdx hx)) (fun q x hx => by have := lk_short q x hx; omega) (fun w hf => (hs.rd (a := a2)).fm hf)) ?_
        rintro _ w ⟨rfl, a', m', c', C', hm', ht⟩
        replace hs := hs.turnE rfl ht
        refine asp (.int _ _) rfl ?_
        refine WL_nil ?_
        refine hK12 _ _ ?_
        refine CW_ret ?_
        repeat (first | (with_reducible apply thenF_ret) | (with_reducible apply blockF_ret))
        try simp only [thenF, blockF, reduceIte]
        refine Post_r Tryz.results26 (.tmp rfl .nil) ?_
        try simp only [ev_tmp, ev_const, upd_ap, Nat.reduceLT, Nat.reduceEqDiff, reduceIte]
        have h24 : ¬ e ≠ 0 := by simpa using hc24
        have h27 : ¬ h = false := by rw [hht]; simp
        rw [eV1, eN1, if_neg h24, if_neg h24, if_neg h27, if_neg h27]
        exact ⟨by trivial, R', a', m', c', C', hm', hs.ret1 rfl⟩
theorem mem_ins {l : List ByteArray} {i : Nat} {who x : ByteArray} (h : x ∈ l.take i ++ who :: l.drop i) : x = who ∨ x ∈ l := by
  rcases List.mem_append.1 h with q | q
  · exact .inr (List.mem_of_mem_take q)
  · rcases List.mem_cons.1 q with q | q
    · exact .inl q
    · exact .inr (List.mem_of_mem_drop q)
abbrev fnA (k : Nat) (g11 g13 : Nat) : Value := .func (.func k) #[] #[.pointer (some ⟨g11, 0, none⟩), .pointer (some ⟨g13, 0, none⟩)]
theorem Acquire_ok (g b r1 r2 : Nat) (t : Tr) (a : Option Addr) (m c : Nat) (R C N : Chs) (bi : Bir) (ep : Int) (who : ByteArray) (sh : Bool) (w0 : World) (hV : (eV g b r1 r2 t a m c R C N).holds w0) (ho : bi.maker.size ≤ 9223372036854775807) (hm : m ≤ 1000000)
    (hsz : (vwGet t N (lkName bi)).1.size ≤ 140737488355328) (hw : who.size ≤ 9223372036854775807) :
    Ret Tryz.prog 27 #[.pointer (some ⟨g, 0, none⟩), .agg (birV bi).toArray, .int .i64 ep, .string who, .bool sh] w0 fun v w' => v = .int .i64 (acqV t N bi ep who sh) ∧ ∃ R' a' m' c' C', m' ≤ m + 1 ∧ Turned (eV g b r1 r2 t a m c R C N) (eV g b r1 r2 t a' m' c' R' C' (acqN t N bi ep who sh)) w0 w' := by
  have hs := St.ent hV
  obtain ⟨L, hL⟩ : ∃ L, useL t N bi ep who = L := ⟨_, rfl⟩
  obtain ⟨i, hi⟩ : ∃ i, useAt t N bi ep who = i := ⟨_, rfl⟩
  obtain ⟨h, hh⟩ : ∃ h, useH t N bi ep who = h := ⟨_, rfl⟩
  obtain ⟨e, he⟩ : ∃ e, useE t N bi ep who = e := ⟨_, rfl⟩
  have hlen : L.hs.length ≤ 32 := by rw [← hL]; exact useL_len
  have hshort : ∀ x ∈ L.hs, x.size ≤ 9223372036854775807 := by rw [← hL]; exact useL_short
  have hile : i ≤ L.hs.length := by rw [← hL, ← hi]; exact useAt_le
  have eV1 : acqV t N bi ep who sh = if e ≠ 0 then e else if acqE L h sh ≠ 0 then acqE L h sh else if h = true ∧ L.sh = sh then 0 else wrE bi (acqL L i h who sh) := by unfold acqV; rw [hL, hi, hh, he]
  have eN1 : acqN t N bi ep who sh = if e ≠ 0 then N else if acqE L h sh ≠ 0 then N else if h = true ∧ L.sh = sh then N else wrN N bi (acqL L i h who sh) := by unfold acqN; rw [hL, hi, hh, he]
  refine Ret_enter Tryz.func27 rfl Tryz.ntmps27 (by simp) ?_
  refine CW_seq (fun K1 hK1 => ?_)
  refine CW_region ?_
  refine bx (.agg (birV bi).toArray) (vl := birV bi) hs rfl rfl ?_
  intro w g6 hs hg6 hf6
  refine asp (.int _ _) rfl ?_
  refine WL_nil ?_
  refine hK1 _ _ ?_
  refine CW_seq (fun K2 hK2 => ?_)
  refine CW_region ?_
  refine mvp (.pointer _) rfl ?_
  refine ldA hs rfl (by simp) ?_
  refine mvp (.int _ _) rfl ?_
  refine mvp (.string _) rfl ?_
  refine cll (use_ok g b r1 r2 t a m c R C N bi ep who _ (hs.he _) ho hsz hw lkRead_len) ?_
  rintro _ w ⟨la, ln, lc, R', rfl, hln, ht⟩
  replace hs := hs.turn2 ht rfl rfl rfl
  rw [hL] at hs hln
  rw [hL, hi, hh, he]
  refine mvp (.tuple _) rfl ?_
  refine ext rfl rfl ?_
  refine ext rfl rfl ?_
  refine ext rfl rfl ?_
  refine ext rfl rfl ?_
  refine alc hs ?_
  intro w g11 hs hg11 hf11
  refine alc hs ?_
  intro w g13 hs hg13 hf13
  refine sto (.agg (lkV L.ep L.sh la ln lc).toArray) (vl := lkV L.ep L.sh la ln lc) hs rfl rfl rfl rfl (by simp) rfl ?_
  intro w hs _
  replace hs : St w0 _ w (_ :: eB g11 true (Blk 24 (lkV L.ep L.sh la ln lc)) :: _) := hs
  refine asp (.int _ _) rfl ?_
  refine sto (.bool h) hs rfl rfl rfl rfl (by simp) rfl ?_
  intro w hs _
  replace hs : St w0 _ w (eB g13 true (Blk 4 [.bool h]) :: _) := hs
  have hne13 : g11 ≠ g13 := fun q => hs.ne (b := g13) (c := g11) (by simp [eB]) (by simp [eB]) q.symm
  refine asp (.int _ _) rfl ?_
  refine WL_nil ?_
  refine hK2 _ _ ?_
  refine CW_seq (fun K3 hK3 => ?_)
  refine CW_seq (fun K4 hK4 => ?_)
  refine CW_region ?_
  refine mvp (.int _ _) rfl ?_
  refine neqW rfl rfl ?_
  refine WL_nil ?_
  refine hK4 _ _ ?_
  refine CW_cond rfl (fun hc31 => ?_) (fun hc31 => ?_)
  · skip
    refine CW_seq (fun K5 hK5 => ?_)
    refine CW_region ?_
    refine mvp (.int _ _) rfl ?_
    refine asp (.int _ _) rfl ?_
    refine WL_nil ?_
    refine hK5 _ _ ?_
    refine CW_ret ?_
    repeat (first | (with_reducible apply thenF_ret) | (with_reducible apply blockF_ret))
    try simp only [thenF, blockF, reduceIte]
    refine Post_r Tryz.results27 (.tmp rfl .nil) ?_
    try simp only [ev_tmp, ev_const, upd_ap, Nat.reduceLT, Nat.reduceEqDiff, reduceIte]
    have h31 : e ≠ 0 := by simpa using hc31
    rw [eV1, eN1, if_pos h31, if_pos h31]
    exact ⟨by trivial, R', a, m, c, C, by omega, hs.ret1 rfl⟩
  · skip
    refine CW_skip ?_
    refine hK3 _ _ ?_
    refine CW_seq (fun K6 hK6 => ?_)
    refine CW_region ?_
    apply mkf
    refine asp (fnA 82 g11 g13) rfl ?_
    refine WL_nil ?_
    refine hK6 _ _ ?_
    refine CW_seq (fun K7 hK7 => ?_)
    refine CW_region ?_
    apply mkf
    refine asp (fnA 84 g11 g13) rfl ?_
    refine WL_nil ?_
    refine hK7 _ _ ?_
    refine CW_seq (fun K8 hK8 => ?_)
    refine CW_region ?_
    refine mvp (fnA 82 g11 g13) rfl ?_
    refine mvp (fnA 82 g11 g13) rfl ?_
    refine mvp (fnA 82 g11 g13) rfl ?_
    refine mvp (fnA 84 g11 g13) rfl ?_
    refine WL_v (v := .agg #[fnA 82 g11 g13, fnA 82 g11 g13, fnA 82 g11 g13, fnA 84 g11 g13]) (X_buildA Tryz.zeroValue143 (by rfl) (BS.fn rfl (BS.fn rfl (BS.fn rfl (BS.fn rfl .nil)))) rfl) ?_
    refine alc hs ?_
    intro w g17 hs hg17 hf17
    refine sto (.agg #[fnA 82 g11 g13, fnA 82 g11 g13, fnA 82 g11 g13, fnA 84 g11 g13]) hs rfl rfl rfl rfl (by simp) rfl ?_
    intro w hs _
    replace hs : St w0 _ w (eB g17 true (Blk 143 [fnA 82 g11 g13, fnA 82 g11 g13, fnA 82 g11 g13, fnA 84 g11 g13]) :: _) := hs
    refine WL_nil ?_
    refine hK8 _ _ ?_
    refine CW_seq (fun K9 hK9 => ?_)
    refine CW_region ?_
    refine asp (.int _ _) rfl ?_
    refine WL_nil ?_
    refine hK9 _ _ ?_
    refine CW_seq (fun K10 hK10 => ?_)
    refine CW_seq (fun K11 hK11 => ?_)
    refine CW_region ?_
    refine fad rfl ?_
    refine ld hs rfl rfl ?_
    refine WL_nil ?_
    refine hK11 _ _ ?_
    refine CW_cond rfl (fun hc41 => ?_) (fun hc41 => ?_)
    · skip
      refine CW_region ?_
      refine mvp (.int _ _) rfl ?_
      first | refine addI rfl rfl (by omega) ?_ | refine addW rfl rfl ?_
      refine asp (.int _ _) rfl ?_
      refine WL_nil ?_
      refine hK10 _ _ ?_
      refine CW_seq (fun K12 hK12 => ?_)
      refine CW_seq (fun K13 hK13 => ?_)
      refine CW_region ?_
      refine mvp (.bool _) rfl ?_
      refine WL_nil ?_
      refine hK13 _ _ ?_
      refine CW_cond rfl (fun hc44 => ?_) (fun hc44 => ?_)
      · skip
        refine CW_region ?_
        refine mvp (.int _ _) rfl ?_
        first | refine addI rfl rfl (by omega) ?_ | refine addW rfl rfl ?_
        refine asp (.int _ _) rfl ?_
        refine WL_nil ?_
        refine hK12 _ _ ?_
        refine CW_seq (fun K14 hK14 => ?_)
        refine CW_seq (fun K15 hK15 => ?_)
        refine CW_region ?_
        refine mvp (.int _ _) rfl ?_
        first
        | refine WL_v (X_idxA (i := 3) rfl rfl (by decide)) ?_
        | refine WL_v (X_idxA (i := 2) rfl rfl (by decide)) ?_
        | refine WL_v (X_idxA (i := 1) rfl rfl (by decide)) ?_
        | refine WL_v (X_idxA (i := 0) rfl rfl (by decide)) ?_
        refine ld hs rfl rfl ?_
        first
          | refine clv (fn := 84) (first := []) (cap := [.pointer (some ⟨g11, 0, none⟩), .pointer (some ⟨g13, 0, none⟩)]) rfl (Acq2_ok L la ln lc g11 g13 h sh _ hln (by omega) ⟨hc41, hc44⟩ (hs.get InB.h) (hs.get InB.h) hne13) ?_
          | refine clv (fn := 82) (first := []) (cap := [.pointer (some ⟨g11, 0, none⟩), .pointer (some ⟨g13, 0, none⟩)]) rfl (Acq1_ok L la ln lc g11 g13 h sh _ hln (by omega) (fun q => by first | (rw [q.1] at hc41; cases hc41; done) | (rw [q.2] at hc44; cases hc44; done)) (hs.get InB.h) (hs.get InB.h) hne13) ?_
        rintro _ w ⟨rfl, hf⟩
        replace hs := hs.call hf
        refine asp (.int _ _) rfl ?_
        refine WL_nil ?_
        refine hK15 _ _ ?_
        refine CW_seq (fun K16 hK16 => ?_)
        refine CW_region ?_
        refine mvp (.int _ _) rfl ?_
        refine neqW rfl rfl ?_
        refine WL_nil ?_
        refine hK16 _ _ ?_
        refine CW_cond rfl (fun hc52 => ?_) (fun hc52 => ?_)
        · skip
          refine CW_seq (fun K17 hK17 => ?_)
          refine CW_region ?_
          refine mvp (.int _ _) rfl ?_
          refine asp (.int _ _) rfl ?_
          refine WL_nil ?_
          refine hK17 _ _ ?_
          refine CW_ret ?_
          repeat (first | (with_reducible apply thenF_ret) | (with_reducible apply blockF_ret))
          try simp only [thenF, blockF, reduceIte]
          refine Post_r Tryz.results27 (.tmp rfl .nil) ?_
          try simp only [ev_tmp, ev_const, upd_ap, Nat.reduceLT, Nat.reduceEqDiff, reduceIte]
          have h31 : ¬ e ≠ 0 := by simpa using hc31
          have h52 : acqE L h sh ≠ 0 := by simpa using hc52
          rw [eV1, eN1, if_neg h31, if_neg h31, if_pos h52, if_pos h52]
          exact ⟨by trivial, R', a, m, c, C, by omega, hs.ret1 rfl⟩
        · skip
          refine CW_skip ?_
          refine hK14 _ _ ?_
          refine CW_seq (fun K18 hK18 => ?_)
          refine CW_seq (fun K19 hK19 => ?_)
          refine CW_region ?_
          refine ld hs rfl rfl ?_
          refine mvp (.bool _) rfl ?_
          refine WL_g (g := 55) rfl (by decide) rfl (fun hg55 => ?_) (fun hg55 => ?_)
          · skip
            refine fad rfl ?_
            refine WL_gy (g := 55) rfl (by decide) rfl ?_
            refine ld hs rfl rfl ?_
            refine WL_gy (g := 55) rfl (by decide) rfl ?_
            refine mvp (.bool _) rfl ?_
            refine WL_gy (g := 55) rfl (by decide) rfl ?_
            refine WL_v (X_eqB rfl rfl) ?_
            first | refine pkT rfl rfl ?_ | refine pkF rfl rfl ?_
            refine WL_nil ?_
            refine hK19 _ _ ?_
            refine CW_cond rfl (fun hc60 => ?_) (fun hc60 => ?_)
            · skip
              refine CW_seq (fun K20 hK20 => ?_)
              refine CW_region ?_
              refine asp (.int _ _) rfl ?_
              refine WL_nil ?_
              refine hK20 _ _ ?_
              refine CW_ret ?_
              repeat (first | (with_reducible apply thenF_ret) | (with_reducible apply blockF_ret))
              try simp only [thenF, blockF, reduceIte]
              refine Post_r Tryz.results27 (.tmp rfl .nil) ?_
              try simp only [ev_tmp, ev_const, upd_ap, Nat.reduceLT, Nat.reduceEqDiff, reduceIte]
              have h31 : ¬ e ≠ 0 := by simpa using hc31
              have h52 : ¬ acqE L h sh ≠ 0 := by simpa using hc52
              have h60 : h = true ∧ L.sh = sh := ⟨by simpa using hg55, by simpa using hc60⟩
              rw [eV1, eN1, if_neg h31, if_neg h31, if_neg h52, if_neg h52, if_pos h60, if_pos h60]
              exact ⟨by trivial, R', a, m, c, C, by omega, hs.ret1 rfl⟩
            · skip
              refine CW_skip ?_
              refine hK18 _ _ ?_
              refine CW_seq (fun K21 hK21 => ?_)
              refine CW_seq (fun K22 hK22 => ?_)
              refine CW_region ?_
              refine ld hs rfl rfl ?_
              refine notW rfl ?_
              refine WL_nil ?_
              refine hK22 _ _ ?_
              refine CW_cond rfl (fun hc62 => ?_) (fun hc62 => ?_)
              · skip
                refine CW_region ?_
                refine fad rfl ?_
                refine ld hs rfl rfl ?_
                refine mvp (.int _ _) rfl ?_
                refine mvp (.string _) rfl ?_
                refine W_bslice hs (BS.ss rfl .nil) rfl (by simp) ?_
                intro w g67 hs hg67 hf67
                refine cll (Insert_ok la ln lc g67 L.hs who i _ (hs.he _) (hs.get InB.h) (fun q => (List.pairwise_cons.1 hs.sep).1 (eR (.slice la ln lc) 42 1 ln (sv L.hs)) InE.h g67 (by simp [eB]) q) (by omega) hln (by omega)) ?_
                rintro _ w ⟨a2, c2, rfl, ht⟩
                replace hs := hs.turnE rfl ht
                refine fad rfl ?_
                refine sto (.slice a2 (ln + 1) c2) hs rfl rfl rfl rfl (by simp) rfl ?_
                intro w hs _
                replace hs : St w0 _ w (_ :: _ :: _ :: eB g11 true (Blk 24 [.int .i64 L.ep, .bool L.sh, .slice a2 (ln + 1) c2]) :: _) := hs
                refine WL_nil ?_
                refine hK21 _ _ ?_
                refine CW_seq (fun K23 hK23 => ?_)
                refine CW_region ?_
                refine mvp (.bool _) rfl ?_
                refine fad rfl ?_
                refine sto (.bool sh) hs rfl rfl rfl rfl (by simp) rfl ?_
                intro w hs _
                first
                  | replace hs : St w0 _ w (_ :: _ :: _ :: eB g11 true (Blk 24 (lkV L.ep sh a2 (ln + 1) c2)) :: _) := hs
                  | replace hs : St w0 _ w (_ :: _ :: eB g11 true (Blk 24 (lkV L.ep sh la ln lc)) :: _) := hs
                refine WL_nil ?_
                refine hK23 _ _ ?_
                refine CW_seq (fun K24 hK24 => ?_)
                refine CW_region ?_
                refine mvp (.pointer _) rfl ?_
                refine ldA hs rfl (by simp) ?_
                refine ldA hs rfl (by simp) ?_
                first
                  | refine cll (write_lk_ok g b r1 r2 t a m c R' C N bi ⟨L.ep, sh, L.hs.take i ++ who :: L.hs.drop i⟩ a2 (ln + 1) c2 _ (hs.he _) ho hm (hs.rd (a := a2)) (by simp; omega) (fun x hx => (mem_ins hx).elim (fun q => by rw [q]; exact hw) (hshort x)) (fun q x hx => by have := lk_short q x hx; omega) (fun w hf => (hs.rd (a := a2)).fm hf)) ?_
                  | refine cll (write_lk_ok g b r1 r2 t a m c R' C N bi ⟨L.ep, sh, L.hs⟩ la ln lc _ (hs.he _) ho hm (hs.rd (a := la)) hln hshort (fun q x hx => by have := lk_short q x hx; omega) (fun w hf => (hs.rd (a := la)).fm hf)) ?_
                rintro _ w ⟨rfl, a', m', c', C', hm', ht⟩
                replace hs := hs.turnE rfl ht
                refine asp (.int _ _) rfl ?_
                refine WL_nil ?_
                refine hK24 _ _ ?_
                refine CW_ret ?_
                repeat (first | (with_reducible apply thenF_ret) | (with_reducible apply blockF_ret))
                try simp only [thenF, blockF, reduceIte]
                refine Post_r Tryz.results27 (.tmp rfl .nil) ?_
                try simp only [ev_tmp, ev_const, upd_ap, Nat.reduceLT, Nat.reduceEqDiff, reduceIte]
                have h31 : ¬ e ≠ 0 := by simpa using hc31
                have h52 : ¬ acqE L h sh ≠ 0 := by simpa using hc52
                have h60 : ¬ (h = true ∧ L.sh = sh) := by
                  rintro ⟨q1, q2⟩
                  first
                    | (have hb : h = false := by simpa using hg55
                       rw [hb] at q1; cases q1; done)
                    | (have hb : ¬ L.sh = sh := by simpa using hc60
                       exact hb q2)
                have e3 : (acqL L i h who sh) = ⟨L.ep, sh, if h then L.hs else L.hs.take i ++ who :: L.hs.drop i⟩ := rfl
                rw [eV1, eN1, if_neg h31, if_neg h31, if_neg h52, if_neg h52, if_neg h60, if_neg h60, e3]
                first
                  | (have h62 : h = false := by simpa using hc62
                     rw [h62, if_neg (by simp)]
                     exact ⟨by trivial, R', a', m', c', C', hm', hs.ret1 rfl⟩)
                  | (have h62 : h = true := by simpa using hc62
                     rw [h62, if_pos rfl]
                     exact ⟨by trivial, R', a', m', c', C', hm', hs.ret1 rfl⟩)
              · skip
                refine CW_skip ?_
                refine hK21 _ _ ?_
                refine CW_seq (fun K25 hK25 => ?_)
                refine CW_region ?_
                refine mvp (.bool _) rfl ?_
                refine fad rfl ?_
                refine sto (.bool sh) hs rfl rfl rfl rfl (by simp) rfl ?_
                intro w hs _
                first
                  | replace hs : St w0 _ w (_ :: _ :: _ :: eB g11 true (Blk 24 (lkV L.ep sh a2 (ln + 1) c2)) :: _) := hs
                  | replace hs : St w0 _ w (_ :: _ :: eB g11 true (Blk 24 (lkV L.ep sh la ln lc)) :: _) := hs
                refine WL_nil ?_
                refine hK25 _ _ ?_
                refine CW_seq (fun K26 hK26 => ?_)
                refine CW_region ?_
                refine mvp (.pointer _) rfl ?_
                refine ldA hs rfl (by simp) ?_
                refine ldA hs rfl (by simp) ?_
                first
                  | refine cll (write_lk_ok g b r1 r2 t a m c R' C N bi ⟨L.ep, sh, L.hs.take i ++ who :: L.hs.drop i⟩ a2 (ln + 1) c2 _ (hs.he _) ho hm (hs.rd (a := a2)) (by simp; omega) (fun x hx => (mem_ins hx).elim (fun q => by rw [q]; exact hw) (hshort x)) (fun q x hx => by have := lk_short q x hx; omega) (fun w hf => (hs.rd (a := a2)).fm hf)) ?_
                  | refine cll (write_lk_ok g b r1 r2 t a m c R' C N bi ⟨L.ep, sh, L.hs⟩ la ln lc _ (hs.he _) ho hm (hs.rd (a := la)) hln hshort (fun q x hx => by have := lk_short q x hx; omega) (fun w hf => (hs.rd (a := la)).fm hf)) ?_
                rintro _ w ⟨rfl, a', m', c', C', hm', ht⟩
                replace hs := hs.turnE rfl ht
                refine asp (.int _ _) rfl ?_
                refine WL_nil ?_
                refine hK26 _ _ ?_
                refine CW_ret ?_
                repeat (first | (with_reducible apply thenF_ret) | (with_reducible apply blockF_ret))
                try simp only [thenF, blockF, reduceIte]
                refine Post_r Tryz.results27 (.tmp rfl .nil) ?_
                try simp only [ev_tmp, ev_const, upd_ap, Nat.reduceLT, Nat.reduceEqDiff, reduceIte]
                have h31 : ¬ e ≠ 0 := by simpa using hc31
                have h52 : ¬ acqE L h sh ≠ 0 := by simpa using hc52
                have h60 : ¬ (h = true ∧ L.sh = sh) := by
                  rintro ⟨q1, q2⟩
                  first
                    | (have hb : h = false := by simpa using hg55
                       rw [hb] at q1; cases q1; done)
                    | (have hb : ¬ L.sh = sh := by simpa using hc60
                       exact hb q2)
                have e3 : (acqL L i h who sh) = ⟨L.ep, sh, if h then L.hs else L.hs.take i ++ who :: L.hs.drop i⟩ := rfl
                rw [eV1, eN1, if_neg h31, if_neg h31, if_neg h52, if_neg h52, if_neg h60, if_neg h60, e3]
                first
                  | (have h62 : h = false := by simpa using hc62
                     rw [h62, if_neg (by simp)]
                     exact ⟨by trivial, R', a', m', c', C', hm', hs.ret1 rfl⟩)
                  | (have h62 : h = true := by simpa using hc62
                     rw [h62, if_pos rfl]
                     exact ⟨by trivial, R', a', m', c', C', hm', hs.ret1 rfl⟩)
          · skip
            refine WL_gn (g := 55) rfl (by decide) rfl ?_
            refine WL_gn (g := 55) rfl (by decide) rfl ?_
            refine WL_gn (g := 55) rfl (by decide) rfl ?_
            first | refine pkT rfl rfl ?_ | refine pkF rfl rfl ?_
            refine WL_nil ?_
            refine hK19 _ _ ?_
            refine CW_condF rfl rfl ?_
            refine CW_skip ?_
            refine hK18 _ _ ?_
            refine CW_seq (fun K27 hK27 => ?_)
            refine CW_seq (fun K28 hK28 => ?_)
            refine CW_region ?_
            refine ld hs rfl rfl ?_
            refine notW rfl ?_
            refine WL_nil ?_
            refine hK28 _ _ ?_
            refine CW_cond rfl (fun hc62 => ?_) (fun hc62 => ?_)
            · skip
              refine CW_region ?_
              refine fad rfl ?_
              refine ld hs rfl rfl ?_
              refine mvp (.int _ _) rfl ?_
              refine mvp (.string _) rfl ?_
              refine W_bslice hs (BS.ss rfl .nil) rfl (by simp) ?_
              intro w g67 hs hg67 hf67
              refine cll (Insert_ok la ln lc g67 L.hs who i _ (hs.he _) (hs.get InB.h) (fun q => (List.pairwise_cons.1 hs.sep).1 (eR (.slice la ln lc) 42 1 ln (sv L.hs)) InE.h g67 (by simp [eB]) q) (by omega) hln (by omega)) ?_
              rintro _ w ⟨a2, c2, rfl, ht⟩
              replace hs := hs.turnE rfl ht
              refine fad rfl ?_
              refine sto (.slice a2 (ln + 1) c2) hs rfl rfl rfl rfl (by simp) rfl ?_
              intro w hs _
              replace hs : St w0 _ w (_ :: _ :: _ :: eB g11 true (Blk 24 [.int .i64 L.ep, .bool L.sh, .slice a2 (ln + 1) c2]) :: _) := hs
              refine WL_nil ?_
              refine hK27 _ _ ?_
              refine CW_seq (fun K29 hK29 => ?_)
              refine CW_region ?_
              refine mvp (.bool _) rfl ?_
              refine fad rfl ?_
              refine sto (.bool sh) hs rfl rfl rfl rfl (by simp) rfl ?_
              intro w hs _
              first
                | replace hs : St w0 _ w (_ :: _ :: _ :: eB g11 true (Blk 24 (lkV L.ep sh a2 (ln + 1) c2)) :: _) := hs
                | replace hs : St w0 _ w (_ :: _ :: eB g11 true (Blk 24 (lkV L.ep sh la ln lc)) :: _) := hs
              refine WL_nil ?_
              refine hK29 _ _ ?_
              refine CW_seq (fun K30 hK30 => ?_)
              refine CW_region ?_
              refine mvp (.pointer _) rfl ?_
              refine ldA hs rfl (by simp) ?_
              refine ldA hs rfl (by simp) ?_
              first
                | refine cll (write_lk_ok g b r1 r2 t a m c R' C N bi ⟨L.ep, sh, L.hs.take i ++ who :: L.hs.drop i⟩ a2 (ln + 1) c2 _ (hs.he _) ho hm (hs.rd (a := a2)) (by simp; omega) (fun x hx => (mem_ins hx).elim (fun q => by rw [q]; exact hw) (hshort x)) (fun q x hx => by have := lk_short q x hx; omega) (fun w hf => (hs.rd (a := a2)).fm hf)) ?_
                | refine cll (write_lk_ok g b r1 r2 t a m c R' C N bi ⟨L.ep, sh, L.hs⟩ la ln lc _ (hs.he _) ho hm (hs.rd (a := la)) hln hshort (fun q x hx => by have := lk_short q x hx; omega) (fun w hf => (hs.rd (a := la)).fm hf)) ?_
              rintro _ w ⟨rfl, a', m', c', C', hm', ht⟩
              replace hs := hs.turnE rfl ht
              refine asp (.int _ _) rfl ?_
              refine WL_nil ?_
              refine hK30 _ _ ?_
              refine CW_ret ?_
              repeat (first | (with_reducible apply thenF_ret) | (with_reducible apply blockF_ret))
              try simp only [thenF, blockF, reduceIte]
              refine Post_r Tryz.results27 (.tmp rfl .nil) ?_
              try simp only [ev_tmp, ev_const, upd_ap, Nat.reduceLT, Nat.reduceEqDiff, reduceIte]
              have h31 : ¬ e ≠ 0 := by simpa using hc31
              have h52 : ¬ acqE L h sh ≠ 0 := by simpa using hc52
              have h60 : ¬ (h = true ∧ L.sh = sh) := by
                rintro ⟨q1, q2⟩
                first
                  | (have hb : h = false := by simpa using hg55
                     rw [hb] at q1; cases q1; done)
                  | (have hb : ¬ L.sh = sh := by simpa using hc60
                     exact hb q2)
              have e3 : (acqL L i h who sh) = ⟨L.ep, sh, if h then L.hs else L.hs.take i ++ who :: L.hs.drop i⟩ := rfl
              rw [eV1, eN1, if_neg h31, if_neg h31, if_neg h52, if_neg h52, if_neg h60, if_neg h60, e3]
              first
                | (have h62 : h = false := by simpa using hc62
                   rw [h62, if_neg (by simp)]
                   exact ⟨by trivial, R', a', m', c', C', hm', hs.ret1 rfl⟩)
                | (have h62 : h = true := by simpa using hc62
                   rw [h62, if_pos rfl]
                   exact ⟨by trivial, R', a', m', c', C', hm', hs.ret1 rfl⟩)
            · skip
              refine CW_skip ?_
              refine hK27 _ _ ?_
              refine CW_seq (fun K31 hK31 => ?_)
              refine CW_region ?_
              refine mvp (.bool _) rfl ?_
              refine fad rfl ?_
              refine sto (.bool sh) hs rfl rfl rfl rfl (by simp) rfl ?_
              intro w hs _
              first
                | replace hs : St w0 _ w (_ :: _ :: _ :: eB g11 true (Blk 24 (lkV L.ep sh a2 (ln + 1) c2)) :: _) := hs
                | replace hs : St w0 _ w (_ :: _ :: eB g11 true (Blk 24 (lkV L.ep sh la ln lc)) :: _) := hs
              refine WL_nil ?_
              refine hK31 _ _ ?_
              refine CW_seq (fun K32 hK32 => ?_)
              refine CW_region ?_
              refine mvp (.pointer _) rfl ?_
              refine ldA hs rfl (by simp) ?_
              refine ldA hs rfl (by simp) ?_
              first
                | refine cll (write_lk_ok g b r1 r2 t a m c R' C N bi ⟨L.ep, sh, L.hs.take i ++ who :: L.hs.drop i⟩ a2 (ln + 1) c2 _ (hs.he _) ho hm (hs.rd (a := a2)) (by simp; omega) (fun x hx => (mem_ins hx).elim (fun q => by rw [q]; exact hw) (hshort x)) (fun q x hx => by have := lk_short q x hx; omega) (fun w hf => (hs.rd (a := a2)).fm hf)) ?_
                | refine cll (write_lk_ok g b r1 r2 t a m c R' C N bi ⟨L.ep, sh, L.hs⟩ la ln lc _ (hs.he _) ho hm (hs.rd (a := la)) hln hshort (fun q x hx => by have := lk_short q x hx; omega) (fun w hf => (hs.rd (a := la)).fm hf)) ?_
              rintro _ w ⟨rfl, a', m', c', C', hm', ht⟩
              replace hs := hs.turnE rfl ht
              refine asp (.int _ _) rfl ?_
              refine WL_nil ?_
              refine hK32 _ _ ?_
              refine CW_ret ?_
              repeat (first | (with_reducible apply thenF_ret) | (with_reducible apply blockF_ret))
              try simp only [thenF, blockF, reduceIte]
              refine Post_r Tryz.results27 (.tmp rfl .nil) ?_
              try simp only [ev_tmp, ev_const, upd_ap, Nat.reduceLT, Nat.reduceEqDiff, reduceIte]
              have h31 : ¬ e ≠ 0 := by simpa using hc31
              have h52 : ¬ acqE L h sh ≠ 0 := by simpa using hc52
              have h60 : ¬ (h = true ∧ L.sh = sh) := by
                rintro ⟨q1, q2⟩
                first
                  | (have hb : h = false := by simpa using hg55
                     rw [hb] at q1; cases q1; done)
                  | (have hb : ¬ L.sh = sh := by simpa using hc60
                     exact hb q2)
              have e3 : (acqL L i h who sh) = ⟨L.ep, sh, if h then L.hs else L.hs.take i ++ who :: L.hs.drop i⟩ := rfl
              rw [eV1, eN1, if_neg h31, if_neg h31, if_neg h52, if_neg h52, if_neg h60, if_neg h60, e3]
              first
                | (have h62 : h = false := by simpa using hc62
                   rw [h62, if_neg (by simp)]
                   exact ⟨by trivial, R', a', m', c', C', hm', hs.ret1 rfl⟩)
                | (have h62 : h = true := by simpa using hc62
                   rw [h62, if_pos rfl]
                   exact ⟨by trivial, R', a', m', c', C', hm', hs.ret1 rfl⟩)
      · skip
        refine CW_skip ?_
        refine hK12 _ _ ?_
        refine CW_seq (fun K33 hK33 => ?_)
        refine CW_seq (fun K34 hK34 => ?_)
        refine CW_region ?_
        refine mvp (.int _ _) rfl ?_
        first
        | refine WL_v (X_idxA (i := 3) rfl rfl (by decide)) ?_
        | refine WL_v (X_idxA (i := 2) rfl rfl (by decide)) ?_
        | refine WL_v (X_idxA (i := 1) rfl rfl (by decide)) ?_
        | refine WL_v (X_idxA (i := 0) rfl rfl (by decide)) ?_
        refine ld hs rfl rfl ?_
        first
          | refine clv (fn := 84) (first := []) (cap := [.pointer (some ⟨g11, 0, none⟩), .pointer (some ⟨g13, 0, none⟩)]) rfl (Acq2_ok L la ln lc g11 g13 h sh _ hln (by omega) ⟨hc41, hc44⟩ (hs.get InB.h) (hs.get InB.h) hne13) ?_
          | refine clv (fn := 82) (first := []) (cap := [.pointer (some ⟨g11, 0, none⟩), .pointer (some ⟨g13, 0, none⟩)]) rfl (Acq1_ok L la ln lc g11 g13 h sh _ hln (by omega) (fun q => by first | (rw [q.1] at hc41; cases hc41; done) | (rw [q.2] at hc44; cases hc44; done)) (hs.get InB.h) (hs.get InB.h) hne13) ?_
        rintro _ w ⟨rfl, hf⟩
        replace hs := hs.call hf
        refine asp (.int _ _) rfl ?_
        refine WL_nil ?_
        refine hK34 _ _ ?_
        refine CW_seq (fun K35 hK35 => ?_)
        refine CW_region ?_
        refine mvp (.int _ _) rfl ?_
        refine neqW rfl rfl ?_
        refine WL_nil ?_
        refine hK35 _ _ ?_
        refine CW_cond rfl (fun hc52 => ?_) (fun hc52 => ?_)
        · skip
          refine CW_seq (fun K36 hK36 => ?_)
          refine CW_region ?_
          refine mvp (.int _ _) rfl ?_
          refine asp (.int _ _) rfl ?_
          refine WL_nil ?_
          refine hK36 _ _ ?_
          refine CW_ret ?_
          repeat (first | (with_reducible apply thenF_ret) | (with_reducible apply blockF_ret))
          try simp only [thenF, blockF, reduceIte]
          refine Post_r Tryz.results27 (.tmp rfl .nil) ?_
          try simp only [ev_tmp, ev_const, upd_ap, Nat.reduceLT, Nat.reduceEqDiff, reduceIte]
          have h31 : ¬ e ≠ 0 := by simpa using hc31
          have h52 : acqE L h sh ≠ 0 := by simpa using hc52
          rw [eV1, eN1, if_neg h31, if_neg h31, if_pos h52, if_pos h52]
          exact ⟨by trivial, R', a, m, c, C, by omega, hs.ret1 rfl⟩
        · skip
          refine CW_skip ?_
          refine hK33 _ _ ?_
          refine CW_seq (fun K37 hK37 => ?_)
          refine CW_seq (fun K38 hK38 => ?_)
          refine CW_region ?_
          refine ld hs rfl rfl ?_
          refine mvp (.bool _) rfl ?_
          refine WL_g (g := 55) rfl (by decide) rfl (fun hg55 => ?_) (fun hg55 => ?_)
          · skip
            refine fad rfl ?_
            refine WL_gy (g := 55) rfl (by decide) rfl ?_
            refine ld hs rfl rfl ?_
            refine WL_gy (g := 55) rfl (by decide) rfl ?_
            refine mvp (.bool _) rfl ?_
            refine WL_gy (g := 55) rfl (by decide) rfl ?_
            refine WL_v (X_eqB rfl rfl) ?_
            first | refine pkT rfl rfl ?_ | refine pkF rfl rfl ?_
            refine WL_nil ?_
            refine hK38 _ _ ?_
            refine CW_cond rfl (fun hc60 => ?_) (fun hc60 => ?_)
            · skip
              refine CW_seq (fun K39 hK39 => ?_)
              refine CW_region ?_
              refine asp (.int _ _) rfl ?_
              refine WL_nil ?_
              refine hK39 _ _ ?_
              refine CW_ret ?_
              repeat (first | (with_reducible apply thenF_ret) | (with_reducible apply blockF_ret))
              try simp only [thenF, blockF, reduceIte]
              refine Post_r Tryz.results27 (.tmp rfl .nil) ?_
              try simp only [ev_tmp, ev_const, upd_ap, Nat.reduceLT, Nat.reduceEqDiff, reduceIte]
              have h31 : ¬ e ≠ 0 := by simpa using hc31
              have h52 : ¬ acqE L h sh ≠ 0 := by simpa using hc52
              have h60 : h = true ∧ L.sh = sh := ⟨by simpa using hg55, by simpa using hc60⟩
              rw [eV1, eN1, if_neg h31, if_neg h31, if_neg h52, if_neg h52, if_pos h60, if_pos h60]
              exact ⟨by trivial, R', a, m, c, C, by omega, hs.ret1 rfl⟩
            · skip
              refine CW_skip ?_
              refine hK37 _ _ ?_
              refine CW_seq (fun K40 hK40 => ?_)
              refine CW_seq (fun K41 hK41 => ?_)
              refine CW_region ?_
              refine ld hs rfl rfl ?_
              refine notW rfl ?_
              refine WL_nil ?_
              refine hK41 _ _ ?_
              refine CW_cond rfl (fun hc62 => ?_) (fun hc62 => ?_)
              · skip
                refine CW_region ?_
                refine fad rfl ?_
                refine ld hs rfl rfl ?_
                refine mvp (.int _ _) rfl ?_
                refine mvp (.string _) rfl ?_
                refine W_bslice hs (BS.ss rfl .nil) rfl (by simp) ?_
                intro w g67 hs hg67 hf67
                refine cll (Insert_ok la ln lc g67 L.hs who i _ (hs.he _) (hs.get InB.h) (fun q => (List.pairwise_cons.1 hs.sep).1 (eR (.slice la ln lc) 42 1 ln (sv L.hs)) InE.h g67 (by simp [eB]) q) (by omega) hln (by omega)) ?_
                rintro _ w ⟨a2, c2, rfl, ht⟩
                replace hs := hs.turnE rfl ht
                refine fad rfl ?_
                refine sto (.slice a2 (ln + 1) c2) hs rfl rfl rfl rfl (by simp) rfl ?_
                intro w hs _
                replace hs : St w0 _ w (_ :: _ :: _ :: eB g11 true (Blk 24 [.int .i64 L.ep, .bool L.sh, .slice a2 (ln + 1) c2]) :: _) := hs
                refine WL_nil ?_
                refine hK40 _ _ ?_
                refine CW_seq (fun K42 hK42 => ?_)
                refine CW_region ?_
                refine mvp (.bool _) rfl ?_
                refine fad rfl ?_
                refine sto (.bool sh) hs rfl rfl rfl rfl (by simp) rfl ?_
                intro w hs _
                first
                  | replace hs : St w0 _ w (_ :: _ :: _ :: eB g11 true (Blk 24 (lkV L.ep sh a2 (ln + 1) c2)) :: _) := hs
                  | replace hs : St w0 _ w (_ :: _ :: eB g11 true (Blk 24 (lkV L.ep sh la ln lc)) :: _) := hs
                refine WL_nil ?_
                refine hK42 _ _ ?_
                refine CW_seq (fun K43 hK43 => ?_)
                refine CW_region ?_
                refine mvp (.pointer _) rfl ?_
                refine ldA hs rfl (by simp) ?_
                refine ldA hs rfl (by simp) ?_
                first
                  | refine cll (write_lk_ok g b r1 r2 t a m c R' C N bi ⟨L.ep, sh, L.hs.take i ++ who :: L.hs.drop i⟩ a2 (ln + 1) c2 _ (hs.he _) ho hm (hs.rd (a := a2)) (by simp; omega) (fun x hx => (mem_ins hx).elim (fun q => by rw [q]; exact hw) (hshort x)) (fun q x hx => by have := lk_short q x hx; omega) (fun w hf => (hs.rd (a := a2)).fm hf)) ?_
                  | refine cll (write_lk_ok g b r1 r2 t a m c R' C N bi ⟨L.ep, sh, L.hs⟩ la ln lc _ (hs.he _) ho hm (hs.rd (a := la)) hln hshort (fun q x hx => by have := lk_short q x hx; omega) (fun w hf => (hs.rd (a := la)).fm hf)) ?_
                rintro _ w ⟨rfl, a', m', c', C', hm', ht⟩
                replace hs := hs.turnE rfl ht
                refine asp (.int _ _) rfl ?_
                refine WL_nil ?_
                refine hK43 _ _ ?_
                refine CW_ret ?_
                repeat (first | (with_reducible apply thenF_ret) | (with_reducible apply blockF_ret))
                try simp only [thenF, blockF, reduceIte]
                refine Post_r Tryz.results27 (.tmp rfl .nil) ?_
                try simp only [ev_tmp, ev_const, upd_ap, Nat.reduceLT, Nat.reduceEqDiff, reduceIte]
                have h31 : ¬ e ≠ 0 := by simpa using hc31
                have h52 : ¬ acqE L h sh ≠ 0 := by simpa using hc52
                have h60 : ¬ (h = true ∧ L.sh = sh) := by
                  rintro ⟨q1, q2⟩
                  first
                    | (have hb : h = false := by simpa using hg55
                       rw [hb] at q1; cases q1; done)
                    | (have hb : ¬ L.sh = sh := by simpa using hc60
                       exact hb q2)
                have e3 : (acqL L i h who sh) = ⟨L.ep, sh, if h then L.hs else L.hs.take i ++ who :: L.hs.drop i⟩ := rfl
                rw [eV1, eN1, if_neg h31, if_neg h31, if_neg h52, if_neg h52, if_neg h60, if_neg h60, e3]
                first
                  | (have h62 : h = false := by simpa using hc62
                     rw [h62, if_neg (by simp)]
                     exact ⟨by trivial, R', a', m', c', C', hm', hs.ret1 rfl⟩)
                  | (have h62 : h = true := by simpa using hc62
                     rw [h62, if_pos rfl]
                     exact ⟨by trivial, R', a', m', c', C', hm', hs.ret1 rfl⟩)
              · skip
                refine CW_skip ?_
                refine hK40 _ _ ?_
                refine CW_seq (fun K44 hK44 => ?_)
                refine CW_region ?_
                refine mvp (.bool _) rfl ?_
                refine fad rfl ?_
                refine sto (.bool sh) hs rfl rfl rfl rfl (by simp) rfl ?_
                intro w hs _
                first
                  | replace hs : St w0 _ w (_ :: _ :: _ :: eB g11 true (Blk 24 (lkV L.ep sh a2 (ln + 1) c2)) :: _) := hs
                  | replace hs : St w0 _ w (_ :: _ :: eB g11 true (Blk 24 (lkV L.ep sh la ln lc)) :: _) := hs
                refine WL_nil ?_
                refine hK44 _ _ ?_
                refine CW_seq (fun K45 hK45 => ?_)
                refine CW_region ?_
                refine mvp (.pointer _) rfl ?_
                refine ldA hs rfl (by simp) ?_
                refine ldA hs rfl (by simp) ?_
                first
                  | refine cll (write_lk_ok g b r1 r2 t a m c R' C N bi ⟨L.ep, sh, L.hs.take i ++ who :: L.hs.drop i⟩ a2 (ln + 1) c2 _ (hs.he _) ho hm (hs.rd (a := a2)) (by simp; omega) (fun x hx => (mem_ins hx).elim (fun q => by rw [q]; exact hw) (hshort x)) (fun q x hx => by have := lk_short q x hx; omega) (fun w hf => (hs.rd (a := a2)).fm hf)) ?_
                  | refine cll (write_lk_ok g b r1 r2 t a m c R' C N bi ⟨L.ep, sh, L.hs⟩ la ln lc _ (hs.he _) ho hm (hs.rd (a := la)) hln hshort (fun q x hx => by have := lk_short q x hx; omega) (fun w hf => (hs.rd (a := la)).fm hf)) ?_
                rintro _ w ⟨rfl, a', m', c', C', hm', ht⟩
                replace hs := hs.turnE rfl ht
                refine asp (.int _ _) rfl ?_
                refine WL_nil ?_
                refine hK45 _ _ ?_
                refine CW_ret ?_
                repeat (first | (with_reducible apply thenF_ret) | (with_reducible apply blockF_ret))
                try simp only [thenF, blockF, reduceIte]
                refine Post_r Tryz.results27 (.tmp rfl .nil) ?_
                try simp only [ev_tmp, ev_const, upd_ap, Nat.reduceLT, Nat.reduceEqDiff, reduceIte]
                have h31 : ¬ e ≠ 0 := by simpa using hc31
                have h52 : ¬ acqE L h sh ≠ 0 := by simpa using hc52
                have h60 : ¬ (h = true ∧ L.sh = sh) := by
                  rintro ⟨q1, q2⟩
                  first
                    | (have hb : h = false := by simpa using hg55
                       rw [hb] at q1; cases q1; done)
                    | (have hb : ¬ L.sh = sh := by simpa using hc60
                       exact hb q2)
                have e3 : (acqL L i h who sh) = ⟨L.ep, sh, if h then L.hs else L.hs.take i ++ who :: L.hs.drop i⟩ := rfl
                rw [eV1, eN1, if_neg h31, if_neg h31, if_neg h52, if_neg h52, if_neg h60, if_neg h60, e3]
                first
                  | (have h62 : h = false := by simpa using hc62
                     rw [h62, if_neg (by simp)]
                     exact ⟨by trivial, R', a', m', c', C', hm', hs.ret1 rfl⟩)
                  | (have h62 : h = true := by simpa using hc62
                     rw [h62, if_pos rfl]
                     exact ⟨by trivial, R', a', m', c', C', hm', hs.ret1 rfl⟩)
          · skip
            refine WL_gn (g := 55) rfl (by decide) rfl ?_
            refine WL_gn (g := 55) rfl (by decide) rfl ?_
            refine WL_gn (g := 55) rfl (by decide) rfl ?_
            first | refine pkT rfl rfl ?_ | refine pkF rfl rfl ?_
            refine WL_nil ?_
            refine hK38 _ _ ?_
            refine CW_condF rfl rfl ?_
            refine CW_skip ?_
            refine hK37 _ _ ?_
            refine CW_seq (fun K46 hK46 => ?_)
            refine CW_seq (fun K47 hK47 => ?_)
            refine CW_region ?_
            refine ld hs rfl rfl ?_
            refine notW rfl ?_
            refine WL_nil ?_
            refine hK47 _ _ ?_
            refine CW_cond rfl (fun hc62 => ?_) (fun hc62 => ?_)
            · skip
              refine CW_region ?_
              refine fad rfl ?_
              refine ld hs rfl rfl ?_
              refine mvp (.int _ _) rfl ?_
              refine mvp (.string _) rfl ?_
              refine W_bslice hs (BS.ss rfl .nil) rfl (by simp) ?_
              intro w g67 hs hg67 hf67
              refine cll (Insert_ok la ln lc g67 L.hs who i _ (hs.he _) (hs.get InB.h) (fun q => (List.pairwise_cons.1 hs.sep).1 (eR (.slice la ln lc) 42 1 ln (sv L.hs)) InE.h g67 (by simp [eB]) q) (by omega) hln (by omega)) ?_
              rintro _ w ⟨a2, c2, rfl, ht⟩
              replace hs := hs.turnE rfl ht
              refine fad rfl ?_
              refine sto (.slice a2 (ln + 1) c2) hs rfl rfl rfl rfl (by simp) rfl ?_
              intro w hs _
              replace hs : St w0 _ w (_ :: _ :: _ :: eB g11 true (Blk 24 [.int .i64 L.ep, .bool L.sh, .slice a2 (ln + 1) c2]) :: _) := hs
              refine WL_nil ?_
              refine hK46 _ _ ?_
              refine CW_seq (fun K48 hK48 => ?_)
              refine CW_region ?_
              refine mvp (.bool _) rfl ?_
              refine fad rfl ?_
              refine sto (.bool sh) hs rfl rfl rfl rfl (by simp) rfl ?_
              intro w hs _
              first
                | replace hs : St w0 _ w (_ :: _ :: _ :: eB g11 true (Blk 24 (lkV L.ep sh a2 (ln + 1) c2)) :: _) := hs
                | replace hs : St w0 _ w (_ :: _ :: eB g11 true (Blk 24 (lkV L.ep sh la ln lc)) :: _) := hs
              refine WL_nil ?_
              refine hK48 _ _ ?_
              refine CW_seq (fun K49 hK49 => ?_)
              refine CW_region ?_
              refine mvp (.pointer _) rfl ?_
              refine ldA hs rfl (by simp) ?_
              refine ldA hs rfl (by simp) ?_
              first
                | refine cll (write_lk_ok g b r1 r2 t a m c R' C N bi ⟨L.ep, sh, L.hs.take i ++ who :: L.hs.drop i⟩ a2 (ln + 1) c2 _ (hs.he _) ho hm (hs.rd (a := a2)) (by simp; omega) (fun x hx => (mem_ins hx).elim (fun q => by rw [q]; exact hw) (hshort x)) (fun q x hx => by have := lk_short q x hx; omega) (fun w hf => (hs.rd (a := a2)).fm hf)) ?_
                | refine cll (write_lk_ok g b r1 r2 t a m c R' C N bi ⟨L.ep, sh, L.hs⟩ la ln lc _ (hs.he _) ho hm (hs.rd (a := la)) hln hshort (fun q x hx => by have := lk_short q x hx; omega) (fun w hf => (hs.rd (a := la)).fm hf)) ?_
              rintro _ w ⟨rfl, a', m', c', C', hm', ht⟩
              replace hs := hs.turnE rfl ht
              refine asp (.int _ _) rfl ?_
              refine WL_nil ?_
              refine hK49 _ _ ?_
              refine CW_ret ?_
              repeat (first | (with_reducible apply thenF_ret) | (with_reducible apply blockF_ret))
              try simp only [thenF, blockF, reduceIte]
              refine Post_r Tryz.results27 (.tmp rfl .nil) ?_
              try simp only [ev_tmp, ev_const, upd_ap, Nat.reduceLT, Nat.reduceEqDiff, reduceIte]
              have h31 : ¬ e ≠ 0 := by simpa using hc31
              have h52 : ¬ acqE L h sh ≠ 0 := by simpa using hc52
              have h60 : ¬ (h = true ∧ L.sh = sh) := by
                rintro ⟨q1, q2⟩
                first
                  | (have hb : h = false := by simpa using hg55
                     rw [hb] at q1; cases q1; done)
                  | (have hb : ¬ L.sh = sh := by simpa using hc60
                     exact hb q2)
              have e3 : (acqL L i h who sh) = ⟨L.ep, sh, if h then L.hs else L.hs.take i ++ who :: L.hs.drop i⟩ := rfl
              rw [eV1, eN1, if_neg h31, if_neg h31, if_neg h52, if_neg h52, if_neg h60, if_neg h60, e3]
              first
                | (have h62 : h = false := by simpa using hc62
                   rw [h62, if_neg (by simp)]
                   exact ⟨by trivial, R', a', m', c', C', hm', hs.ret1 rfl⟩)
                | (have h62 : h = true := by simpa using hc62
                   rw [h62, if_pos rfl]
                   exact ⟨by trivial, R', a', m', c', C', hm', hs.ret1 rfl⟩)
            · skip
              refine CW_skip ?_
              refine hK46 _ _ ?_
              refine CW_seq (fun K50 hK50 => ?_)
              refine CW_region ?_
              refine mvp (.bool _) rfl ?_
              refine fad rfl ?_
              refine sto (.bool sh) hs rfl rfl rfl rfl (by simp) rfl ?_
              intro w hs _
              first
                | replace hs : St w0 _ w (_ :: _ :: _ :: eB g11 true (Blk 24 (lkV L.ep sh a2 (ln + 1) c2)) :: _) := hs
                | replace hs : St w0 _ w (_ :: _ :: eB g11 true (Blk 24 (lkV L.ep sh la ln lc)) :: _) := hs
              refine WL_nil ?_
              refine hK50 _ _ ?_
              refine CW_seq (fun K51 hK51 => ?_)
              refine CW_region ?_
              refine mvp (.pointer _) rfl ?_
              refine ldA hs rfl (by simp) ?_
              refine ldA hs rfl (by simp) ?_
              first
                | refine cll (write_lk_ok g b r1 r2 t a m c R' C N bi ⟨L.ep, sh, L.hs.take i ++ who :: L.hs.drop i⟩ a2 (ln + 1) c2 _ (hs.he _) ho hm (hs.rd (a := a2)) (by simp; omega) (fun x hx => (mem_ins hx).elim (fun q => by rw [q]; exact hw) (hshort x)) (fun q x hx => by have := lk_short q x hx; omega) (fun w hf => (hs.rd (a := a2)).fm hf)) ?_
                | refine cll (write_lk_ok g b r1 r2 t a m c R' C N bi ⟨L.ep, sh, L.hs⟩ la ln lc _ (hs.he _) ho hm (hs.rd (a := la)) hln hshort (fun q x hx => by have := lk_short q x hx; omega) (fun w hf => (hs.rd (a := la)).fm hf)) ?_
              rintro _ w ⟨rfl, a', m', c', C', hm', ht⟩
              replace hs := hs.turnE rfl ht
              refine asp (.int _ _) rfl ?_
              refine WL_nil ?_
              refine hK51 _ _ ?_
              refine CW_ret ?_
              repeat (first | (with_reducible apply thenF_ret) | (with_reducible apply blockF_ret))
              try simp only [thenF, blockF, reduceIte]
              refine Post_r Tryz.results27 (.tmp rfl .nil) ?_
              try simp only [ev_tmp, ev_const, upd_ap, Nat.reduceLT, Nat.reduceEqDiff, reduceIte]
              have h31 : ¬ e ≠ 0 := by simpa using hc31
              have h52 : ¬ acqE L h sh ≠ 0 := by simpa using hc52
              have h60 : ¬ (h = true ∧ L.sh = sh) := by
                rintro ⟨q1, q2⟩
                first
                  | (have hb : h = false := by simpa using hg55
                     rw [hb] at q1; cases q1; done)
                  | (have hb : ¬ L.sh = sh := by simpa using hc60
                     exact hb q2)
              have e3 : (acqL L i h who sh) = ⟨L.ep, sh, if h then L.hs else L.hs.take i ++ who :: L.hs.drop i⟩ := rfl
              rw [eV1, eN1, if_neg h31, if_neg h31, if_neg h52, if_neg h52, if_neg h60, if_neg h60, e3]
              first
                | (have h62 : h = false := by simpa using hc62
                   rw [h62, if_neg (by simp)]
                   exact ⟨by trivial, R', a', m', c', C', hm', hs.ret1 rfl⟩)
                | (have h62 : h = true := by simpa using hc62
                   rw [h62, if_pos rfl]
                   exact ⟨by trivial, R', a', m', c', C', hm', hs.ret1 rfl⟩)
    · skip
      refine CW_skip ?_
      refine hK10 _ _ ?_
      refine CW_seq (fun K52 hK52 => ?_)
      refine CW_seq (fun K53 hK53 => ?_)
      refine CW_region ?_
      refine mvp (.bool _) rfl ?_
      refine WL_nil ?_
      refine hK53 _ _ ?_
      refine CW_cond rfl (fun hc44 => ?_) (fun hc44 => ?_)
      · skip
        refine CW_region ?_
        refine mvp (.int _ _) rfl ?_
        first | refine addI rfl rfl (by omega) ?_ | refine addW rfl rfl ?_
        refine asp (.int _ _) rfl ?_
        refine WL_nil ?_
        refine hK52 _ _ ?_
        refine CW_seq (fun K54 hK54 => ?_)
        refine CW_seq (fun K55 hK55 => ?_)
        refine CW_region ?_
        refine mvp (.int _ _) rfl ?_
        first
        | refine WL_v (X_idxA (i := 3) rfl rfl (by decide)) ?_
        | refine WL_v (X_idxA (i := 2) rfl rfl (by decide)) ?_
        | refine WL_v (X_idxA (i := 1) rfl rfl (by decide)) ?_
        | refine WL_v (X_idxA (i := 0) rfl rfl (by decide)) ?_
        refine ld hs rfl rfl ?_
        first
          | refine clv (fn := 84) (first := []) (cap := [.pointer (some ⟨g11, 0, none⟩), .pointer (some ⟨g13, 0, none⟩)]) rfl (Acq2_ok L la ln lc g11 g13 h sh _ hln (by omega) ⟨hc41, hc44⟩ (hs.get InB.h) (hs.get InB.h) hne13) ?_
          | refine clv (fn := 82) (first := []) (cap := [.pointer (some ⟨g11, 0, none⟩), .pointer (some ⟨g13, 0, none⟩)]) rfl (Acq1_ok L la ln lc g11 g13 h sh _ hln (by omega) (fun q => by first | (rw [q.1] at hc41; cases hc41; done) | (rw [q.2] at hc44; cases hc44; done)) (hs.get InB.h) (hs.get InB.h) hne13) ?_
        rintro _ w ⟨rfl, hf⟩
        replace hs := hs.call hf
        refine asp (.int _ _) rfl ?_
        refine WL_nil ?_
        refine hK55 _ _ ?_
        refine CW_seq (fun K56 hK56 => ?_)
        refine CW_region ?_
        refine mvp (.int _ _) rfl ?_
        refine neqW rfl rfl ?_
        refine WL_nil ?_
        refine hK56 _ _ ?_
        refine CW_cond rfl (fun hc52 => ?_) (fun hc52 => ?_)
        · skip
          refine CW_seq (fun K57 hK57 => ?_)
          refine CW_region ?_
          refine mvp (.int _ _) rfl ?_
          refine asp (.int _ _) rfl ?_
          refine WL_nil ?_
          refine hK57 _ _ ?_
          refine CW_ret ?_
          repeat (first | (with_reducible apply thenF_ret) | (with_reducible apply blockF_ret))
          try simp only [thenF, blockF, reduceIte]
          refine Post_r Tryz.results27 (.tmp rfl .nil) ?_
          try simp only [ev_tmp, ev_const, upd_ap, Nat.reduceLT, Nat.reduceEqDiff, reduceIte]
          have h31 : ¬ e ≠ 0 := by simpa using hc31
          have h52 : acqE L h sh ≠ 0 := by simpa using hc52
          rw [eV1, eN1, if_neg h31, if_neg h31, if_pos h52, if_pos h52]
          exact ⟨by trivial, R', a, m, c, C, by omega, hs.ret1 rfl⟩
        · skip
          refine CW_skip ?_
          refine hK54 _ _ ?_
          refine CW_seq (fun K58 hK58 => ?_)
          refine CW_seq (fun K59 hK59 => ?_)
          refine CW_region ?_
          refine ld hs rfl rfl ?_
          refine mvp (.bool _) rfl ?_
          refine WL_g (g := 55) rfl (by decide) rfl (fun hg55 => ?_) (fun hg55 => ?_)
          · skip
            refine fad rfl ?_
            refine WL_gy (g := 55) rfl (by decide) rfl ?_
            refine ld hs rfl rfl ?_
            refine WL_gy (g := 55) rfl (by decide) rfl ?_
            refine mvp (.bool _) rfl ?_
            refine WL_gy (g := 55) rfl (by decide) rfl ?_
            refine WL_v (X_eqB rfl rfl) ?_
            first | refine pkT rfl rfl ?_ | refine pkF rfl rfl ?_
            refine WL_nil ?_
            refine hK59 _ _ ?_
            refine CW_cond rfl (fun hc60 => ?_) (fun hc60 => ?_)
            · skip
              refine CW_seq (fun K60 hK60 => ?_)
              refine CW_region ?_
              refine asp (.int _ _) rfl ?_
              refine WL_nil ?_
              refine hK60 _ _ ?_
              refine CW_ret ?_
              repeat (first | (with_reducible apply thenF_ret) | (with_reducible apply blockF_ret))
              try simp only [thenF, blockF, reduceIte]
              refine Post_r Tryz.results27 (.tmp rfl .nil) ?_
              try simp only [ev_tmp, ev_const, upd_ap, Nat.reduceLT, Nat.reduceEqDiff, reduceIte]
              have h31 : ¬ e ≠ 0 := by simpa using hc31
              have h52 : ¬ acqE L h sh ≠ 0 := by simpa using hc52
              have h60 : h = true ∧ L.sh = sh := ⟨by simpa using hg55, by simpa using hc60⟩
              rw [eV1, eN1, if_neg h31, if_neg h31, if_neg h52, if_neg h52, if_pos h60, if_pos h60]
              exact ⟨by trivial, R', a, m, c, C, by omega, hs.ret1 rfl⟩
            · skip
              refine CW_skip ?_
              refine hK58 _ _ ?_
              refine CW_seq (fun K61 hK61 => ?_)
              refine CW_seq (fun K62 hK62 => ?_)
              refine CW_region ?_
              refine ld hs rfl rfl ?_
              refine notW rfl ?_
              refine WL_nil ?_
              refine hK62 _ _ ?_
              refine CW_cond rfl (fun hc62 => ?_) (fun hc62 => ?_)
              · skip
                refine CW_region ?_
                refine fad rfl ?_
                refine ld hs rfl rfl ?_
                refine mvp (.int _ _) rfl ?_
                refine mvp (.string _) rfl ?_
                refine W_bslice hs (BS.ss rfl .nil) rfl (by simp) ?_
                intro w g67 hs hg67 hf67
                refine cll (Insert_ok la ln lc g67 L.hs who i _ (hs.he _) (hs.get InB.h) (fun q => (List.pairwise_cons.1 hs.sep).1 (eR (.slice la ln lc) 42 1 ln (sv L.hs)) InE.h g67 (by simp [eB]) q) (by omega) hln (by omega)) ?_
                rintro _ w ⟨a2, c2, rfl, ht⟩
                replace hs := hs.turnE rfl ht
                refine fad rfl ?_
                refine sto (.slice a2 (ln + 1) c2) hs rfl rfl rfl rfl (by simp) rfl ?_
                intro w hs _
                replace hs : St w0 _ w (_ :: _ :: _ :: eB g11 true (Blk 24 [.int .i64 L.ep, .bool L.sh, .slice a2 (ln + 1) c2]) :: _) := hs
                refine WL_nil ?_
                refine hK61 _ _ ?_
                refine CW_seq (fun K63 hK63 => ?_)
                refine CW_region ?_
                refine mvp (.bool _) rfl ?_
                refine fad rfl ?_
                refine sto (.bool sh) hs rfl rfl rfl rfl (by simp) rfl ?_
                intro w hs _
                first
                  | replace hs : St w0 _ w (_ :: _ :: _ :: eB g11 true (Blk 24 (lkV L.ep sh a2 (ln + 1) c2)) :: _) := hs
                  | replace hs : St w0 _ w (_ :: _ :: eB g11 true (Blk 24 (lkV L.ep sh la ln lc)) :: _) := hs
                refine WL_nil ?_
                refine hK63 _ _ ?_
                refine CW_seq (fun K64 hK64 => ?_)
                refine CW_region ?_
                refine mvp (.pointer _) rfl ?_
                refine ldA hs rfl (by simp) ?_
                refine ldA hs rfl (by simp) ?_
                first
                  | refine cll (write_lk_ok g b r1 r2 t a m c R' C N bi ⟨L.ep, sh, L.hs.take i ++ who :: L.hs.drop i⟩ a2 (ln + 1) c2 _ (hs.he _) ho hm (hs.rd (a := a2)) (by simp; omega) (fun x hx => (mem_ins hx).elim (fun q => by rw [q]; exact hw) (hshort x)) (fun q x hx => by have := lk_short q x hx; omega) (fun w hf => (hs.rd (a := a2)).fm hf)) ?_
                  | refine cll (write_lk_ok g b r1 r2 t a m c R' C N bi ⟨L.ep, sh, L.hs⟩ la ln lc _ (hs.he _) ho hm (hs.rd (a := la)) hln hshort (fun q x hx => by have := lk_short q x hx; omega) (fun w hf => (hs.rd (a := la)).fm hf)) ?_
                rintro _ w ⟨rfl, a', m', c', C', hm', ht⟩
                replace hs := hs.turnE rfl ht
                refine asp (.int _ _) rfl ?_
                refine WL_nil ?_
                refine hK64 _ _ ?_
                refine CW_ret ?_
                repeat (first | (with_reducible apply thenF_ret) | (with_reducible apply blockF_ret))
                try simp only [thenF, blockF, reduceIte]
                refine Post_r Tryz.results27 (.tmp rfl .nil) ?_
                try simp only [ev_tmp, ev_const, upd_ap, Nat.reduceLT, Nat.reduceEqDiff, reduceIte]
                have h31 : ¬ e ≠ 0 := by simpa using hc31
                have h52 : ¬ acqE L h sh ≠ 0 := by simpa using hc52
                have h60 : ¬ (h = true ∧ L.sh = sh) := by
                  rintro ⟨q1, q2⟩
                  first
                    | (have hb : h = false := by simpa using hg55
                       rw [hb] at q1; cases q1; done)
                    | (have hb : ¬ L.sh = sh := by simpa using hc60
                       exact hb q2)
                have e3 : (acqL L i h who sh) = ⟨L.ep, sh, if h then L.hs else L.hs.take i ++ who :: L.hs.drop i⟩ := rfl
                rw [eV1, eN1, if_neg h31, if_neg h31, if_neg h52, if_neg h52, if_neg h60, if_neg h60, e3]
                first
                  | (have h62 : h = false := by simpa using hc62
                     rw [h62, if_neg (by simp)]
                     exact ⟨by trivial, R', a', m', c', C', hm', hs.ret1 rfl⟩)
                  | (have h62 : h = true := by simpa using hc62
                     rw [h62, if_pos rfl]
                     exact ⟨by trivial, R', a', m', c', C', hm', hs.ret1 rfl⟩)
              · skip
                refine CW_skip ?_
                refine hK61 _ _ ?_
                refine CW_seq (fun K65 hK65 => ?_)
                refine CW_region ?_
                refine mvp (.bool _) rfl ?_
                refine fad rfl ?_
                refine sto (.bool sh) hs rfl rfl rfl rfl (by simp) rfl ?_
                intro w hs _
                first
                  | replace hs : St w0 _ w (_ :: _ :: _ :: eB g11 true (Blk 24 (lkV L.ep sh a2 (ln + 1) c2)) :: _) := hs
                  | replace hs : St w0 _ w (_ :: _ :: eB g11 true (Blk 24 (lkV L.ep sh la ln lc)) :: _) := hs
                refine WL_nil ?_
                refine hK65 _ _ ?_
                refine CW_seq (fun K66 hK66 => ?_)
                refine CW_region ?_
                refine mvp (.pointer _) rfl ?_
                refine ldA hs rfl (by simp) ?_
                refine ldA hs rfl (by simp) ?_
                first
                  | refine cll (write_lk_ok g b r1 r2 t a m c R' C N bi ⟨L.ep, sh, L.hs.take i ++ who :: L.hs.drop i⟩ a2 (ln + 1) c2 _ (hs.he _) ho hm (hs.rd (a := a2)) (by simp; omega) (fun x hx => (mem_ins hx).elim (fun q => by rw [q]; exact hw) (hshort x)) (fun q x hx => by have := lk_short q x hx; omega) (fun w hf => (hs.rd (a := a2)).fm hf)) ?_
                  | refine cll (write_lk_ok g b r1 r2 t a m c R' C N bi ⟨L.ep, sh, L.hs⟩ la ln lc _ (hs.he _) ho hm (hs.rd (a := la)) hln hshort (fun q x hx => by have := lk_short q x hx; omega) (fun w hf => (hs.rd (a := la)).fm hf)) ?_
                rintro _ w ⟨rfl, a', m', c', C', hm', ht⟩
                replace hs := hs.turnE rfl ht
                refine asp (.int _ _) rfl ?_
                refine WL_nil ?_
                refine hK66 _ _ ?_
                refine CW_ret ?_
                repeat (first | (with_reducible apply thenF_ret) | (with_reducible apply blockF_ret))
                try simp only [thenF, blockF, reduceIte]
                refine Post_r Tryz.results27 (.tmp rfl .nil) ?_
                try simp only [ev_tmp, ev_const, upd_ap, Nat.reduceLT, Nat.reduceEqDiff, reduceIte]
                have h31 : ¬ e ≠ 0 := by simpa using hc31
                have h52 : ¬ acqE L h sh ≠ 0 := by simpa using hc52
                have h60 : ¬ (h = true ∧ L.sh = sh) := by
                  rintro ⟨q1, q2⟩
                  first
                    | (have hb : h = false := by simpa using hg55
                       rw [hb] at q1; cases q1; done)
                    | (have hb : ¬ L.sh = sh := by simpa using hc60
                       exact hb q2)
                have e3 : (acqL L i h who sh) = ⟨L.ep, sh, if h then L.hs else L.hs.take i ++ who :: L.hs.drop i⟩ := rfl
                rw [eV1, eN1, if_neg h31, if_neg h31, if_neg h52, if_neg h52, if_neg h60, if_neg h60, e3]
                first
                  | (have h62 : h = false := by simpa using hc62
                     rw [h62, if_neg (by simp)]
                     exact ⟨by trivial, R', a', m', c', C', hm', hs.ret1 rfl⟩)
                  | (have h62 : h = true := by simpa using hc62
                     rw [h62, if_pos rfl]
                     exact ⟨by trivial, R', a', m', c', C', hm', hs.ret1 rfl⟩)
          · skip
            refine WL_gn (g := 55) rfl (by decide) rfl ?_
            refine WL_gn (g := 55) rfl (by decide) rfl ?_
            refine WL_gn (g := 55) rfl (by decide) rfl ?_
            first | refine pkT rfl rfl ?_ | refine pkF rfl rfl ?_
            refine WL_nil ?_
            refine hK59 _ _ ?_
            refine CW_condF rfl rfl ?_
            refine CW_skip ?_
            refine hK58 _ _ ?_
            refine CW_seq (fun K67 hK67 => ?_)
            refine CW_seq (fun K68 hK68 => ?_)
            refine CW_region ?_
            refine ld hs rfl rfl ?_
            refine notW rfl ?_
            refine WL_nil ?_
            refine hK68 _ _ ?_
            refine CW_cond rfl (fun hc62 => ?_) (fun hc62 => ?_)
            · skip
              refine CW_region ?_
              refine fad rfl ?_
              refine ld hs rfl rfl ?_
              refine mvp (.int _ _) rfl ?_
              refine mvp (.string _) rfl ?_
              refine W_bslice hs (BS.ss rfl .nil) rfl (by simp) ?_
              intro w g67 hs hg67 hf67
              refine cll (Insert_ok la ln lc g67 L.hs who i _ (hs.he _) (hs.get InB.h) (fun q => (List.pairwise_cons.1 hs.sep).1 (eR (.slice la ln lc) 42 1 ln (sv L.hs)) InE.h g67 (by simp [eB]) q) (by omega) hln (by omega)) ?_
              rintro _ w ⟨a2, c2, rfl, ht⟩
              replace hs := hs.turnE rfl ht
              refine fad rfl ?_
              refine sto (.slice a2 (ln + 1) c2) hs rfl rfl rfl rfl (by simp) rfl ?_
              intro w hs _
              replace hs : St w0 _ w (_ :: _ :: _ :: eB g11 true (Blk 24 [.int .i64 L.ep, .bool L.sh, .slice a2 (ln + 1) c2]) :: _) := hs
              refine WL_nil ?_
              refine hK67 _ _ ?_
              refine CW_seq (fun K69 hK69 => ?_)
              refine CW_region ?_
              refine mvp (.bool _) rfl ?_
              refine fad rfl ?_
              refine sto (.bool sh) hs rfl rfl rfl rfl (by simp) rfl ?_
              intro w hs _
              first
                | replace hs : St w0 _ w (_ :: _ :: _ :: eB g11 true (Blk 24 (lkV L.ep sh a2 (ln + 1) c2)) :: _) := hs
                | replace hs : St w0 _ w (_ :: _ :: eB g11 true (Blk 24 (lkV L.ep sh la ln lc)) :: _) := hs
              refine WL_nil ?_
              refine hK69 _ _ ?_
              refine CW_seq (fun K70 hK70 => ?_)
              refine CW_region ?_
              refine mvp (.pointer _) rfl ?_
              refine ldA hs rfl (by simp) ?_
              refine ldA hs rfl (by simp) ?_
              first
                | refine cll (write_lk_ok g b r1 r2 t a m c R' C N bi ⟨L.ep, sh, L.hs.take i ++ who :: L.hs.drop i⟩ a2 (ln + 1) c2 _ (hs.he _) ho hm (hs.rd (a := a2)) (by simp; omega) (fun x hx => (mem_ins hx).elim (fun q => by rw [q]; exact hw) (hshort x)) (fun q x hx => by have := lk_short q x hx; omega) (fun w hf => (hs.rd (a := a2)).fm hf)) ?_
                | refine cll (write_lk_ok g b r1 r2 t a m c R' C N bi ⟨L.ep, sh, L.hs⟩ la ln lc _ (hs.he _) ho hm (hs.rd (a := la)) hln hshort (fun q x hx => by have := lk_short q x hx; omega) (fun w hf => (hs.rd (a := la)).fm hf)) ?_
              rintro _ w ⟨rfl, a', m', c', C', hm', ht⟩
              replace hs := hs.turnE rfl ht
              refine asp (.int _ _) rfl ?_
              refine WL_nil ?_
              refine hK70 _ _ ?_
              refine CW_ret ?_
              repeat (first | (with_reducible apply thenF_ret) | (with_reducible apply blockF_ret))
              try simp only [thenF, blockF, reduceIte]
              refine Post_r Tryz.results27 (.tmp rfl .nil) ?_
              try simp only [ev_tmp, ev_const, upd_ap, Nat.reduceLT, Nat.reduceEqDiff, reduceIte]
              have h31 : ¬ e ≠ 0 := by simpa using hc31
              have h52 : ¬ acqE L h sh ≠ 0 := by simpa using hc52
              have h60 : ¬ (h = true ∧ L.sh = sh) := by
                rintro ⟨q1, q2⟩
                first
                  | (have hb : h = false := by simpa using hg55
                     rw [hb] at q1; cases q1; done)
                  | (have hb : ¬ L.sh = sh := by simpa using hc60
                     exact hb q2)
              have e3 : (acqL L i h who sh) = ⟨L.ep, sh, if h then L.hs else L.hs.take i ++ who :: L.hs.drop i⟩ := rfl
              rw [eV1, eN1, if_neg h31, if_neg h31, if_neg h52, if_neg h52, if_neg h60, if_neg h60, e3]
              first
                | (have h62 : h = false := by simpa using hc62
                   rw [h62, if_neg (by simp)]
                   exact ⟨by trivial, R', a', m', c', C', hm', hs.ret1 rfl⟩)
                | (have h62 : h = true := by simpa using hc62
                   rw [h62, if_pos rfl]
                   exact ⟨by trivial, R', a', m', c', C', hm', hs.ret1 rfl⟩)
            · skip
              refine CW_skip ?_
              refine hK67 _ _ ?_
              refine CW_seq (fun K71 hK71 => ?_)
              refine CW_region ?_
              refine mvp (.bool _) rfl ?_
              refine fad rfl ?_
              refine sto (.bool sh) hs rfl rfl rfl rfl (by simp) rfl ?_
              intro w hs _
              first
                | replace hs : St w0 _ w (_ :: _ :: _ :: eB g11 true (Blk 24 (lkV L.ep sh a2 (ln + 1) c2)) :: _) := hs
                | replace hs : St w0 _ w (_ :: _ :: eB g11 true (Blk 24 (lkV L.ep sh la ln lc)) :: _) := hs
              refine WL_nil ?_
              refine hK71 _ _ ?_
              refine CW_seq (fun K72 hK72 => ?_)
              refine CW_region ?_
              refine mvp (.pointer _) rfl ?_
              refine ldA hs rfl (by simp) ?_
              refine ldA hs rfl (by simp) ?_
              first
                | refine cll (write_lk_ok g b r1 r2 t a m c R' C N bi ⟨L.ep, sh, L.hs.take i ++ who :: L.hs.drop i⟩ a2 (ln + 1) c2 _ (hs.he _) ho hm (hs.rd (a := a2)) (by simp; omega) (fun x hx => (mem_ins hx).elim (fun q => by rw [q]; exact hw) (hshort x)) (fun q x hx => by have := lk_short q x hx; omega) (fun w hf => (hs.rd (a := a2)).fm hf)) ?_
                | refine cll (write_lk_ok g b r1 r2 t a m c R' C N bi ⟨L.ep, sh, L.hs⟩ la ln lc _ (hs.he _) ho hm (hs.rd (a := la)) hln hshort (fun q x hx => by have := lk_short q x hx; omega) (fun w hf => (hs.rd (a := la)).fm hf)) ?_
              rintro _ w ⟨rfl, a', m', c', C', hm', ht⟩
              replace hs := hs.turnE rfl ht
              refine asp (.int _ _) rfl ?_
              refine WL_nil ?_
              refine hK72 _ _ ?_
              refine CW_ret ?_
              repeat (first | (with_reducible apply thenF_ret) | (with_reducible apply blockF_ret))
              try simp only [thenF, blockF, reduceIte]
              refine Post_r Tryz.results27 (.tmp rfl .nil) ?_
              try simp only [ev_tmp, ev_const, upd_ap, Nat.reduceLT, Nat.reduceEqDiff, reduceIte]
              have h31 : ¬ e ≠ 0 := by simpa using hc31
              have h52 : ¬ acqE L h sh ≠ 0 := by simpa using hc52
              have h60 : ¬ (h = true ∧ L.sh = sh) := by
                rintro ⟨q1, q2⟩
                first
                  | (have hb : h = false := by simpa using hg55
                     rw [hb] at q1; cases q1; done)
                  | (have hb : ¬ L.sh = sh := by simpa using hc60
                     exact hb q2)
              have e3 : (acqL L i h who sh) = ⟨L.ep, sh, if h then L.hs else L.hs.take i ++ who :: L.hs.drop i⟩ := rfl
              rw [eV1, eN1, if_neg h31, if_neg h31, if_neg h52, if_neg h52, if_neg h60, if_neg h60, e3]
              first
                | (have h62 : h = false := by simpa using hc62
                   rw [h62, if_neg (by simp)]
                   exact ⟨by trivial, R', a', m', c', C', hm', hs.ret1 rfl⟩)
                | (have h62 : h = true := by simpa using hc62
                   rw [h62, if_pos rfl]
                   exact ⟨by trivial, R', a', m', c', C', hm', hs.ret1 rfl⟩)
      · skip
        refine CW_skip ?_
        refine hK52 _ _ ?_
        refine CW_seq (fun K73 hK73 => ?_)
        refine CW_seq (fun K74 hK74 => ?_)
        refine CW_region ?_
        refine mvp (.int _ _) rfl ?_
        first
        | refine WL_v (X_idxA (i := 3) rfl rfl (by decide)) ?_
        | refine WL_v (X_idxA (i := 2) rfl rfl (by decide)) ?_
        | refine WL_v (X_idxA (i := 1) rfl rfl (by decide)) ?_
        | refine WL_v (X_idxA (i := 0) rfl rfl (by decide)) ?_
        refine ld hs rfl rfl ?_
        first
          | refine clv (fn := 84) (first := []) (cap := [.pointer (some ⟨g11, 0, none⟩), .pointer (some ⟨g13, 0, none⟩)]) rfl (Acq2_ok L la ln lc g11 g13 h sh _ hln (by omega) ⟨hc41, hc44⟩ (hs.get InB.h) (hs.get InB.h) hne13) ?_
          | refine clv (fn := 82) (first := []) (cap := [.pointer (some ⟨g11, 0, none⟩), .pointer (some ⟨g13, 0, none⟩)]) rfl (Acq1_ok L la ln lc g11 g13 h sh _ hln (by omega) (fun q => by first | (rw [q.1] at hc41; cases hc41; done) | (rw [q.2] at hc44; cases hc44; done)) (hs.get InB.h) (hs.get InB.h) hne13) ?_
        rintro _ w ⟨rfl, hf⟩
        replace hs := hs.call hf
        refine asp (.int _ _) rfl ?_
        refine WL_nil ?_
        refine hK74 _ _ ?_
        refine CW_seq (fun K75 hK75 => ?_)
        refine CW_region ?_
        refine mvp (.int _ _) rfl ?_
        refine neqW rfl rfl ?_
        refine WL_nil ?_
        refine hK75 _ _ ?_
        refine CW_cond rfl (fun hc52 => ?_) (fun hc52 => ?_)
        · skip
          refine CW_seq (fun K76 hK76 => ?_)
          refine CW_region ?_
          refine mvp (.int _ _) rfl ?_
          refine asp (.int _ _) rfl ?_
          refine WL_nil ?_
          refine hK76 _ _ ?_
          refine CW_ret ?_
          repeat (first | (with_reducible apply thenF_ret) | (with_reducible apply blockF_ret))
          try simp only [thenF, blockF, reduceIte]
          refine Post_r Tryz.results27 (.tmp rfl .nil) ?_
          try simp only [ev_tmp, ev_const, upd_ap, Nat.reduceLT, Nat.reduceEqDiff, reduceIte]
          have h31 : ¬ e ≠ 0 := by simpa using hc31
          have h52 : acqE L h sh ≠ 0 := by simpa using hc52
          rw [eV1, eN1, if_neg h31, if_neg h31, if_pos h52, if_pos h52]
          exact ⟨by trivial, R', a, m, c, C, by omega, hs.ret1 rfl⟩
        · skip
          refine CW_skip ?_
          refine hK73 _ _ ?_
          refine CW_seq (fun K77 hK77 => ?_)
          refine CW_seq (fun K78 hK78 => ?_)
          refine CW_region ?_
          refine ld hs rfl rfl ?_
          refine mvp (.bool _) rfl ?_
          refine WL_g (g := 55) rfl (by decide) rfl (fun hg55 => ?_) (fun hg55 => ?_)
          · skip
            refine fad rfl ?_
            refine WL_gy (g := 55) rfl (by decide) rfl ?_
            refine ld hs rfl rfl ?_
            refine WL_gy (g := 55) rfl (by decide) rfl ?_
            refine mvp (.bool _) rfl ?_
            refine WL_gy (g := 55) rfl (by decide) rfl ?_
            refine WL_v (X_eqB rfl rfl) ?_
            first | refine pkT rfl rfl ?_ | refine pkF rfl rfl ?_
            refine WL_nil ?_
            refine hK78 _ _ ?_
            refine CW_cond rfl (fun hc60 => ?_) (fun hc60 => ?_)
            · skip
              refine CW_seq (fun K79 hK79 => ?_)
              refine CW_region ?_
              refine asp (.int _ _) rfl ?_
              refine WL_nil ?_
              refine hK79 _ _ ?_
              refine CW_ret ?_
              repeat (first | (with_reducible apply thenF_ret) | (with_reducible apply blockF_ret))
              try simp only [thenF, blockF, reduceIte]
              refine Post_r Tryz.results27 (.tmp rfl .nil) ?_
              try simp only [ev_tmp, ev_const, upd_ap, Nat.reduceLT, Nat.reduceEqDiff, reduceIte]
              have h31 : ¬ e ≠ 0 := by simpa using hc31
              have h52 : ¬ acqE L h sh ≠ 0 := by simpa using hc52
              have h60 : h = true ∧ L.sh = sh := ⟨by simpa using hg55, by simpa using hc60⟩
              rw [eV1, eN1, if_neg h31, if_neg h31, if_neg h52, if_neg h52, if_pos h60, if_pos h60]
              exact ⟨by trivial, R', a, m, c, C, by omega, hs.ret1 rfl⟩
            · skip
              refine CW_skip ?_
              refine hK77 _ _ ?_
              refine CW_seq (fun K80 hK80 => ?_)
              refine CW_seq (fun K81 hK81 => ?_)
              refine CW_region ?_
              refine ld hs rfl rfl ?_
              refine notW rfl ?_
              refine WL_nil ?_
              refine hK81 _ _ ?_
              refine CW_cond rfl (fun hc62 => ?_) (fun hc62 => ?_)
              · skip
                refine CW_region ?_
                refine fad rfl ?_
                refine ld hs rfl rfl ?_
                refine mvp (.int _ _) rfl ?_
                refine mvp (.string _) rfl ?_
                refine W_bslice hs (BS.ss rfl .nil) rfl (by simp) ?_
                intro w g67 hs hg67 hf67
                refine cll (Insert_ok la ln lc g67 L.hs who i _ (hs.he _) (hs.get InB.h) (fun q => (List.pairwise_cons.1 hs.sep).1 (eR (.slice la ln lc) 42 1 ln (sv L.hs)) InE.h g67 (by simp [eB]) q) (by omega) hln (by omega)) ?_
                rintro _ w ⟨a2, c2, rfl, ht⟩
                replace hs := hs.turnE rfl ht
                refine fad rfl ?_
                refine sto (.slice a2 (ln + 1) c2) hs rfl rfl rfl rfl (by simp) rfl ?_
                intro w hs _
                replace hs : St w0 _ w (_ :: _ :: _ :: eB g11 true (Blk 24 [.int .i64 L.ep, .bool L.sh, .slice a2 (ln + 1) c2]) :: _) := hs
                refine WL_nil ?_
                refine hK80 _ _ ?_
                refine CW_seq (fun K82 hK82 => ?_)
                refine CW_region ?_
                refine mvp (.bool _) rfl ?_
                refine fad rfl ?_
                refine sto (.bool sh) hs rfl rfl rfl rfl (by simp) rfl ?_
                intro w hs _
                first
                  | replace hs : St w0 _ w (_ :: _ :: _ :: eB g11 true (Blk 24 (lkV L.ep sh a2 (ln + 1) c2)) :: _) := hs
                  | replace hs : St w0 _ w (_ :: _ :: eB g11 true (Blk 24 (lkV L.ep sh la ln lc)) :: _) := hs
                refine WL_nil ?_
                refine hK82 _ _ ?_
                refine CW_seq (fun K83 hK83 => ?_)
                refine CW_region ?_
                refine mvp (.pointer _) rfl ?_
                refine ldA hs rfl (by simp) ?_
                refine ldA hs rfl (by simp) ?_
                first
                  | refine cll (write_lk_ok g b r1 r2 t a m c R' C N bi ⟨L.ep, sh, L.hs.take i ++ who :: L.hs.drop i⟩ a2 (ln + 1) c2 _ (hs.he _) ho hm (hs.rd (a := a2)) (by simp; omega) (fun x hx => (mem_ins hx).elim (fun q => by rw [q]; exact hw) (hshort x)) (fun q x hx => by have := lk_short q x hx; omega) (fun w hf => (hs.rd (a := a2)).fm hf)) ?_
                  | refine cll (write_lk_ok g b r1 r2 t a m c R' C N bi ⟨L.ep, sh, L.hs⟩ la ln lc _ (hs.he _) ho hm (hs.rd (a := la)) hln hshort (fun q x hx => by have := lk_short q x hx; omega) (fun w hf => (hs.rd (a := la)).fm hf)) ?_
                rintro _ w ⟨rfl, a', m', c', C', hm', ht⟩
                replace hs := hs.turnE rfl ht
                refine asp (.int _ _) rfl ?_
                refine WL_nil ?_
                refine hK83 _ _ ?_
                refine CW_ret ?_
                repeat (first | (with_reducible apply thenF_ret) | (with_reducible apply blockF_ret))
                try simp only [thenF, blockF, reduceIte]
                refine Post_r Tryz.results27 (.tmp rfl .nil) ?_
                try simp only [ev_tmp, ev_const, upd_ap, Nat.reduceLT, Nat.reduceEqDiff, reduceIte]
                have h31 : ¬ e ≠ 0 := by simpa using hc31
                have h52 : ¬ acqE L h sh ≠ 0 := by simpa using hc52
                have h60 : ¬ (h = true ∧ L.sh = sh) := by
                  rintro ⟨q1, q2⟩
                  first
                    | (have hb : h = false := by simpa using hg55
                       rw [hb] at q1; cases q1; done)
                    | (have hb : ¬ L.sh = sh := by simpa using hc60
                       exact hb q2)
                have e3 : (acqL L i h who sh) = ⟨L.ep, sh, if h then L.hs else L.hs.take i ++ who :: L.hs.drop i⟩ := rfl
                rw [eV1, eN1, if_neg h31, if_neg h31, if_neg h52, if_neg h52, if_neg h60, if_neg h60, e3]
                first
                  | (have h62 : h = false := by simpa using hc62
                     rw [h62, if_neg (by simp)]
                     exact ⟨by trivial, R', a', m', c', C', hm', hs.ret1 rfl⟩)
                  | (have h62 : h = true := by simpa using hc62
                     rw [h62, if_pos rfl]
                     exact ⟨by trivial, R', a', m', c', C', hm', hs.ret1 rfl⟩)
              · skip
                refine CW_skip ?_
                refine hK80 _ _ ?_
                refine CW_seq (fun K84 hK84 => ?_)
                refine CW_region ?_
                refine mvp (.bool _) rfl ?_
                refine fad rfl ?_
                refine sto (.bool sh) hs rfl rfl rfl rfl (by simp) rfl ?_
                intro w hs _
                first
                  | replace hs : St w0 _ w (_ :: _ :: _ :: eB g11 true (Blk 24 (lkV L.ep sh a2 (ln + 1) c2)) :: _) := hs
                  | replace hs : St w0 _ w (_ :: _ :: eB g11 true (Blk 24 (lkV L.ep sh la ln lc)) :: _) := hs
                refine WL_nil ?_
                refine hK84 _ _ ?_
                refine CW_seq (fun K85 hK85 => ?_)
                refine CW_region ?_
                refine mvp (.pointer _) rfl ?_
                refine ldA hs rfl (by simp) ?_
                refine ldA hs rfl (by simp) ?_
                first
                  | refine cll (write_lk_ok g b r1 r2 t a m c R' C N bi ⟨L.ep, sh, L.hs.take i ++ who :: L.hs.drop i⟩ a2 (ln + 1) c2 _ (hs.he _) ho hm (hs.rd (a := a2)) (by simp; omega) (fun x hx => (mem_ins hx).elim (fun q => by rw [q]; exact hw) (hshort x)) (fun q x hx => by have := lk_short q x hx; omega) (fun w hf => (hs.rd (a := a2)).fm hf)) ?_
                  | refine cll (write_lk_ok g b r1 r2 t a m c R' C N bi ⟨L.ep, sh, L.hs⟩ la ln lc _ (hs.he _) ho hm (hs.rd (a := la)) hln hshort (fun q x hx => by have := lk_short q x hx; omega) (fun w hf => (hs.rd (a := la)).fm hf)) ?_
                rintro _ w ⟨rfl, a', m', c', C', hm', ht⟩
                replace hs := hs.turnE rfl ht
                refine asp (.int _ _) rfl ?_
                refine WL_nil ?_
                refine hK85 _ _ ?_
                refine CW_ret ?_
                repeat (first | (with_reducible apply thenF_ret) | (with_reducible apply blockF_ret))
                try simp only [thenF, blockF, reduceIte]
                refine Post_r Tryz.results27 (.tmp rfl .nil) ?_
                try simp only [ev_tmp, ev_const, upd_ap, Nat.reduceLT, Nat.reduceEqDiff, reduceIte]
                have h31 : ¬ e ≠ 0 := by simpa using hc31
                have h52 : ¬ acqE L h sh ≠ 0 := by simpa using hc52
                have h60 : ¬ (h = true ∧ L.sh = sh) := by
                  rintro ⟨q1, q2⟩
                  first
                    | (have hb : h = false := by simpa using hg55
                       rw [hb] at q1; cases q1; done)
                    | (have hb : ¬ L.sh = sh := by simpa using hc60
                       exact hb q2)
                have e3 : (acqL L i h who sh) = ⟨L.ep, sh, if h then L.hs else L.hs.take i ++ who :: L.hs.drop i⟩ := rfl
                rw [eV1, eN1, if_neg h31, if_neg h31, if_neg h52, if_neg h52, if_neg h60, if_neg h60, e3]
                first
                  | (have h62 : h = false := by simpa using hc62
                     rw [h62, if_neg (by simp)]
                     exact ⟨by trivial, R', a', m', c', C', hm', hs.ret1 rfl⟩)
                  | (have h62 : h = true := by simpa using hc62
                     rw [h62, if_pos rfl]
                     exact ⟨by trivial, R', a', m', c', C', hm', hs.ret1 rfl⟩)
          · skip
            refine WL_gn (g := 55) rfl (by decide) rfl ?_
            refine WL_gn (g := 55) rfl (by decide) rfl ?_
            refine WL_gn (g := 55) rfl (by decide) rfl ?_
            first | refine pkT rfl rfl ?_ | refine pkF rfl rfl ?_
            refine WL_nil ?_
            refine hK78 _ _ ?_
            refine CW_condF rfl rfl ?_
            refine CW_skip ?_
            refine hK77 _ _ ?_
            refine CW_seq (fun K86 hK86 => ?_)
            refine CW_seq (fun K87 hK87 => ?_)
            refine CW_region ?_
            refine ld hs rfl rfl ?_
            refine notW rfl ?_
            refine WL_nil ?_
            refine hK87 _ _ ?_
            refine CW_cond rfl (fun hc62 => ?_) (fun hc62 => ?_)
            · skip
              refine CW_region ?_
              refine fad rfl ?_
              refine ld hs rfl rfl ?_
              refine mvp (.int _ _) rfl ?_
              refine mvp (.string _) rfl ?_
              refine W_bslice hs (BS.ss rfl .nil) rfl (by simp) ?_
              intro w g67 hs hg67 hf67
              refine cll (Insert_ok la ln lc g67 L.hs who i _ (hs.he _) (hs.get InB.h) (fun q => (List.pairwise_cons.1 hs.sep).1 (eR (.slice la ln lc) 42 1 ln (sv L.hs)) InE.h g67 (by simp [eB]) q) (by omega) hln (by omega)) ?_
              rintro _ w ⟨a2, c2, rfl, ht⟩
              replace hs := hs.turnE rfl ht
              refine fad rfl ?_
              refine sto (.slice a2 (ln + 1) c2) hs rfl rfl rfl rfl (by simp) rfl ?_
              intro w hs _
              replace hs : St w0 _ w (_ :: _ :: _ :: eB g11 true (Blk 24 [.int .i64 L.ep, .bool L.sh, .slice a2 (ln + 1) c2]) :: _) := hs
              refine WL_nil ?_
              refine hK86 _ _ ?_
              refine CW_seq (fun K88 hK88 => ?_)
              refine CW_region ?_
              refine mvp (.bool _) rfl ?_
              refine fad rfl ?_
              refine sto (.bool sh) hs rfl rfl rfl rfl (by simp) rfl ?_
              intro w hs _
              first
                | replace hs : St w0 _ w (_ :: _ :: _ :: eB g11 true (Blk 24 (lkV L.ep sh a2 (ln + 1) c2)) :: _) := hs
                | replace hs : St w0 _ w (_ :: _ :: eB g11 true (Blk 24 (lkV L.ep sh la ln lc)) :: _) := hs
              refine WL_nil ?_
              refine hK88 _ _ ?_
              refine CW_seq (fun K89 hK89 => ?_)
              refine CW_region ?_
              refine mvp (.pointer _) rfl ?_
              refine ldA hs rfl (by simp) ?_
              refine ldA hs rfl (by simp) ?_
              first
                | refine cll (write_lk_ok g b r1 r2 t a m c R' C N bi ⟨L.ep, sh, L.hs.take i ++ who :: L.hs.drop i⟩ a2 (ln + 1) c2 _ (hs.he _) ho hm (hs.rd (a := a2)) (by simp; omega) (fun x hx => (mem_ins hx).elim (fun q => by rw [q]; exact hw) (hshort x)) (fun q x hx => by have := lk_short q x hx; omega) (fun w hf => (hs.rd (a := a2)).fm hf)) ?_
                | refine cll (write_lk_ok g b r1 r2 t a m c R' C N bi ⟨L.ep, sh, L.hs⟩ la ln lc _ (hs.he _) ho hm (hs.rd (a := la)) hln hshort (fun q x hx => by have := lk_short q x hx; omega) (fun w hf => (hs.rd (a := la)).fm hf)) ?_
              rintro _ w ⟨rfl, a', m', c', C', hm', ht⟩
              replace hs := hs.turnE rfl ht
              refine asp (.int _ _) rfl ?_
              refine WL_nil ?_
              refine hK89 _ _ ?_
              refine CW_ret ?_
              repeat (first | (with_reducible apply thenF_ret) | (with_reducible apply blockF_ret))
              try simp only [thenF, blockF, reduceIte]
              refine Post_r Tryz.results27 (.tmp rfl .nil) ?_
              try simp only [ev_tmp, ev_const, upd_ap, Nat.reduceLT, Nat.reduceEqDiff, reduceIte]
              have h31 : ¬ e ≠ 0 := by simpa using hc31
              have h52 : ¬ acqE L h sh ≠ 0 := by simpa using hc52
              have h60 : ¬ (h = true ∧ L.sh = sh) := by
                rintro ⟨q1, q2⟩
                first
                  | (have hb : h = false := by simpa using hg55
                     rw [hb] at q1; cases q1; done)
                  | (have hb : ¬ L.sh = sh := by simpa using hc60
                     exact hb q2)
              have e3 : (acqL L i h who sh) = ⟨L.ep, sh, if h then L.hs else L.hs.take i ++ who :: L.hs.drop i⟩ := rfl
              rw [eV1, eN1, if_neg h31, if_neg h31, if_neg h52, if_neg h52, if_neg h60, if_neg h60, e3]
              first
                | (have h62 : h = false := by simpa using hc62
                   rw [h62, if_neg (by simp)]
                   exact ⟨by trivial, R', a', m', c', C', hm', hs.ret1 rfl⟩)
                | (have h62 : h = true := by simpa using hc62
                   rw [h62, if_pos rfl]
                   exact ⟨by trivial, R', a', m', c', C', hm', hs.ret1 rfl⟩)
            · skip
              refine CW_skip ?_
              refine hK86 _ _ ?_
              refine CW_seq (fun K90 hK90 => ?_)
              refine CW_region ?_
              refine mvp (.bool _) rfl ?_
              refine fad rfl ?_
              refine sto (.bool sh) hs rfl rfl rfl rfl (by simp) rfl ?_
              intro w hs _
              first
                | replace hs : St w0 _ w (_ :: _ :: _ :: eB g11 true (Blk 24 (lkV L.ep sh a2 (ln + 1) c2)) :: _) := hs
                | replace hs : St w0 _ w (_ :: _ :: eB g11 true (Blk 24 (lkV L.ep sh la ln lc)) :: _) := hs
              refine WL_nil ?_
              refine hK90 _ _ ?_
              refine CW_seq (fun K91 hK91 => ?_)
              refine CW_region ?_
              refine mvp (.pointer _) rfl ?_
              refine ldA hs rfl (by simp) ?_
              refine ldA hs rfl (by simp) ?_
              first
                | refine cll (write_lk_ok g b r1 r2 t a m c R' C N bi ⟨L.ep, sh, L.hs.take i ++ who :: L.hs.drop i⟩ a2 (ln + 1) c2 _ (hs.he _) ho hm (hs.rd (a := a2)) (by simp; omega) (fun x hx => (mem_ins hx).elim (fun q => by rw [q]; exact hw) (hshort x)) (fun q x hx => by have := lk_short q x hx; omega) (fun w hf => (hs.rd (a := a2)).fm hf)) ?_
                | refine cll (write_lk_ok g b r1 r2 t a m c R' C N bi ⟨L.ep, sh, L.hs⟩ la ln lc _ (hs.he _) ho hm (hs.rd (a := la)) hln hshort (fun q x hx => by have := lk_short q x hx; omega) (fun w hf => (hs.rd (a := la)).fm hf)) ?_
              rintro _ w ⟨rfl, a', m', c', C', hm', ht⟩
              replace hs := hs.turnE rfl ht
              refine asp (.int _ _) rfl ?_
              refine WL_nil ?_
              refine hK91 _ _ ?_
              refine CW_ret ?_
              repeat (first | (with_reducible apply thenF_ret) | (with_reducible apply blockF_ret))
              try simp only [thenF, blockF, reduceIte]
              refine Post_r Tryz.results27 (.tmp rfl .nil) ?_
              try simp only [ev_tmp, ev_const, upd_ap, Nat.reduceLT, Nat.reduceEqDiff, reduceIte]
              have h31 : ¬ e ≠ 0 := by simpa using hc31
              have h52 : ¬ acqE L h sh ≠ 0 := by simpa using hc52
              have h60 : ¬ (h = true ∧ L.sh = sh) := by
                rintro ⟨q1, q2⟩
                first
                  | (have hb : h = false := by simpa using hg55
                     rw [hb] at q1; cases q1; done)
                  | (have hb : ¬ L.sh = sh := by simpa using hc60
                     exact hb q2)
              have e3 : (acqL L i h who sh) = ⟨L.ep, sh, if h then L.hs else L.hs.take i ++ who :: L.hs.drop i⟩ := rfl
              rw [eV1, eN1, if_neg h31, if_neg h31, if_neg h52, if_neg h52, if_neg h60, if_neg h60, e3]
              first
                | (have h62 : h = false := by simpa using hc62
                   rw [h62, if_neg (by simp)]
                   exact ⟨by trivial, R', a', m', c', C', hm', hs.ret1 rfl⟩)
                | (have h62 : h = true := by simpa using hc62
                   rw [h62, if_pos rfl]
                   exact ⟨by trivial, R', a', m', c', C', hm', hs.ret1 rfl⟩)
end Go.Proofs.YtkbldndbofbkcaaGreatDoor
