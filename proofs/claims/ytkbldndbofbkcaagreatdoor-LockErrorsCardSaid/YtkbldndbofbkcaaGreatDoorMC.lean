/- Plain: numbers in groups of seven bits. | codec: natural. | Plain: reading numbers. | codec: groups and Parse. | Plain: the reader of values. | codec: the functions that read one value. | codec: the three instances of read. | codec: the reader's methods. | Plain: the writer of values. | codec: the writer's write. | codec: the writer's methods. | Plain: lineages. | strconv.Atoi of up to six digits. | lineage.parts: the iterator. | lineage.parse. | lineage: Valid, Ordinals. | Comparisons: strings.Compare, cmp.Compare, cmp.Or, slices.Compare. | lineage.Compare. -/
import Derived.Test.YtkbldndbofbkcaaGreatDoorMA
import Derived.Test.YtkbldndbofbkcaaGreatDoorMB
set_option linter.unusedSimpArgs false
set_option linter.unusedVariables false
/- Plain: numbers in groups of seven bits. -/
namespace Go.Proofs.YtkbldndbofbkcaaGreatDoor
open Go Go.RowKit
/-- The groups of seven bits of a number (at most k of them), the last one without the mark. -/
def vint : Nat → Nat → List UInt8
  | 0, _ => []
  | k + 1, u => if u < 128 then [UInt8.ofNat u] else UInt8.ofNat (u % 128 + 128) :: vint k (u / 128)
/-- The encoding of a number. -/
def vnat (u : Nat) : List UInt8 := vint 10 u
theorem vint_length (k : Nat) : ∀ u, (vint k u).length ≤ k := by
  induction k with
  | zero => intro u; simp [vint]
  | succ k ih => intro u; simp only [vint]; split; · simp
                 · have := ih (u / 128); simp; omega
theorem vint_pos (k u : Nat) : 0 < (vint (k + 1) u).length := by simp only [vint]; split <;> simp
theorem pow7 (k : Nat) : 2 ^ (7 * (k + 1)) = 128 * 2 ^ (7 * k) := by
  rw [Nat.mul_succ, Nat.pow_add, Nat.mul_comm]
theorem u8_wrap (u : Int) (h0 : 0 ≤ u) : IntKind.u8.wrap u = u % 256 := by
  rw [IntKind.wrap]; simp [IntKind.signed, IntKind.bits]
theorem u8_val (u : Int) (h0 : 0 ≤ u) (h1 : u < 256) : IntKind.u8.wrap u = ((UInt8.ofNat u.toNat).toNat : Int) := by
  rw [u8_wrap u h0]
  simp; omega
theorem or128_all : ∀ n : Fin 256, bitsV .or .u8 (n.val : Int) 128 = ((n.val % 128 + 128 : Nat) : Int) := by decide +kernel
theorem u8_or128 (u : Int) (h0 : 0 ≤ u) : bitsV .or .u8 (IntKind.u8.wrap u) 128 = ((UInt8.ofNat (u.toNat % 128 + 128)).toNat : Int) := by
  rw [u8_wrap u h0]
  have h := or128_all ⟨(u % 256).toNat, by omega⟩
  simp only at h
  rw [show ((u % 256).toNat : Int) = u % 256 from by omega] at h
  rw [h]
  simp; omega
theorem shr7 (u : Int) (h0 : 0 ≤ u) : u.fdiv (2 ^ (min (7 : Int).toNat IntKind.u64.bits)) = u / 128 := by
  have e : (2 : Int) ^ (min (7 : Int).toNat IntKind.u64.bits) = 128 := by decide
  rw [e, Int.fdiv_eq_ediv_of_nonneg _ (by omega)]
theorem bv_one (b : UInt8) : bv [b] = [.int .u8 (b.toNat : Int)] := rfl
end Go.Proofs.YtkbldndbofbkcaaGreatDoor
/- codec: natural. -/
namespace Go.Proofs.YtkbldndbofbkcaaGreatDoor
open Go Go.RowKit
attribute [local irreducible] WL CW DW Ret
theorem vint_step {k u : Nat} (h : 128 ≤ u) : vint (k + 1) u = UInt8.ofNat (u % 128 + 128) :: vint k (u / 128) := by
  simp only [vint]; rw [if_neg (by omega)]
theorem vint_last {k u : Nat} (h : u < 128) : vint (k + 1) u = [UInt8.ofNat u] := by
  simp only [vint]; rw [if_pos h]
theorem natural_ok (u : Int) (w : World) (h0 : 0 ≤ u) (h1 : u < 18446744073709551616) :
    Ret Tryz.prog 146 #[.int .u64 u] w fun v w' => NewR w w' 5 1 (vnat u.toNat).length v (bv (vnat u.toNat)) ∧ Fm [] w w' := by
  have hs := St.init w []
  refine Ret_enter Tryz.func146 rfl Tryz.ntmps146 (by simp) ?_
  refine CW_seq (fun K1 hK1 => ?_)
  refine CW_region ?_
  refine asp (.slice _ _ _) rfl ?_
  refine WL_nil ?_
  refine hK1 _ _ ?_
  refine CW_seq (fun K2 hK2 => ?_)
  refine CW_region ?_
  refine asp (.slice _ _ _) rfl ?_
  refine WL_nil ?_
  refine hK2 _ _ ?_
  refine CW_seq (fun K3 hK3 => ?_)
  refine CW_block ?_
  refine CW_loop (fun k f w' => ∃ (j : Nat) (u' : Int) (a : Option Addr) (n cap : Nat) (pre : List UInt8), f 0 = .int .u64 u' ∧ f 3 = .slice a n cap ∧ St w [] w' [eR (.slice a n cap) 5 1 n (bv pre)] ∧ pre ++ vint k u'.toNat = vnat u.toNat ∧ 0 ≤ u' ∧ k = j + 1 ∧ u'.toNat < 2 ^ (7 * k) ∧ u' < 18446744073709551616 ∧ n = pre.length ∧ n + k ≤ 10) 10 ?_ ?_
  · exact ⟨9, u, none, 0, 0, [], rfl, rfl, hs.nilR _ _, rfl, h0, rfl, by omega, h1, rfl, by omega⟩
  · rintro k f w1 ⟨j, u', a, n, cap, pre, e0, e3, hs, hv, g0, rfl, g1, g2, hn, hk⟩
    refine CW_kn (i := 0) e0 (CW_kn (i := 3) e3 ?_)
    refine CW_seq (fun K4 hK4 => ?_)
    refine CW_seq (fun K5 hK5 => ?_)
    refine CW_region ?_
    refine mvp (.int _ _) rfl ?_
    refine geqW rfl rfl ?_
    refine WL_nil ?_
    refine hK5 _ _ ?_
    refine CW_cond rfl (fun hc5 => ?_) (fun hc5 => ?_)
    · skip
      refine CW_skip ?_
      refine hK4 _ _ ?_
      refine CW_seq (fun K6 hK6 => ?_)
      refine CW_block ?_
      refine CW_region ?_
      refine mvp (.slice _ _ _) rfl ?_
      refine mvp (.int _ _) rfl ?_
      refine cviW rfl ?_
      refine orW rfl rfl ?_
      refine W_bslice hs (BS.ii rfl .nil) rfl (by simp) ?_
      intro w g12 hs hg12 hf12
      refine app1 hs rfl rfl (by rfl) (by rfl) (by decide) (by rfl) (by omega) (by omega) ?_
      intro a2 c2 w hs _
      refine asp (.slice _ _ _) rfl ?_
      refine WL_nil ?_
      refine hK6 _ _ ?_
      refine CW_region ?_
      refine mvp (.int _ _) rfl ?_
      refine shrW rfl rfl (by omega) ?_
      refine asp (.int _ _) rfl ?_
      refine WL_nil ?_
      have hc : 128 ≤ u' := by simpa using hc5
      cases j with
      | zero => exfalso; simp at g1; omega
      | succ j =>
        rw [pow7] at g1
        have g3 : u'.toNat / 128 < 2 ^ (7 * (j + 1)) := by omega
        rw [vint_step (by omega)] at hv
        rw [u8_or128 u' g0] at hs
        refine ⟨j + 1, by omega, j, u' / 128, a2, n + 1, c2, pre ++ [UInt8.ofNat (u'.toNat % 128 + 128)], ?_, rfl, ?_, ?_, by omega, rfl, ?_, by omega, ?_, by omega⟩
        · rw [← shr7 u' g0]; rfl
        · rw [bv_append, bv_one]; exact hs.weak (.cons _ (.refl _))
        · rw [← hv, show (u' / 128).toNat = u'.toNat / 128 from by omega]; simp
        · rw [show (u' / 128).toNat = u'.toNat / 128 from by omega]; exact g3
        · simp [hn]
    · skip
      refine CW_exit ?_
      refine hK3 _ _ ?_
      refine CW_seq (fun K7 hK7 => ?_)
      refine CW_region ?_
      refine mvp (.slice _ _ _) rfl ?_
      refine mvp (.int _ _) rfl ?_
      refine cviW rfl ?_
      refine W_bslice hs (BS.ii rfl .nil) rfl (by simp) ?_
      intro w g17 hs hg17 hf17
      refine app1 hs rfl rfl (by rfl) (by rfl) (by decide) (by rfl) (by omega) (by omega) ?_
      intro a2 c2 w hs _
      refine asp (.slice _ _ _) rfl ?_
      refine WL_nil ?_
      refine hK7 _ _ ?_
      refine CW_ret ?_
      repeat (first | (with_reducible apply thenF_ret) | (with_reducible apply blockF_ret))
      try simp only [thenF, blockF, reduceIte]
      refine Post_r Tryz.results146 (.tmp rfl .nil) ?_
      try simp only [ev_tmp, ev_const, upd_ap, Nat.reduceLT, Nat.reduceEqDiff, reduceIte]
      have hc : u' < 128 := by simpa using hc5
      rw [vint_last (by omega)] at hv
      rw [u8_val u' g0 (by omega)] at hs
      rw [← hv, bv_append, bv_one]
      have hl : (pre ++ [UInt8.ofNat u'.toNat]).length = n + 1 := by simp [hn]
      rw [hl]
      exact ⟨hs.newR, hs.fm⟩
end Go.Proofs.YtkbldndbofbkcaaGreatDoor
/- Plain: reading numbers. -/
namespace Go.Proofs.YtkbldndbofbkcaaGreatDoor
open Go Go.RowKit
/-- What 'groups' comes to, i bytes having been read and being worth u: the number, its length, the error. -/
def pg (most : Nat) : Nat → Nat → List UInt8 → Nat × Nat × Int
  | i, _, [] => if most ≤ i then (0, 0, 3) else (0, 0, 28)
  | i, u, c :: cs =>
    if i = most then (0, 0, 3) else
    if c.toNat < 128 then (if c.toNat = 0 ∧ 0 < i then (0, 0, 3) else (u + c.toNat % 128 * 2 ^ (7 * i), i + 1, 0))
    else pg most (i + 1) (u + c.toNat % 128 * 2 ^ (7 * i)) cs
theorem and127_all : ∀ n : Fin 256, bitsV .and .u8 (n.val : Int) 127 = ((n.val % 128 : Nat) : Int) := by decide +kernel
theorem u8_and127 (c : UInt8) : bitsV .and .u8 (c.toNat : Int) 127 = ((c.toNat % 128 : Nat) : Int) := and127_all ⟨c.toNat, c.toNat_lt⟩
theorem u64_wrap (u : Int) (h0 : 0 ≤ u) (h1 : u < 18446744073709551616) : IntKind.u64.wrap u = u := by
  rw [IntKind.wrap]; simp [IntKind.signed, IntKind.bits]; omega
theorem or_disj (u x i : Nat) (hu : u < 2 ^ (7 * i)) (hx : x < 128) (hi : i ≤ 8) : bitsV .or .u64 (u : Int) (IntKind.u64.wrap ((x : Int) * 2 ^ (min ((7 : Int) * (i : Int)).toNat IntKind.u64.bits))) = ((u + x * 2 ^ (7 * i) : Nat) : Int) := by
  have e1 : min ((7 : Int) * (i : Int)).toNat IntKind.u64.bits = 7 * i := by
    have : IntKind.u64.bits = 64 := rfl
    rw [this]; omega
  have hp : (2 : Nat) ^ (7 * i) ≤ 2 ^ 56 := Nat.pow_le_pow_right (by omega) (by omega)
  have hp0 : 0 < (2 : Nat) ^ (7 * i) := Nat.pow_pos (by omega)
  have hx2 : x * 2 ^ (7 * i) ≤ 127 * 2 ^ 56 := Nat.mul_le_mul (by omega) hp
  have e2 : ((x : Int) * 2 ^ (7 * i)) = ((x * 2 ^ (7 * i) : Nat) : Int) := by push_cast; rfl
  have b1 : x * 2 ^ (7 * i) < 18446744073709551616 := by omega
  have b2 : u < 18446744073709551616 := by omega
  rw [e1, e2, u64_wrap _ (by omega) (by omega)]
  unfold bitsV
  simp only
  have h1 : (BitVec.ofInt IntKind.u64.bits (u : Int)).toNat = u := by
    show (BitVec.ofInt 64 (u : Int)).toNat = u
    rw [BitVec.toNat_ofInt]; omega
  have h2 : (BitVec.ofInt IntKind.u64.bits ((x * 2 ^ (7 * i) : Nat) : Int)).toNat = x * 2 ^ (7 * i) := by
    show (BitVec.ofInt 64 _).toNat = _
    rw [BitVec.toNat_ofInt]; omega
  rw [BitVec.toNat_or, h1, h2]
  have h3 : u ||| x * 2 ^ (7 * i) = u + x * 2 ^ (7 * i) := by
    have := Nat.shiftLeft_add_eq_or_of_lt hu x
    rw [Nat.shiftLeft_eq] at this
    rw [Nat.or_comm, ← this]; omega
  rw [h3, u64_wrap _ (by omega) (by omega)]
theorem grp_or (u i : Nat) (c : UInt8) (hu : u < 2 ^ (7 * i)) (hi : i ≤ 8) : bitsV .or .u64 (u : Int) (IntKind.u64.wrap (IntKind.u64.wrap (bitsV .and .u8 (c.toNat : Int) 127) * 2 ^ min ((7 : Int) * (i : Int)).toNat IntKind.u64.bits)) = ((u + c.toNat % 128 * 2 ^ (7 * i) : Nat) : Int) := by
  have h := or_disj u (c.toNat % 128) i hu (by omega) hi
  rw [u8_and127, u64_wrap ((c.toNat % 128 : Nat) : Int) (by omega) (by omega)]
  exact h
theorem pg_bound (most : Nat) (cs : List UInt8) : ∀ i u, u < 2 ^ (7 * i) → i ≤ most → most ≤ 9 → (pg most i u cs).1 < 2 ^ 63 ∧ (pg most i u cs).2.1 ≤ i + cs.length ∧ (pg most i u cs).2.1 ≤ 9 := by
  induction cs with
  | nil => intro i u _ _ _; simp only [pg]; split <;> simp
  | cons c cs ih =>
    intro i u hu hi hm
    simp only [pg]
    split
    · simp
    · rename_i h1
      have hb : u + c.toNat % 128 * 2 ^ (7 * i) < 2 ^ (7 * (i + 1)) := by
        rw [pow7]
        have : c.toNat % 128 * 2 ^ (7 * i) ≤ 127 * 2 ^ (7 * i) := Nat.mul_le_mul_right _ (by omega)
        omega
      split
      · split
        · simp
        · have hp : (2 : Nat) ^ (7 * (i + 1)) ≤ 2 ^ 63 := Nat.pow_le_pow_right (by omega) (by omega)
          simp only [List.length_cons]; omega
      · have := ih (i + 1) _ hb (by omega) hm
        simp only [List.length_cons]; omega
end Go.Proofs.YtkbldndbofbkcaaGreatDoor
/- codec: groups and Parse. -/
namespace Go.Proofs.YtkbldndbofbkcaaGreatDoor
open Go Go.RowKit
attribute [local irreducible] WL CW DW Ret
theorem Rd_at {w : World} {a : Option Addr} {n : Nat} {bs : List UInt8} (h : Rd w a n 1 (bv bs)) {i : Nat} (hi : i < bs.length) : ∃ b off, a = some ⟨b, off, none⟩ ∧ w.cell? ⟨b, off + i * 1, none⟩ = some (.int .u8 (bs[i].toNat : Int)) := by
  obtain ⟨b, off, e, hc⟩ := h.2 (by intro hq; have := bv_length bs; rw [hq] at this; simp at this; omega)
  exact ⟨b, off, e, by rw [Nat.mul_one]; exact hc i _ (by simp [bv, hi])⟩
set_option maxHeartbeats 400000 in
theorem groups_ok (a : Option Addr) (n cap most : Nat) (bs : List UInt8) (w : World) (hr : Rd w a n 1 (bv bs)) (hn : n = bs.length) (hm : most ≤ 9) (hl : bs.length ≤ 9223372036854775807) :
    Ret Tryz.prog 178 #[.slice a n cap, .int .i64 most] w fun v w' => v = .tuple #[.int .u64 ((pg most 0 0 bs).1 : Nat), .int .i64 ((pg most 0 0 bs).2.1 : Nat), .int .i64 (pg most 0 0 bs).2.2] ∧ Fm [] w w' := by
  have hs := St.init w []
  refine Ret_enter Tryz.func178 rfl Tryz.ntmps178 (by simp) ?_
  refine CW_seq (fun K1 hK1 => ?_)
  refine CW_region ?_
  refine asp (.int _ _) rfl ?_
  refine asp (.int _ _) rfl ?_
  refine asp (.int _ _) rfl ?_
  refine WL_nil ?_
  refine hK1 _ _ ?_
  refine CW_seq (fun K2 hK2 => ?_)
  refine CW_region ?_
  refine asp (.int _ _) rfl ?_
  refine WL_nil ?_
  refine hK2 _ _ ?_
  refine CW_seq (fun K3 hK3 => ?_)
  refine CW_seq (fun K4 hK4 => ?_)
  refine CW_region ?_
  refine mvp (.slice _ _ _) rfl ?_
  refine lenW rfl ?_
  refine mvp (.int _ _) rfl ?_
  refine WL_nil ?_
  refine hK4 _ _ ?_
  refine CW_block ?_
  refine CW_loop (fun k f w' => ∃ (i u : Nat), f 0 = .slice a n cap ∧ f 1 = .int .i64 most ∧ f 7 = .int .u64 u ∧ f 10 = .slice a n cap ∧ f 11 = .int .i64 n ∧ f 12 = .int .i64 i ∧ St w [] w' [] ∧ u < 2 ^ (7 * i) ∧ i ≤ most ∧ i + k = n ∧ pg most i u (bs.drop i) = pg most 0 0 bs) n ?_ ?_
  · exact ⟨0, 0, rfl, rfl, rfl, rfl, rfl, rfl, hs, by decide, by omega, by omega, rfl⟩
  · rintro k f w1 ⟨i, u, e0, e1, e7, e10, e11, e12, hs, hu, him, hik, hpg⟩
    refine CW_kn (i := 0) e0 (CW_kn (i := 1) e1 (CW_kn (i := 7) e7 (CW_kn (i := 10) e10 (CW_kn (i := 11) e11 (CW_kn (i := 12) e12 ?_)))))
    refine CW_seq (fun K5 hK5 => ?_)
    refine CW_region ?_
    refine lssW rfl rfl ?_
    refine WL_nil ?_
    refine hK5 _ _ ?_
    refine CW_seq (fun K6 hK6 => ?_)
    refine CW_cond rfl (fun hc13 => ?_) (fun hc13 => ?_)
    · skip
      have hlt : i < n := by simpa using hc13
      have hib : i < bs.length := by omega
      obtain ⟨b, off, rfl, hcell⟩ := Rd_at (hr.fm hs.fm) hib
      rw [List.drop_eq_getElem_cons hib] at hpg
      simp only [pg] at hpg
      generalize bs[i] = c at hcell hpg
      refine CW_skip ?_
      refine hK6 _ _ ?_
      refine CW_seq (fun K7 hK7 => ?_)
      refine CW_block ?_
      refine CW_seq (fun K8 hK8 => ?_)
      refine CW_region ?_
      refine mvp (.int _ _) rfl ?_
      refine iad rfl rfl (by omega) ?_
      refine ldc rfl hcell ?_
      refine asp (.int _ _) rfl ?_
      refine asp (.int _ _) rfl ?_
      refine WL_nil ?_
      refine hK8 _ _ ?_
      refine CW_seq (fun K9 hK9 => ?_)
      refine CW_seq (fun K10 hK10 => ?_)
      refine CW_region ?_
      refine mvp (.int _ _) rfl ?_
      refine mvp (.int _ _) rfl ?_
      refine eqlW rfl rfl ?_
      refine WL_nil ?_
      refine hK10 _ _ ?_
      refine CW_cond rfl (fun hc19 => ?_) (fun hc19 => ?_)
      · skip
        refine CW_seq (fun K11 hK11 => ?_)
        refine CW_region ?_
        refine asp (.int _ _) rfl ?_
        refine asp (.int _ _) rfl ?_
        refine asp (.int _ _) rfl ?_
        refine WL_nil ?_
        refine hK11 _ _ ?_
        refine CW_ret ?_
        repeat (first | (with_reducible apply thenF_ret) | (with_reducible apply blockF_ret))
        try simp only [thenF, blockF, reduceIte]
        refine Post_r Tryz.results178 (.tmp rfl (.tmp rfl (.tmp rfl .nil))) ?_
        try simp only [ev_tmp, ev_const, upd_ap, Nat.reduceLT, Nat.reduceEqDiff, reduceIte]
        rw [if_pos (by simp at hc19; omega)] at hpg
        rw [← hpg]; exact ⟨rfl, hs.fm⟩
      · skip
        refine CW_skip ?_
        refine hK9 _ _ ?_
        refine CW_seq (fun K12 hK12 => ?_)
        refine CW_region ?_
        refine mvp (.int _ _) rfl ?_
        refine mvp (.int _ _) rfl ?_
        refine andW rfl rfl ?_
        refine cviW rfl ?_
        refine mvp (.int _ _) rfl ?_
        first | refine mulI rfl rfl (by omega) ?_ | refine mulW rfl rfl ?_
        refine shlW rfl rfl (by omega) ?_
        refine orW rfl rfl ?_
        refine asp (.int _ _) rfl ?_
        refine WL_nil ?_
        refine hK12 _ _ ?_
        refine CW_seq (fun K13 hK13 => ?_)
        refine CW_region ?_
        refine mvp (.int _ _) rfl ?_
        refine lssW rfl rfl ?_
        refine WL_nil ?_
        refine hK13 _ _ ?_
        refine CW_cond rfl (fun hc29 => ?_) (fun hc29 => ?_)
        · skip
          refine CW_seq (fun K14 hK14 => ?_)
          refine CW_seq (fun K15 hK15 => ?_)
          refine CW_region ?_
          refine mvp (.int _ _) rfl ?_
          refine eqlW rfl rfl ?_
          refine mvp (.bool _) rfl ?_
          refine WL_g (g := 32) rfl (by decide) rfl (fun hg32 => ?_) (fun hg32 => ?_)
          · skip
            refine mvp (.int _ _) rfl ?_
            refine WL_gy (g := 32) rfl (by decide) rfl ?_
            refine gtrW rfl rfl ?_
            first | refine pkT rfl rfl ?_ | refine pkF rfl rfl ?_
            refine WL_nil ?_
            refine hK15 _ _ ?_
            refine CW_cond rfl (fun hc35 => ?_) (fun hc35 => ?_)
            · skip
              refine CW_seq (fun K16 hK16 => ?_)
              refine CW_region ?_
              refine asp (.int _ _) rfl ?_
              refine asp (.int _ _) rfl ?_
              refine asp (.int _ _) rfl ?_
              refine WL_nil ?_
              refine hK16 _ _ ?_
              refine CW_ret ?_
              repeat (first | (with_reducible apply thenF_ret) | (with_reducible apply blockF_ret))
              try simp only [thenF, blockF, reduceIte]
              refine Post_r Tryz.results178 (.tmp rfl (.tmp rfl (.tmp rfl .nil))) ?_
              try simp only [ev_tmp, ev_const, upd_ap, Nat.reduceLT, Nat.reduceEqDiff, reduceIte]
              rw [if_neg (by simp at hc19; omega), if_pos (by simp at hc29; omega), if_pos ⟨by simpa using hg32, by simpa using hc35⟩] at hpg
              rw [← hpg]; exact ⟨rfl, hs.fm⟩
            · skip
              refine CW_skip ?_
              refine hK14 _ _ ?_
              refine CW_seq (fun K17 hK17 => ?_)
              refine CW_region ?_
              refine mvp (.int _ _) rfl ?_
              refine mvp (.int _ _) rfl ?_
              first | refine addI rfl rfl (by omega) ?_ | refine addW rfl rfl ?_
              refine asp (.int _ _) rfl ?_
              refine asp (.int _ _) rfl ?_
              refine asp (.int _ _) rfl ?_
              refine WL_nil ?_
              refine hK17 _ _ ?_
              refine CW_ret ?_
              repeat (first | (with_reducible apply thenF_ret) | (with_reducible apply blockF_ret))
              try simp only [thenF, blockF, reduceIte]
              refine Post_r Tryz.results178 (.tmp rfl (.tmp rfl (.tmp rfl .nil))) ?_
              try simp only [ev_tmp, ev_const, upd_ap, Nat.reduceLT, Nat.reduceEqDiff, reduceIte]
              have h1 : ¬ i = most := by simp at hc19; omega
              have hv := grp_or u i c hu (by omega)
              rw [if_neg h1, if_pos (by simp at hc29; omega), if_neg (by first | (simp at hc35; omega) | (simp at hg32; omega))] at hpg
              rw [← hpg, hv]; exact ⟨rfl, hs.fm⟩
          · skip
            refine WL_gn (g := 32) rfl (by decide) rfl ?_
            first | refine pkT rfl rfl ?_ | refine pkF rfl rfl ?_
            refine WL_nil ?_
            refine hK15 _ _ ?_
            refine CW_condF rfl rfl ?_
            refine CW_skip ?_
            refine hK14 _ _ ?_
            refine CW_seq (fun K18 hK18 => ?_)
            refine CW_region ?_
            refine mvp (.int _ _) rfl ?_
            refine mvp (.int _ _) rfl ?_
            first | refine addI rfl rfl (by omega) ?_ | refine addW rfl rfl ?_
            refine asp (.int _ _) rfl ?_
            refine asp (.int _ _) rfl ?_
            refine asp (.int _ _) rfl ?_
            refine WL_nil ?_
            refine hK18 _ _ ?_
            refine CW_ret ?_
            repeat (first | (with_reducible apply thenF_ret) | (with_reducible apply blockF_ret))
            try simp only [thenF, blockF, reduceIte]
            refine Post_r Tryz.results178 (.tmp rfl (.tmp rfl (.tmp rfl .nil))) ?_
            try simp only [ev_tmp, ev_const, upd_ap, Nat.reduceLT, Nat.reduceEqDiff, reduceIte]
            have h1 : ¬ i = most := by simp at hc19; omega
            have hv := grp_or u i c hu (by omega)
            rw [if_neg h1, if_pos (by simp at hc29; omega), if_neg (by first | (simp at hc35; omega) | (simp at hg32; omega))] at hpg
            rw [← hpg, hv]; exact ⟨rfl, hs.fm⟩
        · skip
          refine CW_skip ?_
          refine hK7 _ _ ?_
          refine CW_region ?_
          first | refine addI rfl rfl (by omega) ?_ | refine addW rfl rfl ?_
          refine mvp (.int _ _) rfl ?_
          refine WL_nil ?_
          have h1 : ¬ i = most := by simp at hc19; omega
          have hv := grp_or u i c hu (by omega)
          rw [if_neg h1, if_neg (by simp at hc29; omega)] at hpg
          refine ⟨k - 1, by omega, i + 1, u + c.toNat % 128 * 2 ^ (7 * i), rfl, rfl, by rw [← hv]; rfl, rfl, rfl, rfl, hs, ?_, by omega, by omega, hpg⟩
          rw [pow7]
          have : c.toNat % 128 * 2 ^ (7 * i) ≤ 127 * 2 ^ (7 * i) := Nat.mul_le_mul_right _ (by omega)
          omega
    · skip
      have hge : i = n := by simp at hc13; omega
      refine CW_exit ?_
      refine hK3 _ _ ?_
      refine CW_seq (fun K19 hK19 => ?_)
      refine CW_seq (fun K20 hK20 => ?_)
      refine CW_region ?_
      refine mvp (.slice _ _ _) rfl ?_
      refine lenW rfl ?_
      refine mvp (.int _ _) rfl ?_
      refine geqW rfl rfl ?_
      refine WL_nil ?_
      refine hK20 _ _ ?_
      refine CW_cond rfl (fun hc43 => ?_) (fun hc43 => ?_)
      · skip
        refine CW_seq (fun K21 hK21 => ?_)
        refine CW_region ?_
        refine asp (.int _ _) rfl ?_
        refine asp (.int _ _) rfl ?_
        refine asp (.int _ _) rfl ?_
        refine WL_nil ?_
        refine hK21 _ _ ?_
        refine CW_ret ?_
        repeat (first | (with_reducible apply thenF_ret) | (with_reducible apply blockF_ret))
        try simp only [thenF, blockF, reduceIte]
        refine Post_r Tryz.results178 (.tmp rfl (.tmp rfl (.tmp rfl .nil))) ?_
        try simp only [ev_tmp, ev_const, upd_ap, Nat.reduceLT, Nat.reduceEqDiff, reduceIte]
        have h1 : List.drop i bs = [] := List.drop_eq_nil_of_le (by omega)
        rw [h1, pg, if_pos (by simp at hc43; omega)] at hpg
        rw [← hpg]; exact ⟨rfl, hs.fm⟩
      · skip
        refine CW_skip ?_
        refine hK19 _ _ ?_
        refine CW_seq (fun K22 hK22 => ?_)
        refine CW_region ?_
        refine asp (.int _ _) rfl ?_
        refine asp (.int _ _) rfl ?_
        refine asp (.int _ _) rfl ?_
        refine WL_nil ?_
        refine hK22 _ _ ?_
        refine CW_ret ?_
        repeat (first | (with_reducible apply thenF_ret) | (with_reducible apply blockF_ret))
        try simp only [thenF, blockF, reduceIte]
        refine Post_r Tryz.results178 (.tmp rfl (.tmp rfl (.tmp rfl .nil))) ?_
        try simp only [ev_tmp, ev_const, upd_ap, Nat.reduceLT, Nat.reduceEqDiff, reduceIte]
        have h1 : List.drop i bs = [] := List.drop_eq_nil_of_le (by omega)
        rw [h1, pg, if_neg (by simp at hc43; omega)] at hpg
        rw [← hpg]; exact ⟨rfl, hs.fm⟩
/-- What Parse comes to. -/
def ppg (bs : List UInt8) : Nat × Nat × Int := pg 9 0 0 bs
theorem ppg_bound (bs : List UInt8) : (ppg bs).1 < 2 ^ 63 ∧ (ppg bs).2.1 ≤ bs.length ∧ (ppg bs).2.1 ≤ 9 := by
  have := pg_bound 9 bs 0 0 (by decide) (by omega) (by omega)
  simpa [ppg] using this
theorem Parse_ok (a : Option Addr) (n cap : Nat) (bs : List UInt8) (w : World) (hr : Rd w a n 1 (bv bs)) (hn : n = bs.length) (hl : bs.length ≤ 9223372036854775807) :
    Ret Tryz.prog 139 #[.slice a n cap] w fun v w' => v = .tuple #[.int .i64 ((ppg bs).1 : Nat), .int .i64 ((ppg bs).2.1 : Nat), .int .i64 (ppg bs).2.2] ∧ Fm [] w w' := by
  have hs := St.init w []
  have hb := ppg_bound bs
  unfold ppg at hb
  refine Ret_enter Tryz.func139 rfl Tryz.ntmps139 (by simp) ?_
  refine CW_seq (fun K1 hK1 => ?_)
  refine CW_region ?_
  refine asp (.int _ _) rfl ?_
  refine asp (.int _ _) rfl ?_
  refine asp (.int _ _) rfl ?_
  refine WL_nil ?_
  refine hK1 _ _ ?_
  refine CW_seq (fun K2 hK2 => ?_)
  refine CW_region ?_
  refine mvp (.slice _ _ _) rfl ?_
  refine cll (groups_ok a n cap 9 bs _ hr hn (by omega) hl) ?_
  rintro _ w ⟨rfl, hf⟩
  replace hs := hs.call hf
  refine mvp (.tuple _) rfl ?_
  refine ext rfl rfl ?_
  refine ext rfl rfl ?_
  refine ext rfl rfl ?_
  refine asp (.int _ _) rfl ?_
  refine asp (.int _ _) rfl ?_
  refine asp (.int _ _) rfl ?_
  refine WL_nil ?_
  refine hK2 _ _ ?_
  refine CW_seq (fun K3 hK3 => ?_)
  refine CW_region ?_
  refine mvp (.int _ _) rfl ?_
  first | refine cviI rfl (by omega) ?_ | refine cviW rfl ?_
  refine mvp (.int _ _) rfl ?_
  refine mvp (.int _ _) rfl ?_
  refine asp (.int _ _) rfl ?_
  refine asp (.int _ _) rfl ?_
  refine asp (.int _ _) rfl ?_
  refine WL_nil ?_
  refine hK3 _ _ ?_
  refine CW_ret ?_
  repeat (first | (with_reducible apply thenF_ret) | (with_reducible apply blockF_ret))
  try simp only [thenF, blockF, reduceIte]
  refine Post_r Tryz.results139 (.tmp rfl (.tmp rfl (.tmp rfl .nil))) ?_
  try simp only [ev_tmp, ev_const, upd_ap, Nat.reduceLT, Nat.reduceEqDiff, reduceIte]
  exact ⟨rfl, hs.fm⟩
end Go.Proofs.YtkbldndbofbkcaaGreatDoor
/- Plain: the reader of values. -/
namespace Go.Proofs.YtkbldndbofbkcaaGreatDoor
open Go Go.RowKit
abbrev RS := Nat × Int
/-- One value read: the value, and the reader's place and error behind it. -/
def rstep {α : Type} (z : α) (q : List UInt8 → α × Nat × Int) (bs : List UInt8) (s : RS) : α × RS :=
  if s.2 ≠ 0 then (z, s) else
    if (q (bs.drop s.1)).2.2 ≠ 0 then (z, (s.1, (q (bs.drop s.1)).2.2)) else ((q (bs.drop s.1)).1, (s.1 + (q (bs.drop s.1)).2.1, 0))
def pNum (most : Nat) (bs : List UInt8) : Nat × Nat × Int := if (ppg bs).2.2 = 0 ∧ most < (ppg bs).1 then (0, 0, 2) else ppg bs
def pFlag : List UInt8 → Bool × Nat × Int
  | [] => (false, 0, 28)
  | c :: _ => if 1 < c.toNat then (false, 0, 3) else (decide (c.toNat = 1), 1, 0)
def pText (most : Nat) (bs : List UInt8) : List UInt8 × Nat × Int :=
  if (ppg bs).2.2 ≠ 0 then ([], 0, (ppg bs).2.2) else if min most 16777216 < (ppg bs).1 then ([], 0, 5) else if bs.length - (ppg bs).2.1 < (ppg bs).1 then ([], 0, 28) else
    ((bs.drop (ppg bs).2.1).take (ppg bs).1, (ppg bs).2.1 + (ppg bs).1, 0)
theorem pNum_bound (most : Nat) (bs : List UInt8) : (pNum most bs).1 < 2 ^ 63 ∧ (pNum most bs).2.1 ≤ bs.length := by
  have := ppg_bound bs
  unfold pNum; split
  · simp
  · omega
theorem pFlag_bound (bs : List UInt8) : (pFlag bs).2.1 ≤ bs.length := by
  unfold pFlag; split
  · simp
  · split <;> simp
theorem pText_bound (most : Nat) (bs : List UInt8) : (pText most bs).2.1 ≤ bs.length := by
  have := ppg_bound bs
  unfold pText; repeat' split
  all_goals simp
  omega
theorem rstep_at {α : Type} {z : α} {q : List UInt8 → α × Nat × Int} {bs : List UInt8} {s : RS} (hq : ∀ l, (q l).2.1 ≤ l.length) (h : s.1 ≤ bs.length) : (rstep z q bs s).2.1 ≤ bs.length := by
  have := hq (bs.drop s.1)
  simp only [List.length_drop] at this
  unfold rstep; repeat' split
  all_goals simp
  all_goals omega
/-- A reader in memory: block r, the bytes in block g. -/
def eRd (r g : Nat) (bs : List UInt8) (s : RS) : Ent :=
  ⟨[r, g], true, fun w => r ≠ g ∧ s.1 ≤ bs.length ∧ bs.length ≤ 9223372036854775807 ∧ ∃ cap l, w.heap[r]? = some (Blk 201 [.slice (some ⟨g, 0, none⟩) bs.length cap, .int .i64 s.1, .int .i64 s.2]) ∧ w.heap[g]? = some (Blk 5 l) ∧ l.take bs.length = bv bs ∧ l.length = cap ∧ bs.length ≤ cap,
    fun h k => by
      obtain ⟨k1, k2, k3, cap, l, h1, h2, h3⟩ := k
      exact ⟨k1, k2, k3, cap, l, by rw [h r (by simp)]; exact h1, by rw [h g (by simp)]; exact h2, h3⟩,
    fun h x hx => by
      obtain ⟨_, _, _, _, _, h1, h2, _⟩ := h
      rcases List.mem_cons.1 hx with rfl | hx
      · exact heap_lt h1
      · simp at hx; subst hx; exact heap_lt h2⟩
/-- The bytes that are left. -/
theorem rd_sub {w : World} {g cap at_ : Nat} {bs : List UInt8} {l : List Value} (hb : w.heap[g]? = some (Blk 5 l)) (ht : l.take bs.length = bv bs) (hl : l.length = cap) (hc : bs.length ≤ cap) (ha : at_ ≤ bs.length) : Rd w (some ⟨g, sla 0 at_ cap 1, none⟩) (bs.length - at_) 1 (bv (bs.drop at_)) := by
  refine ⟨by simp [bv], fun hn => ⟨g, sla 0 at_ cap 1, rfl, fun j u hj => ?_⟩⟩
  have hlt : at_ + j < bs.length := by
    have := (List.getElem?_eq_some_iff.1 hj).1
    simp [bv] at this; omega
  rw [sla_lt (by omega), cell_of_blk hb]
  have e : l[0 + at_ * 1 + j]? = (l.take bs.length)[at_ + j]? := by
    rw [List.getElem?_take, if_pos hlt]; congr 1; omega
  rw [e, ht, ← hj, bv_drop, List.getElem?_drop]
theorem pg_err (most : Nat) (cs : List UInt8) : ∀ i u, (pg most i u cs).2.2 = 0 → cs ≠ [] ∧ 0 < (pg most i u cs).2.1 := by
  induction cs with
  | nil => intro i u h; simp only [pg] at h; split at h <;> simp at h
  | cons c cs ih =>
    intro i u h
    refine ⟨by simp, ?_⟩
    simp only [pg] at h ⊢
    split at h
    · simp at h
    · rename_i h1
      rw [if_neg h1]
      split at h
      · rename_i h2
        rw [if_pos h2]
        split at h
        · simp at h
        · rename_i h3; rw [if_neg h3]; simp
      · rename_i h2; rw [if_neg h2]; exact (ih _ _ h).2
theorem ppg_ne {bs : List UInt8} (h : (ppg bs).2.2 = 0) : bs ≠ [] := (pg_err 9 bs 0 0 h).1
theorem Rd_cut {w : World} {b off n cap lo hi : Nat} {bs : List UInt8} (h : Rd w (some ⟨b, off, none⟩) n 1 (bv bs)) (hn : n = bs.length) (h1 : lo ≤ hi) (h2 : hi ≤ n) (hc : n ≤ cap) : Rd w (some ⟨b, sla off lo cap 1, none⟩) (hi - lo) 1 (bv ((bs.drop lo).take (hi - lo))) := by
  refine ⟨by simp [bv]; omega, fun hne => ⟨b, sla off lo cap 1, rfl, fun j u hj => ?_⟩⟩
  have hlt : j < hi - lo := by
    have := (List.getElem?_eq_some_iff.1 hj).1
    simp [bv] at this; omega
  obtain ⟨b', off', e, hcell⟩ := h.2 (by intro hq; have := bv_length bs; rw [hq] at this; simp at this; omega)
  injection e with e; injection e with e1 e2; subst e1; subst e2
  rw [sla_lt (by omega), Nat.mul_one, Nat.add_assoc]
  refine hcell (lo + j) u ?_
  rw [bv_take, bv_drop, List.getElem?_take, if_pos hlt, List.getElem?_drop] at hj
  exact hj
end Go.Proofs.YtkbldndbofbkcaaGreatDoor
/- codec: the functions that read one value. -/
namespace Go.Proofs.YtkbldndbofbkcaaGreatDoor
open Go Go.RowKit
attribute [local irreducible] WL CW DW Ret
theorem Num1_ok (a : Option Addr) (n cap m most : Nat) (bs : List UInt8) (w : World) (hr : Rd w a n 1 (bv bs)) (hn : n = bs.length) (hl : bs.length ≤ 9223372036854775807) (hm : w.heap[m]? = some (Blk 3 [.int .i64 most])) :
    Ret Tryz.prog 138 #[.slice a n cap, .pointer (some ⟨m, 0, none⟩)] w fun v w' => v = .tuple #[.int .i64 ((pNum most bs).1 : Nat), .int .i64 ((pNum most bs).2.1 : Nat), .int .i64 (pNum most bs).2.2] ∧ Fm [] w w' := by
  have hs := St.one (M := []) (q := false) hm (by simp)
  have hb := ppg_bound bs
  unfold pNum
  refine Ret_enter Tryz.func138 rfl Tryz.ntmps138 (by simp) ?_
  refine CW_seq (fun K1 hK1 => ?_)
  refine CW_region ?_
  refine asp (.int _ _) rfl ?_
  refine asp (.int _ _) rfl ?_
  refine asp (.int _ _) rfl ?_
  refine WL_nil ?_
  refine hK1 _ _ ?_
  refine CW_seq (fun K2 hK2 => ?_)
  refine CW_region ?_
  refine mvp (.slice _ _ _) rfl ?_
  refine cll (Parse_ok a n cap bs _ hr hn (by omega)) ?_
  rintro _ w ⟨rfl, hf⟩
  replace hs := hs.call hf
  refine mvp (.tuple _) rfl ?_
  refine ext rfl rfl ?_
  refine ext rfl rfl ?_
  refine ext rfl rfl ?_
  refine asp (.int _ _) rfl ?_
  refine asp (.int _ _) rfl ?_
  refine asp (.int _ _) rfl ?_
  refine WL_nil ?_
  refine hK2 _ _ ?_
  refine CW_seq (fun K3 hK3 => ?_)
  refine CW_seq (fun K4 hK4 => ?_)
  refine CW_region ?_
  refine mvp (.int _ _) rfl ?_
  refine eqlW rfl rfl ?_
  refine mvp (.bool _) rfl ?_
  refine WL_g (g := 17) rfl (by decide) rfl (fun hg17 => ?_) (fun hg17 => ?_)
  · skip
    refine mvp (.int _ _) rfl ?_
    refine WL_gy (g := 17) rfl (by decide) rfl ?_
    refine ld hs rfl rfl ?_
    refine WL_gy (g := 17) rfl (by decide) rfl ?_
    refine gtrW rfl rfl ?_
    first | refine pkT rfl rfl ?_ | refine pkF rfl rfl ?_
    refine WL_nil ?_
    refine hK4 _ _ ?_
    refine CW_cond rfl (fun hc21 => ?_) (fun hc21 => ?_)
    · skip
      refine CW_seq (fun K5 hK5 => ?_)
      refine CW_region ?_
      refine asp (.int _ _) rfl ?_
      refine asp (.int _ _) rfl ?_
      refine asp (.int _ _) rfl ?_
      refine WL_nil ?_
      refine hK5 _ _ ?_
      refine CW_ret ?_
      repeat (first | (with_reducible apply thenF_ret) | (with_reducible apply blockF_ret))
      try simp only [thenF, blockF, reduceIte]
      refine Post_r Tryz.results138 (.tmp rfl (.tmp rfl (.tmp rfl .nil))) ?_
      try simp only [ev_tmp, ev_const, upd_ap, Nat.reduceLT, Nat.reduceEqDiff, reduceIte]
      rw [if_pos ⟨by simpa using hg17, by simp at hc21; omega⟩]
      exact ⟨rfl, hs.fm⟩
    · skip
      refine CW_skip ?_
      refine hK3 _ _ ?_
      refine CW_seq (fun K6 hK6 => ?_)
      refine CW_region ?_
      refine mvp (.int _ _) rfl ?_
      refine mvp (.int _ _) rfl ?_
      refine mvp (.int _ _) rfl ?_
      refine asp (.int _ _) rfl ?_
      refine asp (.int _ _) rfl ?_
      refine asp (.int _ _) rfl ?_
      refine WL_nil ?_
      refine hK6 _ _ ?_
      refine CW_ret ?_
      repeat (first | (with_reducible apply thenF_ret) | (with_reducible apply blockF_ret))
      try simp only [thenF, blockF, reduceIte]
      refine Post_r Tryz.results138 (.tmp rfl (.tmp rfl (.tmp rfl .nil))) ?_
      try simp only [ev_tmp, ev_const, upd_ap, Nat.reduceLT, Nat.reduceEqDiff, reduceIte]
      rw [if_neg (by first | (simp at hg17; exact fun h => hg17 h.1) | (simp at hc21; omega))]
      exact ⟨rfl, hs.fm⟩
  · skip
    refine WL_gn (g := 17) rfl (by decide) rfl ?_
    refine WL_gn (g := 17) rfl (by decide) rfl ?_
    first | refine pkT rfl rfl ?_ | refine pkF rfl rfl ?_
    refine WL_nil ?_
    refine hK4 _ _ ?_
    refine CW_condF rfl rfl ?_
    refine CW_skip ?_
    refine hK3 _ _ ?_
    refine CW_seq (fun K7 hK7 => ?_)
    refine CW_region ?_
    refine mvp (.int _ _) rfl ?_
    refine mvp (.int _ _) rfl ?_
    refine mvp (.int _ _) rfl ?_
    refine asp (.int _ _) rfl ?_
    refine asp (.int _ _) rfl ?_
    refine asp (.int _ _) rfl ?_
    refine WL_nil ?_
    refine hK7 _ _ ?_
    refine CW_ret ?_
    repeat (first | (with_reducible apply thenF_ret) | (with_reducible apply blockF_ret))
    try simp only [thenF, blockF, reduceIte]
    refine Post_r Tryz.results138 (.tmp rfl (.tmp rfl (.tmp rfl .nil))) ?_
    try simp only [ev_tmp, ev_const, upd_ap, Nat.reduceLT, Nat.reduceEqDiff, reduceIte]
    rw [if_neg (by first | (simp at hg17; exact fun h => hg17 h.1) | (simp at hc21; omega))]
    exact ⟨rfl, hs.fm⟩
theorem Flag1_ok (a : Option Addr) (n cap : Nat) (bs : List UInt8) (w : World) (hr : Rd w a n 1 (bv bs)) (hn : n = bs.length) :
    Ret Tryz.prog 141 #[.slice a n cap] w fun v w' => v = .tuple #[.bool (pFlag bs).1, .int .i64 ((pFlag bs).2.1 : Nat), .int .i64 (pFlag bs).2.2] ∧ Fm [] w w' := by
  have hs := St.init w []
  refine Ret_enter Tryz.func141 rfl Tryz.ntmps141 (by simp) ?_
  refine CW_seq (fun K1 hK1 => ?_)
  refine CW_region ?_
  refine asp (.bool _) rfl ?_
  refine asp (.int _ _) rfl ?_
  refine asp (.int _ _) rfl ?_
  refine WL_nil ?_
  refine hK1 _ _ ?_
  refine CW_seq (fun K2 hK2 => ?_)
  refine CW_block ?_
  refine CW_seq (fun K3 hK3 => ?_)
  refine CW_region ?_
  refine mvp (.slice _ _ _) rfl ?_
  refine lenW rfl ?_
  refine eqlW rfl rfl ?_
  refine asp (.bool _) rfl ?_
  refine WL_nil ?_
  refine hK3 _ _ ?_
  refine CW_cond rfl (fun hc5 => ?_) (fun hc5 => ?_)
  · skip
    refine CW_seq (fun K4 hK4 => ?_)
    refine CW_region ?_
    refine asp (.bool _) rfl ?_
    refine asp (.int _ _) rfl ?_
    refine asp (.int _ _) rfl ?_
    refine WL_nil ?_
    refine hK4 _ _ ?_
    refine CW_ret ?_
    repeat (first | (with_reducible apply thenF_ret) | (with_reducible apply blockF_ret))
    try simp only [thenF, blockF, reduceIte]
    refine Post_r Tryz.results141 (.tmp rfl (.tmp rfl (.tmp rfl .nil))) ?_
    try simp only [ev_tmp, ev_const, upd_ap, Nat.reduceLT, Nat.reduceEqDiff, reduceIte]
    cases bs with
    | nil => exact ⟨rfl, hs.fm⟩
    | cons c bs => simp at hc5 hn; omega
  · have h0 : 0 < bs.length := by simp at hc5; omega
    obtain ⟨b, off, rfl, hcell⟩ := Rd_at hr h0
    cases bs with
    | nil => simp at h0
    | cons c bs => ?_
    simp only [List.getElem_cons_zero] at hcell
    simp only [List.length_cons] at hn
    refine CW_seq (fun K5 hK5 => ?_)
    refine CW_region ?_
    refine mvp (.slice _ _ _) rfl ?_
    refine iad rfl rfl (by omega) ?_
    refine ldc rfl hcell ?_
    refine gtrW rfl rfl ?_
    refine asp (.bool _) rfl ?_
    refine WL_nil ?_
    refine hK5 _ _ ?_
    refine CW_cond rfl (fun hc9 => ?_) (fun hc9 => ?_)
    · skip
      refine CW_seq (fun K6 hK6 => ?_)
      refine CW_region ?_
      refine asp (.bool _) rfl ?_
      refine asp (.int _ _) rfl ?_
      refine asp (.int _ _) rfl ?_
      refine WL_nil ?_
      refine hK6 _ _ ?_
      refine CW_ret ?_
      repeat (first | (with_reducible apply thenF_ret) | (with_reducible apply blockF_ret))
      try simp only [thenF, blockF, reduceIte]
      refine Post_r Tryz.results141 (.tmp rfl (.tmp rfl (.tmp rfl .nil))) ?_
      try simp only [ev_tmp, ev_const, upd_ap, Nat.reduceLT, Nat.reduceEqDiff, reduceIte]
      simp only [pFlag]
      rw [if_pos (by simp at hc9; omega)]
      exact ⟨rfl, hs.fm⟩
    · skip
      refine CW_skip ?_
      refine hK2 _ _ ?_
      refine CW_seq (fun K7 hK7 => ?_)
      refine CW_region ?_
      refine mvp (.slice _ _ _) rfl ?_
      refine iad rfl rfl (by omega) ?_
      refine ldc rfl hcell ?_
      refine eqlW rfl rfl ?_
      refine asp (.bool _) rfl ?_
      refine asp (.int _ _) rfl ?_
      refine asp (.int _ _) rfl ?_
      refine WL_nil ?_
      refine hK7 _ _ ?_
      refine CW_ret ?_
      repeat (first | (with_reducible apply thenF_ret) | (with_reducible apply blockF_ret))
      try simp only [thenF, blockF, reduceIte]
      refine Post_r Tryz.results141 (.tmp rfl (.tmp rfl (.tmp rfl .nil))) ?_
      try simp only [ev_tmp, ev_const, upd_ap, Nat.reduceLT, Nat.reduceEqDiff, reduceIte]
      simp only [pFlag]
      rw [if_neg (by simp at hc9; omega)]
      have e : decide ((c.toNat : Int) = 1) = decide (c.toNat = 1) := decide_eq_decide.2 (by omega)
      rw [e]
      exact ⟨rfl, hs.fm⟩
theorem Text1_ok (a : Option Addr) (n cap m most : Nat) (bs : List UInt8) (w : World) (hr : Rd w a n 1 (bv bs)) (hn : n = bs.length) (hl : bs.length ≤ 9223372036854775807) (hc : n ≤ cap) (hm : w.heap[m]? = some (Blk 3 [.int .i64 most])) :
    Ret Tryz.prog 143 #[.slice a n cap, .pointer (some ⟨m, 0, none⟩)] w fun v w' => v = .tuple #[.string (str (pText most bs).1), .int .i64 ((pText most bs).2.1 : Nat), .int .i64 (pText most bs).2.2] ∧ Fm [] w w' := by
  have hs := St.one (M := []) (q := false) hm (by simp)
  have hb := ppg_bound bs
  unfold pText
  refine Ret_enter Tryz.func143 rfl Tryz.ntmps143 (by simp) ?_
  refine CW_seq (fun K1 hK1 => ?_)
  refine CW_region ?_
  refine asp (.string _) rfl ?_
  refine asp (.int _ _) rfl ?_
  refine asp (.int _ _) rfl ?_
  refine WL_nil ?_
  refine hK1 _ _ ?_
  refine CW_seq (fun K2 hK2 => ?_)
  refine CW_region ?_
  refine mvp (.slice _ _ _) rfl ?_
  refine cll (Parse_ok a n cap bs _ hr hn (by omega)) ?_
  rintro _ w ⟨rfl, hf⟩
  replace hs := hs.call hf
  replace hr := hr.fm hf
  refine mvp (.tuple _) rfl ?_
  refine ext rfl rfl ?_
  refine ext rfl rfl ?_
  refine ext rfl rfl ?_
  refine asp (.int _ _) rfl ?_
  refine asp (.int _ _) rfl ?_
  refine asp (.int _ _) rfl ?_
  refine WL_nil ?_
  refine hK2 _ _ ?_
  refine CW_seq (fun K3 hK3 => ?_)
  refine CW_block ?_
  refine CW_seq (fun K4 hK4 => ?_)
  refine CW_region ?_
  refine mvp (.int _ _) rfl ?_
  refine neqW rfl rfl ?_
  refine asp (.bool _) rfl ?_
  refine WL_nil ?_
  refine hK4 _ _ ?_
  refine CW_cond rfl (fun hc15 => ?_) (fun hc15 => ?_)
  · skip
    refine CW_seq (fun K5 hK5 => ?_)
    refine CW_region ?_
    refine mvp (.int _ _) rfl ?_
    refine asp (.string _) rfl ?_
    refine asp (.int _ _) rfl ?_
    refine asp (.int _ _) rfl ?_
    refine WL_nil ?_
    refine hK5 _ _ ?_
    refine CW_ret ?_
    repeat (first | (with_reducible apply thenF_ret) | (with_reducible apply blockF_ret))
    try simp only [thenF, blockF, reduceIte]
    refine Post_r Tryz.results143 (.tmp rfl (.tmp rfl (.tmp rfl .nil))) ?_
    try simp only [ev_tmp, ev_const, upd_ap, Nat.reduceLT, Nat.reduceEqDiff, reduceIte]
    rw [if_pos (by simpa using hc15)]
    exact ⟨rfl, hs.fm⟩
  · skip
    refine CW_seq (fun K6 hK6 => ?_)
    refine CW_region ?_
    refine mvp (.int _ _) rfl ?_
    refine ld hs rfl rfl ?_
    refine minW rfl rfl ?_
    refine gtrW rfl rfl ?_
    refine asp (.bool _) rfl ?_
    refine WL_nil ?_
    refine hK6 _ _ ?_
    refine CW_cond rfl (fun hc19 => ?_) (fun hc19 => ?_)
    · skip
      refine CW_seq (fun K7 hK7 => ?_)
      refine CW_region ?_
      refine asp (.string _) rfl ?_
      refine asp (.int _ _) rfl ?_
      refine asp (.int _ _) rfl ?_
      refine WL_nil ?_
      refine hK7 _ _ ?_
      refine CW_ret ?_
      repeat (first | (with_reducible apply thenF_ret) | (with_reducible apply blockF_ret))
      try simp only [thenF, blockF, reduceIte]
      refine Post_r Tryz.results143 (.tmp rfl (.tmp rfl (.tmp rfl .nil))) ?_
      try simp only [ev_tmp, ev_const, upd_ap, Nat.reduceLT, Nat.reduceEqDiff, reduceIte]
      rw [if_neg (by simpa using hc15), if_pos (by simp at hc19; omega)]
      exact ⟨rfl, hs.fm⟩
    · skip
      refine CW_seq (fun K8 hK8 => ?_)
      refine CW_region ?_
      refine mvp (.int _ _) rfl ?_
      refine mvp (.slice _ _ _) rfl ?_
      refine lenW rfl ?_
      refine mvp (.int _ _) rfl ?_
      first | refine subI rfl rfl (by omega) ?_ | refine subW rfl rfl ?_
      refine gtrW rfl rfl ?_
      refine asp (.bool _) rfl ?_
      refine WL_nil ?_
      refine hK8 _ _ ?_
      refine CW_cond rfl (fun hc24 => ?_) (fun hc24 => ?_)
      · skip
        refine CW_seq (fun K9 hK9 => ?_)
        refine CW_region ?_
        refine asp (.string _) rfl ?_
        refine asp (.int _ _) rfl ?_
        refine asp (.int _ _) rfl ?_
        refine WL_nil ?_
        refine hK9 _ _ ?_
        refine CW_ret ?_
        repeat (first | (with_reducible apply thenF_ret) | (with_reducible apply blockF_ret))
        try simp only [thenF, blockF, reduceIte]
        refine Post_r Tryz.results143 (.tmp rfl (.tmp rfl (.tmp rfl .nil))) ?_
        try simp only [ev_tmp, ev_const, upd_ap, Nat.reduceLT, Nat.reduceEqDiff, reduceIte]
        rw [if_neg (by simpa using hc15), if_neg (by simp at hc19; omega), if_pos (by simp at hc24; omega)]
        exact ⟨rfl, hs.fm⟩
      · have h0 : (ppg bs).2.2 = 0 := by simpa using hc15
        have h3 : (ppg bs).1 + (ppg bs).2.1 ≤ bs.length := by simp at hc24; omega
        obtain ⟨b, off, rfl, _⟩ := hr.2 (by have := ppg_ne h0; simpa [bv] using this)
        refine CW_skip ?_
        refine hK3 _ _ ?_
        refine CW_seq (fun K10 hK10 => ?_)
        refine CW_region ?_
        refine mvp (.slice _ _ _) rfl ?_
        refine mvp (.int _ _) rfl ?_
        refine mvp (.int _ _) rfl ?_
        refine mvp (.int _ _) rfl ?_
        first | refine addI rfl rfl (by omega) ?_ | refine addW rfl rfl ?_
        refine slLH rfl rfl rfl (by omega) ?_
        refine WL_v (X_cvStr rfl (Rd_cut hr hn (by omega) (by omega) hc) (by simp; omega)) ?_
        refine mvp (.int _ _) rfl ?_
        refine mvp (.int _ _) rfl ?_
        first | refine addI rfl rfl (by omega) ?_ | refine addW rfl rfl ?_
        refine asp (.string _) rfl ?_
        refine asp (.int _ _) rfl ?_
        refine asp (.int _ _) rfl ?_
        refine WL_nil ?_
        refine hK10 _ _ ?_
        refine CW_ret ?_
        repeat (first | (with_reducible apply thenF_ret) | (with_reducible apply blockF_ret))
        try simp only [thenF, blockF, reduceIte]
        refine Post_r Tryz.results143 (.tmp rfl (.tmp rfl (.tmp rfl .nil))) ?_
        try simp only [ev_tmp, ev_const, upd_ap, Nat.reduceLT, Nat.reduceEqDiff, reduceIte]
        rw [if_neg (by simpa using hc15), if_neg (by simp at hc19; omega), if_neg (by omega)]
        rw [show (((ppg bs).2.1 : Int) + ((ppg bs).1 : Int)).toNat - ((ppg bs).2.1 : Int).toNat = (ppg bs).1 from by omega, Int.toNat_natCast]
        exact ⟨rfl, hs.fm⟩
end Go.Proofs.YtkbldndbofbkcaaGreatDoor
/- codec: the three instances of read. -/
namespace Go.Proofs.YtkbldndbofbkcaaGreatDoor
open Go Go.RowKit
attribute [local irreducible] WL CW DW Ret
theorem readN_ok (r g m most : Nat) (bs : List UInt8) (s : RS) (w : World) (hR : (eRd r g bs s).holds w) (hm : w.heap[m]? = some (Blk 3 [.int .i64 most])) (hmr : m ≠ r) :
    Ret Tryz.prog 137 #[.pointer (some ⟨r, 0, none⟩), .func (.func 138) #[] #[.pointer (some ⟨m, 0, none⟩)]] w fun v w' => v = .int .i64 (( (rstep 0 (pNum most) bs s).1 : Nat) : Int) ∧ (eRd r g bs (rstep 0 (pNum most) bs s).2).holds w' ∧ Fm [r] w w' := by
  obtain ⟨hne, ha, hb, cap, l, h1, h2, h3, h4, h5⟩ := hR
  have hs := St.two (M := [r]) (q := true) (r := false) h1 h2 hne (by simp) (by simp)
  have hq := (fun l => (pNum_bound most l).2) (bs.drop s.1)
  simp only [List.length_drop] at hq
  refine Ret_enter Tryz.func137 rfl Tryz.ntmps137 (by simp) ?_
  refine CW_seq (fun K1 hK1 => ?_)
  refine CW_region ?_
  refine asp (.int _ _) rfl ?_
  refine WL_nil ?_
  refine hK1 _ _ ?_
  refine CW_seq (fun K2 hK2 => ?_)
  refine CW_region ?_
  refine asp (.int _ _) rfl ?_
  refine WL_nil ?_
  refine hK2 _ _ ?_
  refine CW_seq (fun K3 hK3 => ?_)
  refine CW_seq (fun K4 hK4 => ?_)
  refine CW_region ?_
  refine mvp (.pointer _) rfl ?_
  refine eqnP rfl rfl ?_
  refine mvp (.bool _) rfl ?_
  refine WL_gyb (g := 11) rfl (by decide) rfl (rfl) ?_
  refine mvp (.pointer _) rfl ?_
  refine WL_gy (g := 11) rfl (by decide) rfl ?_
  refine nckW rfl ?_
  refine WL_gy (g := 11) rfl (by decide) rfl ?_
  refine fad rfl ?_
  refine WL_gy (g := 11) rfl (by decide) rfl ?_
  refine ld hs rfl rfl ?_
  refine WL_gy (g := 11) rfl (by decide) rfl ?_
  refine neqW rfl rfl ?_
  first | refine pkT rfl rfl ?_ | refine pkF rfl rfl ?_
  refine WL_nil ?_
  refine hK4 _ _ ?_
  refine CW_cond rfl (fun hc17 => ?_) (fun hc17 => ?_)
  · skip
    refine CW_seq (fun K5 hK5 => ?_)
    refine CW_region ?_
    refine mvp (.int _ _) rfl ?_
    refine asp (.int _ _) rfl ?_
    refine WL_nil ?_
    refine hK5 _ _ ?_
    refine CW_ret ?_
    repeat (first | (with_reducible apply thenF_ret) | (with_reducible apply blockF_ret))
    try simp only [thenF, blockF, reduceIte]
    refine Post_r Tryz.results137 (.tmp rfl .nil) ?_
    try simp only [ev_tmp, ev_const, upd_ap, Nat.reduceLT, Nat.reduceEqDiff, reduceIte]
    rw [rstep, if_pos (by simpa using hc17)]
    exact ⟨rfl, ⟨hne, ha, hb, cap, l, hs.get InB.h, hs.get InB.h, h3, h4, h5⟩, hs.fm⟩
  · skip
    refine CW_skip ?_
    refine hK3 _ _ ?_
    refine CW_seq (fun K6 hK6 => ?_)
    refine DW_sH hs 999 ?_
    intro w hs _
    refine DW_q hs 0 rfl (by kernel_rfl) (fun w' hw' => X_move rfl) ?_
    refine DW_q hs 1 rfl (by kernel_rfl) (fun w' hw' => X_move (v := (.pointer _)) rfl) ?_
    refine DW_q hs 2 rfl (by kernel_rfl) (fun w' hw' => X_nilCheckP rfl) ?_
    refine DW_q hs 3 rfl (by kernel_rfl) (fun w' hw' => X_fieldAddr rfl rfl) ?_
    refine DW_q hs 4 rfl (by kernel_rfl) (fun w' hw' => X_ldH hw' rfl rfl) ?_
    refine DW_q hs 5 rfl (by kernel_rfl) (fun w' hw' => X_move (v := (.pointer _)) rfl) ?_
    refine DW_q hs 6 rfl (by kernel_rfl) (fun w' hw' => X_nilCheckP rfl) ?_
    refine DW_q hs 7 rfl (by kernel_rfl) (fun w' hw' => X_fieldAddr rfl rfl) ?_
    refine DW_q hs 8 rfl (by kernel_rfl) (fun w' hw' => X_ldH hw' rfl rfl) ?_
    refine DW_q hs 9 rfl (by kernel_rfl) (fun w' hw' => X_slice_l rfl rfl (by omega) (by omega)) ?_
    refine DW_l 10 rfl (by kernel_rfl) ?_
    refine clv rfl (Num1_ok _ _ _ m most (bs.drop s.1) _ (rd_sub (hs.get InB.h) h3 h4 h5 ha) (by simp) (by simp; omega) (hs.fm.keep hm (by simpa using hmr))) ?_
    rintro _ w ⟨rfl, hf⟩
    replace hs := hs.call hf
    refine WL_nil ?_
    refine ⟨.inr hs.hold, ?_⟩
    refine DW_q hs 11 rfl (by kernel_rfl) (fun w' hw' => X_move (v := (.tuple _)) rfl) ?_
    refine DW_q hs 12 rfl (by kernel_rfl) (fun w' hw' => X_extract rfl rfl) ?_
    refine DW_q hs 13 rfl (by kernel_rfl) (fun w' hw' => X_extract rfl rfl) ?_
    refine DW_q hs 14 rfl (by kernel_rfl) (fun w' hw' => X_extract rfl rfl) ?_
    refine DW_q hs 15 rfl (by kernel_rfl) (fun w' hw' => X_assign (v := (.int _ _)) rfl) ?_
    refine DW_q hs 16 rfl (by kernel_rfl) (fun w' hw' => X_assign (v := (.int _ _)) rfl) ?_
    refine DW_q hs 17 rfl (by kernel_rfl) (fun w' hw' => X_assign (v := (.int _ _)) rfl) ?_
    refine DW_e (by kernel_rfl) ?_
    refine hK6 _ _ ?_
    refine CW_seq (fun K7 hK7 => ?_)
    refine CW_seq (fun K8 hK8 => ?_)
    refine CW_region ?_
    refine mvp (.int _ _) rfl ?_
    refine neqW rfl rfl ?_
    refine WL_nil ?_
    refine hK8 _ _ ?_
    refine CW_cond rfl (fun hc35 => ?_) (fun hc35 => ?_)
    · skip
      refine CW_seq (fun K9 hK9 => ?_)
      refine CW_region ?_
      refine mvp (.pointer _) rfl ?_
      refine mvp (.int _ _) rfl ?_
      refine nckW rfl ?_
      refine fad rfl ?_
      refine sto (.int _ _) hs rfl rfl rfl rfl (by simp) rfl ?_
      intro w hs _
      refine WL_nil ?_
      refine hK9 _ _ ?_
      refine CW_seq (fun K10 hK10 => ?_)
      refine CW_region ?_
      refine mvp (.int _ _) rfl ?_
      refine asp (.int _ _) rfl ?_
      refine WL_nil ?_
      refine hK10 _ _ ?_
      refine CW_ret ?_
      repeat (first | (with_reducible apply thenF_ret) | (with_reducible apply blockF_ret))
      try simp only [thenF, blockF, reduceIte]
      refine Post_r Tryz.results137 (.tmp rfl .nil) ?_
      try simp only [ev_tmp, ev_const, upd_ap, Nat.reduceLT, Nat.reduceEqDiff, reduceIte]
      rw [rstep, if_neg (by simpa using hc17), if_pos (by simpa using hc35)]
      exact ⟨rfl, ⟨hne, ha, hb, cap, l, hs.get InB.h, hs.get InB.h, h3, h4, h5⟩, hs.fm⟩
    · skip
      refine CW_skip ?_
      refine hK7 _ _ ?_
      refine CW_seq (fun K11 hK11 => ?_)
      refine CW_region ?_
      refine mvp (.pointer _) rfl ?_
      refine nckW rfl ?_
      refine fad rfl ?_
      refine ld hs rfl rfl ?_
      refine mvp (.int _ _) rfl ?_
      first | refine addI rfl rfl (by omega) ?_ | refine addW rfl rfl ?_
      refine nckW rfl ?_
      refine fad rfl ?_
      refine sto (.int _ _) hs rfl rfl rfl rfl (by simp) rfl ?_
      intro w hs _
      refine WL_nil ?_
      refine hK11 _ _ ?_
      refine CW_seq (fun K12 hK12 => ?_)
      refine CW_region ?_
      refine mvp (.int _ _) rfl ?_
      refine asp (.int _ _) rfl ?_
      refine WL_nil ?_
      refine hK12 _ _ ?_
      refine CW_ret ?_
      repeat (first | (with_reducible apply thenF_ret) | (with_reducible apply blockF_ret))
      try simp only [thenF, blockF, reduceIte]
      refine Post_r Tryz.results137 (.tmp rfl .nil) ?_
      try simp only [ev_tmp, ev_const, upd_ap, Nat.reduceLT, Nat.reduceEqDiff, reduceIte]
      rw [rstep, if_neg (by simpa using hc17), if_neg (by simpa using hc35)]
      have he : s.2 = 0 := by simpa using hc17
      have hst := hs.get (b := r) InB.h
      refine ⟨rfl, ⟨hne, ?_, hb, cap, l, ?_, hs.get InB.h, h3, h4, h5⟩, hs.fm⟩
      · show s.1 + _ ≤ _
        omega
      · rw [he] at hst
        exact hst
theorem readB_ok (r g : Nat) (bs : List UInt8) (s : RS) (w : World) (hR : (eRd r g bs s).holds w) :
    Ret Tryz.prog 140 #[.pointer (some ⟨r, 0, none⟩), .func (.func 141) #[] #[]] w fun v w' => v = .bool ( (rstep false (pFlag) bs s).1) ∧ (eRd r g bs (rstep false (pFlag) bs s).2).holds w' ∧ Fm [r] w w' := by
  obtain ⟨hne, ha, hb, cap, l, h1, h2, h3, h4, h5⟩ := hR
  have hs := St.two (M := [r]) (q := true) (r := false) h1 h2 hne (by simp) (by simp)
  have hq := pFlag_bound (bs.drop s.1)
  simp only [List.length_drop] at hq
  refine Ret_enter Tryz.func140 rfl Tryz.ntmps140 (by simp) ?_
  refine CW_seq (fun K1 hK1 => ?_)
  refine CW_region ?_
  refine asp (.bool _) rfl ?_
  refine WL_nil ?_
  refine hK1 _ _ ?_
  refine CW_seq (fun K2 hK2 => ?_)
  refine CW_region ?_
  refine asp (.bool _) rfl ?_
  refine WL_nil ?_
  refine hK2 _ _ ?_
  refine CW_seq (fun K3 hK3 => ?_)
  refine CW_seq (fun K4 hK4 => ?_)
  refine CW_region ?_
  refine mvp (.pointer _) rfl ?_
  refine eqnP rfl rfl ?_
  refine mvp (.bool _) rfl ?_
  refine WL_gyb (g := 11) rfl (by decide) rfl (rfl) ?_
  refine mvp (.pointer _) rfl ?_
  refine WL_gy (g := 11) rfl (by decide) rfl ?_
  refine nckW rfl ?_
  refine WL_gy (g := 11) rfl (by decide) rfl ?_
  refine fad rfl ?_
  refine WL_gy (g := 11) rfl (by decide) rfl ?_
  refine ld hs rfl rfl ?_
  refine WL_gy (g := 11) rfl (by decide) rfl ?_
  refine neqW rfl rfl ?_
  first | refine pkT rfl rfl ?_ | refine pkF rfl rfl ?_
  refine WL_nil ?_
  refine hK4 _ _ ?_
  refine CW_cond rfl (fun hc17 => ?_) (fun hc17 => ?_)
  · skip
    refine CW_seq (fun K5 hK5 => ?_)
    refine CW_region ?_
    refine mvp (.bool _) rfl ?_
    refine asp (.bool _) rfl ?_
    refine WL_nil ?_
    refine hK5 _ _ ?_
    refine CW_ret ?_
    repeat (first | (with_reducible apply thenF_ret) | (with_reducible apply blockF_ret))
    try simp only [thenF, blockF, reduceIte]
    refine Post_r Tryz.results140 (.tmp rfl .nil) ?_
    try simp only [ev_tmp, ev_const, upd_ap, Nat.reduceLT, Nat.reduceEqDiff, reduceIte]
    rw [rstep, if_pos (by simpa using hc17)]
    exact ⟨rfl, ⟨hne, ha, hb, cap, l, hs.get InB.h, hs.get InB.h, h3, h4, h5⟩, hs.fm⟩
  · skip
    refine CW_skip ?_
    refine hK3 _ _ ?_
    refine CW_seq (fun K6 hK6 => ?_)
    refine DW_sH hs 999 ?_
    intro w hs _
    refine DW_q hs 0 rfl (by kernel_rfl) (fun w' hw' => X_move rfl) ?_
    refine DW_q hs 1 rfl (by kernel_rfl) (fun w' hw' => X_move (v := (.pointer _)) rfl) ?_
    refine DW_q hs 2 rfl (by kernel_rfl) (fun w' hw' => X_nilCheckP rfl) ?_
    refine DW_q hs 3 rfl (by kernel_rfl) (fun w' hw' => X_fieldAddr rfl rfl) ?_
    refine DW_q hs 4 rfl (by kernel_rfl) (fun w' hw' => X_ldH hw' rfl rfl) ?_
    refine DW_q hs 5 rfl (by kernel_rfl) (fun w' hw' => X_move (v := (.pointer _)) rfl) ?_
    refine DW_q hs 6 rfl (by kernel_rfl) (fun w' hw' => X_nilCheckP rfl) ?_
    refine DW_q hs 7 rfl (by kernel_rfl) (fun w' hw' => X_fieldAddr rfl rfl) ?_
    refine DW_q hs 8 rfl (by kernel_rfl) (fun w' hw' => X_ldH hw' rfl rfl) ?_
    refine DW_q hs 9 rfl (by kernel_rfl) (fun w' hw' => X_slice_l rfl rfl (by omega) (by omega)) ?_
    refine DW_l 10 rfl (by kernel_rfl) ?_
    refine clv rfl (Flag1_ok _ _ _ (bs.drop s.1) _ (rd_sub (hs.get InB.h) h3 h4 h5 ha) (by simp)) ?_
    rintro _ w ⟨rfl, hf⟩
    replace hs := hs.call hf
    refine WL_nil ?_
    refine ⟨.inr hs.hold, ?_⟩
    refine DW_q hs 11 rfl (by kernel_rfl) (fun w' hw' => X_move (v := (.tuple _)) rfl) ?_
    refine DW_q hs 12 rfl (by kernel_rfl) (fun w' hw' => X_extract rfl rfl) ?_
    refine DW_q hs 13 rfl (by kernel_rfl) (fun w' hw' => X_extract rfl rfl) ?_
    refine DW_q hs 14 rfl (by kernel_rfl) (fun w' hw' => X_extract rfl rfl) ?_
    refine DW_q hs 15 rfl (by kernel_rfl) (fun w' hw' => X_assign (v := (.bool _)) rfl) ?_
    refine DW_q hs 16 rfl (by kernel_rfl) (fun w' hw' => X_assign (v := (.int _ _)) rfl) ?_
    refine DW_q hs 17 rfl (by kernel_rfl) (fun w' hw' => X_assign (v := (.int _ _)) rfl) ?_
    refine DW_e (by kernel_rfl) ?_
    refine hK6 _ _ ?_
    refine CW_seq (fun K7 hK7 => ?_)
    refine CW_seq (fun K8 hK8 => ?_)
    refine CW_region ?_
    refine mvp (.int _ _) rfl ?_
    refine neqW rfl rfl ?_
    refine WL_nil ?_
    refine hK8 _ _ ?_
    refine CW_cond rfl (fun hc35 => ?_) (fun hc35 => ?_)
    · skip
      refine CW_seq (fun K9 hK9 => ?_)
      refine CW_region ?_
      refine mvp (.pointer _) rfl ?_
      refine mvp (.int _ _) rfl ?_
      refine nckW rfl ?_
      refine fad rfl ?_
      refine sto (.int _ _) hs rfl rfl rfl rfl (by simp) rfl ?_
      intro w hs _
      refine WL_nil ?_
      refine hK9 _ _ ?_
      refine CW_seq (fun K10 hK10 => ?_)
      refine CW_region ?_
      refine mvp (.bool _) rfl ?_
      refine asp (.bool _) rfl ?_
      refine WL_nil ?_
      refine hK10 _ _ ?_
      refine CW_ret ?_
      repeat (first | (with_reducible apply thenF_ret) | (with_reducible apply blockF_ret))
      try simp only [thenF, blockF, reduceIte]
      refine Post_r Tryz.results140 (.tmp rfl .nil) ?_
      try simp only [ev_tmp, ev_const, upd_ap, Nat.reduceLT, Nat.reduceEqDiff, reduceIte]
      rw [rstep, if_neg (by simpa using hc17), if_pos (by simpa using hc35)]
      exact ⟨rfl, ⟨hne, ha, hb, cap, l, hs.get InB.h, hs.get InB.h, h3, h4, h5⟩, hs.fm⟩
    · skip
      refine CW_skip ?_
      refine hK7 _ _ ?_
      refine CW_seq (fun K11 hK11 => ?_)
      refine CW_region ?_
      refine mvp (.pointer _) rfl ?_
      refine nckW rfl ?_
      refine fad rfl ?_
      refine ld hs rfl rfl ?_
      refine mvp (.int _ _) rfl ?_
      first | refine addI rfl rfl (by omega) ?_ | refine addW rfl rfl ?_
      refine nckW rfl ?_
      refine fad rfl ?_
      refine sto (.int _ _) hs rfl rfl rfl rfl (by simp) rfl ?_
      intro w hs _
      refine WL_nil ?_
      refine hK11 _ _ ?_
      refine CW_seq (fun K12 hK12 => ?_)
      refine CW_region ?_
      refine mvp (.bool _) rfl ?_
      refine asp (.bool _) rfl ?_
      refine WL_nil ?_
      refine hK12 _ _ ?_
      refine CW_ret ?_
      repeat (first | (with_reducible apply thenF_ret) | (with_reducible apply blockF_ret))
      try simp only [thenF, blockF, reduceIte]
      refine Post_r Tryz.results140 (.tmp rfl .nil) ?_
      try simp only [ev_tmp, ev_const, upd_ap, Nat.reduceLT, Nat.reduceEqDiff, reduceIte]
      rw [rstep, if_neg (by simpa using hc17), if_neg (by simpa using hc35)]
      have he : s.2 = 0 := by simpa using hc17
      have hst := hs.get (b := r) InB.h
      refine ⟨rfl, ⟨hne, ?_, hb, cap, l, ?_, hs.get InB.h, h3, h4, h5⟩, hs.fm⟩
      · show s.1 + _ ≤ _
        omega
      · rw [he] at hst
        exact hst
theorem readT_ok (r g m most : Nat) (bs : List UInt8) (s : RS) (w : World) (hR : (eRd r g bs s).holds w) (hm : w.heap[m]? = some (Blk 3 [.int .i64 most])) (hmr : m ≠ r) :
    Ret Tryz.prog 142 #[.pointer (some ⟨r, 0, none⟩), .func (.func 143) #[] #[.pointer (some ⟨m, 0, none⟩)]] w fun v w' => v = .string (str ( (rstep [] (pText most) bs s).1)) ∧ (eRd r g bs (rstep [] (pText most) bs s).2).holds w' ∧ Fm [r] w w' := by
  obtain ⟨hne, ha, hb, cap, l, h1, h2, h3, h4, h5⟩ := hR
  have hs := St.two (M := [r]) (q := true) (r := false) h1 h2 hne (by simp) (by simp)
  have hq := (pText_bound most) (bs.drop s.1)
  simp only [List.length_drop] at hq
  refine Ret_enter Tryz.func142 rfl Tryz.ntmps142 (by simp) ?_
  refine CW_seq (fun K1 hK1 => ?_)
  refine CW_region ?_
  refine asp (.string _) rfl ?_
  refine WL_nil ?_
  refine hK1 _ _ ?_
  refine CW_seq (fun K2 hK2 => ?_)
  refine CW_region ?_
  refine asp (.string _) rfl ?_
  refine WL_nil ?_
  refine hK2 _ _ ?_
  refine CW_seq (fun K3 hK3 => ?_)
  refine CW_seq (fun K4 hK4 => ?_)
  refine CW_region ?_
  refine mvp (.pointer _) rfl ?_
  refine eqnP rfl rfl ?_
  refine mvp (.bool _) rfl ?_
  refine WL_gyb (g := 11) rfl (by decide) rfl (rfl) ?_
  refine mvp (.pointer _) rfl ?_
  refine WL_gy (g := 11) rfl (by decide) rfl ?_
  refine nckW rfl ?_
  refine WL_gy (g := 11) rfl (by decide) rfl ?_
  refine fad rfl ?_
  refine WL_gy (g := 11) rfl (by decide) rfl ?_
  refine ld hs rfl rfl ?_
  refine WL_gy (g := 11) rfl (by decide) rfl ?_
  refine neqW rfl rfl ?_
  first | refine pkT rfl rfl ?_ | refine pkF rfl rfl ?_
  refine WL_nil ?_
  refine hK4 _ _ ?_
  refine CW_cond rfl (fun hc17 => ?_) (fun hc17 => ?_)
  · skip
    refine CW_seq (fun K5 hK5 => ?_)
    refine CW_region ?_
    refine mvp (.string _) rfl ?_
    refine asp (.string _) rfl ?_
    refine WL_nil ?_
    refine hK5 _ _ ?_
    refine CW_ret ?_
    repeat (first | (with_reducible apply thenF_ret) | (with_reducible apply blockF_ret))
    try simp only [thenF, blockF, reduceIte]
    refine Post_r Tryz.results142 (.tmp rfl .nil) ?_
    try simp only [ev_tmp, ev_const, upd_ap, Nat.reduceLT, Nat.reduceEqDiff, reduceIte]
    rw [rstep, if_pos (by simpa using hc17)]
    exact ⟨rfl, ⟨hne, ha, hb, cap, l, hs.get InB.h, hs.get InB.h, h3, h4, h5⟩, hs.fm⟩
  · skip
    refine CW_skip ?_
    refine hK3 _ _ ?_
    refine CW_seq (fun K6 hK6 => ?_)
    refine DW_sH hs 999 ?_
    intro w hs _
    refine DW_q hs 0 rfl (by kernel_rfl) (fun w' hw' => X_move rfl) ?_
    refine DW_q hs 1 rfl (by kernel_rfl) (fun w' hw' => X_move (v := (.pointer _)) rfl) ?_
    refine DW_q hs 2 rfl (by kernel_rfl) (fun w' hw' => X_nilCheckP rfl) ?_
    refine DW_q hs 3 rfl (by kernel_rfl) (fun w' hw' => X_fieldAddr rfl rfl) ?_
    refine DW_q hs 4 rfl (by kernel_rfl) (fun w' hw' => X_ldH hw' rfl rfl) ?_
    refine DW_q hs 5 rfl (by kernel_rfl) (fun w' hw' => X_move (v := (.pointer _)) rfl) ?_
    refine DW_q hs 6 rfl (by kernel_rfl) (fun w' hw' => X_nilCheckP rfl) ?_
    refine DW_q hs 7 rfl (by kernel_rfl) (fun w' hw' => X_fieldAddr rfl rfl) ?_
    refine DW_q hs 8 rfl (by kernel_rfl) (fun w' hw' => X_ldH hw' rfl rfl) ?_
    refine DW_q hs 9 rfl (by kernel_rfl) (fun w' hw' => X_slice_l rfl rfl (by omega) (by omega)) ?_
    refine DW_l 10 rfl (by kernel_rfl) ?_
    refine clv rfl (Text1_ok _ _ _ m most (bs.drop s.1) _ (rd_sub (hs.get InB.h) h3 h4 h5 ha) (by simp) (by simp; omega) (by omega) (hs.fm.keep hm (by simpa using hmr))) ?_
    rintro _ w ⟨rfl, hf⟩
    replace hs := hs.call hf
    refine WL_nil ?_
    refine ⟨.inr hs.hold, ?_⟩
    refine DW_q hs 11 rfl (by kernel_rfl) (fun w' hw' => X_move (v := (.tuple _)) rfl) ?_
    refine DW_q hs 12 rfl (by kernel_rfl) (fun w' hw' => X_extract rfl rfl) ?_
    refine DW_q hs 13 rfl (by kernel_rfl) (fun w' hw' => X_extract rfl rfl) ?_
    refine DW_q hs 14 rfl (by kernel_rfl) (fun w' hw' => X_extract rfl rfl) ?_
    refine DW_q hs 15 rfl (by kernel_rfl) (fun w' hw' => X_assign (v := (.string _)) rfl) ?_
    refine DW_q hs 16 rfl (by kernel_rfl) (fun w' hw' => X_assign (v := (.int _ _)) rfl) ?_
    refine DW_q hs 17 rfl (by kernel_rfl) (fun w' hw' => X_assign (v := (.int _ _)) rfl) ?_
    refine DW_e (by kernel_rfl) ?_
    refine hK6 _ _ ?_
    refine CW_seq (fun K7 hK7 => ?_)
    refine CW_seq (fun K8 hK8 => ?_)
    refine CW_region ?_
    refine mvp (.int _ _) rfl ?_
    refine neqW rfl rfl ?_
    refine WL_nil ?_
    refine hK8 _ _ ?_
    refine CW_cond rfl (fun hc35 => ?_) (fun hc35 => ?_)
    · skip
      refine CW_seq (fun K9 hK9 => ?_)
      refine CW_region ?_
      refine mvp (.pointer _) rfl ?_
      refine mvp (.int _ _) rfl ?_
      refine nckW rfl ?_
      refine fad rfl ?_
      refine sto (.int _ _) hs rfl rfl rfl rfl (by simp) rfl ?_
      intro w hs _
      refine WL_nil ?_
      refine hK9 _ _ ?_
      refine CW_seq (fun K10 hK10 => ?_)
      refine CW_region ?_
      refine mvp (.string _) rfl ?_
      refine asp (.string _) rfl ?_
      refine WL_nil ?_
      refine hK10 _ _ ?_
      refine CW_ret ?_
      repeat (first | (with_reducible apply thenF_ret) | (with_reducible apply blockF_ret))
      try simp only [thenF, blockF, reduceIte]
      refine Post_r Tryz.results142 (.tmp rfl .nil) ?_
      try simp only [ev_tmp, ev_const, upd_ap, Nat.reduceLT, Nat.reduceEqDiff, reduceIte]
      rw [rstep, if_neg (by simpa using hc17), if_pos (by simpa using hc35)]
      exact ⟨rfl, ⟨hne, ha, hb, cap, l, hs.get InB.h, hs.get InB.h, h3, h4, h5⟩, hs.fm⟩
    · skip
      refine CW_skip ?_
      refine hK7 _ _ ?_
      refine CW_seq (fun K11 hK11 => ?_)
      refine CW_region ?_
      refine mvp (.pointer _) rfl ?_
      refine nckW rfl ?_
      refine fad rfl ?_
      refine ld hs rfl rfl ?_
      refine mvp (.int _ _) rfl ?_
      first | refine addI rfl rfl (by omega) ?_ | refine addW rfl rfl ?_
      refine nckW rfl ?_
      refine fad rfl ?_
      refine sto (.int _ _) hs rfl rfl rfl rfl (by simp) rfl ?_
      intro w hs _
      refine WL_nil ?_
      refine hK11 _ _ ?_
      refine CW_seq (fun K12 hK12 => ?_)
      refine CW_region ?_
      refine mvp (.string _) rfl ?_
      refine asp (.string _) rfl ?_
      refine WL_nil ?_
      refine hK12 _ _ ?_
      refine CW_ret ?_
      repeat (first | (with_reducible apply thenF_ret) | (with_reducible apply blockF_ret))
      try simp only [thenF, blockF, reduceIte]
      refine Post_r Tryz.results142 (.tmp rfl .nil) ?_
      try simp only [ev_tmp, ev_const, upd_ap, Nat.reduceLT, Nat.reduceEqDiff, reduceIte]
      rw [rstep, if_neg (by simpa using hc17), if_neg (by simpa using hc35)]
      have he : s.2 = 0 := by simpa using hc17
      have hst := hs.get (b := r) InB.h
      refine ⟨rfl, ⟨hne, ?_, hb, cap, l, ?_, hs.get InB.h, h3, h4, h5⟩, hs.fm⟩
      · show s.1 + _ ≤ _
        omega
      · rw [he] at hst
        exact hst
end Go.Proofs.YtkbldndbofbkcaaGreatDoor
/- codec: the reader's methods. -/
namespace Go.Proofs.YtkbldndbofbkcaaGreatDoor
open Go Go.RowKit
attribute [local irreducible] WL CW DW Ret
/-- The step of a reader by each method. -/
def rN (most : Nat) (bs : List UInt8) (s : RS) : Nat × RS := rstep 0 (pNum most) bs s
def rB (bs : List UInt8) (s : RS) : Bool × RS := rstep false pFlag bs s
def rT (most : Nat) (bs : List UInt8) (s : RS) : List UInt8 × RS := rstep [] (pText most) bs s
def rClose (bs : List UInt8) (s : RS) : Int := if s.2 = 0 ∧ s.1 < bs.length then 5 else s.2
theorem RNumber_ok (r g most : Nat) (bs : List UInt8) (s : RS) (w : World) (hR : (eRd r g bs s).holds w) (hm : most < 9223372036854775808) :
    Ret Tryz.prog 70 #[.pointer (some ⟨r, 0, none⟩), .int .i64 most] w fun v w' => v = .int .i64 ((rN most bs s).1 : Nat) ∧ (eRd r g bs (rN most bs s).2).holds w' ∧ Fm [r] w w' := by
  have hs := St.init w [r]
  have hr : r < w.heap.size := (eRd r g bs s).lt hR r (by simp [eRd])
  refine Ret_enter Tryz.func70 rfl Tryz.ntmps70 (by simp) ?_
  refine CW_seq (fun K1 hK1 => ?_)
  refine CW_region ?_
  refine bx (.int _ _) hs rfl rfl ?_
  intro w g3 hs hg3 hf3
  refine asp (.int _ _) rfl ?_
  refine WL_nil ?_
  refine hK1 _ _ ?_
  refine CW_seq (fun K2 hK2 => ?_)
  refine CW_region ?_
  refine mvp (.pointer _) rfl ?_
  apply mkf
  refine cll (readN_ok r g _ most bs s _ ((eRd r g bs s).loc (fun b hb => hf3.block b ((eRd r g bs s).lt hR b hb) (by simp)) hR) (hs.get InB.h) (by omega)) ?_
  rintro _ w1 ⟨rfl, hR', hf⟩
  refine asp (.int _ _) rfl ?_
  refine WL_nil ?_
  refine hK2 _ _ ?_
  refine CW_ret ?_
  repeat (first | (with_reducible apply thenF_ret) | (with_reducible apply blockF_ret))
  try simp only [thenF, blockF, reduceIte]
  refine Post_r Tryz.results70 (.tmp rfl .nil) ?_
  try simp only [ev_tmp, ev_const, upd_ap, Nat.reduceLT, Nat.reduceEqDiff, reduceIte]
  exact ⟨rfl, hR', (hf3.mono (by simp)).trans hf (by simp)⟩
theorem RFlag_ok (r g : Nat) (bs : List UInt8) (s : RS) (w : World) (hR : (eRd r g bs s).holds w) :
    Ret Tryz.prog 71 #[.pointer (some ⟨r, 0, none⟩)] w fun v w' => v = .bool (rB bs s).1 ∧ (eRd r g bs (rB bs s).2).holds w' ∧ Fm [r] w w' := by
  have hs := St.init w [r]
  refine Ret_enter Tryz.func71 rfl Tryz.ntmps71 (by simp) ?_
  refine CW_seq (fun K1 hK1 => ?_)
  refine CW_region ?_
  refine asp (.bool _) rfl ?_
  refine WL_nil ?_
  refine hK1 _ _ ?_
  refine CW_seq (fun K2 hK2 => ?_)
  refine CW_region ?_
  refine mvp (.pointer _) rfl ?_
  refine cll (readB_ok r g bs s _ hR) ?_
  rintro _ w1 ⟨rfl, hR', hf⟩
  refine asp (.bool _) rfl ?_
  refine WL_nil ?_
  refine hK2 _ _ ?_
  refine CW_ret ?_
  repeat (first | (with_reducible apply thenF_ret) | (with_reducible apply blockF_ret))
  try simp only [thenF, blockF, reduceIte]
  refine Post_r Tryz.results71 (.tmp rfl .nil) ?_
  try simp only [ev_tmp, ev_const, upd_ap, Nat.reduceLT, Nat.reduceEqDiff, reduceIte]
  exact ⟨rfl, hR', hf⟩
theorem RText_ok (r g most : Nat) (bs : List UInt8) (s : RS) (w : World) (hR : (eRd r g bs s).holds w) (hm : most < 9223372036854775808) :
    Ret Tryz.prog 72 #[.pointer (some ⟨r, 0, none⟩), .int .i64 most] w fun v w' => v = .string (str (rT most bs s).1) ∧ (eRd r g bs (rT most bs s).2).holds w' ∧ Fm [r] w w' := by
  have hs := St.init w [r]
  have hr : r < w.heap.size := (eRd r g bs s).lt hR r (by simp [eRd])
  refine Ret_enter Tryz.func72 rfl Tryz.ntmps72 (by simp) ?_
  refine CW_seq (fun K1 hK1 => ?_)
  refine CW_region ?_
  refine bx (.int _ _) hs rfl rfl ?_
  intro w g3 hs hg3 hf3
  refine asp (.string _) rfl ?_
  refine WL_nil ?_
  refine hK1 _ _ ?_
  refine CW_seq (fun K2 hK2 => ?_)
  refine CW_region ?_
  refine mvp (.pointer _) rfl ?_
  apply mkf
  refine cll (readT_ok r g _ most bs s _ ((eRd r g bs s).loc (fun b hb => hf3.block b ((eRd r g bs s).lt hR b hb) (by simp)) hR) (hs.get InB.h) (by omega)) ?_
  rintro _ w1 ⟨rfl, hR', hf⟩
  refine asp (.string _) rfl ?_
  refine WL_nil ?_
  refine hK2 _ _ ?_
  refine CW_ret ?_
  repeat (first | (with_reducible apply thenF_ret) | (with_reducible apply blockF_ret))
  try simp only [thenF, blockF, reduceIte]
  refine Post_r Tryz.results72 (.tmp rfl .nil) ?_
  try simp only [ev_tmp, ev_const, upd_ap, Nat.reduceLT, Nat.reduceEqDiff, reduceIte]
  exact ⟨rfl, hR', (hf3.mono (by simp)).trans hf (by simp)⟩
theorem RRest_ok (r g : Nat) (bs : List UInt8) (s : RS) (w : World) (hR : (eRd r g bs s).holds w) :
    Ret Tryz.prog 144 #[.pointer (some ⟨r, 0, none⟩)] w fun v w' => v = .int .i64 ((bs.length : Int) - s.1) ∧ Fm [] w w' := by
  obtain ⟨hne, ha, hb, cap, l, h1, h2, h3, h4, h5⟩ := hR
  have hs := St.one (M := []) (q := false) h1 (by simp)
  refine Ret_enter Tryz.func144 rfl Tryz.ntmps144 (by simp) ?_
  refine CW_seq (fun K1 hK1 => ?_)
  refine CW_region ?_
  refine asp (.int _ _) rfl ?_
  refine WL_nil ?_
  refine hK1 _ _ ?_
  refine CW_seq (fun K2 hK2 => ?_)
  refine CW_seq (fun K3 hK3 => ?_)
  refine CW_region ?_
  refine mvp (.pointer _) rfl ?_
  refine eqnP rfl rfl ?_
  refine WL_nil ?_
  refine hK3 _ _ ?_
  refine CW_condF rfl (rfl) ?_
  refine CW_skip ?_
  refine hK2 _ _ ?_
  refine CW_seq (fun K4 hK4 => ?_)
  refine DW_sH hs 999 ?_
  intro w hs _
  refine DW_q hs 0 rfl (by kernel_rfl) (fun w' hw' => X_move (v := (.pointer _)) rfl) ?_
  refine DW_q hs 1 rfl (by kernel_rfl) (fun w' hw' => X_nilCheckP rfl) ?_
  refine DW_q hs 2 rfl (by kernel_rfl) (fun w' hw' => X_fieldAddr rfl rfl) ?_
  refine DW_q hs 3 rfl (by kernel_rfl) (fun w' hw' => X_ldH hw' rfl rfl) ?_
  refine DW_q hs 4 rfl (by kernel_rfl) (fun w' hw' => X_len rfl) ?_
  refine DW_q hs 5 rfl (by kernel_rfl) (fun w' hw' => X_move (v := (.pointer _)) rfl) ?_
  refine DW_q hs 6 rfl (by kernel_rfl) (fun w' hw' => X_nilCheckP rfl) ?_
  refine DW_q hs 7 rfl (by kernel_rfl) (fun w' hw' => X_fieldAddr rfl rfl) ?_
  refine DW_q hs 8 rfl (by kernel_rfl) (fun w' hw' => X_ldH hw' rfl rfl) ?_
  refine DW_q hs 9 rfl (by kernel_rfl) (fun w' hw' => X_subp rfl rfl (by omega) (by omega)) ?_
  refine DW_q hs 10 rfl (by kernel_rfl) (fun w' hw' => X_assign (v := (.int _ _)) rfl) ?_
  refine DW_e (by kernel_rfl) ?_
  refine hK4 _ _ ?_
  refine CW_ret ?_
  repeat (first | (with_reducible apply thenF_ret) | (with_reducible apply blockF_ret))
  try simp only [thenF, blockF, reduceIte]
  refine Post_r Tryz.results144 (.tmp rfl .nil) ?_
  try simp only [ev_tmp, ev_const, upd_ap, Nat.reduceLT, Nat.reduceEqDiff, reduceIte]
  exact ⟨by first | rfl | trivial, hs.fm⟩
theorem RClose_ok (r g : Nat) (bs : List UInt8) (s : RS) (w : World) (hR : (eRd r g bs s).holds w) :
    Ret Tryz.prog 73 #[.pointer (some ⟨r, 0, none⟩)] w fun v w' => v = .int .i64 (rClose bs s) ∧ Fm [] w w' := by
  have hR0 := hR
  obtain ⟨hne, ha, hb, cap, l, h1, h2, h3, h4, h5⟩ := hR
  have hs := St.one (M := []) (q := false) h1 (by simp)
  refine Ret_enter Tryz.func73 rfl Tryz.ntmps73 (by simp) ?_
  refine CW_seq (fun K1 hK1 => ?_)
  refine CW_region ?_
  refine asp (.int _ _) rfl ?_
  refine WL_nil ?_
  refine hK1 _ _ ?_
  refine CW_seq (fun K2 hK2 => ?_)
  refine CW_block ?_
  refine CW_seq (fun K3 hK3 => ?_)
  refine CW_region ?_
  refine mvp (.pointer _) rfl ?_
  refine eqnP rfl rfl ?_
  refine asp (.bool _) rfl ?_
  refine WL_nil ?_
  refine hK3 _ _ ?_
  refine CW_condF rfl (rfl) ?_
  refine CW_seq (fun K4 hK4 => ?_)
  refine CW_region ?_
  refine mvp (.pointer _) rfl ?_
  refine nckW rfl ?_
  refine fad rfl ?_
  refine ld hs rfl rfl ?_
  refine eqlW rfl rfl ?_
  refine mvp (.bool _) rfl ?_
  refine WL_g (g := 12) rfl (by decide) rfl (fun hg12 => ?_) (fun hg12 => ?_)
  · skip
    refine mvp (.pointer _) rfl ?_
    refine WL_gy (g := 12) rfl (by decide) rfl ?_
    refine cll (RRest_ok r g bs s _ hR0) ?_
    rintro _ w ⟨rfl, hf⟩
    replace hs := hs.call hf
    refine WL_gy (g := 12) rfl (by decide) rfl ?_
    refine gtrW rfl rfl ?_
    first | refine pkT rfl rfl ?_ | refine pkF rfl rfl ?_
    refine asp (.bool _) rfl ?_
    refine WL_nil ?_
    refine hK4 _ _ ?_
    refine CW_cond rfl (fun hc6 => ?_) (fun hc6 => ?_)
    · skip
      refine CW_seq (fun K5 hK5 => ?_)
      refine CW_region ?_
      refine asp (.int _ _) rfl ?_
      refine WL_nil ?_
      refine hK5 _ _ ?_
      refine CW_ret ?_
      repeat (first | (with_reducible apply thenF_ret) | (with_reducible apply blockF_ret))
      try simp only [thenF, blockF, reduceIte]
      refine Post_r Tryz.results73 (.tmp rfl .nil) ?_
      try simp only [ev_tmp, ev_const, upd_ap, Nat.reduceLT, Nat.reduceEqDiff, reduceIte]
      rw [rClose, if_pos ⟨by simpa using hg12, by simp at hc6; omega⟩]
      exact ⟨rfl, hs.fm⟩
    · skip
      refine CW_skip ?_
      refine hK2 _ _ ?_
      refine CW_seq (fun K6 hK6 => ?_)
      refine CW_region ?_
      refine mvp (.pointer _) rfl ?_
      refine nckW rfl ?_
      refine fad rfl ?_
      refine ld hs rfl rfl ?_
      refine asp (.int _ _) rfl ?_
      refine WL_nil ?_
      refine hK6 _ _ ?_
      refine CW_ret ?_
      repeat (first | (with_reducible apply thenF_ret) | (with_reducible apply blockF_ret))
      try simp only [thenF, blockF, reduceIte]
      refine Post_r Tryz.results73 (.tmp rfl .nil) ?_
      try simp only [ev_tmp, ev_const, upd_ap, Nat.reduceLT, Nat.reduceEqDiff, reduceIte]
      rw [rClose, if_neg (by first | (simp at hg12; exact fun h => hg12 h.1) | (simp at hc6; omega))]
      exact ⟨rfl, hs.fm⟩
  · skip
    refine WL_gn (g := 12) rfl (by decide) rfl ?_
    refine WL_gn (g := 12) rfl (by decide) rfl ?_
    first | refine pkT rfl rfl ?_ | refine pkF rfl rfl ?_
    refine asp (.bool _) rfl ?_
    refine WL_nil ?_
    refine hK4 _ _ ?_
    refine CW_condF rfl rfl ?_
    refine CW_skip ?_
    refine hK2 _ _ ?_
    refine CW_seq (fun K7 hK7 => ?_)
    refine CW_region ?_
    refine mvp (.pointer _) rfl ?_
    refine nckW rfl ?_
    refine fad rfl ?_
    refine ld hs rfl rfl ?_
    refine asp (.int _ _) rfl ?_
    refine WL_nil ?_
    refine hK7 _ _ ?_
    refine CW_ret ?_
    repeat (first | (with_reducible apply thenF_ret) | (with_reducible apply blockF_ret))
    try simp only [thenF, blockF, reduceIte]
    refine Post_r Tryz.results73 (.tmp rfl .nil) ?_
    try simp only [ev_tmp, ev_const, upd_ap, Nat.reduceLT, Nat.reduceEqDiff, reduceIte]
    rw [rClose, if_neg (by first | (simp at hg12; exact fun h => hg12 h.1) | (simp at hc6; omega))]
    exact ⟨rfl, hs.fm⟩
theorem NewReader_ok (a : Option Addr) (n cap : Nat) (bs : List UInt8) (w : World) (hr : Rd w a n 1 (bv bs)) (hn : n = bs.length) (hl : bs.length ≤ 140737488355328) (hnil : bs = [] → a = none → cap = 0) :
    Ret Tryz.prog 69 #[.slice a n cap] w fun v w' => ∃ r g, v = .pointer (some ⟨r, 0, none⟩) ∧ (eRd r g bs (0, 0)).holds w' ∧ w.heap.size ≤ r ∧ w.heap.size ≤ g ∧ Fm [] w w' := by
  have hs := St.init w []
  refine Ret_enter Tryz.func69 rfl Tryz.ntmps69 (by simp) ?_
  refine CW_seq (fun K1 hK1 => ?_)
  refine CW_region ?_
  refine asp (.pointer _) rfl ?_
  refine WL_nil ?_
  refine hK1 _ _ ?_
  refine CW_seq (fun K2 hK2 => ?_)
  refine CW_region ?_
  refine W_bslice hs .nil rfl (by simp) ?_
  intro w g3 hs hg3 hf3
  refine mvp (.slice _ _ _) rfl ?_
  replace hs := hs.toR (n := 0) (cap := 0) (size := 1) .here rfl (by omega) (by omega)
  refine W_append hs rfl rfl (hr.fm hs.fm) (fun h => hnil (by simpa [bv] using h)) (bv_oneCell bs) (by decide) (by rfl) (by omega) (by omega) ?_
  intro a2 c2 w hs hnn
  simp only [Nat.zero_add, Nat.zero_mul, List.take_nil, List.nil_append] at hs ⊢
  refine bld rfl ?_
  refine bx (.agg _) hs rfl rfl ?_
  intro w g7 hs hg7 hf7
  refine asp (.pointer _) rfl ?_
  refine WL_nil ?_
  refine hK2 _ _ ?_
  refine CW_ret ?_
  repeat (first | (with_reducible apply thenF_ret) | (with_reducible apply blockF_ret))
  try simp only [thenF, blockF, reduceIte]
  refine Post_r Tryz.results69 (.tmp rfl .nil) ?_
  try simp only [ev_tmp, ev_const, upd_ap, Nat.reduceLT, Nat.reduceEqDiff, reduceIte]
  obtain ⟨g, l, rfl, hs, ht, hl2, hc⟩ := hs.openN (a := a2) (.inr (fun h => by have := hnn h; cases this))
  subst hn
  exact ⟨g7, g, rfl, ⟨hs.ne (by simp [eB]) (by simp [eB]), Nat.zero_le _, by omega, c2, l, hs.get InB.h, hs.get InB.h, by simpa using ht, by simpa using hl2, hc⟩, hs.geB, hs.geB, hs.fm⟩
end Go.Proofs.YtkbldndbofbkcaaGreatDoor
/- Plain: the writer of values. -/
namespace Go.Proofs.YtkbldndbofbkcaaGreatDoor
open Go Go.RowKit
/-- The block of a slice's address. -/
def ab : Option Addr → List Nat
  | some a => [a.block]
  | none => []
theorem eR_fp (a : Option Addr) (n c E size m : Nat) (xs : List Value) : (eR (.slice a n c) E size m xs).fp = ab a := by cases a <;> rfl
/-- A writer in memory: block p, the bytes at a. -/
def eWr (p : Nat) (a : Option Addr) (bs : List UInt8) (e : Int) : Ent :=
  ⟨p :: ab a, true, fun w => p ∉ ab a ∧ ∃ cap, w.heap[p]? = some (Blk 210 [.slice a bs.length cap, .int .i64 e]) ∧ w.ownsRow 0 5 1 (.slice a bs.length cap) bs.length (bv bs),
    fun h k => by
      obtain ⟨k0, cap, k1, k2⟩ := k
      refine ⟨k0, cap, by rw [h p (by simp)]; exact k1, (eR (.slice a bs.length cap) 5 1 bs.length (bv bs)).loc (fun b hb => h b (List.mem_cons_of_mem _ ?_)) k2⟩
      rwa [eR_fp] at hb,
    fun h x hx => by
      obtain ⟨_, cap, k1, k2⟩ := h
      rcases List.mem_cons.1 hx with rfl | hx
      · exact heap_lt k1
      · exact (eR (.slice a bs.length cap) 5 1 bs.length (bv bs)).lt k2 x (by rwa [eR_fp])⟩
theorem eWr_fp (p : Nat) (a : Option Addr) (bs bs' : List UInt8) (e e' : Int) : (eWr p a bs e).fp = (eWr p a bs' e').fp := rfl
theorem eWr_open {p : Nat} {a : Option Addr} {bs : List UInt8} {e : Int} {w : World} (h : (eWr p a bs e).holds w) :
    ∃ cap, St w (eWr p a bs e).fp w [eB p true (Blk 210 [.slice a bs.length cap, .int .i64 e]), eR (.slice a bs.length cap) 5 1 bs.length (bv bs)] := by
  obtain ⟨k0, cap, k1, k2⟩ := h
  refine ⟨cap, ?_⟩
  refine ((St.init w _).put (e := eR (.slice a bs.length cap) 5 1 bs.length (bv bs)) k2 (by simp) (fun _ b hb => .inr ?_)).put (e := eB p true _) k1 ?_ (fun _ b hb => .inr ?_)
  · rw [eR_fp] at hb; exact List.mem_cons_of_mem _ hb
  · intro x hx b hb
    simp at hx; subst hx
    simp [eB] at hb; subst hb
    rw [eR_fp]; exact k0
  · simp [eB] at hb; subst hb; simp [eWr]
abbrev WS := List UInt8 × Int
/-- What is written into a writer. -/
def wr (s : WS) (e : Int) (out : List UInt8) : WS := if s.2 ≠ 0 then s else if e ≠ 0 then (s.1, e) else (s.1 ++ out, 0)
/-- What a method of the writer leaves. -/
def WrPost (p : Nat) (a : Option Addr) (s : WS) (w w' : World) : Prop :=
  ∃ a', (eWr p a' s.1 s.2).holds w' ∧ (∀ b ∈ (eWr p a' s.1 s.2).fp, b ∈ (eWr p a s.1 s.2).fp ∨ w.heap.size ≤ b) ∧ Fm (eWr p a s.1 s.2).fp w w'
theorem eWr_close {p : Nat} {a a' : Option Addr} {bs bs0 : List UInt8} {e e0 : Int} {w w' : World} {n cap : Nat} {H : List Ent} (hs : St w (eWr p a bs0 e0).fp w' (eB p true (Blk 210 [.slice a' n cap, .int .i64 e]) :: eR (.slice a' n cap) 5 1 n (bv bs) :: H)) (hn : n = bs.length) :
    WrPost p a (bs, e) w w' := by
  subst hn
  refine ⟨a', ⟨?_, cap, hs.get (.head _), hs.row (.tail _ (.head _))⟩, ?_, hs.fm⟩
  · intro hq
    exact (List.pairwise_cons.1 hs.sep).1 _ (.head _) p (by simp [eB]) (by rw [eR_fp]; exact hq)
  · intro b hb
    rcases List.mem_cons.1 hb with rfl | hb
    · left; simp [eWr]
    · exact (hs.own _ (.tail _ (.head _)) rfl b (by rw [eR_fp]; exact hb)).symm
/-- Parts that are written. -/
def PRd (w : World) (vs : List Value) (ps : List (List UInt8)) : Prop :=
  vs.length = ps.length ∧ ∀ i (h : i < ps.length), ∃ a c, vs[i]? = some (.slice a (ps[i]).length c) ∧ Rd w a (ps[i]).length 1 (bv ps[i]) ∧ (ps[i] = [] → a = none → c = 0)
theorem flatten_step (ps : List (List UInt8)) (i : Nat) (h : i < ps.length) : (ps.take (i + 1)).flatten = (ps.take i).flatten ++ ps[i] := by
  rw [List.take_add_one, List.flatten_append, List.getElem?_eq_getElem h]; simp
theorem flatten_le (ps : List (List UInt8)) (i : Nat) (h : i < ps.length) : (ps.take i).flatten.length + (ps[i]).length ≤ ps.flatten.length := by
  have h1 := flatten_step ps i h
  have h2 : ((ps.take (i + 1)).flatten ++ (ps.drop (i + 1)).flatten).length = ps.flatten.length := by rw [← List.flatten_append, List.take_append_drop]
  rw [h1] at h2
  simp only [List.length_append] at h2; omega
theorem WrPost.after {p : Nat} {a : Option Addr} {s : WS} {w0 w1 w2 : World} (h : WrPost p a s w1 w2) (hf : Fm (p :: ab a) w0 w1) : WrPost p a s w0 w2 := by
  obtain ⟨a', h1, h2, h3⟩ := h
  exact ⟨a', h1, fun b hb => (h2 b hb).imp id (Nat.le_trans hf.size), hf.trans h3 (fun _ hx _ => hx)⟩
theorem PRd_nil (w : World) : Rd w none 0 1 [] ∧ PRd w [] [] := ⟨⟨rfl, fun h => absurd rfl h⟩, rfl, fun i h => by simp at h⟩
theorem PRd_one {w : World} {a : Option Addr} {n c : Nat} {b : List UInt8} (h : Rd w a n 1 (bv b)) (hn : n = b.length) (hc : b = [] → a = none → c = 0) : PRd w [.slice a n c] [b] := by
  subst hn
  refine ⟨rfl, fun i hi => ?_⟩
  simp at hi; subst hi
  exact ⟨a, c, rfl, h, hc⟩
theorem PRd_two {w : World} {a a' : Option Addr} {n c n' c' : Nat} {b b' : List UInt8} (h : Rd w a n 1 (bv b)) (hn : n = b.length) (hc : b = [] → a = none → c = 0) (h' : Rd w a' n' 1 (bv b')) (hn' : n' = b'.length) (hc' : b' = [] → a' = none → c' = 0) : PRd w [.slice a n c, .slice a' n' c'] [b, b'] := by
  subst hn hn'
  refine ⟨rfl, fun i hi => ?_⟩
  simp at hi
  match i, hi with
  | 0, _ => exact ⟨a, c, rfl, h, hc⟩
  | 1, _ => exact ⟨a', c', rfl, h', hc'⟩
theorem vnat_pos (u : Nat) : 0 < (vnat u).length := vint_pos 9 u
theorem vnat_le (u : Nat) : (vnat u).length ≤ 10 := vint_length 10 u
/-- A number, a flag, a text that are written. -/
def wN (s : WS) (n : Int) : WS := if n < 0 then wr s 2 [] else wr s 0 (vnat n.toNat)
def wB (s : WS) (b : Bool) : WS := wr s 0 [if b then 1 else 0]
def wT (s : WS) (t : List UInt8) : WS := if 16777216 < t.length then wr s 5 [] else wr s 0 (vnat t.length ++ t)
end Go.Proofs.YtkbldndbofbkcaaGreatDoor
/- codec: the writer's write. -/
namespace Go.Proofs.YtkbldndbofbkcaaGreatDoor
open Go Go.RowKit
attribute [local irreducible] WL CW DW Ret
theorem write_ok (p : Nat) (a : Option Addr) (bs : List UInt8) (e0 e : Int) (pa : Option Addr) (np pc : Nat) (vs : List Value) (ps : List (List UInt8)) (w0 : World) (hW : (eWr p a bs e0).holds w0)
    (hp : ∀ w', Fm (eWr p a bs e0).fp w0 w' → Rd w' pa np 1 vs ∧ PRd w' vs ps) (hl : bs.length + ps.flatten.length ≤ 140737488355328) (hnp : np = ps.length) (hps : ps.length ≤ 9223372036854775807) :
    Ret Tryz.prog 145 #[.pointer (some ⟨p, 0, none⟩), .int .i64 e, .slice pa np pc] w0 fun v w' => v = .tuple #[] ∧ WrPost p a (wr (bs, e0) e ps.flatten) w0 w' := by
  obtain ⟨cap, hs⟩ := eWr_open hW
  have hlen : bs.length = (bs ++ (ps.take 0).flatten).length := by simp
  refine Ret_enter Tryz.func145 rfl Tryz.ntmps145 (by simp) ?_
  refine CW_seq (fun K1 hK1 => ?_)
  refine CW_seq (fun K2 hK2 => ?_)
  refine CW_region ?_
  refine mvp (.pointer _) rfl ?_
  refine eqnP rfl rfl ?_
  refine mvp (.bool _) rfl ?_
  refine WL_gyb (g := 10) rfl (by decide) rfl (rfl) ?_
  refine mvp (.pointer _) rfl ?_
  refine WL_gy (g := 10) rfl (by decide) rfl ?_
  refine nckW rfl ?_
  refine WL_gy (g := 10) rfl (by decide) rfl ?_
  refine fad rfl ?_
  refine WL_gy (g := 10) rfl (by decide) rfl ?_
  refine ld hs rfl rfl ?_
  refine WL_gy (g := 10) rfl (by decide) rfl ?_
  refine neqW rfl rfl ?_
  first | refine pkT rfl rfl ?_ | refine pkF rfl rfl ?_
  refine WL_nil ?_
  refine hK2 _ _ ?_
  refine CW_cond rfl (fun hc16 => ?_) (fun hc16 => ?_)
  · skip
    refine CW_ret ?_
    repeat (first | (with_reducible apply thenF_ret) | (with_reducible apply blockF_ret))
    try simp only [thenF, blockF, reduceIte]
    refine Post_r Tryz.results145 .nil ?_
    try simp only [ev_tmp, ev_const, upd_ap, Nat.reduceLT, Nat.reduceEqDiff, reduceIte]
    rw [wr, if_pos (by simpa using hc16)]
    exact ⟨by trivial, eWr_close hs rfl⟩
  · skip
    refine CW_skip ?_
    refine hK1 _ _ ?_
    refine CW_seq (fun K3 hK3 => ?_)
    refine CW_region ?_
    refine mvp (.pointer _) rfl ?_
    refine mvp (.int _ _) rfl ?_
    refine nckW rfl ?_
    refine fad rfl ?_
    refine sto (.int _ _) hs rfl rfl rfl rfl (by simp) rfl ?_
    intro w hs _
    refine WL_nil ?_
    refine hK3 _ _ ?_
    refine CW_seq (fun K4 hK4 => ?_)
    refine CW_seq (fun K5 hK5 => ?_)
    refine CW_region ?_
    refine mvp (.int _ _) rfl ?_
    refine neqW rfl rfl ?_
    refine WL_nil ?_
    refine hK5 _ _ ?_
    refine CW_cond rfl (fun hc22 => ?_) (fun hc22 => ?_)
    · skip
      refine CW_ret ?_
      repeat (first | (with_reducible apply thenF_ret) | (with_reducible apply blockF_ret))
      try simp only [thenF, blockF, reduceIte]
      refine Post_r Tryz.results145 .nil ?_
      try simp only [ev_tmp, ev_const, upd_ap, Nat.reduceLT, Nat.reduceEqDiff, reduceIte]
      rw [wr, if_neg (by simpa using hc16), if_pos (by simpa using hc22)]
      exact ⟨by trivial, eWr_close (by simpa [spl] using hs) rfl⟩
    · skip
      refine CW_skip ?_
      refine hK4 _ _ ?_
      refine CW_seq (fun K6 hK6 => ?_)
      refine CW_region ?_
      refine mvp (.slice _ _ _) rfl ?_
      refine lenW rfl ?_
      refine mvp (.int _ _) rfl ?_
      refine WL_nil ?_
      refine hK6 _ _ ?_
      refine CW_block ?_
      refine CW_loop (fun k f w' => ∃ (i n cp : Nat) (a' : Option Addr), k = ps.length - i ∧ i ≤ ps.length ∧ f 0 = .pointer (some ⟨p, 0, none⟩) ∧ f 23 = .slice pa np pc ∧ f 24 = .int .i64 np ∧ f 25 = .int .i64 i ∧ n = (bs ++ (ps.take i).flatten).length ∧ St w0 (eWr p a bs e0).fp w' [eB p true (Blk 210 [.slice a' n cp, .int .i64 0]), eR (.slice a' n cp) 5 1 n (bv (bs ++ (ps.take i).flatten))]) ps.length ?_ ?_
      · have he : e = 0 := by simpa using hc22
        subst he hnp
        exact ⟨0, bs.length, cap, a, by omega, by omega, rfl, rfl, rfl, rfl, by simp, by simpa [spl] using hs⟩
      · rintro k f w1 ⟨i, n, cp, a', rfl, hi, e0', e23, e24, e25, hn, hs⟩
        refine CW_kn (i := 0) e0' (CW_kn (i := 23) e23 (CW_kn (i := 24) e24 (CW_kn (i := 25) e25 ?_)))
        refine CW_seq (fun K7 hK7 => ?_)
        refine CW_region ?_
        refine lssW rfl rfl ?_
        refine WL_nil ?_
        refine hK7 _ _ ?_
        refine CW_seq (fun K8 hK8 => ?_)
        refine CW_cond rfl (fun hc26 => ?_) (fun hc26 => ?_)
        · have hi2 : i < ps.length := by simp at hc26; omega
          obtain ⟨hr, hvl, hv⟩ := hp _ hs.fm
          obtain ⟨b, off, rfl, hcell⟩ := hr.2 (by intro h; rw [h] at hvl; simp at hvl; omega)
          obtain ⟨sa, sc, hv1, hv2, hv3⟩ := hv i hi2
          refine CW_skip ?_
          refine hK8 _ _ ?_
          refine CW_seq (fun K9 hK9 => ?_)
          refine CW_block ?_
          refine CW_seq (fun K10 hK10 => ?_)
          refine CW_region ?_
          refine iad rfl rfl (by omega) ?_
          refine ldc (v := .slice sa (ps[i]).length sc) rfl (by first | exact hcell i _ hv1 | simpa using hcell i _ hv1) ?_
          refine asp (.slice _ _ _) rfl ?_
          refine WL_nil ?_
          refine hK10 _ _ ?_
          refine CW_region ?_
          refine mvp (.pointer _) rfl ?_
          refine mvp (.pointer _) rfl ?_
          refine nckW rfl ?_
          refine fad rfl ?_
          refine ld hs rfl rfl ?_
          refine mvp (.slice _ _ _) rfl ?_
          have hfl := flatten_le ps i hi2
          have hn' : n = bs.length + (ps.take i).flatten.length := by rw [hn, List.length_append]
          refine W_append hs rfl rfl hv2 (by simpa [bv] using hv3) (bv_oneCell _) (by decide) (by rfl) (by omega) (by omega) ?_
          intro a2 c2 w hs _
          refine nckW rfl ?_
          refine fad rfl ?_
          refine sto (.slice _ _ _) hs rfl rfl rfl rfl (by simp) rfl ?_
          intro w hs _
          refine WL_nil ?_
          refine hK9 _ _ ?_
          refine CW_region ?_
          first | refine addI rfl rfl (by omega) ?_ | refine addW rfl rfl ?_
          refine mvp (.int _ _) rfl ?_
          refine WL_nil ?_
          have hfs := flatten_step ps i hi2
          refine ⟨ps.length - (i + 1), by omega, i + 1, n + (ps[i]).length, c2, a2, rfl, by omega, rfl, rfl, rfl, rfl, by rw [hfs, ← List.append_assoc, List.length_append]; omega, ?_⟩
          rw [hfs, ← List.append_assoc, bv_append]
          simpa [spl] using hs
        · skip
          refine CW_exit ?_
          try simp only [thenF, blockF, reduceIte]
          refine Post_n Tryz.results145 .nil ?_
          try simp only [ev_tmp, ev_const, upd_ap, Nat.reduceLT, Nat.reduceEqDiff, reduceIte]
          have he : e = 0 := by simpa using hc22
          have hi2 : i = ps.length := by simp at hc26; omega
          rw [wr, if_neg (by simpa using hc16), if_neg (by simpa using hc22)]
          rw [hi2, List.take_length] at hs hn
          exact ⟨by trivial, eWr_close hs hn⟩
end Go.Proofs.YtkbldndbofbkcaaGreatDoor
/- codec: the writer's methods. -/
namespace Go.Proofs.YtkbldndbofbkcaaGreatDoor
open Go Go.RowKit
attribute [local irreducible] WL CW DW Ret
theorem WNumber_ok (p : Nat) (a : Option Addr) (s : WS) (n : Int) (w : World) (hW : (eWr p a s.1 s.2).holds w) (hn : n < 9223372036854775808) (hl : s.1.length ≤ 140737488355000) :
    Ret Tryz.prog 75 #[.pointer (some ⟨p, 0, none⟩), .int .i64 n] w fun v w' => v = .tuple #[] ∧ WrPost p a (wN s n) w w' := by
  have hs := St.ent hW
  refine Ret_enter Tryz.func75 rfl Tryz.ntmps75 (by simp) ?_
  refine CW_seq (fun K1 hK1 => ?_)
  refine CW_seq (fun K2 hK2 => ?_)
  refine CW_region ?_
  refine mvp (.int _ _) rfl ?_
  refine lssW rfl rfl ?_
  refine WL_nil ?_
  refine hK2 _ _ ?_
  refine CW_cond rfl (fun hc5 => ?_) (fun hc5 => ?_)
  · skip
    refine CW_seq (fun K3 hK3 => ?_)
    refine CW_region ?_
    refine mvp (.pointer _) rfl ?_
    refine cll (write_ok p a s.1 s.2 2 none 0 0 [] [] _ (hs.he _) (fun _ _ => PRd_nil _) (by simp; omega) rfl (by simp)) ?_
    rintro _ w ⟨rfl, hw⟩
    refine WL_nil ?_
    refine hK3 _ _ ?_
    refine CW_ret ?_
    repeat (first | (with_reducible apply thenF_ret) | (with_reducible apply blockF_ret))
    try simp only [thenF, blockF, reduceIte]
    refine Post_r Tryz.results75 .nil ?_
    try simp only [ev_tmp, ev_const, upd_ap, Nat.reduceLT, Nat.reduceEqDiff, reduceIte]
    have h5 : n < 0 := by simpa using hc5
    rw [wN, if_pos h5]
    exact ⟨by trivial, hw.after hs.fm⟩
  · skip
    refine CW_skip ?_
    refine hK1 _ _ ?_
    refine CW_region ?_
    refine mvp (.pointer _) rfl ?_
    refine mvp (.int _ _) rfl ?_
    refine cviW rfl ?_
    refine cll (natural_ok _ _ (by rw [u64_wrap _ (by simp at hc5; omega) (by omega)]; simp at hc5; omega) (by rw [u64_wrap _ (by simp at hc5; omega) (by omega)]; omega)) ?_
    rintro _ w ⟨hr, hf⟩
    rw [u64_wrap _ (by simp at hc5; omega) (by omega)] at hr
    obtain ⟨ra, rc, rfl⟩ := hr.form
    replace hs := hs.callR hf hr
    refine W_bslice hs (BS.sl rfl .nil) rfl (by simp) ?_
    intro w g12 hs hg12 hf12
    refine cll (write_ok p a s.1 s.2 0 _ _ _ [_] [vnat n.toNat] _ (hs.he _) (fun w' hf => ⟨hs.kpD (eWr p a s.1 s.2) hf (by simp) rfl, PRd_one (hs.kpR (eWr p a s.1 s.2) hf) rfl (fun h => absurd h (by have := vnat_pos n.toNat; intro h; rw [h] at this; simp at this))⟩) (by have := vnat_le n.toNat; simp; omega) rfl (by simp)) ?_
    rintro _ w ⟨rfl, hw⟩
    refine WL_nil ?_
    try simp only [thenF, blockF, reduceIte]
    refine Post_n Tryz.results75 .nil ?_
    try simp only [ev_tmp, ev_const, upd_ap, Nat.reduceLT, Nat.reduceEqDiff, reduceIte]
    have h5 : ¬ n < 0 := by simpa using hc5
    rw [wN, if_neg h5]
    exact ⟨by trivial, by simpa using hw.after hs.fm⟩
theorem WFlag_ok (p : Nat) (a : Option Addr) (s : WS) (b : Bool) (w : World) (hW : (eWr p a s.1 s.2).holds w) (hl : s.1.length ≤ 140737488355000) :
    Ret Tryz.prog 76 #[.pointer (some ⟨p, 0, none⟩), .bool b] w fun v w' => v = .tuple #[] ∧ WrPost p a (wB s b) w w' := by
  have hs := St.ent hW
  refine Ret_enter Tryz.func76 rfl Tryz.ntmps76 (by simp) ?_
  refine CW_seq (fun K1 hK1 => ?_)
  refine CW_region ?_
  refine mvp (.bool _) rfl ?_
  refine WL_nil ?_
  refine hK1 _ _ ?_
  refine CW_cond rfl (fun hc4 => ?_) (fun hc4 => ?_)
  · skip
    refine CW_region ?_
    refine mvp (.pointer _) rfl ?_
    refine W_bslice hs (BS.ii rfl .nil) rfl (by simp) ?_
    intro w g6 hs hg6 hf6
    refine W_bslice hs (BS.sl rfl .nil) rfl (by simp) ?_
    intro w g7 hs hg7 hf7
    refine cll (write_ok p a s.1 s.2 0 _ _ _ [_] [[1]] _ (hs.he _) (fun w' hf => ⟨hs.kpD (eWr p a s.1 s.2) hf (by simp) rfl, PRd_one (hs.kpD (eWr p a s.1 s.2) hf (by simp) rfl) rfl (fun h => by cases h)⟩) (by simp; omega) rfl (by simp)) ?_
    rintro _ w ⟨rfl, hw⟩
    refine WL_nil ?_
    try simp only [thenF, blockF, reduceIte]
    refine Post_n Tryz.results76 .nil ?_
    try simp only [ev_tmp, ev_const, upd_ap, Nat.reduceLT, Nat.reduceEqDiff, reduceIte]
    have h5 : b = _ := hc4
    subst h5
    exact ⟨by trivial, hw.after hs.fm⟩
  · skip
    refine CW_region ?_
    refine mvp (.pointer _) rfl ?_
    refine W_bslice hs (BS.ii rfl .nil) rfl (by simp) ?_
    intro w g10 hs hg10 hf10
    refine W_bslice hs (BS.sl rfl .nil) rfl (by simp) ?_
    intro w g11 hs hg11 hf11
    refine cll (write_ok p a s.1 s.2 0 _ _ _ [_] [[0]] _ (hs.he _) (fun w' hf => ⟨hs.kpD (eWr p a s.1 s.2) hf (by simp) rfl, PRd_one (hs.kpD (eWr p a s.1 s.2) hf (by simp) rfl) rfl (fun h => by cases h)⟩) (by simp; omega) rfl (by simp)) ?_
    rintro _ w ⟨rfl, hw⟩
    refine WL_nil ?_
    try simp only [thenF, blockF, reduceIte]
    refine Post_n Tryz.results76 .nil ?_
    try simp only [ev_tmp, ev_const, upd_ap, Nat.reduceLT, Nat.reduceEqDiff, reduceIte]
    have h5 : b = _ := hc4
    subst h5
    exact ⟨by trivial, hw.after hs.fm⟩
theorem WText_ok (p : Nat) (a : Option Addr) (s : WS) (t : ByteArray) (w : World) (hW : (eWr p a s.1 s.2).holds w) (hl : s.1.length + t.size ≤ 140737488355000) :
    Ret Tryz.prog 77 #[.pointer (some ⟨p, 0, none⟩), .string t] w fun v w' => v = .tuple #[] ∧ WrPost p a (wT s t.data.toList) w w' := by
  have hs := St.ent hW
  have ht : t.data.toList.length = t.size := by rw [Array.length_toList]; rfl
  refine Ret_enter Tryz.func77 rfl Tryz.ntmps77 (by simp) ?_
  refine CW_seq (fun K1 hK1 => ?_)
  refine CW_seq (fun K2 hK2 => ?_)
  refine CW_region ?_
  refine mvp (.string _) rfl ?_
  refine lenS rfl ?_
  refine gtrW rfl rfl ?_
  refine WL_nil ?_
  refine hK2 _ _ ?_
  refine CW_cond rfl (fun hc6 => ?_) (fun hc6 => ?_)
  · skip
    refine CW_seq (fun K3 hK3 => ?_)
    refine CW_region ?_
    refine mvp (.pointer _) rfl ?_
    refine cll (write_ok p a s.1 s.2 5 none 0 0 [] [] _ (hs.he _) (fun _ _ => PRd_nil _) (by simp; omega) rfl (by simp)) ?_
    rintro _ w ⟨rfl, hw⟩
    refine WL_nil ?_
    refine hK3 _ _ ?_
    refine CW_ret ?_
    repeat (first | (with_reducible apply thenF_ret) | (with_reducible apply blockF_ret))
    try simp only [thenF, blockF, reduceIte]
    refine Post_r Tryz.results77 .nil ?_
    try simp only [ev_tmp, ev_const, upd_ap, Nat.reduceLT, Nat.reduceEqDiff, reduceIte]
    have h5 : 16777216 < t.data.toList.length := by simp at hc6; omega
    rw [wT, if_pos h5]
    exact ⟨by trivial, hw.after hs.fm⟩
  · skip
    refine CW_skip ?_
    refine hK1 _ _ ?_
    refine CW_region ?_
    refine mvp (.pointer _) rfl ?_
    refine mvp (.string _) rfl ?_
    refine lenS rfl ?_
    refine cviW rfl ?_
    refine cll (natural_ok _ _ (by rw [u64_wrap _ (by omega) (by omega)]; omega) (by rw [u64_wrap _ (by omega) (by omega)]; omega)) ?_
    rintro _ w ⟨hr, hf⟩
    rw [u64_wrap _ (by omega) (by omega)] at hr
    obtain ⟨ra, rc, rfl⟩ := hr.form
    replace hs := hs.callR hf hr
    refine mvp (.string _) rfl ?_
    refine W_cvBytes hs rfl ?_
    intro w g15 cap15 zs15 k15 hs hg15 hf15 hcap15
    refine W_bslice hs (BS.sl rfl (BS.sl rfl .nil)) rfl (by simp) ?_
    intro w g16 hs hg16 hf16
    refine cll (write_ok p a s.1 s.2 0 _ _ _ [_, _] [vnat t.size, t.data.toList] _ (hs.he _) (fun w' hf => ⟨hs.kpD (eWr p a s.1 s.2) hf (by simp) rfl, PRd_two (hs.kpR (eWr p a s.1 s.2) hf) rfl (fun h => absurd h (by have := vnat_pos t.size; intro h; rw [h] at this; simp at this)) (hs.kpD (eWr p a s.1 s.2) hf (by rw [List.length_append, bv_length, ht]; omega) (by rw [subl_eq, List.drop_zero, List.take_append_of_le_length (by rw [bv_length, ht]; omega), List.take_of_length_le (by rw [bv_length, ht]; omega)])) ht.symm (fun _ h => by cases h)⟩) (by have := vnat_le t.size; simp; omega) rfl (by simp)) ?_
    rintro _ w ⟨rfl, hw⟩
    refine WL_nil ?_
    try simp only [thenF, blockF, reduceIte]
    refine Post_n Tryz.results77 .nil ?_
    try simp only [ev_tmp, ev_const, upd_ap, Nat.reduceLT, Nat.reduceEqDiff, reduceIte]
    have h5 : ¬ 16777216 < t.data.toList.length := by simp at hc6; omega
    rw [wT, if_neg h5, ht]
    exact ⟨by trivial, by simpa using hw.after hs.fm⟩
theorem NewWriter_ok (w : World) :
    Ret Tryz.prog 74 #[] w fun v w' => ∃ p, v = .pointer (some ⟨p, 0, none⟩) ∧ (eWr p none [] 0).holds w' ∧ w.heap.size ≤ p ∧ Fm [] w w' := by
  have hs := St.init w []
  refine Ret_enter Tryz.func74 rfl Tryz.ntmps74 (by simp) ?_
  refine CW_seq (fun K1 hK1 => ?_)
  refine CW_region ?_
  refine asp (.pointer _) rfl ?_
  refine WL_nil ?_
  refine hK1 _ _ ?_
  refine CW_seq (fun K2 hK2 => ?_)
  refine CW_region ?_
  refine bld rfl ?_
  refine bx (.agg _) hs rfl rfl ?_
  intro w g2 hs hg2 hf2
  refine asp (.pointer _) rfl ?_
  refine WL_nil ?_
  refine hK2 _ _ ?_
  refine CW_ret ?_
  repeat (first | (with_reducible apply thenF_ret) | (with_reducible apply blockF_ret))
  try simp only [thenF, blockF, reduceIte]
  refine Post_r Tryz.results74 (.tmp rfl .nil) ?_
  try simp only [ev_tmp, ev_const, upd_ap, Nat.reduceLT, Nat.reduceEqDiff, reduceIte]
  exact ⟨_, rfl, ⟨by simp [ab], 0, hs.get InB.h, World.ownsRow_nil _ _ _ _⟩, hs.geB, hs.fm⟩
theorem WBytes_ok (p : Nat) (a : Option Addr) (s : WS) (w : World) (hW : (eWr p a s.1 s.2).holds w) (hl : s.1.length ≤ 140737488355000) :
    Ret Tryz.prog 78 #[.pointer (some ⟨p, 0, none⟩)] w fun v w' => (if s.2 ≠ 0 then v = .tuple #[.slice none 0 0, .int .i64 s.2] else ∃ g c, v = .tuple #[.slice g s.1.length c, .int .i64 0] ∧ NewR w w' 5 1 s.1.length (.slice g s.1.length c) (bv s.1)) ∧ Fm [] w w' := by
  obtain ⟨k0, cap, k1, k2⟩ := hW
  have hs := St.one (M := []) (q := false) k1 (by simp)
  have hrd := Rd.of_row k2
  refine Ret_enter Tryz.func78 rfl Tryz.ntmps78 (by simp) ?_
  refine CW_seq (fun K1 hK1 => ?_)
  refine CW_region ?_
  refine asp (.slice _ _ _) rfl ?_
  refine asp (.int _ _) rfl ?_
  refine WL_nil ?_
  refine hK1 _ _ ?_
  refine CW_seq (fun K2 hK2 => ?_)
  refine CW_block ?_
  refine CW_seq (fun K3 hK3 => ?_)
  refine CW_region ?_
  refine mvp (.pointer _) rfl ?_
  refine eqnP rfl rfl ?_
  refine asp (.bool _) rfl ?_
  refine WL_nil ?_
  refine hK3 _ _ ?_
  refine CW_condF rfl (rfl) ?_
  refine CW_seq (fun K4 hK4 => ?_)
  refine CW_region ?_
  refine mvp (.pointer _) rfl ?_
  refine nckW rfl ?_
  refine fad rfl ?_
  refine ld hs rfl rfl ?_
  refine neqW rfl rfl ?_
  refine asp (.bool _) rfl ?_
  refine WL_nil ?_
  refine hK4 _ _ ?_
  refine CW_cond rfl (fun hc7 => ?_) (fun hc7 => ?_)
  · skip
    refine CW_seq (fun K5 hK5 => ?_)
    refine DW_sH hs 999 ?_
    intro w hs _
    refine DW_q hs 0 rfl (by kernel_rfl) (fun w' hw' => X_move (v := (.pointer _)) rfl) ?_
    refine DW_q hs 1 rfl (by kernel_rfl) (fun w' hw' => X_nilCheckP rfl) ?_
    refine DW_q hs 2 rfl (by kernel_rfl) (fun w' hw' => X_fieldAddr rfl rfl) ?_
    refine DW_q hs 3 rfl (by kernel_rfl) (fun w' hw' => X_ldH hw' rfl rfl) ?_
    refine DW_q hs 4 rfl (by kernel_rfl) (fun w' hw' => X_assign (v := (.slice _ _ _)) rfl) ?_
    refine DW_q hs 5 rfl (by kernel_rfl) (fun w' hw' => X_assign (v := (.int _ _)) rfl) ?_
    refine DW_e (by kernel_rfl) ?_
    refine hK5 _ _ ?_
    refine CW_ret ?_
    repeat (first | (with_reducible apply thenF_ret) | (with_reducible apply blockF_ret))
    try simp only [thenF, blockF, reduceIte]
    refine Post_r Tryz.results78 (.tmp rfl (.tmp rfl .nil)) ?_
    try simp only [ev_tmp, ev_const, upd_ap, Nat.reduceLT, Nat.reduceEqDiff, reduceIte]
    rw [if_pos (by simpa using hc7)]
    exact ⟨by trivial, hs.fm⟩
  · skip
    refine CW_skip ?_
    refine hK2 _ _ ?_
    refine CW_seq (fun K6 hK6 => ?_)
    refine CW_region ?_
    refine W_bslice hs .nil rfl (by simp) ?_
    intro w g17 hs hg17 hf17
    refine mvp (.pointer _) rfl ?_
    refine nckW rfl ?_
    refine fad rfl ?_
    refine ld hs rfl rfl ?_
    replace hs := hs.toR (n := 0) (cap := 0) (size := 1) .here rfl (by omega) (by omega)
    refine W_append hs rfl rfl (hrd.fm hs.fm) (fun h h2 => by rcases k2.2 with ⟨e1, e2⟩ | ⟨g, c, cur, hv, _⟩; (injection e1); (rw [h2] at hv; injection hv with hv; cases hv)) (bv_oneCell _) (by decide) (by rfl) (by omega) (by omega) ?_
    intro a2 c2 w hs _
    simp only [Nat.zero_add, Nat.zero_mul, List.take_nil, List.nil_append] at hs ⊢
    refine asp (.slice _ _ _) rfl ?_
    refine asp (.int _ _) rfl ?_
    refine WL_nil ?_
    refine hK6 _ _ ?_
    refine CW_ret ?_
    repeat (first | (with_reducible apply thenF_ret) | (with_reducible apply blockF_ret))
    try simp only [thenF, blockF, reduceIte]
    refine Post_r Tryz.results78 (.tmp rfl (.tmp rfl .nil)) ?_
    try simp only [ev_tmp, ev_const, upd_ap, Nat.reduceLT, Nat.reduceEqDiff, reduceIte]
    rw [if_neg (by simpa using hc7)]
    exact ⟨⟨_, _, rfl, hs.newR⟩, hs.fm⟩
end Go.Proofs.YtkbldndbofbkcaaGreatDoor
/- Plain: lineages. -/
namespace Go.Proofs.YtkbldndbofbkcaaGreatDoor
open Go Go.RowKit
theorem X_subE {P : Program} {N : Nat} {f : Fr} {w : World} {d : Nat} {T A B : TypeId} {p : String} {aft : Array Edge} {x y : Operand} {k : IntKind} {m n r : Int} (hx : ev N f x = .int k m) (hy : ev N f y = .int k n) (hr : k.wrap (m - n) = r) : Ex P N f w ⟨some d, .binOp .sub A x y B, T, p, aft, none⟩ (.int k r) w := by
  rw [← hr]; exact X_sub hx hy
theorem X_addE {P : Program} {N : Nat} {f : Fr} {w : World} {d : Nat} {T A B : TypeId} {p : String} {aft : Array Edge} {x y : Operand} {m n r : Int} (hx : ev N f x = .int .i64 m) (hy : ev N f y = .int .i64 n) (hr : m + n = r) (h : -9223372036854775808 ≤ r ∧ r ≤ 9223372036854775807) : Ex P N f w ⟨some d, .binOp .add A x y B, T, p, aft, none⟩ (.int .i64 r) w := by
  subst hr; exact X_addp hx hy h.1 h.2
theorem ssE {X : Cx} {P : Program} {N : Nat} {Q : Exit → Fr → World → Prop} {f : Fr} {w : World} {ops : Array Oper} {rest : List Oper} {d : Nat} {T A : TypeId} {p : String} {aft : Array Edge} {x y u : Operand} {k k' : IntKind} {lo hi : Int} {s : ByteArray} (t : List UInt8) [hA : UnE P A .string] (hx : ev N f x = .string s) (hy : ev N f y = .int k lo) (hu : ev N f u = .int k' hi) (h : 0 ≤ lo ∧ lo ≤ hi ∧ hi ≤ s.size) (hr : (s.data.toList.drop lo.toNat).take (hi.toNat - lo.toNat) = t)
    (K : WL X P N ops Q rest (upd f d (.string (str t))) w) : WL X P N ops Q (⟨some d, .slice A x (some y) (some u) none, T, p, aft, none⟩ :: rest) f w := by
  subst hr; exact ssLH hx hy hu h K
theorem YOp_it {P : Program} {l : Nat} {v : Value} {w : World} {Tq : Bool → Ent → World → Prop} (h : YieldAt Fence.wide 8 P l #[v] w (fun en W' => ∃ b e', en = .returned (.bool b) ∧ Tq b e' W')) : YOp P l v w (fun u w' => ∃ b e', u = .bool b ∧ Tq b e' w') :=
  YOp_of h fun en w' ⟨b, e', h1, h2⟩ => ⟨.bool b, h1, b, e', rfl, h2⟩
def isDig (c : UInt8) : Bool := decide (48 ≤ c.toNat ∧ c.toNat ≤ 57)
def dstep (n : Nat) (c : UInt8) : Nat := 10 * n + (c.toNat - 48)
def dval (l : List UInt8) : Nat := l.foldl dstep 0
/-- The digits at the beginning. -/
def dlen (l : List UInt8) : Nat := (l.takeWhile isDig).length
structure Pt where
  ord : Nat
  at_ : Nat
  e : Int
/-- The error of the part at the beginning of r (there being room for one). -/
def perr (r : List UInt8) : Int := if r = [] then 4 else if dlen r = 0 then 6 else if r.head? = some 48 then 3 else if 6 < dlen r then 2 else 0
def pts : Nat → Nat → List UInt8 → List Pt
  | 0, a, _ => [⟨0, a, 9⟩]
  | k + 1, a, r => if perr r ≠ 0 then [⟨0, a, perr r⟩] else ⟨dval (r.take (dlen r)), a, 0⟩ ::
      match r.drop (dlen r) with
      | [] => []
      | c :: r' => if c.toNat ≠ 46 then [⟨0, a + dlen r, 6⟩] else pts k (a + dlen r + 1) r'
def parts (bs : List UInt8) : List Pt := if bs = [] then [] else pts 8 0 bs
def lvalid (bs : List UInt8) : Bool := (parts bs).all fun p => p.e == 0
def lords (bs : List UInt8) : List Nat := if lvalid bs then (parts bs).map (·.ord) else []
theorem pts_len (k : Nat) : ∀ a r, (pts k a r).length ≤ k + 2 := by
  induction k with
  | zero => intro a r; simp [pts]
  | succ k ih =>
    intro a r
    rw [pts]
    split
    · simp
    · simp only [List.length_cons]
      split
      · simp
      · split
        · simp
        · have := ih (a + dlen r + 1) ‹_›; omega
theorem parts_len (bs : List UInt8) : (parts bs).length ≤ 10 := by
  unfold parts; split
  · simp
  · exact pts_len 8 0 bs
theorem dlen_le (l : List UInt8) : dlen l ≤ l.length := by unfold dlen; exact (List.takeWhile_prefix _).length_le
theorem dval_take_succ (l : List UInt8) (i : Nat) (c : UInt8) (h : l[i]? = some c) : dval (l.take (i + 1)) = dstep (dval (l.take i)) c := by
  unfold dval
  rw [List.take_add_one, h, List.foldl_append]; rfl
theorem dval_lt6 (l : List UInt8) (hd : ∀ c ∈ l, isDig c = true) : dval l < 10 ^ l.length := by
  have key : ∀ (l : List UInt8) (n : Nat), (∀ c ∈ l, isDig c = true) → l.foldl dstep n < (n + 1) * 10 ^ l.length := by
    intro l
    induction l with
    | nil => intro n _; simp
    | cons c l ih =>
      intro n hd
      have h := ih (dstep n c) (fun x hx => hd x (.tail _ hx))
      have hc := hd c (.head _)
      unfold isDig at hc
      simp at hc
      have h2 : dstep n c + 1 ≤ (n + 1) * 10 := by unfold dstep; omega
      have h3 : (dstep n c + 1) * 10 ^ l.length ≤ (n + 1) * 10 * 10 ^ l.length := Nat.mul_le_mul_right _ h2
      simp only [List.foldl_cons, List.length_cons]
      rw [Nat.pow_succ, Nat.mul_comm (10 ^ l.length) 10, ← Nat.mul_assoc]
      omega
  have := key l 0 hd
  simpa [dval] using this
theorem dval_take_lt (l : List UInt8) (hd : ∀ c ∈ l, isDig c = true) (i : Nat) (hi : i ≤ 6) : dval (l.take i) < 1000000 := by
  have := dval_lt6 (l.take i) (fun c hc => hd c (List.mem_of_mem_take hc))
  have h2 : 10 ^ (l.take i).length ≤ 10 ^ 6 := Nat.pow_le_pow_right (by decide) (by simp; omega)
  omega
theorem tw_dig (l : List UInt8) : ∀ i (h : i < dlen l), isDig (l[i]'(Nat.lt_of_lt_of_le h (dlen_le l))) = true := by
  intro i h
  have h1 : (l.takeWhile isDig)[i]'h = l[i]'(Nat.lt_of_lt_of_le h (dlen_le l)) := (List.takeWhile_prefix isDig).getElem h
  rw [← h1]
  exact List.all_eq_true.1 List.all_takeWhile _ (List.getElem_mem h)
theorem tw_end (l : List UInt8) (h : dlen l < l.length) : isDig (l[dlen l]) = false := by
  unfold dlen at h ⊢
  induction l with
  | nil => simp at h
  | cons c l ih =>
    by_cases hc : isDig c = true
    · simp only [List.takeWhile_cons, hc, if_true, List.length_cons] at h ⊢
      simpa using ih (by simpa using h)
    · simp only [List.takeWhile_cons, hc] at h ⊢
      simpa using hc
theorem dlen_unique (l : List UInt8) (d : Nat) (hd : d ≤ l.length) (h1 : ∀ i (h : i < d), isDig (l[i]'(Nat.lt_of_lt_of_le h hd)) = true) (h2 : ∀ h : d < l.length, isDig l[d] = false) : d = dlen l := by
  rcases Nat.lt_trichotomy d (dlen l) with h | h | h
  · have h3 := tw_dig l d h
    rw [h2 (Nat.lt_of_lt_of_le h (dlen_le l))] at h3; cases h3
  · exact h
  · have h3 := tw_end l (Nat.lt_of_lt_of_le h hd)
    rw [h1 _ h] at h3; cases h3
theorem take_dig (l : List UInt8) : ∀ c ∈ l.take (dlen l), isDig c = true := by
  have h : l.take (dlen l) = l.takeWhile isDig := (List.prefix_iff_eq_take.1 (List.takeWhile_prefix isDig)).symm
  rw [h]
  exact List.all_eq_true.1 List.all_takeWhile
theorem take_len (l : List UInt8) : (l.take (dlen l)).length = dlen l := by rw [List.length_take]; have := dlen_le l; omega
end Go.Proofs.YtkbldndbofbkcaaGreatDoor
/- strconv.Atoi of up to six digits. -/
namespace Go.Proofs.YtkbldndbofbkcaaGreatDoor
open Go Go.RowKit
attribute [local irreducible] WL CW DW Ret RW
theorem u8_sub48 (c : UInt8) (h : 48 ≤ c.toNat ∧ c.toNat ≤ 57) : IntKind.u8.wrap ((c.toNat : Int) - 48) = ((c.toNat - 48 : Nat) : Int) := by
  rw [IntKind.wrap]; simp [IntKind.signed, IntKind.bits]; omega
theorem AtoiI_ok (s : ByteArray) (w0 : World) (h0 : 0 < s.size) (h6 : s.size ≤ 6) (hd : ∀ i : Int, 0 ≤ i → i < s.size → 48 ≤ bt s i ∧ bt s i ≤ 57) (hd2 : ∀ c ∈ s.data.toList, isDig c = true) :
    Ret Tryz.prog 203 #[.string s] w0 fun v w' => v = .tuple #[.int .i64 (dval s.data.toList : Nat), .nilIface] ∧ Fm [] w0 w' := by
  have hs := St.init w0 []
  have hb := hd 0 (by omega) (by omega)
  have hsl : s.data.toList.length = s.size := by rw [Array.length_toList]; rfl
  have hlt := dval_lt6 s.data.toList hd2
  refine Ret_enter Tryz.func203 rfl Tryz.ntmps203 (by simp) ?_
  refine CW_seq (fun K1 hK1 => ?_)
  refine CW_region ?_
  refine asp (.int _ _) rfl ?_
  apply asg
  refine WL_nil ?_
  refine hK1 _ _ ?_
  refine CW_seq (fun K2 hK2 => ?_)
  refine CW_region ?_
  refine mvp (.string _) rfl ?_
  refine lenS rfl ?_
  refine asp (.int _ _) rfl ?_
  refine WL_nil ?_
  refine hK2 _ _ ?_
  refine CW_seq (fun K3 hK3 => ?_)
  refine CW_seq (fun K4 hK4 => ?_)
  refine CW_region ?_
  refine mvp (.bool _) rfl ?_
  refine WL_gn (g := 13) rfl (by decide) rfl ?_
  refine WL_gn (g := 13) rfl (by decide) rfl ?_
  refine WL_gn (g := 13) rfl (by decide) rfl ?_
  refine WL_gx (g := 16) rfl (by decide) rfl ?_
  refine WL_gx (g := 16) rfl (by decide) rfl ?_
  refine WL_gn (g := 13) rfl (by decide) rfl ?_
  first | refine pkT rfl rfl ?_ | refine pkF rfl rfl ?_
  refine mvp (.bool _) rfl ?_
  refine WL_gy (g := 21) rfl (by decide) rfl ?_
  refine mvp (.bool _) rfl ?_
  refine WL_gy (g := 22) rfl (by decide) rfl ?_
  refine mvp (.int _ _) rfl ?_
  refine WL_gy (g := 22) rfl (by decide) rfl ?_
  refine lssW rfl rfl ?_
  refine WL_gy (g := 22) rfl (by decide) rfl ?_
  refine mvp (.bool _) rfl ?_
  refine WL_gyb (g := 25) rfl (by decide) rfl ((by simp; omega)) ?_
  refine mvp (.int _ _) rfl ?_
  refine WL_gy (g := 25) rfl (by decide) rfl ?_
  refine lssW rfl rfl ?_
  refine WL_gy (g := 22) rfl (by decide) rfl ?_
  first | refine pkT rfl rfl ?_ | refine pkF rfl rfl ?_
  refine WL_gy (g := 21) rfl (by decide) rfl ?_
  first | refine pkT rfl rfl ?_ | refine pkF rfl rfl ?_
  first | refine pkT rfl rfl ?_ | refine pkF rfl rfl ?_
  refine WL_nil ?_
  refine hK4 _ _ ?_
  refine CW_condT rfl ((by simp; omega)) ?_
  refine CW_seq (fun K5 hK5 => ?_)
  refine CW_region ?_
  refine mvp (.string _) rfl ?_
  refine asp (.string _) rfl ?_
  refine WL_nil ?_
  refine hK5 _ _ ?_
  refine CW_seq (fun K6 hK6 => ?_)
  refine CW_seq (fun K7 hK7 => ?_)
  refine CW_region ?_
  refine mvp (.string _) rfl ?_
  refine ixS rfl rfl (by omega) ?_
  refine eqlW rfl rfl ?_
  refine mvp (.bool _) rfl ?_
  refine WL_gyb (g := 35) rfl (by decide) rfl ((by simp; omega)) ?_
  refine mvp (.string _) rfl ?_
  refine WL_gy (g := 35) rfl (by decide) rfl ?_
  refine ixS rfl rfl (by omega) ?_
  refine WL_gy (g := 35) rfl (by decide) rfl ?_
  refine eqlW rfl rfl ?_
  first | refine pkT rfl rfl ?_ | refine pkF rfl rfl ?_
  refine WL_nil ?_
  refine hK7 _ _ ?_
  refine CW_condF rfl ((by simp; omega)) ?_
  refine CW_skip ?_
  refine hK6 _ _ ?_
  refine CW_seq (fun K8 hK8 => ?_)
  refine CW_region ?_
  refine asp (.int _ _) rfl ?_
  refine WL_nil ?_
  refine hK8 _ _ ?_
  refine CW_seq (fun K9 hK9 => ?_)
  refine CW_seq (fun K10 hK10 => ?_)
  refine CW_region ?_
  refine mvp (.string _) rfl ?_
  refine W_cvBytes hs rfl ?_
  intro w g47 cap47 zs47 k47 hs hg47 hf47 hcap47
  refine lenW rfl ?_
  refine mvp (.int _ _) rfl ?_
  refine WL_nil ?_
  refine hK10 _ _ ?_
  refine CW_block ?_
  refine CW_loop (fun k f w' => ∃ (i : Nat) (g cap : Nat) (zs : List Value) (k1 : Nat), k = s.size - i ∧ i ≤ s.size ∧ f 5 = .string s ∧ f 6 = .int .i64 (dval (s.data.toList.take i) : Nat) ∧ f 47 = .slice (some ⟨g, 0, none⟩) s.size cap ∧ f 48 = .int .i64 s.size ∧ f 49 = .int .i64 i ∧ St w0 [] w' [eB g true (.cells (bv s.data.toList ++ zs).toArray 5 (k1, k1 + 1))]) s.size ?_ ?_
  · exact ⟨0, g47, cap47, zs47, k47, by omega, by omega, rfl, rfl, rfl, rfl, rfl, hs⟩
  · rintro k f w ⟨i, g, cap, zs, k1, rfl, hi, e5, e6, e47, e48, e49, hs⟩
    refine CW_kn (i := 5) e5 (CW_kn (i := 6) e6 (CW_kn (i := 47) e47 (CW_kn (i := 48) e48 (CW_kn (i := 49) e49 ?_))))
    refine CW_seq (fun K11 hK11 => ?_)
    refine CW_region ?_
    refine lssW rfl rfl ?_
    refine WL_nil ?_
    refine hK11 _ _ ?_
    refine CW_seq (fun K12 hK12 => ?_)
    refine CW_cond rfl (fun hc50 => ?_) (fun hc50 => ?_)
    · have hi2 : i < s.size := by simp at hc50; omega
      obtain ⟨c, hc1⟩ : ∃ c, s.data.toList[i]? = some c := ⟨_, List.getElem?_eq_getElem (by omega)⟩
      have hv : (bv s.data.toList ++ zs)[0 + ((i : Nat) : Int).toNat * 1]? = some (.int .u8 (c.toNat : Int)) := by
        rw [show 0 + ((i : Nat) : Int).toNat * 1 = i from by omega, List.getElem?_append_left (by rw [bv_length]; omega), bv, List.getElem?_map, hc1]; rfl
      have hc2 : 48 ≤ c.toNat ∧ c.toNat ≤ 57 := by
        have := hd2 _ (List.mem_of_getElem? hc1)
        simpa [isDig] using this
      have hdv := dval_take_lt s.data.toList hd2 i (by omega)
      have hds : ((10 * dval (s.data.toList.take i) + (c.toNat - 48) : Nat) : Int) = (dval (s.data.toList.take i) : Int) * 10 + ((c.toNat - 48 : Nat) : Int) := by omega
      refine CW_skip ?_
      refine hK12 _ _ ?_
      refine CW_seq (fun K13 hK13 => ?_)
      refine CW_block ?_
      refine CW_seq (fun K14 hK14 => ?_)
      refine CW_region ?_
      refine iad rfl rfl (by omega) ?_
      refine ld hs rfl hv ?_
      refine asp (.int _ _) rfl ?_
      refine WL_nil ?_
      refine hK14 _ _ ?_
      refine CW_seq (fun K15 hK15 => ?_)
      refine CW_region ?_
      refine mvp (.int _ _) rfl ?_
      refine WL_v (X_subE rfl rfl (u8_sub48 _ hc2)) ?_
      refine asp (.int _ _) rfl ?_
      refine WL_nil ?_
      refine hK15 _ _ ?_
      refine CW_seq (fun K16 hK16 => ?_)
      refine CW_seq (fun K17 hK17 => ?_)
      refine CW_region ?_
      refine mvp (.int _ _) rfl ?_
      refine gtrW rfl rfl ?_
      refine WL_nil ?_
      refine hK17 _ _ ?_
      refine CW_condF rfl ((by simp; omega)) ?_
      refine CW_skip ?_
      refine hK16 _ _ ?_
      refine CW_region ?_
      refine mvp (.int _ _) rfl ?_
      first | refine mulI rfl rfl (by omega) ?_ | refine mulW rfl rfl ?_
      refine mvp (.int _ _) rfl ?_
      first | refine cviI rfl (by omega) ?_ | refine cviW rfl ?_
      refine WL_v (X_addE rfl rfl hds.symm (by omega)) ?_
      refine asp (.int _ _) rfl ?_
      refine WL_nil ?_
      refine hK13 _ _ ?_
      refine CW_region ?_
      first | refine addI rfl rfl (by omega) ?_ | refine addW rfl rfl ?_
      refine mvp (.int _ _) rfl ?_
      refine WL_nil ?_
      refine ⟨s.size - (i + 1), by omega, i + 1, g, cap, zs, k1, rfl, by omega, rfl, ?_, rfl, rfl, rfl, hs⟩
      rw [dval_take_succ _ i c hc1]
      rfl
    · skip
      refine CW_exit ?_
      refine hK9 _ _ ?_
      refine CW_seq (fun K18 hK18 => ?_)
      refine CW_seq (fun K19 hK19 => ?_)
      refine CW_region ?_
      refine mvp (.string _) rfl ?_
      refine ixS rfl rfl (by omega) ?_
      refine eqlW rfl rfl ?_
      refine WL_nil ?_
      refine hK19 _ _ ?_
      refine CW_condF rfl ((by simp; omega)) ?_
      refine CW_skip ?_
      refine hK18 _ _ ?_
      refine CW_seq (fun K20 hK20 => ?_)
      refine CW_region ?_
      refine mvp (.int _ _) rfl ?_
      refine asp (.int _ _) rfl ?_
      apply asg
      refine WL_nil ?_
      refine hK20 _ _ ?_
      refine CW_ret ?_
      repeat (first | (with_reducible apply thenF_ret) | (with_reducible apply blockF_ret))
      try simp only [thenF, blockF, reduceIte]
      refine Post_r Tryz.results203 (.tmp rfl (.tmp rfl .nil)) ?_
      try simp only [ev_tmp, ev_const, upd_ap, Nat.reduceLT, Nat.reduceEqDiff, reduceIte]
      have hi2 : i = s.size := by simp at hc50; omega
      rw [hi2, ← hsl, List.take_length]
      exact ⟨rfl, hs.fm⟩
theorem equalIn_iface_nil {P : Program} {w : World} (n : Nat) {A : TypeId} {ms : Array (String × TypeId)} (hA : P.underlying A = some (.interface ms)) : (Op.equalIn (n + 1) A .nilIface .nilIface).run P w = .ok true w := by
  simp [Op.equalIn, run_underlying hA]
theorem X_neNilI {P : Program} {N : Nat} {f : Fr} {w : World} {d : Nat} {T A B : TypeId} {p : String} {aft : Array Edge} {x : Operand} {ms : Array (String × TypeId)} [hA : UnE P A (.interface ms)] (hx : ev N f x = .nilIface) : Ex P N f w ⟨some d, .binOp .neq A x (.const .nilIface) B, T, p, aft, none⟩ (.bool false) w := by
  have h : (Op.equal A .nilIface .nilIface).run P w = .ok true w := equalIn_iface_nil 9999 hA.h
  simp [Ex, execOp, hx, ev_const, eqGuard, binOp, h]
theorem Atoi_ok (s : ByteArray) (w0 : World) (h0 : 0 < s.size) (h6 : s.size ≤ 6) (hd2 : ∀ c ∈ s.data.toList, isDig c = true) :
    Ret Tryz.prog 192 #[.string s] w0 fun v w' => v = .tuple #[.int .i64 (dval s.data.toList : Nat), .nilIface] ∧ Fm [] w0 w' := by
  have hs := St.init w0 []
  have hsl : s.data.toList.length = s.size := by rw [Array.length_toList]; rfl
  have hd : ∀ i : Int, 0 ≤ i → i < s.size → 48 ≤ bt s i ∧ bt s i ≤ 57 := by
    intro i h1 h2
    have h3 : i.toNat < s.data.toList.length := by omega
    have h4 := hd2 _ (List.getElem_mem h3)
    unfold bt
    rw [List.getD_eq_getElem?_getD, List.getElem?_eq_getElem h3]
    simp [isDig] at h4 ⊢; omega
  refine Ret_enter Tryz.func192 rfl Tryz.ntmps192 (by simp) ?_
  refine CW_seq (fun K1 hK1 => ?_)
  refine CW_region ?_
  refine asp (.int _ _) rfl ?_
  apply asg
  refine WL_nil ?_
  refine hK1 _ _ ?_
  refine CW_seq (fun K2 hK2 => ?_)
  refine CW_region ?_
  refine mvp (.string _) rfl ?_
  refine cll (AtoiI_ok s _ h0 h6 hd hd2) ?_
  rintro _ w ⟨rfl, hf⟩
  replace hs := hs.call hf
  refine mvp (.tuple _) rfl ?_
  refine ext rfl rfl ?_
  refine ext rfl rfl ?_
  refine asp (.int _ _) rfl ?_
  apply asg
  refine WL_nil ?_
  refine hK2 _ _ ?_
  refine CW_seq (fun K3 hK3 => ?_)
  refine CW_seq (fun K4 hK4 => ?_)
  refine CW_region ?_
  apply mv
  refine WL_v (X_neNilI rfl) ?_
  refine WL_nil ?_
  refine hK4 _ _ ?_
  refine CW_condF rfl (rfl) ?_
  refine CW_skip ?_
  refine hK3 _ _ ?_
  refine CW_seq (fun K5 hK5 => ?_)
  refine CW_region ?_
  refine mvp (.int _ _) rfl ?_
  refine asp (.int _ _) rfl ?_
  apply asg
  refine WL_nil ?_
  refine hK5 _ _ ?_
  refine CW_ret ?_
  repeat (first | (with_reducible apply thenF_ret) | (with_reducible apply blockF_ret))
  try simp only [thenF, blockF, reduceIte]
  refine Post_r Tryz.results192 (.tmp rfl (.tmp rfl .nil)) ?_
  try simp only [ev_tmp, ev_const, upd_ap, Nat.reduceLT, Nat.reduceEqDiff, reduceIte]
  exact ⟨by trivial, hs.fm⟩
end Go.Proofs.YtkbldndbofbkcaaGreatDoor
/- lineage.parts: the iterator. -/
namespace Go.Proofs.YtkbldndbofbkcaaGreatDoor
open Go Go.RowKit
attribute [local irreducible] WL CW DW Ret RW
def encPt (p : Pt) : Value := .agg #[.int .i64 p.ord, .int .i64 p.at_, .int .i64 p.e]
def phd (n a : Nat) (r : List UInt8) : Pt := if n = 8 then ⟨0, a, 9⟩ else ⟨if perr r = 0 then dval (r.take (dlen r)) else 0, a, perr r⟩
/-- What comes behind the head. -/
def ptl (n a : Nat) (r : List UInt8) : List Pt :=
  if n = 8 ∨ perr r ≠ 0 then [] else match r.drop (dlen r) with
    | [] => []
    | c :: r' => if c.toNat ≠ 46 then [⟨0, a + dlen r, 6⟩] else pts (8 - (n + 1)) (a + dlen r + 1) r'
theorem pts_eq (n a : Nat) (r : List UInt8) (hn : n ≤ 8) : pts (8 - n) a r = phd n a r :: ptl n a r := by
  unfold phd ptl
  by_cases h : n = 8
  · subst h; simp [pts]
  · obtain ⟨k, hk⟩ : ∃ k, 8 - n = k + 1 := ⟨7 - n, by omega⟩
    have hk2 : 8 - (n + 1) = k := by omega
    rw [hk, hk2, pts]
    by_cases hp : perr r = 0
    · simp [h, hp] <;> cases r.drop (dlen r) <;> simp
    · simp [h, hp]
theorem phd_e0 {n a : Nat} {r : List UInt8} (h : (phd n a r).e = 0) : n ≠ 8 ∧ perr r = 0 := by
  unfold phd at h
  split at h
  · simp at h
  · rename_i h8; exact ⟨h8, h⟩
theorem ptl_stop {n a : Nat} {r : List UInt8} (h : (phd n a r).e ≠ 0) : ptl n a r = [] := by
  unfold ptl
  rw [if_pos]
  by_cases h8 : n = 8
  · exact .inl h8
  · right; intro h2; apply h; unfold phd; rw [if_neg h8, h2]
theorem ptl_nil {n a : Nat} {r : List UInt8} (h : n ≠ 8 ∧ perr r = 0) (hd : r.length ≤ dlen r) : ptl n a r = [] := by
  unfold ptl
  rw [if_neg (by simp [h.1, h.2]), List.drop_of_length_le hd]
theorem ptl_cons {n a : Nat} {r : List UInt8} (h : n ≠ 8 ∧ perr r = 0) {c : UInt8} (hd : r[dlen r]? = some c) : ptl n a r = if c.toNat ≠ 46 then [⟨0, a + dlen r, 6⟩] else pts (8 - (n + 1)) (a + dlen r + 1) (r.drop (dlen r + 1)) := by
  unfold ptl
  have hlt := (List.getElem?_eq_some_iff.1 hd).1
  rw [if_neg (by simp [h.1, h.2]), List.drop_eq_getElem_cons hlt, (List.getElem?_eq_some_iff.1 hd).2]
theorem it_parts (g : Nat) (s : ByteArray) (hsz : s.size ≤ 9223372036854775807) : ItC Tryz.prog 191 [.pointer (some ⟨g, 0, none⟩)] encPt (fun xs => xs = parts s.data.toList) (fun pre => pre <+: parts s.data.toList)
    (fun e W => g ∉ e.fp ∧ W.heap[g]? = some (Blk 9 [.string s])) := by
  intro l J Jx e W0 ⟨hg1, hg2⟩ ho he h0 hY
  have hsl : s.data.toList.length = s.size := by rw [Array.length_toList]; rfl
  have hs : St W0 e.fp W0 [eB g false (Blk 9 [.string s]), e] := (St.ent he).put (e := eB g false _) hg2 (by intro x hx b hb; simp at hx; subst hx; simp [eB] at hb; subst hb; exact hg1) (fun h => by cases h)
  refine Ret_enter Tryz.func191 rfl Tryz.ntmps191 (by simp) ?_
  refine CW_seq (fun K1 hK1 => ?_)
  refine CW_region ?_
  refine asp (.int _ _) rfl ?_
  refine WL_nil ?_
  refine hK1 _ _ ?_
  refine CW_seq (fun K2 hK2 => ?_)
  refine CW_region ?_
  refine asp (.int _ _) rfl ?_
  refine WL_nil ?_
  refine hK2 _ _ ?_
  refine CW_block ?_
  refine CW_loop (fun k f w' => ∃ (n a : Nat) (e' : Ent) (pre : List Pt), k = 9 - n ∧ n ≤ 8 ∧ a ≤ s.size ∧ f 0 = .func (.yield l) #[] #[] ∧ f 1 = .pointer (some ⟨g, 0, none⟩) ∧ f 3 = .int .i64 a ∧ f 4 = .int .i64 n ∧ e'.own = true ∧ J pre e' ∧ St W0 e.fp w' [eB g false (Blk 9 [.string s]), e'] ∧ pre ++ (if s.data.toList = [] then [] else pts (8 - n) a (s.data.toList.drop a)) = parts s.data.toList) 9 ?_ ?_
  · exact ⟨0, 0, e, [], rfl, by omega, by omega, rfl, rfl, rfl, rfl, ho, h0, hs, by simp [parts]⟩
  · rintro k f w ⟨n, a, e', pre, rfl, hn, ha, e0, e1, e3, e4, ho', hJ, hs, hpre⟩
    refine CW_kn (i := 0) e0 (CW_kn (i := 1) e1 (CW_kn (i := 3) e3 (CW_kn (i := 4) e4 ?_)))
    refine CW_seq (fun K3 hK3 => ?_)
    refine CW_seq (fun K4 hK4 => ?_)
    refine CW_region ?_
    refine ld hs rfl rfl ?_
    refine neS rfl rfl ?_
    refine WL_nil ?_
    refine hK4 _ _ ?_
    refine CW_cond rfl (fun hc8 => ?_) (fun hc8 => ?_)
    · have hne : s.data.toList ≠ [] := by simpa using hc8
      rw [if_neg hne] at hpre
      obtain ⟨r, hr⟩ : ∃ r, s.data.toList.drop a = r := ⟨_, rfl⟩
      have hdl := dlen_le r
      have hpts := pts_eq n a r hn
      have hrl : r.length = s.size - a := by rw [← hr, List.length_drop, hsl]
      have hri : ∀ i : Nat, i < r.length → bt s ((a : Int) + (i : Int)) = ((r.getD i 0).toNat : Int) := by
        intro i hi
        unfold bt
        rw [← hr, List.getD_eq_getElem?_getD, List.getD_eq_getElem?_getD, List.getElem?_drop]
        congr 2
      rw [hr] at hpre
      refine CW_skip ?_
      refine hK3 _ _ ?_
      refine CW_seq (fun K5 hK5 => ?_)
      refine CW_block ?_
      refine CW_seq (fun K6 hK6 => ?_)
      refine CW_region ?_
      refine mvp (.int _ _) rfl ?_
      refine WL_v (v := .agg #[.int .i64 0, .int .i64 a, .int .i64 0]) (X_build rfl rfl) ?_
      refine alc hs ?_
      intro w g5 hs hg5 hf5
      refine sto (.agg _) hs rfl rfl rfl rfl (by simp) rfl ?_
      intro w hs _
      refine WL_nil ?_
      refine hK6 _ _ ?_
      refine CW_seq (fun K7 hK7 => ?_)
      refine CW_region ?_
      refine asp (.int _ _) rfl ?_
      refine WL_nil ?_
      refine hK7 _ _ ?_
      refine CW_cut (fun f w' => f 0 = .func (.yield l) #[] #[] ∧ f 1 = .pointer (some ⟨g, 0, none⟩) ∧ f 3 = .int .i64 a ∧ f 4 = .int .i64 n ∧ f 5 = .pointer (some ⟨g5, 0, none⟩) ∧ f 6 = .int .i64 (dlen r) ∧ St W0 e.fp w' [eB g5 true (Blk 240 [.int .i64 0, .int .i64 a, .int .i64 0]), eB g false (Blk 9 [.string s]), e']) ?_ ?_
      · skip
        refine CW_block ?_
        refine CW_loop (fun k f w' => ∃ i : Nat, k = r.length - i ∧ i ≤ r.length ∧ f 0 = .func (.yield l) #[] #[] ∧ f 1 = .pointer (some ⟨g, 0, none⟩) ∧ f 3 = .int .i64 a ∧ f 4 = .int .i64 n ∧ f 5 = .pointer (some ⟨g5, 0, none⟩) ∧ f 6 = .int .i64 i ∧ (∀ j (h : j < r.length), j < i → isDig r[j] = true) ∧ St W0 e.fp w' [eB g5 true (Blk 240 [.int .i64 0, .int .i64 a, .int .i64 0]), eB g false (Blk 9 [.string s]), e']) r.length ?_ ?_
        · exact ⟨0, rfl, by omega, rfl, rfl, rfl, rfl, rfl, rfl, fun j _ h => by omega, hs⟩
        · rintro k f w ⟨i, rfl, hi, e0, e1, e3, e4, e5, e6, hdig, hs⟩
          refine CW_kn (i := 0) e0 (CW_kn (i := 1) e1 (CW_kn (i := 3) e3 (CW_kn (i := 4) e4 (CW_kn (i := 5) e5 (CW_kn (i := 6) e6 ?_)))))
          refine CW_seq (fun K8 hK8 => ?_)
          refine CW_seq (fun K9 hK9 => ?_)
          refine CW_region ?_
          refine mvp (.int _ _) rfl ?_
          refine mvp (.int _ _) rfl ?_
          first | refine addI rfl rfl (by omega) ?_ | refine addW rfl rfl ?_
          refine ld hs rfl rfl ?_
          refine lenS rfl ?_
          refine lssW rfl rfl ?_
          refine mvp (.bool _) rfl ?_
          refine WL_g (g := 19) rfl (by decide) rfl (fun hg19 => ?_) (fun hg19 => ?_)
          · skip
            refine ld hs rfl rfl ?_
            refine WL_gy (g := 19) rfl (by decide) rfl ?_
            refine mvp (.int _ _) rfl ?_
            refine WL_gy (g := 19) rfl (by decide) rfl ?_
            refine mvp (.int _ _) rfl ?_
            refine WL_gy (g := 19) rfl (by decide) rfl ?_
            first | refine addI rfl rfl (by omega) ?_ | refine addW rfl rfl ?_
            refine WL_gy (g := 19) rfl (by decide) rfl ?_
            refine ixS rfl rfl (by simp at hg19; omega) ?_
            refine WL_gy (g := 19) rfl (by decide) rfl ?_
            refine geqW rfl rfl ?_
            first | refine pkT rfl rfl ?_ | refine pkF rfl rfl ?_
            refine mvp (.bool _) rfl ?_
            refine WL_g (g := 27) rfl (by decide) rfl (fun hg27 => ?_) (fun hg27 => ?_)
            · skip
              refine ld hs rfl rfl ?_
              refine WL_gy (g := 27) rfl (by decide) rfl ?_
              refine mvp (.int _ _) rfl ?_
              refine WL_gy (g := 27) rfl (by decide) rfl ?_
              refine mvp (.int _ _) rfl ?_
              refine WL_gy (g := 27) rfl (by decide) rfl ?_
              first | refine addI rfl rfl (by omega) ?_ | refine addW rfl rfl ?_
              refine WL_gy (g := 27) rfl (by decide) rfl ?_
              refine ixS rfl rfl (by simp at hg19; omega) ?_
              refine WL_gy (g := 27) rfl (by decide) rfl ?_
              refine leqW rfl rfl ?_
              first | refine pkT rfl rfl ?_ | refine pkF rfl rfl ?_
              refine WL_nil ?_
              refine hK9 _ _ ?_
              refine CW_cond rfl (fun hc34 => ?_) (fun hc34 => ?_)
              · skip
                refine CW_skip ?_
                refine hK8 _ _ ?_
                refine CW_block ?_
                refine CW_region ?_
                refine mvp (.int _ _) rfl ?_
                refine addI rfl rfl (by simp at hg19; omega) ?_
                refine asp (.int _ _) rfl ?_
                refine WL_nil ?_
                refine ⟨r.length - (i + 1), by simp at hg19; omega, i + 1, rfl, by simp at hg19; omega, rfl, rfl, rfl, rfl, rfl, rfl, ?_, hs⟩
                intro j hj hji
                by_cases hji2 : j < i
                · exact hdig j hj hji2
                · have hij : j = i := by omega
                  subst hij
                  have h2 := hri j hj
                  rw [List.getD_eq_getElem?_getD, List.getElem?_eq_getElem hj] at h2
                  simp only [Option.getD_some] at h2
                  unfold isDig
                  simp at hg27 hc34
                  simp; omega
              · skip
                refine CW_exit ?_
                skip
                have hi3 : i = dlen r := by
                  refine dlen_unique r i hi (fun j h => hdig j (by omega) h) (fun h => ?_)
                  have h2 := hri i h
                  rw [List.getD_eq_getElem?_getD, List.getElem?_eq_getElem h] at h2
                  simp only [Option.getD_some] at h2
                  unfold isDig
                  first
                    | (exfalso; simp at hg19; omega)
                    | (simp at hg27; simp; omega)
                    | (simp at hc34; simp; omega)
                exact ⟨rfl, rfl, rfl, rfl, rfl, by rw [← hi3]; rfl, hs⟩
            · skip
              refine WL_gn (g := 27) rfl (by decide) rfl ?_
              refine WL_gn (g := 27) rfl (by decide) rfl ?_
              refine WL_gn (g := 27) rfl (by decide) rfl ?_
              refine WL_gn (g := 27) rfl (by decide) rfl ?_
              refine WL_gn (g := 27) rfl (by decide) rfl ?_
              first | refine pkT rfl rfl ?_ | refine pkF rfl rfl ?_
              refine WL_nil ?_
              refine hK9 _ _ ?_
              refine CW_condF rfl rfl ?_
              refine CW_exit ?_
              skip
              have hi3 : i = dlen r := by
                refine dlen_unique r i hi (fun j h => hdig j (by omega) h) (fun h => ?_)
                have h2 := hri i h
                rw [List.getD_eq_getElem?_getD, List.getElem?_eq_getElem h] at h2
                simp only [Option.getD_some] at h2
                unfold isDig
                first
                  | (exfalso; simp at hg19; omega)
                  | (simp at hg27; simp; omega)
                  | (simp at hc34; simp; omega)
              exact ⟨rfl, rfl, rfl, rfl, rfl, by rw [← hi3]; rfl, hs⟩
          · skip
            refine WL_gn (g := 19) rfl (by decide) rfl ?_
            refine WL_gn (g := 19) rfl (by decide) rfl ?_
            refine WL_gn (g := 19) rfl (by decide) rfl ?_
            refine WL_gn (g := 19) rfl (by decide) rfl ?_
            refine WL_gn (g := 19) rfl (by decide) rfl ?_
            first | refine pkT rfl rfl ?_ | refine pkF rfl rfl ?_
            refine mvp (.bool _) rfl ?_
            refine WL_gn (g := 27) rfl (by decide) rfl ?_
            refine WL_gn (g := 27) rfl (by decide) rfl ?_
            refine WL_gn (g := 27) rfl (by decide) rfl ?_
            refine WL_gn (g := 27) rfl (by decide) rfl ?_
            refine WL_gn (g := 27) rfl (by decide) rfl ?_
            refine WL_gn (g := 27) rfl (by decide) rfl ?_
            first | refine pkT rfl rfl ?_ | refine pkF rfl rfl ?_
            refine WL_nil ?_
            refine hK9 _ _ ?_
            refine CW_condF rfl rfl ?_
            refine CW_exit ?_
            skip
            have hi3 : i = dlen r := by
              refine dlen_unique r i hi (fun j h => hdig j (by omega) h) (fun h => ?_)
              have h2 := hri i h
              rw [List.getD_eq_getElem?_getD, List.getElem?_eq_getElem h] at h2
              simp only [Option.getD_some] at h2
              unfold isDig
              first
                | (exfalso; simp at hg19; omega)
                | (simp at hg27; simp; omega)
                | (simp at hc34; simp; omega)
            exact ⟨rfl, rfl, rfl, rfl, rfl, by rw [← hi3]; rfl, hs⟩
      · skip
        rintro f w ⟨e0, e1, e3, e4, e5, e6, hs⟩
        refine CW_kn (i := 0) e0 (CW_kn (i := 1) e1 (CW_kn (i := 3) e3 (CW_kn (i := 4) e4 (CW_kn (i := 5) e5 (CW_kn (i := 6) e6 ?_)))))
        refine CW_cut (fun f w' => f 0 = .func (.yield l) #[] #[] ∧ f 1 = .pointer (some ⟨g, 0, none⟩) ∧ f 3 = .int .i64 a ∧ f 4 = .int .i64 n ∧ f 5 = .pointer (some ⟨g5, 0, none⟩) ∧ f 6 = .int .i64 (dlen r) ∧ St W0 e.fp w' [eB g5 true (Blk 240 [.int .i64 (phd n a r).ord, .int .i64 (phd n a r).at_, .int .i64 (phd n a r).e]), eB g false (Blk 9 [.string s]), e']) ?_ ?_
        · skip
          refine CW_block ?_
          refine CW_seq (fun K10 hK10 => ?_)
          refine CW_region ?_
          refine mvp (.int _ _) rfl ?_
          refine eqlW rfl rfl ?_
          refine asp (.bool _) rfl ?_
          refine WL_nil ?_
          refine hK10 _ _ ?_
          refine CW_cond rfl (fun hc48 => ?_) (fun hc48 => ?_)
          · skip
            have hph : phd n a r = ⟨0, a, 9⟩ := by
              unfold phd; rw [if_pos (by simp at hc48; omega)]
            refine CW_region ?_
            refine fad rfl ?_
            refine sto (.int _ _) hs rfl rfl rfl rfl (by simp) rfl ?_
            intro w hs _
            refine WL_nil ?_
            rw [hph]
            exact ⟨rfl, rfl, rfl, rfl, rfl, rfl, hs⟩
          · skip
            refine CW_seq (fun K11 hK11 => ?_)
            refine CW_region ?_
            refine mvp (.int _ _) rfl ?_
            refine ld hs rfl rfl ?_
            refine lenS rfl ?_
            refine eqlW rfl rfl ?_
            refine asp (.bool _) rfl ?_
            refine WL_nil ?_
            refine hK11 _ _ ?_
            refine CW_cond rfl (fun hc52 => ?_) (fun hc52 => ?_)
            · skip
              have hph : phd n a r = ⟨0, a, 4⟩ := by
                have h0 : r = [] := List.eq_nil_of_length_eq_zero (by simp at hc52; omega)
                unfold phd; rw [if_neg (by simp at hc48; omega)]
                subst h0; rfl
              refine CW_region ?_
              refine fad rfl ?_
              refine sto (.int _ _) hs rfl rfl rfl rfl (by simp) rfl ?_
              intro w hs _
              refine WL_nil ?_
              rw [hph]
              exact ⟨rfl, rfl, rfl, rfl, rfl, rfl, hs⟩
            · skip
              refine CW_seq (fun K12 hK12 => ?_)
              refine CW_region ?_
              refine mvp (.int _ _) rfl ?_
              refine eqlW rfl rfl ?_
              refine asp (.bool _) rfl ?_
              refine WL_nil ?_
              refine hK12 _ _ ?_
              refine CW_cond rfl (fun hc58 => ?_) (fun hc58 => ?_)
              · skip
                have hph : phd n a r = ⟨0, a, 6⟩ := by
                  have h0 : r ≠ [] := fun h => by rw [h] at hrl; simp at hrl hc52; omega
                  have hp : perr r = 6 := by unfold perr; rw [if_neg h0, if_pos (by simp at hc58; omega)]
                  unfold phd; rw [if_neg (by simp at hc48; omega), hp]; rfl
                refine CW_region ?_
                refine fad rfl ?_
                refine sto (.int _ _) hs rfl rfl rfl rfl (by simp) rfl ?_
                intro w hs _
                refine WL_nil ?_
                rw [hph]
                exact ⟨rfl, rfl, rfl, rfl, rfl, rfl, hs⟩
              · skip
                refine CW_seq (fun K13 hK13 => ?_)
                refine CW_region ?_
                refine ld hs rfl rfl ?_
                refine mvp (.int _ _) rfl ?_
                refine ixS rfl rfl (by simp at hc52; omega) ?_
                refine eqlW rfl rfl ?_
                refine asp (.bool _) rfl ?_
                refine WL_nil ?_
                refine hK13 _ _ ?_
                refine CW_cond rfl (fun hc62 => ?_) (fun hc62 => ?_)
                · skip
                  have hph : phd n a r = ⟨0, a, 3⟩ := by
                    have h0 : r ≠ [] := fun h => by rw [h] at hrl; simp at hrl hc52; omega
                    have h5 : r.head? = some 48 := by
                      cases hrr : r with
                      | nil => exact absurd hrr h0
                      | cons c r2 =>
                        have h3 := hri 0 (by rw [hrr]; simp)
                        rw [hrr] at h3
                        simp at h3 hc62
                        have h4 : c.toNat = (48 : UInt8).toNat := by
                          show c.toNat = 48
                          omega
                        rw [List.head?_cons, UInt8.toNat_inj.1 h4]
                    have hp : perr r = 3 := by unfold perr; rw [if_neg h0, if_neg (by simp at hc58; omega), if_pos h5]
                    unfold phd; rw [if_neg (by simp at hc48; omega), hp]; rfl
                  refine CW_region ?_
                  refine fad rfl ?_
                  refine sto (.int _ _) hs rfl rfl rfl rfl (by simp) rfl ?_
                  intro w hs _
                  refine WL_nil ?_
                  rw [hph]
                  exact ⟨rfl, rfl, rfl, rfl, rfl, rfl, hs⟩
                · have h0 : r ≠ [] := fun h => by rw [h] at hrl; simp at hrl hc52; omega
                  have h5 : r.head? ≠ some 48 := by
                      cases hrr : r with
                      | nil => exact absurd hrr h0
                      | cons c r2 =>
                        have h3 := hri 0 (by rw [hrr]; simp)
                        rw [hrr] at h3
                        simp at h3 hc62
                        intro h6
                        rw [List.head?_cons] at h6
                        injection h6 with h6
                        rw [h6] at h3
                        exact hc62 h3
                  refine CW_seq (fun K14 hK14 => ?_)
                  refine CW_region ?_
                  refine mvp (.int _ _) rfl ?_
                  refine gtrW rfl rfl ?_
                  refine asp (.bool _) rfl ?_
                  refine WL_nil ?_
                  refine hK14 _ _ ?_
                  refine CW_cond rfl (fun hc68 => ?_) (fun hc68 => ?_)
                  · skip
                    have hph : phd n a r = ⟨0, a, 2⟩ := by
                      have hp : perr r = 2 := by unfold perr; rw [if_neg h0, if_neg (by simp at hc58; omega), if_neg h5, if_pos (by simp at hc68; omega)]
                      unfold phd; rw [if_neg (by simp at hc48; omega), hp]; rfl
                    refine CW_region ?_
                    refine fad rfl ?_
                    refine sto (.int _ _) hs rfl rfl rfl rfl (by simp) rfl ?_
                    intro w hs _
                    refine WL_nil ?_
                    rw [hph]
                    exact ⟨rfl, rfl, rfl, rfl, rfl, rfl, hs⟩
                  · skip
                    have hph : phd n a r = ⟨dval (r.take (dlen r)), a, 0⟩ := by
                      have hp : perr r = 0 := by unfold perr; rw [if_neg h0, if_neg (by simp at hc58; omega), if_neg h5, if_neg (by simp at hc68; omega)]
                      unfold phd; rw [if_neg (by simp at hc48; omega), hp, if_pos rfl]
                    refine CW_region ?_
                    refine ld hs rfl rfl ?_
                    refine mvp (.int _ _) rfl ?_
                    refine mvp (.int _ _) rfl ?_
                    refine mvp (.int _ _) rfl ?_
                    first | refine addI rfl rfl (by omega) ?_ | refine addW rfl rfl ?_
                    refine ssE (r.take (dlen r)) rfl rfl rfl (by omega) (by rw [← hr]; congr 1; omega) ?_
                    refine cll (Atoi_ok (str (r.take (dlen r))) _ (by rw [str_size, take_len]; simp at hc58; omega) (by rw [str_size, take_len]; simp at hc68; omega) (take_dig r)) ?_
                    rintro _ w ⟨rfl, hf⟩
                    replace hs := hs.call hf
                    refine mvp (.tuple _) rfl ?_
                    refine ext rfl rfl ?_
                    refine ext rfl rfl ?_
                    refine fad rfl ?_
                    refine sto (.int _ _) hs rfl rfl rfl rfl (by simp) rfl ?_
                    intro w hs _
                    refine WL_nil ?_
                    rw [hph]
                    exact ⟨rfl, rfl, rfl, rfl, rfl, rfl, hs⟩
        · skip
          rintro f w ⟨e0, e1, e3, e4, e5, e6, hs⟩
          refine CW_kn (i := 0) e0 (CW_kn (i := 1) e1 (CW_kn (i := 3) e3 (CW_kn (i := 4) e4 (CW_kn (i := 5) e5 (CW_kn (i := 6) e6 ?_)))))
          refine CW_seq (fun K15 hK15 => ?_)
          refine CW_seq (fun K16 hK16 => ?_)
          refine CW_regionY 2 rfl (by kernel_rfl) ?_
          apply mv
          refine ldA hs rfl (by simp) ?_
          refine WL_nil ?_
          refine ⟨_, rfl, YOp_mono (YOp_it (hY pre (phd n a r) e' _ ⟨ptl n a r, by rw [← hpre, hpts, List.append_assoc]; rfl⟩ hJ ho' (hs.he e'))) ?_⟩
          rintro _ w ⟨v, e2, rfl, ht, hv⟩
          replace hs := hs.turnE ho' ht
          refine notW rfl ?_
          refine mvp (.bool _) rfl ?_
          refine WL_g (g := 76) rfl (by decide) rfl (fun hg76 => ?_) (fun hg76 => ?_)
          · skip
            refine fad rfl ?_
            refine WL_gy (g := 76) rfl (by decide) rfl ?_
            refine ld hs rfl rfl ?_
            refine WL_gy (g := 76) rfl (by decide) rfl ?_
            refine neqW rfl rfl ?_
            first | refine pkT rfl rfl ?_ | refine pkF rfl rfl ?_
            refine WL_nil ?_
            refine hK16 _ _ ?_
            refine CW_cond rfl (fun hc80 => ?_) (fun hc80 => ?_)
            · skip
              refine CW_ret ?_
              repeat (first | (with_reducible apply thenF_ret) | (with_reducible apply blockF_ret))
              try simp only [thenF, blockF, reduceIte]
              refine Post_r Tryz.results191 .nil ?_
              try simp only [ev_tmp, ev_const, upd_ap, Nat.reduceLT, Nat.reduceEqDiff, reduceIte]
              skip
              first
                | (have hvf : v = false := by simpa using hg76
                   rw [if_neg (by simp [hvf])] at hv
                   exact ⟨e2, hs.turned e2 ht.1, .inr ⟨pre ++ [phd n a r], ⟨ptl n a r, by rw [← hpre, hpts, List.append_assoc]; rfl⟩, hv⟩⟩)
                | (have hvt : v = true := by simpa using hg76
                   rw [if_pos hvt] at hv
                   exact ⟨e2, hs.turned e2 ht.1, .inl ⟨pre ++ [phd n a r], by rw [← hpre, hpts, ptl_stop (by simpa using hc80)], hv⟩⟩)
            · have hpe := phd_e0 (n := n) (a := a) (r := r) (by simpa using hc80)
              rw [if_pos (by simpa using hg76)] at hv
              refine CW_skip ?_
              refine hK15 _ _ ?_
              refine CW_seq (fun K17 hK17 => ?_)
              refine CW_region ?_
              refine mvp (.int _ _) rfl ?_
              refine mvp (.int _ _) rfl ?_
              first | refine addI rfl rfl (by omega) ?_ | refine addW rfl rfl ?_
              refine asp (.int _ _) rfl ?_
              refine WL_nil ?_
              refine hK17 _ _ ?_
              refine CW_seq (fun K18 hK18 => ?_)
              refine CW_seq (fun K19 hK19 => ?_)
              refine CW_region ?_
              refine mvp (.int _ _) rfl ?_
              refine ld hs rfl rfl ?_
              refine lenS rfl ?_
              refine eqlW rfl rfl ?_
              refine WL_nil ?_
              refine hK19 _ _ ?_
              refine CW_cond rfl (fun hc87 => ?_) (fun hc87 => ?_)
              · skip
                refine CW_ret ?_
                repeat (first | (with_reducible apply thenF_ret) | (with_reducible apply blockF_ret))
                try simp only [thenF, blockF, reduceIte]
                refine Post_r Tryz.results191 .nil ?_
                try simp only [ev_tmp, ev_const, upd_ap, Nat.reduceLT, Nat.reduceEqDiff, reduceIte]
                exact ⟨e2, hs.turned e2 ht.1, .inl ⟨pre ++ [phd n a r], by rw [← hpre, hpts, ptl_nil hpe (by simp at hc87; omega)], hv⟩⟩
              · obtain ⟨c, hc1⟩ : ∃ c, r[dlen r]? = some c := ⟨_, List.getElem?_eq_getElem (by simp at hc87; omega)⟩
                have hptl := ptl_cons (a := a) hpe hc1
                refine CW_skip ?_
                refine hK18 _ _ ?_
                refine CW_seq (fun K20 hK20 => ?_)
                refine CW_seq (fun K21 hK21 => ?_)
                refine CW_region ?_
                refine ld hs rfl rfl ?_
                refine mvp (.int _ _) rfl ?_
                refine ixS rfl rfl (by simp at hc87; omega) ?_
                refine neqW rfl rfl ?_
                refine WL_nil ?_
                refine hK21 _ _ ?_
                refine CW_cond rfl (fun hc91 => ?_) (fun hc91 => ?_)
                · skip
                  have hc46 : c.toNat ≠ 46 := by
                    have h3 := hri (dlen r) (List.getElem?_eq_some_iff.1 hc1).1
                    rw [List.getD_eq_getElem?_getD, hc1] at h3
                    simp only [Option.getD_some] at h3
                    simp at hc91; omega
                  rw [if_pos hc46] at hptl
                  have hall : pre ++ [phd n a r] ++ [⟨0, a + dlen r, 6⟩] = parts s.data.toList := by rw [← hpre, hpts, hptl, List.append_assoc]; rfl
                  refine CW_seq (fun K22 hK22 => ?_)
                  refine CW_regionY 3 rfl (by kernel_rfl) ?_
                  apply mv
                  refine mvp (.int _ _) rfl ?_
                  refine WL_v (v := .agg #[.int .i64 0, .int .i64 (a + dlen r : Nat), .int .i64 6]) (X_build rfl rfl) ?_
                  refine WL_nil ?_
                  refine ⟨_, rfl, YOp_mono (YOp_it (hY (pre ++ [phd n a r]) ⟨0, a + dlen r, 6⟩ e2 _ ⟨[], by rw [List.append_nil, hall]⟩ hv ht.1 (hs.he e2))) ?_⟩
                  rintro _ w ⟨v3, e3, rfl, ht3, hv3⟩
                  replace hs := hs.turnE ht.1 ht3
                  refine WL_nil ?_
                  refine hK22 _ _ ?_
                  refine CW_ret ?_
                  repeat (first | (with_reducible apply thenF_ret) | (with_reducible apply blockF_ret))
                  try simp only [thenF, blockF, reduceIte]
                  refine Post_r Tryz.results191 .nil ?_
                  try simp only [ev_tmp, ev_const, upd_ap, Nat.reduceLT, Nat.reduceEqDiff, reduceIte]
                  cases v3 with
                  | true =>
                    rw [if_pos rfl] at hv3
                    exact ⟨e3, hs.turned e3 ht3.1, .inl ⟨pre ++ [phd n a r] ++ [⟨0, a + dlen r, 6⟩], hall, hv3⟩⟩
                  | false =>
                    rw [if_neg (by simp)] at hv3
                    exact ⟨e3, hs.turned e3 ht3.1, .inr ⟨pre ++ [phd n a r] ++ [⟨0, a + dlen r, 6⟩], ⟨[], by rw [List.append_nil, hall]⟩, hv3⟩⟩
                · skip
                  refine CW_skip ?_
                  refine hK20 _ _ ?_
                  refine CW_region ?_
                  refine mvp (.int _ _) rfl ?_
                  refine addI rfl rfl (by simp at hc87; omega) ?_
                  refine asp (.int _ _) rfl ?_
                  refine WL_nil ?_
                  refine hK5 _ _ ?_
                  refine CW_region ?_
                  refine mvp (.int _ _) rfl ?_
                  first | refine addI rfl rfl (by omega) ?_ | refine addW rfl rfl ?_
                  refine asp (.int _ _) rfl ?_
                  refine WL_nil ?_
                  skip
                  have hc46 : c.toNat = 46 := by
                    have h3 := hri (dlen r) (List.getElem?_eq_some_iff.1 hc1).1
                    rw [List.getD_eq_getElem?_getD, hc1] at h3
                    simp only [Option.getD_some] at h3
                    simp at hc91; omega
                  rw [if_neg (by omega)] at hptl
                  refine ⟨9 - (n + 1), by omega, n + 1, a + dlen r + 1, e2, pre ++ [phd n a r], rfl, by omega, by simp at hc87; omega, rfl, rfl, rfl, rfl, ht.1, hv, hs.weak (.cons _ (.refl _)), ?_⟩
                  rw [if_neg hne, ← hpre, hpts, hptl, ← hr, List.drop_drop, List.append_assoc]
                  simp only [List.singleton_append, Nat.add_assoc]
          · skip
            refine WL_gn (g := 76) rfl (by decide) rfl ?_
            refine WL_gn (g := 76) rfl (by decide) rfl ?_
            first | refine pkT rfl rfl ?_ | refine pkF rfl rfl ?_
            refine WL_nil ?_
            refine hK16 _ _ ?_
            refine CW_condT rfl rfl ?_
            refine CW_ret ?_
            repeat (first | (with_reducible apply thenF_ret) | (with_reducible apply blockF_ret))
            try simp only [thenF, blockF, reduceIte]
            refine Post_r Tryz.results191 .nil ?_
            try simp only [ev_tmp, ev_const, upd_ap, Nat.reduceLT, Nat.reduceEqDiff, reduceIte]
            skip
            first
              | (have hvf : v = false := by simpa using hg76
                 rw [if_neg (by simp [hvf])] at hv
                 exact ⟨e2, hs.turned e2 ht.1, .inr ⟨pre ++ [phd n a r], ⟨ptl n a r, by rw [← hpre, hpts, List.append_assoc]; rfl⟩, hv⟩⟩)
              | (have hvt : v = true := by simpa using hg76
                 rw [if_pos hvt] at hv
                 exact ⟨e2, hs.turned e2 ht.1, .inl ⟨pre ++ [phd n a r], by rw [← hpre, hpts, ptl_stop (by simpa using hc80)], hv⟩⟩)
    · skip
      refine CW_exit ?_
      try simp only [thenF, blockF, reduceIte]
      refine Post_n Tryz.results191 .nil ?_
      try simp only [ev_tmp, ev_const, upd_ap, Nat.reduceLT, Nat.reduceEqDiff, reduceIte]
      have hne : s.data.toList = [] := by simpa using hc8
      rw [if_pos hne, List.append_nil] at hpre
      exact ⟨e', hs.turned e' ho', .inl ⟨pre, hpre, hJ⟩⟩
end Go.Proofs.YtkbldndbofbkcaaGreatDoor
/- lineage.parse. -/
namespace Go.Proofs.YtkbldndbofbkcaaGreatDoor
open Go Go.RowKit
attribute [local irreducible] WL CW DW Ret RW
theorem parts_ok (s : ByteArray) (w0 : World) :
    Ret Tryz.prog 170 #[.string s] w0 fun v w' => ∃ g, v = .func (.func 191) #[] #[.pointer (some ⟨g, 0, none⟩)] ∧ w'.heap[g]? = some (Blk 9 [.string s]) ∧ w0.heap.size ≤ g ∧ Fm [] w0 w' := by
  have hs := St.init w0 []
  refine Ret_enter Tryz.func170 rfl Tryz.ntmps170 (by simp) ?_
  refine CW_seq (fun K1 hK1 => ?_)
  refine CW_region ?_
  refine bx (.string _) hs rfl rfl ?_
  intro w g1 hs hg1 hf1
  apply asg
  refine WL_nil ?_
  refine hK1 _ _ ?_
  refine CW_seq (fun K2 hK2 => ?_)
  refine CW_region ?_
  apply mkf
  apply asg
  refine WL_nil ?_
  refine hK2 _ _ ?_
  refine CW_ret ?_
  repeat (first | (with_reducible apply thenF_ret) | (with_reducible apply blockF_ret))
  try simp only [thenF, blockF, reduceIte]
  refine Post_r Tryz.results170 (.tmp rfl .nil) ?_
  try simp only [ev_tmp, ev_const, upd_ap, Nat.reduceLT, Nat.reduceEqDiff, reduceIte]
  exact ⟨g1, rfl, hs.get InB.h, hs.geB, hs.fm⟩
/-- Ordinals as cells. -/
def ov (l : List Nat) : List Value := l.map fun (n : Nat) => Value.int .i64 (n : Int)
theorem ov_snoc (l : List Nat) (n : Nat) : ov (l ++ [n]) = ov l ++ [.int .i64 (n : Int)] := by simp [ov]
def pH (c2 c3 c4 o5 : Nat) (a : Option Addr) (n cap : Nat) (l : List Nat) : List Ent :=
  [eR (.slice a n cap) 3 1 n (ov l), eB o5 true (Blk 176 [.slice a n cap]), eB c4 true (Blk 25 [.int .i64 0]), eB c3 true (Blk 3 [.int .i64 0]), eB c2 true (Blk 176 [.slice none 0 0])]
def pHx (c2 c3 c4 : Nat) (at_ e : Int) : List Ent :=
  [eB c4 true (Blk 25 [.int .i64 e]), eB c3 true (Blk 3 [.int .i64 at_]), eB c2 true (Blk 176 [.slice none 0 0])]
theorem parse_ok (s : ByteArray) (w0 : World) (hsz : s.size ≤ 9223372036854775807) :
    Ret Tryz.prog 121 #[.string s] w0 fun v w' => (if lvalid s.data.toList then ∃ a n cap, v = .tuple #[.slice a n cap, .int .i64 0, .int .i64 0] ∧ n = (lords s.data.toList).length ∧ NewR w0 w' 3 1 n (.slice a n cap) (ov (lords s.data.toList)) else ∃ at_ e : Int, v = .tuple #[.slice none 0 0, .int .i64 at_, .int .i64 e] ∧ e ≠ 0) ∧ Fm [] w0 w' := by
  have hs := St.init w0 []
  refine RW_enter Tryz.func121 rfl Tryz.ntmps121 (by simp) ?_
  refine RW_seq (fun K1 hK1 => ?_)
  refine CW_region ?_
  refine alc hs ?_
  intro w g2 hs hg2 hf2
  refine alc hs ?_
  intro w g3 hs hg3 hf3
  refine alc hs ?_
  intro w g4 hs hg4 hf4
  refine WL_nil ?_
  refine hK1 _ _ ?_
  refine RW_seq (fun K2 hK2 => ?_)
  refine CW_region ?_
  refine alc hs ?_
  intro w g5 hs hg5 hf5
  refine WL_nil ?_
  refine hK2 _ _ ?_
  refine RW_range (fun K3 hK3 => ?_)
  refine CW_region ?_
  refine mvp (.string _) rfl ?_
  refine cll (parts_ok s _) ?_
  rintro _ w ⟨g, rfl, hg1, hg2, hf⟩
  have hlt5 := heap_lt (hs.get (b := g5) InB.h)
  have hlt4 := heap_lt (hs.get (b := g4) InB.h)
  have hlt3 := heap_lt (hs.get (b := g3) InB.h)
  have hlt2 := heap_lt (hs.get (b := g2) InB.h)
  replace hs := hs.call hf
  have hs2 : St w0 [] w [eL (pH g2 g3 g4 g5 none 0 0 [])] := (hs.nilR 3 1).pack (by simp [eR, eB])
  refine WL_nil ?_
  refine hK3 _ _ ?_
  intro Q hn hr
  refine range_law (lb := [.pointer (some ⟨g, 0, none⟩)]) rfl (it_parts g s hsz)
    (fun xs e => ∃ a n cap, e = eL (pH g2 g3 g4 g5 a n cap (xs.map (·.ord))) ∧ n = xs.length ∧ ∀ x ∈ xs, x.e = 0)
    (fun c xs e => c = .ret ∧ ∃ at_ er : Int, e = eL (pHx g2 g3 g4 at_ er) ∧ er ≠ 0 ∧ ∃ x ∈ xs, x.e ≠ 0)
    (eL (pH g2 g3 g4 g5 none 0 0 [])) rfl (hs2.he _) ⟨none, 0, 0, rfl, rfl, by simp⟩ ?pre ?round ?done ?stop
  case pre =>
    intro e W hfp hfm
    refine ⟨fun hm => ?_, hfm.keep hg1 (by simp)⟩
    rcases hfp g hm with h | h
    · obtain ⟨x, hx, hb⟩ := eL_mem.1 h
      simp [pH] at hx
      rcases hx with rfl | rfl | rfl | rfl | rfl <;> simp [eR, eB, Value.ownBlock] at hb <;> omega
    · have := heap_lt hg1; omega
  · skip
    rintro l Lr Lb pre x e W hSp ⟨a, n, cap, rfl, hlen, hall⟩ _ heW hl hLr
    have hs : St W (l :: (eL (pH g2 g3 g4 g5 a n cap (pre.map (·.ord)))).fp) W (pH g2 g3 g4 g5 a n cap (pre.map (·.ord)) ++ [eB l true Lr]) := St.rnd heW hl hLr
    simp only [pH, List.cons_append, List.nil_append] at hs
    have hpl : pre.length < 10 := by
      have h1 := hSp.length_le
      have h2 := parts_len s.data.toList
      simp at h1; omega
    refine CW_regionR (by kernel_rfl) ?_
    refine alc hs ?_
    intro w g6 hs hg6 hf6
    refine sto (.agg _) hs rfl rfl rfl rfl (by simp) rfl ?_
    intro w hs _
    refine WL_nil ?_
    refine ⟨rfl, hs.get InB.h, ?_⟩
    replace hs := hs.putD l Lb
    replace hs : St W _ _ (eB g6 true (Blk 240 [.int .i64 x.ord, .int .i64 x.at_, .int .i64 x.e]) :: _) := hs
    refine CW_block ?_
    refine CW_seq (fun K4 hK4 => ?_)
    refine CW_seq (fun K5 hK5 => ?_)
    refine CW_regionR (by kernel_rfl) ?_
    refine fad rfl ?_
    refine ld hs rfl rfl ?_
    refine neqW rfl rfl ?_
    refine WL_nil ?_
    refine hK5 _ _ ?_
    refine CW_cond rfl (fun hc12 => ?_) (fun hc12 => ?_)
    · skip
      refine CW_seq (fun K6 hK6 => ?_)
      refine DW_sRh (by kernel_rfl) hs 999 ([eB g6 true (Blk 240 [.int .i64 x.ord, .int .i64 x.at_, .int .i64 x.e])]) ?_
      intro w hs _
      refine DW_q hs 0 rfl (by kernel_rfl) (fun w' hw' => X_fieldAddr rfl rfl) ?_
      refine DW_q hs 1 rfl (by kernel_rfl) (fun w' hw' => X_ldH hw' rfl rfl) ?_
      refine DW_q hs 2 rfl (by kernel_rfl) (fun w' hw' => X_fieldAddr rfl rfl) ?_
      refine DW_q hs 3 rfl (by kernel_rfl) (fun w' hw' => X_ldH hw' rfl rfl) ?_
      refine DW_l 4 rfl (by kernel_rfl) ?_
      refine sto (.slice _ _ _) hs rfl rfl rfl rfl (by simp) rfl ?_
      intro w hs _
      refine WL_nil ?_
      refine ⟨.inr hs.hold, ?_⟩
      refine DW_l 5 rfl (by kernel_rfl) ?_
      refine sto (.int _ _) hs rfl rfl rfl rfl (by simp) rfl ?_
      intro w hs _
      refine WL_nil ?_
      refine ⟨.inr hs.hold, ?_⟩
      refine DW_l 6 rfl (by kernel_rfl) ?_
      refine sto (.int _ _) hs rfl rfl rfl rfl (by simp) rfl ?_
      intro w hs _
      refine WL_nil ?_
      refine ⟨.inr hs.hold, ?_⟩
      refine DW_e (by kernel_rfl) ?_
      refine hK6 _ _ ?_
      refine CW_ret ?_
      repeat (first | (with_reducible apply thenF_ret) | (with_reducible apply blockF_ret))
      have hx : x.e ≠ 0 := by simpa using hc12
      have hs3 := St.weak (H' := pHx g2 g3 g4 x.at_ x.e ++ [eB l true Lb]) hs (.cons _ (.cons _ (.cons _ (.refl _))))
      obtain ⟨k1, e', he', k3, k4, k5, k6⟩ := hs3.rndEnd (by simp [pHx, eB])
      exact ⟨k1, e', k3, k4, k5, k6, rfl, _, _, he', hx, x, by simp, hx⟩
    · skip
      refine CW_skip ?_
      refine hK4 _ _ ?_
      refine CW_regionR (by kernel_rfl) ?_
      refine ld hs rfl rfl ?_
      refine fad rfl ?_
      refine ld hs rfl rfl ?_
      refine W_bslice hs (BS.ii rfl .nil) rfl (by simp) ?_
      intro w g20 hs hg20 hf20
      refine app1 hs rfl rfl (by rfl) (by rfl) (by decide) (by rfl) (by omega) (by omega) ?_
      intro a2 c2 w hs _
      refine sto (.slice _ _ _) hs rfl rfl rfl rfl (by simp) rfl ?_
      intro w hs _
      refine WL_nil ?_
      have hx : x.e = 0 := by simpa using hc12
      have e1 : ov ((pre ++ [x]).map (·.ord)) = ov (pre.map (·.ord)) ++ [.int .i64 (x.ord : Int)] := by rw [List.map_append]; exact ov_snoc _ _
      have hs3 := St.weak (H' := pH g2 g3 g4 g5 a2 (n + 1) c2 ((pre ++ [x]).map (·.ord)) ++ [eB l true Lb]) hs (by
        unfold pH
        rw [e1]
        exact .cons _ (.cons _ (.refl _)))
      obtain ⟨k1, e', he', k3, k4, k5, k6⟩ := hs3.rndEnd (by simp [pH, eB, eR])
      exact ⟨k1, e', k3, k4, k5, k6, a2, n + 1, c2, he', by simp [hlen], fun y hy => by
        rcases List.mem_append.1 hy with hy | hy
        · exact hall y hy
        · simp at hy; rw [hy]; exact hx⟩
  · skip
    rintro D xs e W hS ⟨a, n, cap, rfl, hlen, hall⟩ ht hD hDw hDb
    have hs := (hs2.turnE rfl ht).unpack
    replace hs := hs.put (e := eB D true (.deferred (some []))) hDb (fun y hy b hb hq => by simp [eB] at hb; subst hb; exact hD (eL_mem.2 ⟨y, hy, hq⟩)) (fun _ b hb => by simp [eB] at hb; subst hb; have := hs2.fm.size; left; omega)
    simp only [pH] at hs
    refine hn D _ _ ?_
    refine CW_seq (fun K7 hK7 => ?_)
    refine CW_region ?_
    refine ld hs rfl rfl ?_
    refine sto (.slice _ _ _) hs rfl rfl rfl rfl (by simp) rfl ?_
    intro w hs _
    refine sto (.int _ _) hs rfl rfl rfl rfl (by simp) rfl ?_
    intro w hs _
    refine sto (.int _ _) hs rfl rfl rfl rfl (by simp) rfl ?_
    intro w hs _
    refine WL_nil ?_
    refine hK7 _ _ ?_
    refine CW_ret ?_
    repeat (first | (with_reducible apply thenF_ret) | (with_reducible apply blockF_ret))
    refine PostM_mk (hs.get (b := D) InB.h) ?_
    replace hs := hs.putD D (.deferred none)
    refine Post_r Tryz.results121 (.cell rfl (lv1 hs rfl) (.cell rfl (lv1 hs rfl) (.cell rfl (lv1 hs rfl) .nil))) ?_
    try simp only [ev_tmp, ev_const, upd_ap, Nat.reduceLT, Nat.reduceEqDiff, reduceIte]
    have hS' : xs = parts s.data.toList := hS
    have hv : lvalid s.data.toList = true := by
      unfold lvalid
      rw [List.all_eq_true]
      intro y hy
      rw [← hS'] at hy
      simpa using hall y hy
    have ho : lords s.data.toList = xs.map (·.ord) := by unfold lords; rw [if_pos hv, hS']
    rw [if_pos hv, ho]
    exact ⟨⟨a, n, cap, rfl, by simp [hlen], hs.newR⟩, hs.fm⟩
  · skip
    rintro D c pre e W hSp ⟨rfl, at_, er, rfl, her, x, hx, hxe⟩ ht hD hDw hDb
    have hs := (hs2.turnE rfl ht).unpack
    replace hs := hs.put (e := eB D true (.deferred (some []))) hDb (fun y hy b hb hq => by simp [eB] at hb; subst hb; exact hD (eL_mem.2 ⟨y, hy, hq⟩)) (fun _ b hb => by simp [eB] at hb; subst hb; have := hs2.fm.size; left; omega)
    simp only [pHx] at hs
    refine hr D _ _ (PostM_mk hDb ?_)
    replace hs := hs.putD D (.deferred none)
    refine Post_r Tryz.results121 (.cell rfl (lv1 hs rfl) (.cell rfl (lv1 hs rfl) (.cell rfl (lv1 hs rfl) .nil))) ?_
    have hv : lvalid s.data.toList = false := by
      unfold lvalid
      rw [List.all_eq_false]
      exact ⟨x, hSp.subset hx, by simpa using hxe⟩
    rw [if_neg (by simp [hv])]
    exact ⟨⟨at_, er, rfl, her⟩, hs.fm⟩
end Go.Proofs.YtkbldndbofbkcaaGreatDoor
/- lineage: Valid, Ordinals. -/
namespace Go.Proofs.YtkbldndbofbkcaaGreatDoor
open Go Go.RowKit
attribute [local irreducible] WL CW DW Ret RW
theorem Valid_ok (s : ByteArray) (w0 : World) (hsz : s.size ≤ 9223372036854775807) :
    Ret Tryz.prog 56 #[.string s] w0 fun v w' => v = .bool (lvalid s.data.toList) ∧ Fm [] w0 w' := by
  have hs := St.init w0 []
  refine Ret_enter Tryz.func56 rfl Tryz.ntmps56 (by simp) ?_
  refine CW_seq (fun K1 hK1 => ?_)
  refine CW_region ?_
  refine asp (.bool _) rfl ?_
  refine WL_nil ?_
  refine hK1 _ _ ?_
  refine CW_seq (fun K2 hK2 => ?_)
  refine CW_region ?_
  refine mvp (.string _) rfl ?_
  refine cll (parse_ok s _ hsz) ?_
  intro v w ⟨hv, hf⟩
  replace hs := hs.call hf
  obtain ⟨va, vb, e, rfl, he⟩ : ∃ va vb : Value, ∃ e : Int, v = .tuple #[va, vb, .int .i64 e] ∧ decide (e = 0) = lvalid s.data.toList := by
    split at hv
    · rename_i h; obtain ⟨a, n, c, rfl, _⟩ := hv; exact ⟨_, _, 0, rfl, by simp [h]⟩
    · rename_i h; obtain ⟨a, e, rfl, he⟩ := hv; exact ⟨_, _, e, rfl, by simp [he, h]⟩
  refine mvp (.tuple _) rfl ?_
  refine ext (v := va) rfl rfl ?_
  refine ext (v := vb) rfl rfl ?_
  refine ext rfl rfl ?_
  refine asp va rfl ?_
  refine asp vb rfl ?_
  refine asp (.int _ _) rfl ?_
  refine WL_nil ?_
  refine hK2 _ _ ?_
  refine CW_seq (fun K3 hK3 => ?_)
  refine CW_region ?_
  refine mvp (.int _ _) rfl ?_
  refine eqlW rfl rfl ?_
  refine asp (.bool _) rfl ?_
  refine WL_nil ?_
  refine hK3 _ _ ?_
  refine CW_ret ?_
  repeat (first | (with_reducible apply thenF_ret) | (with_reducible apply blockF_ret))
  try simp only [thenF, blockF, reduceIte]
  refine Post_r Tryz.results56 (.tmp rfl .nil) ?_
  try simp only [ev_tmp, ev_const, upd_ap, Nat.reduceLT, Nat.reduceEqDiff, reduceIte]
  exact ⟨by rw [he], hs.fm⟩
theorem Ordinals_ok (s : ByteArray) (w0 : World) (hsz : s.size ≤ 9223372036854775807) :
    Ret Tryz.prog 152 #[.string s] w0 fun v w' => (∃ a n c, v = .slice a n c ∧ n = (lords s.data.toList).length ∧ NewR w0 w' 3 1 n (.slice a n c) (ov (lords s.data.toList))) ∧ Fm [] w0 w' := by
  have hs := St.init w0 []
  refine Ret_enter Tryz.func152 rfl Tryz.ntmps152 (by simp) ?_
  refine CW_seq (fun K1 hK1 => ?_)
  refine CW_region ?_
  refine asp (.slice _ _ _) rfl ?_
  refine WL_nil ?_
  refine hK1 _ _ ?_
  refine CW_seq (fun K2 hK2 => ?_)
  refine CW_region ?_
  refine mvp (.string _) rfl ?_
  refine cll (parse_ok s _ hsz) ?_
  intro v w ⟨hv, hf⟩
  replace hs := hs.call hf
  obtain ⟨a, n, c, vb, vc, rfl, hn, hrow⟩ : ∃ a n c, ∃ vb vc : Value, v = .tuple #[.slice a n c, vb, vc] ∧ n = (lords s.data.toList).length ∧ NewR w0 w 3 1 n (.slice a n c) (ov (lords s.data.toList)) := by
    split at hv
    · rename_i h; obtain ⟨a, n, c, rfl, h1, h2⟩ := hv; exact ⟨a, n, c, _, _, rfl, h1, h2⟩
    · rename_i h; obtain ⟨a, e, rfl, he⟩ := hv
      have h0 : lords s.data.toList = [] := by unfold lords; rw [if_neg h]
      exact ⟨none, 0, 0, _, _, rfl, by rw [h0]; rfl, by rw [h0]; exact World.ownsRow_nil _ _ _ _⟩
  refine mvp (.tuple _) rfl ?_
  refine ext rfl rfl ?_
  refine ext (v := vb) rfl rfl ?_
  refine ext (v := vc) rfl rfl ?_
  refine asp (.slice _ _ _) rfl ?_
  refine asp vb rfl ?_
  refine asp vc rfl ?_
  refine WL_nil ?_
  refine hK2 _ _ ?_
  refine CW_seq (fun K3 hK3 => ?_)
  refine CW_region ?_
  refine mvp (.slice _ _ _) rfl ?_
  refine asp (.slice _ _ _) rfl ?_
  refine WL_nil ?_
  refine hK3 _ _ ?_
  refine CW_ret ?_
  repeat (first | (with_reducible apply thenF_ret) | (with_reducible apply blockF_ret))
  try simp only [thenF, blockF, reduceIte]
  refine Post_r Tryz.results152 (.tmp rfl .nil) ?_
  try simp only [ev_tmp, ev_const, upd_ap, Nat.reduceLT, Nat.reduceEqDiff, reduceIte]
  exact ⟨⟨a, n, c, rfl, hn, hrow⟩, hs.fm⟩
end Go.Proofs.YtkbldndbofbkcaaGreatDoor
/- Comparisons: strings.Compare, cmp.Compare, cmp.Or, slices.Compare. -/
namespace Go.Proofs.YtkbldndbofbkcaaGreatDoor
open Go Go.RowKit
attribute [local irreducible] WL CW DW Ret RW
theorem cmps_next : Extern.findNext Tryz.f199 = none := by kernel_rfl
theorem cmps_find : Extern.find Tryz.f199 = some Extern.BytealgCompare.compare := by kernel_rfl
/-- The order of strings. -/
def scmp (a b : ByteArray) : Int := Extern.BytealgCompare.cmp a b
theorem cmps_run (a b : ByteArray) (w : World) : (callFunc 199 #[.string a, .string b]).run Tryz.prog w = .ok (.value (.int .i64 (scmp a b))) w := by
  have hp : (program).run Tryz.prog w = .ok Tryz.prog w := rfl
  have hn : (Tryz.f199.name == "runtime.NumGoroutine") = false := by decide
  have hb : Tryz.f199.body.isNone = true := rfl
  unfold callFunc
  simp only [Sem.run_bind, hp, Result.andThen_ok, Tryz.func199, hn, hb, if_true]
  have hc : Extern.BytealgCompare.compare #[.string a, .string b] = (do pure (goInt (Extern.BytealgCompare.cmp (← Extern.Bytes.bytesOf (.string a)) (← Extern.Bytes.bytesOf (.string b))))) := rfl
  simp [cmps_next, cmps_find, hc, Extern.Bytes.bytesOf, scmp, goInt]
theorem cmps_W {X : Cx} {N : Nat} {Q : Exit → Fr → World → Prop} {f : Fr} {w : World} {ops : Array Oper} {rest : List Oper} {d : Nat} {T : TypeId} {p : String} {aft : Array Edge} {Ts : Array TypeId} {x y : Operand} {a b : ByteArray} (hx : ev N f x = .string a) (hy : ev N f y = .string b)
    (K : WL X Tryz.prog N ops Q rest (upd f d (.int .i64 (scmp a b))) w) : WL X Tryz.prog N ops Q (⟨some d, .call ⟨.value (.func 199), #[x, y], Ts⟩, T, p, aft, none⟩ :: rest) f w := by
  refine WL_v (v := .int .i64 (scmp a b)) (w' := w) ?_ K
  have h := cmps_run a b w
  simp [Ex, execOp, resolve, Deferred.ofValue, ev_func, invoke, hx, hy, h]
theorem CompareString_ok (a b : ByteArray) (w0 : World) :
    Ret Tryz.prog 181 #[.string a, .string b] w0 fun v w' => v = .int .i64 (scmp a b) ∧ Fm [] w0 w' := by
  have hs := St.init w0 []
  refine Ret_enter Tryz.func181 rfl Tryz.ntmps181 (by simp) ?_
  refine CW_seq (fun K1 hK1 => ?_)
  refine CW_region ?_
  refine asp (.int _ _) rfl ?_
  refine WL_nil ?_
  refine hK1 _ _ ?_
  refine CW_seq (fun K2 hK2 => ?_)
  refine CW_region ?_
  refine mvp (.string _) rfl ?_
  refine mvp (.string _) rfl ?_
  refine cmps_W rfl rfl ?_
  refine asp (.int _ _) rfl ?_
  refine WL_nil ?_
  refine hK2 _ _ ?_
  refine CW_ret ?_
  repeat (first | (with_reducible apply thenF_ret) | (with_reducible apply blockF_ret))
  try simp only [thenF, blockF, reduceIte]
  refine Post_r Tryz.results181 (.tmp rfl .nil) ?_
  try simp only [ev_tmp, ev_const, upd_ap, Nat.reduceLT, Nat.reduceEqDiff, reduceIte]
  exact ⟨by trivial, hs.fm⟩
theorem sCompare_ok (a b : ByteArray) (w0 : World) :
    Ret Tryz.prog 153 #[.string a, .string b] w0 fun v w' => v = .int .i64 (scmp a b) ∧ Fm [] w0 w' := by
  have hs := St.init w0 []
  refine Ret_enter Tryz.func153 rfl Tryz.ntmps153 (by simp) ?_
  refine CW_seq (fun K1 hK1 => ?_)
  refine CW_region ?_
  refine asp (.int _ _) rfl ?_
  refine WL_nil ?_
  refine hK1 _ _ ?_
  refine CW_seq (fun K2 hK2 => ?_)
  refine CW_region ?_
  refine mvp (.string _) rfl ?_
  refine mvp (.string _) rfl ?_
  refine cll (CompareString_ok a b _) ?_
  rintro _ w ⟨rfl, hf⟩
  replace hs := hs.call hf
  refine asp (.int _ _) rfl ?_
  refine WL_nil ?_
  refine hK2 _ _ ?_
  refine CW_ret ?_
  repeat (first | (with_reducible apply thenF_ret) | (with_reducible apply blockF_ret))
  try simp only [thenF, blockF, reduceIte]
  refine Post_r Tryz.results153 (.tmp rfl .nil) ?_
  try simp only [ev_tmp, ev_const, upd_ap, Nat.reduceLT, Nat.reduceEqDiff, reduceIte]
  exact ⟨by trivial, hs.fm⟩
theorem isNaNi_ok (a : Int) (w0 : World) :
    Ret Tryz.prog 198 #[.int .i64 a] w0 fun v w' => v = .bool false ∧ Fm [] w0 w' := by
  have hs := St.init w0 []
  refine Ret_enter Tryz.func198 rfl Tryz.ntmps198 (by simp) ?_
  refine CW_seq (fun K1 hK1 => ?_)
  refine CW_region ?_
  refine asp (.bool _) rfl ?_
  refine WL_nil ?_
  refine hK1 _ _ ?_
  refine CW_seq (fun K2 hK2 => ?_)
  refine CW_region ?_
  refine mvp (.int _ _) rfl ?_
  refine mvp (.int _ _) rfl ?_
  refine neqW rfl rfl ?_
  refine asp (.bool _) rfl ?_
  refine WL_nil ?_
  refine hK2 _ _ ?_
  refine CW_ret ?_
  repeat (first | (with_reducible apply thenF_ret) | (with_reducible apply blockF_ret))
  try simp only [thenF, blockF, reduceIte]
  refine Post_r Tryz.results198 (.tmp rfl .nil) ?_
  try simp only [ev_tmp, ev_const, upd_ap, Nat.reduceLT, Nat.reduceEqDiff, reduceIte]
  exact ⟨by simp, hs.fm⟩
/-- The order of whole numbers. -/
def icmp (a b : Int) : Int := if a < b then -1 else if b < a then 1 else 0
theorem iCompare_ok (a b : Int) (w0 : World) :
    Ret Tryz.prog 180 #[.int .i64 a, .int .i64 b] w0 fun v w' => v = .int .i64 (icmp a b) ∧ Fm [] w0 w' := by
  have hs := St.init w0 []
  refine Ret_enter Tryz.func180 rfl Tryz.ntmps180 (by simp) ?_
  refine CW_seq (fun K1 hK1 => ?_)
  refine CW_region ?_
  refine asp (.int _ _) rfl ?_
  refine WL_nil ?_
  refine hK1 _ _ ?_
  refine CW_seq (fun K2 hK2 => ?_)
  refine CW_region ?_
  refine mvp (.int _ _) rfl ?_
  refine cll (isNaNi_ok a _) ?_
  rintro _ w ⟨rfl, hf⟩
  replace hs := hs.call hf
  refine asp (.bool _) rfl ?_
  refine WL_nil ?_
  refine hK2 _ _ ?_
  refine CW_seq (fun K3 hK3 => ?_)
  refine CW_region ?_
  refine mvp (.int _ _) rfl ?_
  refine cll (isNaNi_ok b _) ?_
  rintro _ w ⟨rfl, hf⟩
  replace hs := hs.call hf
  refine asp (.bool _) rfl ?_
  refine WL_nil ?_
  refine hK3 _ _ ?_
  refine CW_seq (fun K4 hK4 => ?_)
  refine CW_seq (fun K5 hK5 => ?_)
  refine CW_region ?_
  refine mvp (.bool _) rfl ?_
  refine WL_nil ?_
  refine hK5 _ _ ?_
  refine CW_condF rfl (rfl) ?_
  refine CW_skip ?_
  refine hK4 _ _ ?_
  refine CW_seq (fun K6 hK6 => ?_)
  refine CW_seq (fun K7 hK7 => ?_)
  refine CW_region ?_
  refine mvp (.bool _) rfl ?_
  refine WL_nil ?_
  refine hK7 _ _ ?_
  refine CW_condF rfl (rfl) ?_
  refine CW_skip ?_
  refine hK6 _ _ ?_
  refine CW_seq (fun K8 hK8 => ?_)
  refine CW_seq (fun K9 hK9 => ?_)
  refine CW_region ?_
  refine mvp (.int _ _) rfl ?_
  refine mvp (.int _ _) rfl ?_
  refine lssW rfl rfl ?_
  refine WL_nil ?_
  refine hK9 _ _ ?_
  refine CW_cond rfl (fun hc16 => ?_) (fun hc16 => ?_)
  · skip
    refine CW_seq (fun K10 hK10 => ?_)
    refine CW_region ?_
    refine asp (.int _ _) rfl ?_
    refine WL_nil ?_
    refine hK10 _ _ ?_
    refine CW_ret ?_
    repeat (first | (with_reducible apply thenF_ret) | (with_reducible apply blockF_ret))
    try simp only [thenF, blockF, reduceIte]
    refine Post_r Tryz.results180 (.tmp rfl .nil) ?_
    try simp only [ev_tmp, ev_const, upd_ap, Nat.reduceLT, Nat.reduceEqDiff, reduceIte]
    exact ⟨by unfold icmp; first | (rw [if_pos (by simpa using hc16)]) | (rw [if_neg (by simpa using hc16), if_pos (by simpa using hc19)]) | (rw [if_neg (by simpa using hc16), if_neg (by simpa using hc19)]), hs.fm⟩
  · skip
    refine CW_skip ?_
    refine hK8 _ _ ?_
    refine CW_seq (fun K11 hK11 => ?_)
    refine CW_seq (fun K12 hK12 => ?_)
    refine CW_region ?_
    refine mvp (.int _ _) rfl ?_
    refine mvp (.int _ _) rfl ?_
    refine gtrW rfl rfl ?_
    refine WL_nil ?_
    refine hK12 _ _ ?_
    refine CW_cond rfl (fun hc19 => ?_) (fun hc19 => ?_)
    · skip
      refine CW_seq (fun K13 hK13 => ?_)
      refine CW_region ?_
      refine asp (.int _ _) rfl ?_
      refine WL_nil ?_
      refine hK13 _ _ ?_
      refine CW_ret ?_
      repeat (first | (with_reducible apply thenF_ret) | (with_reducible apply blockF_ret))
      try simp only [thenF, blockF, reduceIte]
      refine Post_r Tryz.results180 (.tmp rfl .nil) ?_
      try simp only [ev_tmp, ev_const, upd_ap, Nat.reduceLT, Nat.reduceEqDiff, reduceIte]
      exact ⟨by unfold icmp; first | (rw [if_pos (by simpa using hc16)]) | (rw [if_neg (by simpa using hc16), if_pos (by simpa using hc19)]) | (rw [if_neg (by simpa using hc16), if_neg (by simpa using hc19)]), hs.fm⟩
    · skip
      refine CW_skip ?_
      refine hK11 _ _ ?_
      refine CW_seq (fun K14 hK14 => ?_)
      refine CW_region ?_
      refine asp (.int _ _) rfl ?_
      refine WL_nil ?_
      refine hK14 _ _ ?_
      refine CW_ret ?_
      repeat (first | (with_reducible apply thenF_ret) | (with_reducible apply blockF_ret))
      try simp only [thenF, blockF, reduceIte]
      refine Post_r Tryz.results180 (.tmp rfl .nil) ?_
      try simp only [ev_tmp, ev_const, upd_ap, Nat.reduceLT, Nat.reduceEqDiff, reduceIte]
      exact ⟨by unfold icmp; first | (rw [if_pos (by simpa using hc16)]) | (rw [if_neg (by simpa using hc16), if_pos (by simpa using hc19)]) | (rw [if_neg (by simpa using hc16), if_neg (by simpa using hc19)]), hs.fm⟩
theorem ov_at {w : World} {a : Option Addr} {n : Nat} {l : List Nat} (h : Rd w a n 1 (ov l)) {i : Nat} (hi : i < l.length) : ∃ b off, a = some ⟨b, off, none⟩ ∧ w.cell? ⟨b, off + i * 1, none⟩ = some (.int .i64 (l[i] : Nat)) := by
  obtain ⟨b, off, e, hc⟩ := h.2 (by intro hq; have : (ov l).length = l.length := by simp [ov]
                                    rw [hq] at this; simp at this; omega)
  exact ⟨b, off, e, by rw [Nat.mul_one]; exact hc i _ (by simp [ov, hi])⟩
/-- The order of lists of whole numbers. -/
def lcmp : List Nat → List Nat → Int
  | [], [] => 0
  | [], _ :: _ => -1
  | _ :: _, [] => 1
  | a :: l, b :: m => if icmp a b ≠ 0 then icmp a b else lcmp l m
theorem lcmp_cons {l k : List Nat} {i : Nat} (hi : i < l.length) (hk : i < k.length) : lcmp (l.drop i) (k.drop i) = if icmp l[i] k[i] ≠ 0 then icmp l[i] k[i] else lcmp (l.drop (i + 1)) (k.drop (i + 1)) := by
  rw [List.drop_eq_getElem_cons hi, List.drop_eq_getElem_cons hk, lcmp]
theorem lcmp_l {l k : List Nat} {i : Nat} (hi : i < l.length) (hk : k.length ≤ i) : lcmp (l.drop i) (k.drop i) = 1 := by
  rw [List.drop_eq_getElem_cons hi, List.drop_of_length_le hk, lcmp]
theorem lcmp_r {l k : List Nat} {i : Nat} (hi : l.length ≤ i) (hk : i < k.length) : lcmp (l.drop i) (k.drop i) = -1 := by
  rw [List.drop_eq_getElem_cons hk, List.drop_of_length_le hi, lcmp]
theorem lcmp_e {l k : List Nat} {i : Nat} (hi : l.length ≤ i) (hk : k.length ≤ i) : lcmp (l.drop i) (k.drop i) = 0 := by
  rw [List.drop_of_length_le hk, List.drop_of_length_le hi, lcmp]
theorem slCompare_ok (a b : Option Addr) (n m c d : Nat) (l k : List Nat) (w0 : World) (ha : Rd w0 a n 1 (ov l)) (hb : Rd w0 b m 1 (ov k)) (hn : n = l.length) (hm : m = k.length) (hn2 : n ≤ 4611686018427387904) :
    Ret Tryz.prog 151 #[.slice a n c, .slice b m d] w0 fun v w' => v = .int .i64 (lcmp l k) ∧ Fm [] w0 w' := by
  have hs := St.init w0 []
  refine Ret_enter Tryz.func151 rfl Tryz.ntmps151 (by simp) ?_
  refine CW_seq (fun K1 hK1 => ?_)
  refine CW_region ?_
  refine asp (.int _ _) rfl ?_
  refine WL_nil ?_
  refine hK1 _ _ ?_
  refine CW_seq (fun K2 hK2 => ?_)
  refine CW_seq (fun K3 hK3 => ?_)
  refine CW_region ?_
  refine mvp (.slice _ _ _) rfl ?_
  refine lenW rfl ?_
  refine mvp (.int _ _) rfl ?_
  refine WL_nil ?_
  refine hK3 _ _ ?_
  refine CW_block ?_
  refine CW_loop (fun j f w' => ∃ i : Nat, j = n - i ∧ i ≤ n ∧ i ≤ m ∧ f 0 = .slice a n c ∧ f 1 = .slice b m d ∧ f 9 = .slice a n c ∧ f 10 = .int .i64 n ∧ f 11 = .int .i64 i ∧ lcmp l k = lcmp (l.drop i) (k.drop i) ∧ St w0 [] w' []) n ?_ ?_
  · exact ⟨0, rfl, by omega, by omega, rfl, rfl, rfl, rfl, rfl, rfl, hs⟩
  · rintro j f w ⟨i, rfl, hi, him, e0, e1, e9, e10, e11, hl, hs⟩
    refine CW_kn (i := 0) e0 (CW_kn (i := 1) e1 (CW_kn (i := 9) e9 (CW_kn (i := 10) e10 (CW_kn (i := 11) e11 ?_))))
    refine CW_seq (fun K4 hK4 => ?_)
    refine CW_region ?_
    refine lssW rfl rfl ?_
    refine WL_nil ?_
    refine hK4 _ _ ?_
    refine CW_seq (fun K5 hK5 => ?_)
    refine CW_cond rfl (fun hc12 => ?_) (fun hc12 => ?_)
    · have hi2 : i < l.length := by simp at hc12; omega
      obtain ⟨ba, oa, rfl, hcella⟩ := ov_at ha hi2
      replace hcella := hs.fm.cell hcella (by simp)
      refine CW_skip ?_
      refine hK5 _ _ ?_
      refine CW_seq (fun K6 hK6 => ?_)
      refine CW_block ?_
      refine CW_seq (fun K7 hK7 => ?_)
      refine CW_region ?_
      refine mvp (.int _ _) rfl ?_
      refine iad rfl rfl (by omega) ?_
      refine ldc rfl hcella ?_
      refine asp (.int _ _) rfl ?_
      refine asp (.int _ _) rfl ?_
      refine WL_nil ?_
      refine hK7 _ _ ?_
      refine CW_seq (fun K8 hK8 => ?_)
      refine CW_seq (fun K9 hK9 => ?_)
      refine CW_region ?_
      refine mvp (.int _ _) rfl ?_
      refine mvp (.slice _ _ _) rfl ?_
      refine lenW rfl ?_
      refine geqW rfl rfl ?_
      refine WL_nil ?_
      refine hK9 _ _ ?_
      refine CW_cond rfl (fun hc19 => ?_) (fun hc19 => ?_)
      · skip
        refine CW_seq (fun K10 hK10 => ?_)
        refine CW_region ?_
        refine asp (.int _ _) rfl ?_
        refine WL_nil ?_
        refine hK10 _ _ ?_
        refine CW_ret ?_
        repeat (first | (with_reducible apply thenF_ret) | (with_reducible apply blockF_ret))
        try simp only [thenF, blockF, reduceIte]
        refine Post_r Tryz.results151 (.tmp rfl .nil) ?_
        try simp only [ev_tmp, ev_const, upd_ap, Nat.reduceLT, Nat.reduceEqDiff, reduceIte]
        exact ⟨by rw [hl, lcmp_l hi2 (by simp at hc19; omega)], hs.fm⟩
      · have hi3 : i < k.length := by simp at hc19; omega
        obtain ⟨bb, ob, rfl, hcellb⟩ := ov_at hb hi3
        replace hcellb := hs.fm.cell hcellb (by simp)
        refine CW_skip ?_
        refine hK8 _ _ ?_
        refine CW_seq (fun K11 hK11 => ?_)
        refine CW_region ?_
        refine mvp (.slice _ _ _) rfl ?_
        refine mvp (.int _ _) rfl ?_
        refine iad rfl rfl (by omega) ?_
        refine ldc rfl hcellb ?_
        refine asp (.int _ _) rfl ?_
        refine WL_nil ?_
        refine hK11 _ _ ?_
        refine CW_seq (fun K12 hK12 => ?_)
        refine CW_region ?_
        refine mvp (.int _ _) rfl ?_
        refine mvp (.int _ _) rfl ?_
        refine cll (iCompare_ok _ _ _) ?_
        rintro _ w ⟨rfl, hf⟩
        replace hs := hs.call hf
        refine asp (.int _ _) rfl ?_
        refine WL_nil ?_
        refine hK12 _ _ ?_
        refine CW_seq (fun K13 hK13 => ?_)
        refine CW_region ?_
        refine mvp (.int _ _) rfl ?_
        refine neqW rfl rfl ?_
        refine WL_nil ?_
        refine hK13 _ _ ?_
        refine CW_cond rfl (fun hc28 => ?_) (fun hc28 => ?_)
        · skip
          refine CW_seq (fun K14 hK14 => ?_)
          refine CW_region ?_
          refine mvp (.int _ _) rfl ?_
          refine asp (.int _ _) rfl ?_
          refine WL_nil ?_
          refine hK14 _ _ ?_
          refine CW_ret ?_
          repeat (first | (with_reducible apply thenF_ret) | (with_reducible apply blockF_ret))
          try simp only [thenF, blockF, reduceIte]
          refine Post_r Tryz.results151 (.tmp rfl .nil) ?_
          try simp only [ev_tmp, ev_const, upd_ap, Nat.reduceLT, Nat.reduceEqDiff, reduceIte]
          have hc := lcmp_cons hi2 hi3
          rw [if_pos (by simpa using hc28)] at hc
          exact ⟨by rw [hl, hc], hs.fm⟩
        · skip
          refine CW_skip ?_
          refine hK6 _ _ ?_
          refine CW_region ?_
          first | refine addI rfl rfl (by omega) ?_ | refine addW rfl rfl ?_
          refine mvp (.int _ _) rfl ?_
          refine WL_nil ?_
          have hc := lcmp_cons hi2 hi3
          rw [if_neg (by simpa using hc28)] at hc
          exact ⟨n - (i + 1), by omega, i + 1, rfl, by omega, by omega, rfl, rfl, rfl, rfl, rfl, hl.trans hc, hs⟩
    · skip
      refine CW_exit ?_
      refine hK2 _ _ ?_
      refine CW_seq (fun K15 hK15 => ?_)
      refine CW_seq (fun K16 hK16 => ?_)
      refine CW_region ?_
      refine mvp (.slice _ _ _) rfl ?_
      refine lenW rfl ?_
      refine mvp (.slice _ _ _) rfl ?_
      refine lenW rfl ?_
      refine lssW rfl rfl ?_
      refine WL_nil ?_
      refine hK16 _ _ ?_
      refine CW_cond rfl (fun hc35 => ?_) (fun hc35 => ?_)
      · skip
        refine CW_seq (fun K17 hK17 => ?_)
        refine CW_region ?_
        refine asp (.int _ _) rfl ?_
        refine WL_nil ?_
        refine hK17 _ _ ?_
        refine CW_ret ?_
        repeat (first | (with_reducible apply thenF_ret) | (with_reducible apply blockF_ret))
        try simp only [thenF, blockF, reduceIte]
        refine Post_r Tryz.results151 (.tmp rfl .nil) ?_
        try simp only [ev_tmp, ev_const, upd_ap, Nat.reduceLT, Nat.reduceEqDiff, reduceIte]
        exact ⟨by rw [hl, lcmp_r (by simp at hc12; omega) (by simp at hc12 hc35; omega)], hs.fm⟩
      · skip
        refine CW_skip ?_
        refine hK15 _ _ ?_
        refine CW_seq (fun K18 hK18 => ?_)
        refine CW_region ?_
        refine asp (.int _ _) rfl ?_
        refine WL_nil ?_
        refine hK18 _ _ ?_
        refine CW_ret ?_
        repeat (first | (with_reducible apply thenF_ret) | (with_reducible apply blockF_ret))
        try simp only [thenF, blockF, reduceIte]
        refine Post_r Tryz.results151 (.tmp rfl .nil) ?_
        try simp only [ev_tmp, ev_const, upd_ap, Nat.reduceLT, Nat.reduceEqDiff, reduceIte]
        exact ⟨by rw [hl, lcmp_e (by simp at hc12; omega) (by simp at hc12 hc35; omega)], hs.fm⟩
end Go.Proofs.YtkbldndbofbkcaaGreatDoor
/- lineage.Compare. -/
namespace Go.Proofs.YtkbldndbofbkcaaGreatDoor
open Go Go.RowKit
attribute [local irreducible] WL CW DW Ret RW
/-- The order of lineages. -/
def lncmp (a b : ByteArray) : Int :=
  if lvalid a.data.toList = true ∧ lvalid b.data.toList = true then lcmp (lords a.data.toList) (lords b.data.toList) else if lvalid a.data.toList = true then -1 else if lvalid b.data.toList = true then 1 else scmp a b
theorem lords_len (bs : List UInt8) : (lords bs).length ≤ 10 := by
  have := parts_len bs
  unfold lords; split
  · simpa using this
  · simp
theorem LCompare_ok (a b : ByteArray) (w0 : World) (ha : a.size ≤ 9223372036854775807) (hb : b.size ≤ 9223372036854775807) :
    Ret Tryz.prog 90 #[.string a, .string b] w0 fun v w' => v = .int .i64 (lncmp a b) ∧ Fm [] w0 w' := by
  have hs := St.init w0 []
  refine Ret_enter Tryz.func90 rfl Tryz.ntmps90 (by simp) ?_
  refine CW_seq (fun K1 hK1 => ?_)
  refine CW_region ?_
  refine asp (.int _ _) rfl ?_
  refine WL_nil ?_
  refine hK1 _ _ ?_
  refine CW_seq (fun K2 hK2 => ?_)
  refine CW_seq (fun K3 hK3 => ?_)
  refine CW_region ?_
  refine mvp (.string _) rfl ?_
  refine cll (Valid_ok a _ ha) ?_
  rintro _ w ⟨rfl, hf⟩
  replace hs := hs.call hf
  refine mvp (.string _) rfl ?_
  refine cll (Valid_ok b _ hb) ?_
  rintro _ w ⟨rfl, hf⟩
  replace hs := hs.call hf
  refine asp (.bool _) rfl ?_
  refine asp (.bool _) rfl ?_
  refine WL_nil ?_
  refine hK3 _ _ ?_
  refine CW_block ?_
  refine CW_seq (fun K4 hK4 => ?_)
  refine CW_region ?_
  refine mvp (.bool _) rfl ?_
  refine mvp (.bool _) rfl ?_
  refine WL_g (g := 13) rfl (by decide) rfl (fun hg13 => ?_) (fun hg13 => ?_)
  · skip
    refine mvp (.bool _) rfl ?_
    first | refine pkT rfl rfl ?_ | refine pkF rfl rfl ?_
    refine asp (.bool _) rfl ?_
    refine WL_nil ?_
    refine hK4 _ _ ?_
    refine CW_cond rfl (fun hc11 => ?_) (fun hc11 => ?_)
    · skip
      refine CW_seq (fun K5 hK5 => ?_)
      refine CW_region ?_
      refine mvp (.string _) rfl ?_
      refine cll (Ordinals_ok a _ ha) ?_
      rintro _ w ⟨⟨xa, xn, xc, rfl, hxn, hx⟩, hf⟩
      replace hs := hs.callR hf hx
      refine mvp (.string _) rfl ?_
      refine cll (Ordinals_ok b _ hb) ?_
      rintro _ w ⟨⟨ya, yn, yc, rfl, hyn, hy⟩, hf⟩
      replace hs := hs.callR hf hy
      refine cll (slCompare_ok xa ya _ _ _ _ _ _ _ (hs.weak (.cons _ (.refl _))).rd hs.rd hxn hyn (by have := lords_len a.data.toList; omega)) ?_
      rintro _ w ⟨rfl, hf⟩
      replace hs := hs.call hf
      refine asp (.int _ _) rfl ?_
      refine WL_nil ?_
      refine hK5 _ _ ?_
      refine CW_ret ?_
      repeat (first | (with_reducible apply thenF_ret) | (with_reducible apply blockF_ret))
      try simp only [thenF, blockF, reduceIte]
      refine Post_r Tryz.results90 (.tmp rfl .nil) ?_
      try simp only [ev_tmp, ev_const, upd_ap, Nat.reduceLT, Nat.reduceEqDiff, reduceIte]
      refine ⟨?_, hs.fm⟩
      unfold lncmp
      first
        | (simp [hg13, hc11]; done)
        | exact absurd (hg13.symm.trans hc21) (by decide)
        | (simp [hc21]; done)
        | (simp [hc21, hc23]; done)
    · skip
      refine CW_seq (fun K6 hK6 => ?_)
      refine CW_region ?_
      refine mvp (.bool _) rfl ?_
      refine asp (.bool _) rfl ?_
      refine WL_nil ?_
      refine hK6 _ _ ?_
      refine CW_cond rfl (fun hc21 => ?_) (fun hc21 => ?_)
      · skip
        refine CW_seq (fun K7 hK7 => ?_)
        refine CW_region ?_
        refine asp (.int _ _) rfl ?_
        refine WL_nil ?_
        refine hK7 _ _ ?_
        refine CW_ret ?_
        repeat (first | (with_reducible apply thenF_ret) | (with_reducible apply blockF_ret))
        try simp only [thenF, blockF, reduceIte]
        refine Post_r Tryz.results90 (.tmp rfl .nil) ?_
        try simp only [ev_tmp, ev_const, upd_ap, Nat.reduceLT, Nat.reduceEqDiff, reduceIte]
        refine ⟨?_, hs.fm⟩
        unfold lncmp
        first
          | (simp [hg13, hc11]; done)
          | exact absurd (hg13.symm.trans hc21) (by decide)
          | (simp [hc21]; done)
          | (simp [hc21, hc23]; done)
      · skip
        refine CW_seq (fun K8 hK8 => ?_)
        refine CW_region ?_
        refine mvp (.bool _) rfl ?_
        refine asp (.bool _) rfl ?_
        refine WL_nil ?_
        refine hK8 _ _ ?_
        refine CW_cond rfl (fun hc23 => ?_) (fun hc23 => ?_)
        · skip
          refine CW_seq (fun K9 hK9 => ?_)
          refine CW_region ?_
          refine asp (.int _ _) rfl ?_
          refine WL_nil ?_
          refine hK9 _ _ ?_
          refine CW_ret ?_
          repeat (first | (with_reducible apply thenF_ret) | (with_reducible apply blockF_ret))
          try simp only [thenF, blockF, reduceIte]
          refine Post_r Tryz.results90 (.tmp rfl .nil) ?_
          try simp only [ev_tmp, ev_const, upd_ap, Nat.reduceLT, Nat.reduceEqDiff, reduceIte]
          refine ⟨?_, hs.fm⟩
          unfold lncmp
          first
            | (simp [hg13, hc11]; done)
            | exact absurd (hg13.symm.trans hc21) (by decide)
            | (simp [hc21]; done)
            | (simp [hc21, hc23]; done)
        · skip
          refine CW_skip ?_
          refine hK2 _ _ ?_
          refine CW_seq (fun K10 hK10 => ?_)
          refine CW_region ?_
          refine mvp (.string _) rfl ?_
          refine mvp (.string _) rfl ?_
          refine cll (sCompare_ok a b _) ?_
          rintro _ w ⟨rfl, hf⟩
          replace hs := hs.call hf
          refine asp (.int _ _) rfl ?_
          refine WL_nil ?_
          refine hK10 _ _ ?_
          refine CW_ret ?_
          repeat (first | (with_reducible apply thenF_ret) | (with_reducible apply blockF_ret))
          try simp only [thenF, blockF, reduceIte]
          refine Post_r Tryz.results90 (.tmp rfl .nil) ?_
          try simp only [ev_tmp, ev_const, upd_ap, Nat.reduceLT, Nat.reduceEqDiff, reduceIte]
          refine ⟨?_, hs.fm⟩
          unfold lncmp
          first
            | (simp [hg13, hc11]; done)
            | exact absurd (hg13.symm.trans hc21) (by decide)
            | (simp [hc21]; done)
            | (simp [hc21, hc23]; done)
  · skip
    first | refine pkT rfl rfl ?_ | refine pkF rfl rfl ?_
    refine asp (.bool _) rfl ?_
    refine WL_nil ?_
    refine hK4 _ _ ?_
    refine CW_condF rfl rfl ?_
    refine CW_seq (fun K11 hK11 => ?_)
    refine CW_region ?_
    refine mvp (.bool _) rfl ?_
    refine asp (.bool _) rfl ?_
    refine WL_nil ?_
    refine hK11 _ _ ?_
    refine CW_cond rfl (fun hc21 => ?_) (fun hc21 => ?_)
    · skip
      refine CW_seq (fun K12 hK12 => ?_)
      refine CW_region ?_
      refine asp (.int _ _) rfl ?_
      refine WL_nil ?_
      refine hK12 _ _ ?_
      refine CW_ret ?_
      repeat (first | (with_reducible apply thenF_ret) | (with_reducible apply blockF_ret))
      try simp only [thenF, blockF, reduceIte]
      refine Post_r Tryz.results90 (.tmp rfl .nil) ?_
      try simp only [ev_tmp, ev_const, upd_ap, Nat.reduceLT, Nat.reduceEqDiff, reduceIte]
      refine ⟨?_, hs.fm⟩
      unfold lncmp
      first
        | (simp [hg13, hc11]; done)
        | exact absurd (hg13.symm.trans hc21) (by decide)
        | (simp [hc21]; done)
        | (simp [hc21, hc23]; done)
    · skip
      refine CW_seq (fun K13 hK13 => ?_)
      refine CW_region ?_
      refine mvp (.bool _) rfl ?_
      refine asp (.bool _) rfl ?_
      refine WL_nil ?_
      refine hK13 _ _ ?_
      refine CW_cond rfl (fun hc23 => ?_) (fun hc23 => ?_)
      · skip
        refine CW_seq (fun K14 hK14 => ?_)
        refine CW_region ?_
        refine asp (.int _ _) rfl ?_
        refine WL_nil ?_
        refine hK14 _ _ ?_
        refine CW_ret ?_
        repeat (first | (with_reducible apply thenF_ret) | (with_reducible apply blockF_ret))
        try simp only [thenF, blockF, reduceIte]
        refine Post_r Tryz.results90 (.tmp rfl .nil) ?_
        try simp only [ev_tmp, ev_const, upd_ap, Nat.reduceLT, Nat.reduceEqDiff, reduceIte]
        refine ⟨?_, hs.fm⟩
        unfold lncmp
        first
          | (simp [hg13, hc11]; done)
          | exact absurd (hg13.symm.trans hc21) (by decide)
          | (simp [hc21]; done)
          | (simp [hc21, hc23]; done)
      · skip
        refine CW_skip ?_
        refine hK2 _ _ ?_
        refine CW_seq (fun K15 hK15 => ?_)
        refine CW_region ?_
        refine mvp (.string _) rfl ?_
        refine mvp (.string _) rfl ?_
        refine cll (sCompare_ok a b _) ?_
        rintro _ w ⟨rfl, hf⟩
        replace hs := hs.call hf
        refine asp (.int _ _) rfl ?_
        refine WL_nil ?_
        refine hK15 _ _ ?_
        refine CW_ret ?_
        repeat (first | (with_reducible apply thenF_ret) | (with_reducible apply blockF_ret))
        try simp only [thenF, blockF, reduceIte]
        refine Post_r Tryz.results90 (.tmp rfl .nil) ?_
        try simp only [ev_tmp, ev_const, upd_ap, Nat.reduceLT, Nat.reduceEqDiff, reduceIte]
        refine ⟨?_, hs.fm⟩
        unfold lncmp
        first
          | (simp [hg13, hc11]; done)
          | exact absurd (hg13.symm.trans hc21) (by decide)
          | (simp [hc21]; done)
          | (simp [hc21, hc23]; done)
end Go.Proofs.YtkbldndbofbkcaaGreatDoor
