/- A drawn region: an operation whose guard was itself passed over. | The reference's codec: Natural, Text, groups, Parse, take, piece. | The reference's lineages, words and births. | The reference's values of entries; births from and to the reference. | The reference's values of listings. | replevinlaw28.DirectoryValues: the walk. | The arguments of the laws about directories: births, texts. | For any names and any text, DirectoryValues returns true: EncodeNames and DecodeNames are inverse to each other and return the stated errors (the statement's tied card). No condition. -/
import Derived.Test.YtkbldndbofbkcaaGreatDoorMA
import Derived.Test.YtkbldndbofbkcaaGreatDoorNG
import Derived.Test.YtkbldndbofbkcaaGreatDoorNR
import Derived.Test.YtkbldndbofbkcaaGreatDoorMD
import Derived.Test.YtkbldndbofbkcaaGreatDoorNE
set_option linter.unusedSimpArgs false
set_option linter.unusedVariables false
/- A drawn region: an operation whose guard was itself passed over. -/
namespace Go.Proofs.YtkbldndbofbkcaaGreatDoor
open Go Go.RowKit
section
variable {X : Cx} {P : Program} {N : Nat} {Q : Exit → Fr → World → Prop} {f : Fr} {w w0 : World} {M : List Nat} {H Hc : List Ent} {ops : Array Oper} {last n : Nat} {done : List Nat}
theorem DW_qx (hs : St w0 M w H) [hsub : SubH Hc H] (i : Nat) {d j g : Nat} {want : Bool} {op : Op} {T : TypeId} {p : String} {aft : Array Edge} (hi : ops[i]? = some ⟨some d, op, T, p, aft, some (j, want)⟩) (hd : dq ops done last i = true)
    (hg : (ops[j]?).bind (·.dst) = some g) (hN : g < N) (hb : ev N f (.tmp g) = undef)
    (k : DW X P N ops Q last Hc n (i :: done) (upd f d undef) w) : DW X P N ops Q last Hc (n + 1) done f w := by
  have hw : Region.wanted (⟨some d, op, T, p, aft, some (j, want)⟩ : Oper) (yielded ops (FA X N f).tmps) = false := by
    have hfg : f g = undef := by rw [ev_tmp, if_pos hN] at hb; exact hb
    simp only [Region.wanted, yielded, hg, Option.bind_some, FA_get?, hN, hfg, if_true]
    rfl
  exact DW_qi hs i hi hd (.inr ⟨hw, rfl⟩) k
end
end Go.Proofs.YtkbldndbofbkcaaGreatDoor
/- The reference's codec: Natural, Text, groups, Parse, take, piece. -/
namespace Go.Proofs.YtkbldndbofbkcaaGreatDoor
open Go Go.RowKit
attribute [local irreducible] WL CW DW Ret RW
section
variable {P : Program} {N d : Nat} {f : Fr} {w : World} {T A B : TypeId} {p : String} {aft : Array Edge} {x y : Operand} {m n r : Int} {k k' : IntKind}
theorem X_addk (hx : ev N f x = .int k m) (hy : ev N f y = .int k n) (hr : r = m + n) (hw : k.wrap r = r) : Ex P N f w ⟨some d, .binOp .add A x y B, T, p, aft, none⟩ (.int k r) w := by
  have h := X_add (P := P) (w := w) (d := d) (T := T) (p := p) (aft := aft) (A := A) (B := B) hx hy
  rwa [← hr, hw] at h
theorem X_mulk (hx : ev N f x = .int k m) (hy : ev N f y = .int k n) (hr : r = m * n) (hw : k.wrap r = r) : Ex P N f w ⟨some d, .binOp .mul A x y B, T, p, aft, none⟩ (.int k r) w := by
  have h := X_mul (P := P) (w := w) (d := d) (T := T) (p := p) (aft := aft) (A := A) (B := B) hx hy
  rwa [← hr, hw] at h
theorem X_quok {m : Nat} (n : Nat) (hx : ev N f x = .int k m) (hy : ev N f y = .int k n) (hn : n ≠ 0) (hr : r = ((m / n : Nat) : Int)) (hw : k.wrap r = r) : Ex P N f w ⟨some d, .binOp .quo A x y B, T, p, aft, none⟩ (.int k r) w := by
  have h := X_quo (P := P) (w := w) (d := d) (T := T) (p := p) (aft := aft) (A := A) (B := B) hx hy (by omega)
  have e : (m : Int).tdiv (n : Int) = r := by subst hr; exact (Int.ofNat_tdiv m n).symm
  rw [e, hw] at h
  exact h
theorem X_remk {m : Nat} (n : Nat) (hx : ev N f x = .int k m) (hy : ev N f y = .int k n) (hn : n ≠ 0) (hr : r = ((m % n : Nat) : Int)) : Ex P N f w ⟨some d, .binOp .rem A x y B, T, p, aft, none⟩ (.int k r) w := by
  subst hr; exact X_rem hx hy (by omega)
theorem X_cvk [hA : UnE P A (.int k')] [hB : UnE P B (.int k)] (hx : ev N f x = .int k' m) (hw : k.wrap m = m) : Ex P N f w ⟨some d, .convert A B x, T, p, aft, none⟩ (.int k m) w := by
  have h := X_cvint (P := P) (w := w) (d := d) (T := T) (p := p) (aft := aft) (A := A) (B := B) (k := k) hx
  rwa [hw] at h
theorem u8r {r : Int} (h0 : 0 ≤ r) (h1 : r ≤ 255) : IntKind.u8.wrap r = r := by
  simp [IntKind.wrap, IntKind.bits, IntKind.signed]; omega
end
/-- How many bytes bear the mark, at most k. -/
def ldn : Nat → List UInt8 → Nat
  | 0, _ => 0
  | _, [] => 0
  | k + 1, c :: cs => if c.toNat < 128 then 0 else ldn k cs + 1
def gval : List UInt8 → Nat
  | [] => 0
  | c :: cs => c.toNat % 128 + 128 * gval cs
theorem ldn_le : ∀ k l, ldn k l ≤ k ∧ ldn k l ≤ l.length
  | 0, _ => by simp [ldn]
  | _ + 1, [] => by simp [ldn]
  | k + 1, c :: cs => by
    have := ldn_le k cs
    simp only [ldn, List.length_cons]
    split <;> omega
theorem gval_lt (l : List UInt8) : gval l < 2 ^ (7 * l.length) := by
  induction l with
  | nil => simp [gval]
  | cons c cs ih => simp only [gval, List.length_cons, pow7]; omega
theorem pg_ldn (most : Nat) (cs : List UInt8) : ∀ i u, i ≤ most → pg most i u cs =
    if i + ldn (most - i) cs = most then (0, 0, 3) else if ldn (most - i) cs = cs.length then (0, 0, 28) else
    if (cs.getD (ldn (most - i) cs) 0).toNat = 0 ∧ 0 < i + ldn (most - i) cs then (0, 0, 3) else (u + gval (cs.take (ldn (most - i) cs + 1)) * 2 ^ (7 * i), i + ldn (most - i) cs + 1, 0) := by
  induction cs with
  | nil =>
    intro i u hi
    have h0 : ldn (most - i) [] = 0 := by cases (most - i) <;> rfl
    rw [h0, pg]
    by_cases h : most ≤ i
    · rw [if_pos h, if_pos (by omega)]
    · rw [if_neg h, if_neg (by omega), if_pos (by rfl)]
  | cons c cs ih =>
    intro i u hi
    rw [pg]
    by_cases h : i = most
    · subst h
      rw [if_pos rfl, Nat.sub_self, ldn, if_pos (by omega)]
    · rw [if_neg h]
      obtain ⟨k, hk⟩ : ∃ k, most - i = k + 1 := ⟨most - i - 1, by omega⟩
      rw [hk, ldn]
      by_cases hc : c.toNat < 128
      · rw [if_pos hc, if_pos hc, if_neg (show ¬ i + 0 = most by omega), if_neg (show ¬ 0 = (c :: cs).length by simp)]
        by_cases h0 : c.toNat = 0 ∧ 0 < i
        · rw [if_pos h0, if_pos (by simpa using h0)]
        · rw [if_neg h0, if_neg (by simpa using h0)]
          simp [gval]
      · rw [if_neg hc, if_neg hc, ih (i + 1) _ (by omega), show most - (i + 1) = k by omega]
        have hle := ldn_le k cs
        by_cases h1 : i + 1 + ldn k cs = most
        · rw [if_pos h1, if_pos (show i + (ldn k cs + 1) = most by omega)]
        · rw [if_neg h1, if_neg (show ¬ i + (ldn k cs + 1) = most by omega)]
          by_cases h2 : ldn k cs = cs.length
          · rw [if_pos h2, if_pos (show ldn k cs + 1 = (c :: cs).length by simp [h2])]
          · rw [if_neg h2, if_neg (show ¬ ldn k cs + 1 = (c :: cs).length by simpa using h2)]
            have e1 : (c :: cs).getD (ldn k cs + 1) 0 = cs.getD (ldn k cs) 0 := by simp [List.getD]
            rw [e1]
            by_cases h3 : (cs.getD (ldn k cs) 0).toNat = 0
            · rw [if_pos ⟨h3, by omega⟩, if_pos ⟨h3, by omega⟩]
            · rw [if_neg (fun q => h3 q.1), if_neg (fun q => h3 q.1), List.take_succ_cons, gval, pow7]
              refine Prod.ext ?_ (Prod.ext ?_ rfl)
              · simp only
                have key : ∀ a g P : Nat, a * P + g * (128 * P) = (a + 128 * g) * P := fun a g P => by
                  rw [Nat.add_mul, Nat.mul_assoc 128, Nat.mul_left_comm g 128]
                rw [Nat.add_assoc, key]
              · simp only; omega
theorem ppg_ldn (bs : List UInt8) : ppg bs = if ldn 9 bs = 9 then (0, 0, 3) else if ldn 9 bs = bs.length then (0, 0, 28) else
    if (bs.getD (ldn 9 bs) 0).toNat = 0 ∧ 0 < ldn 9 bs then (0, 0, 3) else (gval (bs.take (ldn 9 bs + 1)), ldn 9 bs + 1, 0) := by
  have := pg_ldn 9 bs 0 0 (by omega)
  simpa [ppg] using this
theorem ldn_step {k : Nat} {bs : List UInt8} {j : Nat} (h : j < bs.length) : ldn (k + 1) (bs.drop j) = if bs[j].toNat < 128 then 0 else ldn k (bs.drop (j + 1)) + 1 := by
  rw [List.drop_eq_getElem_cons h, ldn]
theorem ldn_nil (k : Nat) : ldn k [] = 0 := by cases k <;> rfl
set_option maxHeartbeats 400000 in
theorem rgroups_ok (a : Option Addr) (n cap : Nat) (bs : List UInt8) (w0 : World) (hr : Rd w0 a n 1 (bv bs)) (hn : n = bs.length) (hl : bs.length ≤ 4611686018427387904) :
    Ret Tryz.prog 186 #[.slice a n cap, .int .i64 9] w0 fun v w' => v = .tuple #[.int .u64 ((ppg bs).1 : Nat), .int .i64 ((ppg bs).2.1 : Nat), .int .i64 (ppg bs).2.2] ∧ Fm [] w0 w' := by
  have hs := St.init w0 []
  refine Ret_enter Tryz.func186 rfl Tryz.ntmps186 (by simp) ?_
  refine CW_seq (fun K1 hK1 => ?_)
  refine CW_region ?_
  refine asp (.int _ _) rfl ?_
  refine asp (.int _ _) rfl ?_
  refine asp (.int _ _) rfl ?_
  refine WL_nil ?_
  refine hK1 _ _ ?_
  refine CW_seq (fun K2 hK2 => ?_)
  refine CW_region ?_
  refine asp (.int _ _) rfl ?_
  refine WL_nil ?_
  refine hK2 _ _ ?_
  refine CW_cut (fun f w' => f 0 = .slice a n cap ∧ f 1 = .int .i64 9 ∧ f 7 = .int .i64 (ldn 9 bs : Nat) ∧ St w0 [] w' []) ?_ ?_
  · skip
    refine CW_block ?_
    refine CW_loop (fun k f w' => ∃ j : Nat, k = 9 - j ∧ j ≤ 9 ∧ j ≤ n ∧ f 0 = .slice a n cap ∧ f 1 = .int .i64 9 ∧ f 7 = .int .i64 j ∧ ldn 9 bs = j + ldn (9 - j) (bs.drop j) ∧ St w0 [] w' []) 9 ?_ ?_
    · exact ⟨0, by omega, by omega, by omega, rfl, rfl, rfl, by simp, hs⟩
    · rintro k f w1 ⟨j, rfl, h9, hj, e0, e1, e7, hld, hs⟩
      refine CW_kn (i := 0) e0 (CW_kn (i := 1) e1 (CW_kn (i := 7) e7 ?_))
      refine CW_seq (fun K3 hK3 => ?_)
      refine CW_seq (fun K4 hK4 => ?_)
      refine CW_region ?_
      refine mvp (.int _ _) rfl ?_
      refine mvp (.slice _ _ _) rfl ?_
      refine lenW rfl ?_
      refine lssW rfl rfl ?_
      refine mvp (.bool _) rfl ?_
      refine WL_g (g := 14) rfl (by decide) rfl (fun hg14 => ?_) (fun hg14 => ?_)
      · skip
        refine mvp (.int _ _) rfl ?_
        refine WL_gy (g := 14) rfl (by decide) rfl ?_
        refine mvp (.int _ _) rfl ?_
        refine WL_gy (g := 14) rfl (by decide) rfl ?_
        refine lssW rfl rfl ?_
        first | refine pkT rfl rfl ?_ | refine pkF rfl rfl ?_
        refine mvp (.bool _) rfl ?_
        refine WL_g (g := 19) rfl (by decide) rfl (fun hg19 => ?_) (fun hg19 => ?_)
        · skip
          refine mvp (.slice _ _ _) rfl ?_
          refine WL_gy (g := 19) rfl (by decide) rfl ?_
          refine mvp (.int _ _) rfl ?_
          refine WL_gy (g := 19) rfl (by decide) rfl ?_
          have h1 : j < bs.length := by simp at hg14; omega
          obtain ⟨b, off, rfl, hcell⟩ := Rd_at (hr.fm hs.fm) h1
          refine iad rfl rfl (by omega) ?_
          refine WL_gy (g := 19) rfl (by decide) rfl ?_
          refine ldc (v := .int .u8 (bs[j].toNat : Int)) rfl hcell ?_
          refine WL_gy (g := 19) rfl (by decide) rfl ?_
          refine geqW rfl rfl ?_
          first | refine pkT rfl rfl ?_ | refine pkF rfl rfl ?_
          refine WL_nil ?_
          refine hK4 _ _ ?_
          refine CW_cond rfl (fun hc25 => ?_) (fun hc25 => ?_)
          · skip
            refine CW_skip ?_
            refine hK3 _ _ ?_
            refine CW_block ?_
            refine CW_region ?_
            refine mvp (.int _ _) rfl ?_
            first | refine addI rfl rfl (by omega) ?_ | refine addW rfl rfl ?_
            refine asp (.int _ _) rfl ?_
            refine WL_nil ?_
            skip
            have h1 : j < bs.length := by simp at hg14; omega
            have h2 : j < 9 := by simp at hg19; omega
            have h3 : 128 ≤ bs[j].toNat := by simp at hc25; omega
            rw [show 9 - j = (9 - (j + 1)) + 1 by omega, ldn_step h1, if_neg (by omega)] at hld
            exact ⟨9 - (j + 1), by omega, j + 1, rfl, by omega, by omega, rfl, rfl, rfl, by omega, hs⟩
          · skip
            refine CW_exit ?_
            refine ⟨rfl, rfl, ?_, hs⟩
            have hz : ldn (9 - j) (bs.drop j) = 0 := by
              first
                | (have h1 : n ≤ j := by simp at hg14; omega
                   rw [List.drop_eq_nil_of_le (by omega)]; exact ldn_nil _)
                | (have h2 : j = 9 := by simp at hg19; omega
                   subst h2; rfl)
                | (have h1 : j < bs.length := by simp at hg14; omega
                   have h2 : j < 9 := by simp at hg19; omega
                   have h3 : bs[j].toNat < 128 := by simp at hc25; omega
                   rw [show 9 - j = (9 - (j + 1)) + 1 by omega, ldn_step h1, if_pos h3])
            rw [hz] at hld
            rw [hld]; rfl
        · skip
          refine WL_gn (g := 19) rfl (by decide) rfl ?_
          refine WL_gn (g := 19) rfl (by decide) rfl ?_
          refine WL_gn (g := 19) rfl (by decide) rfl ?_
          refine WL_gn (g := 19) rfl (by decide) rfl ?_
          first | refine pkT rfl rfl ?_ | refine pkF rfl rfl ?_
          refine WL_nil ?_
          refine hK4 _ _ ?_
          refine CW_condF rfl rfl ?_
          refine CW_exit ?_
          refine ⟨rfl, rfl, ?_, hs⟩
          have hz : ldn (9 - j) (bs.drop j) = 0 := by
            first
              | (have h1 : n ≤ j := by simp at hg14; omega
                 rw [List.drop_eq_nil_of_le (by omega)]; exact ldn_nil _)
              | (have h2 : j = 9 := by simp at hg19; omega
                 subst h2; rfl)
              | (have h1 : j < bs.length := by simp at hg14; omega
                 have h2 : j < 9 := by simp at hg19; omega
                 have h3 : bs[j].toNat < 128 := by simp at hc25; omega
                 rw [show 9 - j = (9 - (j + 1)) + 1 by omega, ldn_step h1, if_pos h3])
          rw [hz] at hld
          rw [hld]; rfl
      · skip
        refine WL_gn (g := 14) rfl (by decide) rfl ?_
        refine WL_gn (g := 14) rfl (by decide) rfl ?_
        first | refine pkT rfl rfl ?_ | refine pkF rfl rfl ?_
        refine mvp (.bool _) rfl ?_
        refine WL_gn (g := 19) rfl (by decide) rfl ?_
        refine WL_gn (g := 19) rfl (by decide) rfl ?_
        refine WL_gn (g := 19) rfl (by decide) rfl ?_
        refine WL_gn (g := 19) rfl (by decide) rfl ?_
        refine WL_gn (g := 19) rfl (by decide) rfl ?_
        first | refine pkT rfl rfl ?_ | refine pkF rfl rfl ?_
        refine WL_nil ?_
        refine hK4 _ _ ?_
        refine CW_condF rfl rfl ?_
        refine CW_exit ?_
        refine ⟨rfl, rfl, ?_, hs⟩
        have hz : ldn (9 - j) (bs.drop j) = 0 := by
          first
            | (have h1 : n ≤ j := by simp at hg14; omega
               rw [List.drop_eq_nil_of_le (by omega)]; exact ldn_nil _)
            | (have h2 : j = 9 := by simp at hg19; omega
               subst h2; rfl)
            | (have h1 : j < bs.length := by simp at hg14; omega
               have h2 : j < 9 := by simp at hg19; omega
               have h3 : bs[j].toNat < 128 := by simp at hc25; omega
               rw [show 9 - j = (9 - (j + 1)) + 1 by omega, ldn_step h1, if_pos h3])
        rw [hz] at hld
        rw [hld]; rfl
  · skip
    rintro f w ⟨e0, e1, e7, hs⟩
    refine CW_kn (i := 0) e0 (CW_kn (i := 1) e1 (CW_kn (i := 7) e7 ?_))
    obtain ⟨E, hE⟩ : ∃ E, ldn 9 bs = E := ⟨_, rfl⟩
    have hle := ldn_le 9 bs
    have hp := ppg_ldn bs
    rw [hE] at hle hp ⊢
    refine CW_seq (fun K5 hK5 => ?_)
    refine CW_block ?_
    refine CW_seq (fun K6 hK6 => ?_)
    refine CW_region ?_
    refine mvp (.int _ _) rfl ?_
    refine mvp (.int _ _) rfl ?_
    refine eqlW rfl rfl ?_
    refine asp (.bool _) rfl ?_
    refine WL_nil ?_
    refine hK6 _ _ ?_
    refine CW_cond rfl (fun hc28 => ?_) (fun hc28 => ?_)
    · skip
      refine CW_seq (fun K7 hK7 => ?_)
      refine CW_region ?_
      refine asp (.int _ _) rfl ?_
      refine asp (.int _ _) rfl ?_
      refine asp (.int _ _) rfl ?_
      refine WL_nil ?_
      refine hK7 _ _ ?_
      refine CW_ret ?_
      repeat (first | (with_reducible apply thenF_ret) | (with_reducible apply blockF_ret))
      try simp only [thenF, blockF, reduceIte]
      refine Post_r Tryz.results186 (.tmp rfl (.tmp rfl (.tmp rfl .nil))) ?_
      try simp only [ev_tmp, ev_const, upd_ap, Nat.reduceLT, Nat.reduceEqDiff, reduceIte]
      rw [hp, if_pos (by simp at hc28; omega)]
      exact ⟨rfl, hs.fm⟩
    · have n28 : E ≠ 9 := by simp at hc28; omega
      rw [if_neg n28] at hp
      refine CW_seq (fun K8 hK8 => ?_)
      refine CW_region ?_
      refine mvp (.int _ _) rfl ?_
      refine mvp (.slice _ _ _) rfl ?_
      refine lenW rfl ?_
      refine eqlW rfl rfl ?_
      refine asp (.bool _) rfl ?_
      refine WL_nil ?_
      refine hK8 _ _ ?_
      refine CW_cond rfl (fun hc32 => ?_) (fun hc32 => ?_)
      · skip
        refine CW_seq (fun K9 hK9 => ?_)
        refine CW_region ?_
        refine asp (.int _ _) rfl ?_
        refine asp (.int _ _) rfl ?_
        refine asp (.int _ _) rfl ?_
        refine WL_nil ?_
        refine hK9 _ _ ?_
        refine CW_ret ?_
        repeat (first | (with_reducible apply thenF_ret) | (with_reducible apply blockF_ret))
        try simp only [thenF, blockF, reduceIte]
        refine Post_r Tryz.results186 (.tmp rfl (.tmp rfl (.tmp rfl .nil))) ?_
        try simp only [ev_tmp, ev_const, upd_ap, Nat.reduceLT, Nat.reduceEqDiff, reduceIte]
        rw [hp, if_pos (by simp at hc32; omega)]
        exact ⟨rfl, hs.fm⟩
      · have n32 : E < bs.length := by simp at hc32; omega
        rw [if_neg (show ¬ E = bs.length by omega)] at hp
        obtain ⟨b, off, rfl, hcell⟩ := Rd_at (hr.fm hs.fm) n32
        have hgd : bs.getD E 0 = bs[E] := by simp [List.getD, n32]
        rw [hgd] at hp
        refine CW_seq (fun K10 hK10 => ?_)
        refine CW_region ?_
        refine mvp (.int _ _) rfl ?_
        refine gtrW rfl rfl ?_
        refine mvp (.bool _) rfl ?_
        refine WL_g (g := 40) rfl (by decide) rfl (fun hg40 => ?_) (fun hg40 => ?_)
        · skip
          refine mvp (.slice _ _ _) rfl ?_
          refine WL_gy (g := 40) rfl (by decide) rfl ?_
          refine mvp (.int _ _) rfl ?_
          refine WL_gy (g := 40) rfl (by decide) rfl ?_
          refine iad rfl rfl (by omega) ?_
          refine WL_gy (g := 40) rfl (by decide) rfl ?_
          refine ldc (v := .int .u8 (bs[E].toNat : Int)) rfl hcell ?_
          refine WL_gy (g := 40) rfl (by decide) rfl ?_
          refine eqlW rfl rfl ?_
          first | refine pkT rfl rfl ?_ | refine pkF rfl rfl ?_
          refine asp (.bool _) rfl ?_
          refine WL_nil ?_
          refine hK10 _ _ ?_
          refine CW_cond rfl (fun hc37 => ?_) (fun hc37 => ?_)
          · skip
            refine CW_seq (fun K11 hK11 => ?_)
            refine CW_region ?_
            refine asp (.int _ _) rfl ?_
            refine asp (.int _ _) rfl ?_
            refine asp (.int _ _) rfl ?_
            refine WL_nil ?_
            refine hK11 _ _ ?_
            refine CW_ret ?_
            repeat (first | (with_reducible apply thenF_ret) | (with_reducible apply blockF_ret))
            try simp only [thenF, blockF, reduceIte]
            refine Post_r Tryz.results186 (.tmp rfl (.tmp rfl (.tmp rfl .nil))) ?_
            try simp only [ev_tmp, ev_const, upd_ap, Nat.reduceLT, Nat.reduceEqDiff, reduceIte]
            rw [hp, if_pos (by simp at hc37 hg40; omega)]
            exact ⟨rfl, hs.fm⟩
          · skip
            refine CW_seq (fun K12 hK12 => ?_)
            refine CW_region ?_
            refine mvp (.int _ _) rfl ?_
            refine eqlW rfl rfl ?_
            refine mvp (.bool _) rfl ?_
            refine WL_gnb (g := 50) rfl (by decide) rfl ((by simp; omega)) ?_
            refine WL_gn (g := 50) rfl (by decide) rfl ?_
            refine WL_gn (g := 50) rfl (by decide) rfl ?_
            refine WL_gn (g := 50) rfl (by decide) rfl ?_
            refine WL_gn (g := 50) rfl (by decide) rfl ?_
            first | refine pkT rfl rfl ?_ | refine pkF rfl rfl ?_
            refine asp (.bool _) rfl ?_
            refine WL_nil ?_
            refine hK12 _ _ ?_
            refine CW_condF rfl rfl ?_
            refine CW_skip ?_
            refine hK5 _ _ ?_
            refine CW_seq (fun K13 hK13 => ?_)
            refine CW_region ?_
            refine asp (.int _ _) rfl ?_
            refine WL_nil ?_
            refine hK13 _ _ ?_
            refine CW_seq (fun K14 hK14 => ?_)
            refine CW_seq (fun K15 hK15 => ?_)
            refine CW_region ?_
            refine mvp (.int _ _) rfl ?_
            refine asp (.int _ _) rfl ?_
            refine WL_nil ?_
            refine hK15 _ _ ?_
            refine CW_block ?_
            refine CW_loop (fun k f w' => ∃ j : Nat, k = j + 1 ∧ j ≤ E + 1 ∧ f 0 = .slice (some ⟨b, off, none⟩) n cap ∧ f 7 = .int .i64 E ∧ f 8 = .int .u64 (gval ((bs.take (E + 1)).drop j) : Nat) ∧ f 9 = .int .i64 ((j : Int) - 1) ∧ St w0 [] w' []) (E + 2) ?_ ?_
            · exact ⟨E + 1, rfl, by omega, rfl, rfl, by rw [List.drop_eq_nil_of_le (by rw [List.length_take]; omega)]; rfl, by show Value.int .i64 (E : Int) = _; congr 1; omega, hs⟩
            · rintro k f w1 ⟨j, rfl, hj, e0, e7, e8, e9, hs⟩
              refine CW_kn (i := 0) e0 (CW_kn (i := 7) e7 (CW_kn (i := 8) e8 (CW_kn (i := 9) e9 ?_)))
              refine CW_seq (fun K16 hK16 => ?_)
              refine CW_seq (fun K17 hK17 => ?_)
              refine CW_region ?_
              refine mvp (.int _ _) rfl ?_
              refine geqW rfl rfl ?_
              refine WL_nil ?_
              refine hK17 _ _ ?_
              refine CW_cond rfl (fun hc59 => ?_) (fun hc59 => ?_)
              · obtain ⟨i, rfl⟩ : ∃ i, j = i + 1 := ⟨j - 1, by simp at hc59; omega⟩
                have hi : i < bs.length := by omega
                obtain ⟨b2, off2, e2, hcell2⟩ := Rd_at (hr.fm hs.fm) hi
                injection e2 with e2
                injection e2 with e2 e3
                subst e2 e3
                have hlt := gval_lt ((bs.take (E + 1)).drop (i + 1))
                have hlen : ((bs.take (E + 1)).drop (i + 1)).length ≤ 8 := by rw [List.length_drop, List.length_take]; omega
                have hpw : (2 : Nat) ^ (7 * ((bs.take (E + 1)).drop (i + 1)).length) ≤ 2 ^ 56 := Nat.pow_le_pow_right (by omega) (by omega)
                have hsp : (bs.take (E + 1)).drop i = bs[i] :: (bs.take (E + 1)).drop (i + 1) := by
                  rw [List.drop_eq_getElem_cons (show i < (bs.take (E + 1)).length by rw [List.length_take]; omega), List.getElem_take]
                have hgv : gval ((bs.take (E + 1)).drop i) = bs[i].toNat % 128 + 128 * gval ((bs.take (E + 1)).drop (i + 1)) := by rw [hsp, gval]
                refine CW_skip ?_
                refine hK16 _ _ ?_
                refine CW_seq (fun K18 hK18 => ?_)
                refine CW_block ?_
                refine CW_region ?_
                refine mvp (.int _ _) rfl ?_
                refine WL_v (v := .int .u64 ((128 * gval ((bs.take (E + 1)).drop (i + 1)) : Nat) : Int)) (X_mulk rfl rfl (by omega) (u64_wrap _ (by omega) (by omega))) ?_
                refine mvp (.slice _ _ _) rfl ?_
                refine mvp (.int _ _) rfl ?_
                rw [show ((i + 1 : Nat) : Int) - 1 = (i : Int) by omega]
                refine iad rfl rfl (by omega) ?_
                refine ldc (v := .int .u8 (bs[i].toNat : Int)) rfl hcell2 ?_
                refine WL_v (v := .int .u8 ((bs[i].toNat % 128 : Nat) : Int)) (X_remk 128 rfl rfl (by omega) rfl) ?_
                refine WL_v (v := .int .u64 ((bs[i].toNat % 128 : Nat) : Int)) (X_cvk rfl (u64_wrap _ (by omega) (by omega))) ?_
                refine WL_v (v := .int .u64 (gval ((bs.take (E + 1)).drop i) : Nat)) (X_addk rfl rfl (by omega) (u64_wrap _ (by omega) (by omega))) ?_
                refine asp (.int _ _) rfl ?_
                refine WL_nil ?_
                refine hK18 _ _ ?_
                refine CW_region ?_
                refine mvp (.int _ _) rfl ?_
                first | refine subI rfl rfl (by omega) ?_ | refine subW rfl rfl ?_
                refine asp (.int _ _) rfl ?_
                refine WL_nil ?_
                skip
                exact ⟨i + 1, by omega, i, rfl, by omega, rfl, rfl, rfl, by show Value.int .i64 _ = _; congr 1 <;> omega, hs⟩
              · skip
                refine CW_exit ?_
                refine hK14 _ _ ?_
                refine CW_seq (fun K19 hK19 => ?_)
                refine CW_region ?_
                refine mvp (.int _ _) rfl ?_
                refine mvp (.int _ _) rfl ?_
                first | refine addI rfl rfl (by omega) ?_ | refine addW rfl rfl ?_
                refine asp (.int _ _) rfl ?_
                refine asp (.int _ _) rfl ?_
                refine asp (.int _ _) rfl ?_
                refine WL_nil ?_
                refine hK19 _ _ ?_
                refine CW_ret ?_
                repeat (first | (with_reducible apply thenF_ret) | (with_reducible apply blockF_ret))
                try simp only [thenF, blockF, reduceIte]
                refine Post_r Tryz.results186 (.tmp rfl (.tmp rfl (.tmp rfl .nil))) ?_
                try simp only [ev_tmp, ev_const, upd_ap, Nat.reduceLT, Nat.reduceEqDiff, reduceIte]
                have hj0 : j = 0 := by simp at hc59; omega
                subst hj0
                rw [hp, if_neg (by first | (simp at hc37; omega) | (simp at hg40; omega))]
                exact ⟨rfl, hs.fm⟩
        · skip
          refine WL_gn (g := 40) rfl (by decide) rfl ?_
          refine WL_gn (g := 40) rfl (by decide) rfl ?_
          refine WL_gn (g := 40) rfl (by decide) rfl ?_
          refine WL_gn (g := 40) rfl (by decide) rfl ?_
          first | refine pkT rfl rfl ?_ | refine pkF rfl rfl ?_
          refine asp (.bool _) rfl ?_
          refine WL_nil ?_
          refine hK10 _ _ ?_
          refine CW_condF rfl rfl ?_
          refine CW_seq (fun K20 hK20 => ?_)
          refine CW_region ?_
          refine mvp (.int _ _) rfl ?_
          refine eqlW rfl rfl ?_
          refine mvp (.bool _) rfl ?_
          refine WL_gnb (g := 50) rfl (by decide) rfl ((by simp; omega)) ?_
          refine WL_gn (g := 50) rfl (by decide) rfl ?_
          refine WL_gn (g := 50) rfl (by decide) rfl ?_
          refine WL_gn (g := 50) rfl (by decide) rfl ?_
          refine WL_gn (g := 50) rfl (by decide) rfl ?_
          first | refine pkT rfl rfl ?_ | refine pkF rfl rfl ?_
          refine asp (.bool _) rfl ?_
          refine WL_nil ?_
          refine hK20 _ _ ?_
          refine CW_condF rfl rfl ?_
          refine CW_skip ?_
          refine hK5 _ _ ?_
          refine CW_seq (fun K21 hK21 => ?_)
          refine CW_region ?_
          refine asp (.int _ _) rfl ?_
          refine WL_nil ?_
          refine hK21 _ _ ?_
          refine CW_seq (fun K22 hK22 => ?_)
          refine CW_seq (fun K23 hK23 => ?_)
          refine CW_region ?_
          refine mvp (.int _ _) rfl ?_
          refine asp (.int _ _) rfl ?_
          refine WL_nil ?_
          refine hK23 _ _ ?_
          refine CW_block ?_
          refine CW_loop (fun k f w' => ∃ j : Nat, k = j + 1 ∧ j ≤ E + 1 ∧ f 0 = .slice (some ⟨b, off, none⟩) n cap ∧ f 7 = .int .i64 E ∧ f 8 = .int .u64 (gval ((bs.take (E + 1)).drop j) : Nat) ∧ f 9 = .int .i64 ((j : Int) - 1) ∧ St w0 [] w' []) (E + 2) ?_ ?_
          · exact ⟨E + 1, rfl, by omega, rfl, rfl, by rw [List.drop_eq_nil_of_le (by rw [List.length_take]; omega)]; rfl, by show Value.int .i64 (E : Int) = _; congr 1; omega, hs⟩
          · rintro k f w1 ⟨j, rfl, hj, e0, e7, e8, e9, hs⟩
            refine CW_kn (i := 0) e0 (CW_kn (i := 7) e7 (CW_kn (i := 8) e8 (CW_kn (i := 9) e9 ?_)))
            refine CW_seq (fun K24 hK24 => ?_)
            refine CW_seq (fun K25 hK25 => ?_)
            refine CW_region ?_
            refine mvp (.int _ _) rfl ?_
            refine geqW rfl rfl ?_
            refine WL_nil ?_
            refine hK25 _ _ ?_
            refine CW_cond rfl (fun hc59 => ?_) (fun hc59 => ?_)
            · obtain ⟨i, rfl⟩ : ∃ i, j = i + 1 := ⟨j - 1, by simp at hc59; omega⟩
              have hi : i < bs.length := by omega
              obtain ⟨b2, off2, e2, hcell2⟩ := Rd_at (hr.fm hs.fm) hi
              injection e2 with e2
              injection e2 with e2 e3
              subst e2 e3
              have hlt := gval_lt ((bs.take (E + 1)).drop (i + 1))
              have hlen : ((bs.take (E + 1)).drop (i + 1)).length ≤ 8 := by rw [List.length_drop, List.length_take]; omega
              have hpw : (2 : Nat) ^ (7 * ((bs.take (E + 1)).drop (i + 1)).length) ≤ 2 ^ 56 := Nat.pow_le_pow_right (by omega) (by omega)
              have hsp : (bs.take (E + 1)).drop i = bs[i] :: (bs.take (E + 1)).drop (i + 1) := by
                rw [List.drop_eq_getElem_cons (show i < (bs.take (E + 1)).length by rw [List.length_take]; omega), List.getElem_take]
              have hgv : gval ((bs.take (E + 1)).drop i) = bs[i].toNat % 128 + 128 * gval ((bs.take (E + 1)).drop (i + 1)) := by rw [hsp, gval]
              refine CW_skip ?_
              refine hK24 _ _ ?_
              refine CW_seq (fun K26 hK26 => ?_)
              refine CW_block ?_
              refine CW_region ?_
              refine mvp (.int _ _) rfl ?_
              refine WL_v (v := .int .u64 ((128 * gval ((bs.take (E + 1)).drop (i + 1)) : Nat) : Int)) (X_mulk rfl rfl (by omega) (u64_wrap _ (by omega) (by omega))) ?_
              refine mvp (.slice _ _ _) rfl ?_
              refine mvp (.int _ _) rfl ?_
              rw [show ((i + 1 : Nat) : Int) - 1 = (i : Int) by omega]
              refine iad rfl rfl (by omega) ?_
              refine ldc (v := .int .u8 (bs[i].toNat : Int)) rfl hcell2 ?_
              refine WL_v (v := .int .u8 ((bs[i].toNat % 128 : Nat) : Int)) (X_remk 128 rfl rfl (by omega) rfl) ?_
              refine WL_v (v := .int .u64 ((bs[i].toNat % 128 : Nat) : Int)) (X_cvk rfl (u64_wrap _ (by omega) (by omega))) ?_
              refine WL_v (v := .int .u64 (gval ((bs.take (E + 1)).drop i) : Nat)) (X_addk rfl rfl (by omega) (u64_wrap _ (by omega) (by omega))) ?_
              refine asp (.int _ _) rfl ?_
              refine WL_nil ?_
              refine hK26 _ _ ?_
              refine CW_region ?_
              refine mvp (.int _ _) rfl ?_
              first | refine subI rfl rfl (by omega) ?_ | refine subW rfl rfl ?_
              refine asp (.int _ _) rfl ?_
              refine WL_nil ?_
              skip
              exact ⟨i + 1, by omega, i, rfl, by omega, rfl, rfl, rfl, by show Value.int .i64 _ = _; congr 1 <;> omega, hs⟩
            · skip
              refine CW_exit ?_
              refine hK22 _ _ ?_
              refine CW_seq (fun K27 hK27 => ?_)
              refine CW_region ?_
              refine mvp (.int _ _) rfl ?_
              refine mvp (.int _ _) rfl ?_
              first | refine addI rfl rfl (by omega) ?_ | refine addW rfl rfl ?_
              refine asp (.int _ _) rfl ?_
              refine asp (.int _ _) rfl ?_
              refine asp (.int _ _) rfl ?_
              refine WL_nil ?_
              refine hK27 _ _ ?_
              refine CW_ret ?_
              repeat (first | (with_reducible apply thenF_ret) | (with_reducible apply blockF_ret))
              try simp only [thenF, blockF, reduceIte]
              refine Post_r Tryz.results186 (.tmp rfl (.tmp rfl (.tmp rfl .nil))) ?_
              try simp only [ev_tmp, ev_const, upd_ap, Nat.reduceLT, Nat.reduceEqDiff, reduceIte]
              have hj0 : j = 0 := by simp at hc59; omega
              subst hj0
              rw [hp, if_neg (by first | (simp at hc37; omega) | (simp at hg40; omega))]
              exact ⟨rfl, hs.fm⟩
theorem rParse_ok (a : Option Addr) (n cap : Nat) (bs : List UInt8) (w0 : World) (hr : Rd w0 a n 1 (bv bs)) (hn : n = bs.length) (hl : bs.length ≤ 4611686018427387904) :
    Ret Tryz.prog 162 #[.slice a n cap] w0 fun v w' => v = .tuple #[.int .i64 ((ppg bs).1 : Nat), .int .i64 ((ppg bs).2.1 : Nat), .int .i64 (ppg bs).2.2] ∧ Fm [] w0 w' := by
  have hs := St.init w0 []
  have hb := ppg_bound bs
  refine Ret_enter Tryz.func162 rfl Tryz.ntmps162 (by simp) ?_
  refine CW_seq (fun K1 hK1 => ?_)
  refine CW_region ?_
  refine asp (.int _ _) rfl ?_
  refine asp (.int _ _) rfl ?_
  refine asp (.int _ _) rfl ?_
  refine WL_nil ?_
  refine hK1 _ _ ?_
  refine CW_seq (fun K2 hK2 => ?_)
  refine CW_region ?_
  refine mvp (.slice _ _ _) rfl ?_
  refine cll (rgroups_ok a n cap bs _ hr hn hl) ?_
  rintro _ w ⟨rfl, hf⟩
  replace hs := hs.call hf
  refine mvp (.tuple _) rfl ?_
  refine ext rfl rfl ?_
  refine ext rfl rfl ?_
  refine ext rfl rfl ?_
  refine asp (.int _ _) rfl ?_
  refine asp (.int _ _) rfl ?_
  refine asp (.int _ _) rfl ?_
  refine WL_nil ?_
  refine hK2 _ _ ?_
  refine CW_seq (fun K3 hK3 => ?_)
  refine CW_region ?_
  refine mvp (.int _ _) rfl ?_
  first | refine cviI rfl (by omega) ?_ | refine cviW rfl ?_
  refine mvp (.int _ _) rfl ?_
  refine mvp (.int _ _) rfl ?_
  refine asp (.int _ _) rfl ?_
  refine asp (.int _ _) rfl ?_
  refine asp (.int _ _) rfl ?_
  refine WL_nil ?_
  refine hK3 _ _ ?_
  refine CW_ret ?_
  repeat (first | (with_reducible apply thenF_ret) | (with_reducible apply blockF_ret))
  try simp only [thenF, blockF, reduceIte]
  refine Post_r Tryz.results162 (.tmp rfl (.tmp rfl (.tmp rfl .nil))) ?_
  try simp only [ev_tmp, ev_const, upd_ap, Nat.reduceLT, Nat.reduceEqDiff, reduceIte]
  exact ⟨by trivial, hs.fm⟩
def tk (bs : List UInt8) : Int × List UInt8 := if (ppg bs).2.2 ≠ 0 then (-1, []) else (((ppg bs).1 : Nat), bs.drop (ppg bs).2.1)
def pie (bs : List UInt8) : List UInt8 × List UInt8 := if (tk bs).1 < 0 ∨ ((tk bs).2.length : Int) < (tk bs).1 then ([], []) else ((tk bs).2.take (tk bs).1.toNat, (tk bs).2.drop (tk bs).1.toNat)
theorem rtake_ok (s : ByteArray) (w0 : World) (hsz : s.size ≤ 140737488355328) :
    Ret Tryz.prog 112 #[.string s] w0 fun v w' => v = .tuple #[.int .i64 (tk s.data.toList).1, .string (str (tk s.data.toList).2)] ∧ Fm [] w0 w' := by
  have hs := St.init w0 []
  have ht : s.data.toList.length = s.size := by rw [Array.length_toList]; rfl
  have hb := ppg_bound s.data.toList
  refine Ret_enter Tryz.func112 rfl Tryz.ntmps112 (by simp) ?_
  refine CW_seq (fun K1 hK1 => ?_)
  refine CW_region ?_
  refine asp (.int _ _) rfl ?_
  refine asp (.string _) rfl ?_
  refine WL_nil ?_
  refine hK1 _ _ ?_
  refine CW_seq (fun K2 hK2 => ?_)
  refine CW_region ?_
  refine mvp (.string _) rfl ?_
  refine W_cvBytes hs rfl ?_
  intro w g9 cap9 zs9 k9 hs hg9 hf9 hcap9
  refine cll (rParse_ok (some ⟨g9, 0, none⟩) s.size cap9 s.data.toList _ (rdB hs (by rw [List.length_append, bv_length]; omega) (by rw [subl_eq, List.drop_zero, List.take_append_of_le_length (by rw [bv_length]; omega), List.take_of_length_le (by rw [bv_length]; omega)])) ht.symm (by omega)) ?_
  rintro _ w ⟨rfl, hf⟩
  replace hs := hs.call hf
  refine mvp (.tuple _) rfl ?_
  refine ext rfl rfl ?_
  refine ext rfl rfl ?_
  refine ext rfl rfl ?_
  refine asp (.int _ _) rfl ?_
  refine asp (.int _ _) rfl ?_
  refine asp (.int _ _) rfl ?_
  refine WL_nil ?_
  refine hK2 _ _ ?_
  refine CW_seq (fun K3 hK3 => ?_)
  refine CW_seq (fun K4 hK4 => ?_)
  refine CW_region ?_
  refine mvp (.int _ _) rfl ?_
  refine neqW rfl rfl ?_
  refine WL_nil ?_
  refine hK4 _ _ ?_
  refine CW_cond rfl (fun hc15 => ?_) (fun hc15 => ?_)
  · skip
    refine CW_seq (fun K5 hK5 => ?_)
    refine CW_region ?_
    refine asp (.int _ _) rfl ?_
    refine asp (.string _) rfl ?_
    refine WL_nil ?_
    refine hK5 _ _ ?_
    refine CW_ret ?_
    repeat (first | (with_reducible apply thenF_ret) | (with_reducible apply blockF_ret))
    try simp only [thenF, blockF, reduceIte]
    refine Post_r Tryz.results112 (.tmp rfl (.tmp rfl .nil)) ?_
    try simp only [ev_tmp, ev_const, upd_ap, Nat.reduceLT, Nat.reduceEqDiff, reduceIte]
    unfold tk
    rw [if_pos (by simpa using hc15)]
    exact ⟨rfl, hs.fm⟩
  · skip
    refine CW_skip ?_
    refine hK3 _ _ ?_
    refine CW_seq (fun K6 hK6 => ?_)
    refine DW_sH hs 999 ?_
    intro w hs _
    refine DW_q hs 0 rfl (by kernel_rfl) (fun w' hw' => X_move (v := (.int _ _)) rfl) ?_
    refine DW_q hs 1 rfl (by kernel_rfl) (fun w' hw' => X_move (v := (.string _)) rfl) ?_
    refine DW_q hs 2 rfl (by kernel_rfl) (fun w' hw' => X_move (v := (.int _ _)) rfl) ?_
    refine DW_q hs 3 rfl (by kernel_rfl) (fun w' hw' => X_sliceS_l rfl rfl (by omega) (by omega)) ?_
    refine DW_q hs 4 rfl (by kernel_rfl) (fun w' hw' => X_assign (v := (.int _ _)) rfl) ?_
    refine DW_q hs 5 rfl (by kernel_rfl) (fun w' hw' => X_assign (v := (.string _)) rfl) ?_
    refine DW_e (by kernel_rfl) ?_
    refine hK6 _ _ ?_
    refine CW_ret ?_
    repeat (first | (with_reducible apply thenF_ret) | (with_reducible apply blockF_ret))
    try simp only [thenF, blockF, reduceIte]
    refine Post_r Tryz.results112 (.tmp rfl (.tmp rfl .nil)) ?_
    try simp only [ev_tmp, ev_const, upd_ap, Nat.reduceLT, Nat.reduceEqDiff, reduceIte]
    unfold tk
    rw [if_neg (by simpa using hc15)]
    exact ⟨rfl, hs.fm⟩
theorem rpiece_ok (s : ByteArray) (w0 : World) (hsz : s.size ≤ 140737488355328) :
    Ret Tryz.prog 113 #[.string s] w0 fun v w' => v = .tuple #[.string (str (pie s.data.toList).1), .string (str (pie s.data.toList).2)] ∧ Fm [] w0 w' := by
  have hs := St.init w0 []
  obtain ⟨x, hx⟩ : ∃ x, tk s.data.toList = x := ⟨_, rfl⟩
  have hxl : x.2.length ≤ 140737488355328 := by
    rw [← hx]; unfold tk
    have ht : s.data.toList.length = s.size := by rw [Array.length_toList]; rfl
    split
    · simp
    · rw [List.length_drop]; omega
  refine Ret_enter Tryz.func113 rfl Tryz.ntmps113 (by simp) ?_
  refine CW_seq (fun K1 hK1 => ?_)
  refine CW_region ?_
  refine asp (.string _) rfl ?_
  refine asp (.string _) rfl ?_
  refine WL_nil ?_
  refine hK1 _ _ ?_
  refine CW_seq (fun K2 hK2 => ?_)
  refine CW_region ?_
  refine mvp (.string _) rfl ?_
  refine cll (rtake_ok s _ hsz) ?_
  rintro _ w ⟨rfl, hf⟩
  replace hs := hs.call hf
  rw [hx]
  refine mvp (.tuple _) rfl ?_
  refine ext rfl rfl ?_
  refine ext rfl rfl ?_
  refine asp (.int _ _) rfl ?_
  refine asp (.string _) rfl ?_
  refine WL_nil ?_
  refine hK2 _ _ ?_
  refine CW_seq (fun K3 hK3 => ?_)
  refine CW_seq (fun K4 hK4 => ?_)
  refine CW_region ?_
  refine mvp (.int _ _) rfl ?_
  refine lssW rfl rfl ?_
  refine mvp (.bool _) rfl ?_
  refine WL_g (g := 13) rfl (by decide) rfl (fun hg13 => ?_) (fun hg13 => ?_)
  · skip
    refine mvp (.int _ _) rfl ?_
    refine WL_gy (g := 13) rfl (by decide) rfl ?_
    refine mvp (.string _) rfl ?_
    refine WL_gy (g := 13) rfl (by decide) rfl ?_
    refine lenS rfl ?_
    refine WL_gy (g := 13) rfl (by decide) rfl ?_
    refine gtrW rfl rfl ?_
    first | refine pkT rfl rfl ?_ | refine pkF rfl rfl ?_
    refine WL_nil ?_
    refine hK4 _ _ ?_
    refine CW_cond rfl (fun hc18 => ?_) (fun hc18 => ?_)
    · skip
      refine CW_seq (fun K5 hK5 => ?_)
      refine CW_region ?_
      refine asp (.string _) rfl ?_
      refine asp (.string _) rfl ?_
      refine WL_nil ?_
      refine hK5 _ _ ?_
      refine CW_ret ?_
      repeat (first | (with_reducible apply thenF_ret) | (with_reducible apply blockF_ret))
      try simp only [thenF, blockF, reduceIte]
      refine Post_r Tryz.results113 (.tmp rfl (.tmp rfl .nil)) ?_
      try simp only [ev_tmp, ev_const, upd_ap, Nat.reduceLT, Nat.reduceEqDiff, reduceIte]
      unfold pie
      rw [hx, if_pos (by
        have : (str x.2).size = x.2.length := rfl
        first
          | (left; simpa using hg13)
          | (right; simp at hc18; omega))]
      exact ⟨rfl, hs.fm⟩
    · skip
      have n18 : 0 ≤ x.1 ∧ x.1 ≤ ((str x.2).size : Int) := by
        first
          | (exfalso; simp at hc18; done)
          | (have h1 : ¬ x.1 < 0 := by simpa using hg13
             have h2 : ¬ ((str x.2).size : Int) < x.1 := by simpa using hc18
             exact ⟨by omega, by omega⟩)
      refine CW_skip ?_
      refine hK3 _ _ ?_
      refine CW_seq (fun K6 hK6 => ?_)
      refine DW_sH hs 999 ?_
      intro w hs _
      refine DW_q hs 0 rfl (by kernel_rfl) (fun w' hw' => X_move (v := (.string _)) rfl) ?_
      refine DW_q hs 1 rfl (by kernel_rfl) (fun w' hw' => X_move (v := (.int _ _)) rfl) ?_
      refine DW_q hs 2 rfl (by kernel_rfl) (fun w' hw' => X_sliceS_h rfl rfl (by omega) (by omega)) ?_
      refine DW_q hs 3 rfl (by kernel_rfl) (fun w' hw' => X_move (v := (.string _)) rfl) ?_
      refine DW_q hs 4 rfl (by kernel_rfl) (fun w' hw' => X_move (v := (.int _ _)) rfl) ?_
      refine DW_q hs 5 rfl (by kernel_rfl) (fun w' hw' => X_sliceS_l rfl rfl (by omega) (by omega)) ?_
      refine DW_q hs 6 rfl (by kernel_rfl) (fun w' hw' => X_assign (v := (.string _)) rfl) ?_
      refine DW_q hs 7 rfl (by kernel_rfl) (fun w' hw' => X_assign (v := (.string _)) rfl) ?_
      refine DW_e (by kernel_rfl) ?_
      refine hK6 _ _ ?_
      refine CW_ret ?_
      repeat (first | (with_reducible apply thenF_ret) | (with_reducible apply blockF_ret))
      try simp only [thenF, blockF, reduceIte]
      refine Post_r Tryz.results113 (.tmp rfl (.tmp rfl .nil)) ?_
      try simp only [ev_tmp, ev_const, upd_ap, Nat.reduceLT, Nat.reduceEqDiff, reduceIte]
      unfold pie
      rw [hx, if_neg (by have : (str x.2).size = x.2.length := rfl; omega)]
      exact ⟨rfl, hs.fm⟩
  · skip
    refine WL_gn (g := 13) rfl (by decide) rfl ?_
    refine WL_gn (g := 13) rfl (by decide) rfl ?_
    refine WL_gn (g := 13) rfl (by decide) rfl ?_
    first | refine pkT rfl rfl ?_ | refine pkF rfl rfl ?_
    refine WL_nil ?_
    refine hK4 _ _ ?_
    refine CW_condT rfl rfl ?_
    refine CW_seq (fun K7 hK7 => ?_)
    refine CW_region ?_
    refine asp (.string _) rfl ?_
    refine asp (.string _) rfl ?_
    refine WL_nil ?_
    refine hK7 _ _ ?_
    refine CW_ret ?_
    repeat (first | (with_reducible apply thenF_ret) | (with_reducible apply blockF_ret))
    try simp only [thenF, blockF, reduceIte]
    refine Post_r Tryz.results113 (.tmp rfl (.tmp rfl .nil)) ?_
    try simp only [ev_tmp, ev_const, upd_ap, Nat.reduceLT, Nat.reduceEqDiff, reduceIte]
    unfold pie
    rw [hx, if_pos (by
      have : (str x.2).size = x.2.length := rfl
      first
        | (left; simpa using hg13)
        | (right; simp at hc18; omega))]
    exact ⟨rfl, hs.fm⟩
theorem rNatural_ok (u : Nat) (w0 : World) (h1 : u < 18446744073709551616) :
    Ret Tryz.prog 110 #[.int .u64 u] w0 fun v w' => NewR w0 w' 5 1 (vnat u).length v (bv (vnat u)) ∧ Fm [] w0 w' := by
  have hs := St.init w0 []
  refine Ret_enter Tryz.func110 rfl Tryz.ntmps110 (by simp) ?_
  refine CW_seq (fun K1 hK1 => ?_)
  refine CW_region ?_
  refine asp (.slice _ _ _) rfl ?_
  refine WL_nil ?_
  refine hK1 _ _ ?_
  refine CW_seq (fun K2 hK2 => ?_)
  refine CW_region ?_
  refine asp (.slice _ _ _) rfl ?_
  refine WL_nil ?_
  refine hK2 _ _ ?_
  refine CW_seq (fun K3 hK3 => ?_)
  refine CW_block ?_
  refine CW_loop (fun k f w' => ∃ (j u' : Nat) (a : Option Addr) (n cap : Nat) (pre : List UInt8), f 0 = .int .u64 u' ∧ f 3 = .slice a n cap ∧ St w0 [] w' [eR (.slice a n cap) 5 1 n (bv pre)] ∧ pre ++ vint k u' = vnat u ∧ k = j + 1 ∧ u' < 2 ^ (7 * k) ∧ u' < 18446744073709551616 ∧ n = pre.length ∧ n + k ≤ 10) 10 ?_ ?_
  · exact ⟨9, u, none, 0, 0, [], rfl, rfl, hs.nilR _ _, rfl, rfl, by omega, h1, rfl, by omega⟩
  · rintro k f w1 ⟨j, u', a, n, cap, pre, e0, e3, hs, hv, rfl, g1, g2, hn, hk⟩
    refine CW_kn (i := 0) e0 (CW_kn (i := 3) e3 ?_)
    refine CW_seq (fun K4 hK4 => ?_)
    refine CW_seq (fun K5 hK5 => ?_)
    refine CW_region ?_
    refine mvp (.int _ _) rfl ?_
    refine geqW rfl rfl ?_
    refine WL_nil ?_
    refine hK5 _ _ ?_
    refine CW_cond rfl (fun hc5 => ?_) (fun hc5 => ?_)
    · skip
      refine CW_skip ?_
      refine hK4 _ _ ?_
      refine CW_block ?_
      refine CW_seq (fun K6 hK6 => ?_)
      refine CW_region ?_
      refine mvp (.slice _ _ _) rfl ?_
      refine mvp (.int _ _) rfl ?_
      refine WL_v (v := .int .u64 ((u' % 128 : Nat) : Int)) (X_remk 128 rfl rfl (by omega) rfl) ?_
      refine WL_v (v := .int .u64 ((u' % 128 + 128 : Nat) : Int)) (X_addk rfl rfl (by omega) (u64_wrap _ (by omega) (by omega))) ?_
      refine WL_v (v := .int .u8 ((u' % 128 + 128 : Nat) : Int)) (X_cvk rfl (u8r (by omega) (by omega))) ?_
      refine W_bslice hs (BS.ii rfl .nil) rfl (by simp) ?_
      intro w g11 hs hg11 hf11
      refine app1 hs rfl rfl (by rfl) (by rfl) (by decide) (by rfl) (by omega) (by omega) ?_
      intro a2 c2 w hs _
      refine asp (.slice _ _ _) rfl ?_
      refine WL_nil ?_
      refine hK6 _ _ ?_
      refine CW_region ?_
      refine mvp (.int _ _) rfl ?_
      refine WL_v (v := .int .u64 ((u' / 128 : Nat) : Int)) (X_quok 128 rfl rfl (by omega) rfl (u64_wrap _ (by omega) (by omega))) ?_
      refine asp (.int _ _) rfl ?_
      refine WL_nil ?_
      have hc : 128 ≤ u' := by simp at hc5; omega
      cases j with
      | zero => exfalso; simp at g1; omega
      | succ j =>
        rw [pow7] at g1
        have g3 : u' / 128 < 2 ^ (7 * (j + 1)) := by omega
        rw [vint_step (by omega)] at hv
        refine ⟨j + 1, by omega, j, u' / 128, a2, n + 1, c2, pre ++ [UInt8.ofNat (u' % 128 + 128)], rfl, rfl, ?_, ?_, rfl, ?_, by omega, ?_, by omega⟩
        · rw [bv_append, bv_one, u8_toNat _ (by omega)]; exact hs.wk
        · rw [← hv]; simp
        · exact g3
        · simp [hn]
    · have hc : u' < 128 := by simp at hc5; omega
      refine CW_exit ?_
      refine hK3 _ _ ?_
      refine CW_seq (fun K7 hK7 => ?_)
      refine CW_region ?_
      refine mvp (.slice _ _ _) rfl ?_
      refine mvp (.int _ _) rfl ?_
      refine WL_v (v := .int .u8 (u' : Int)) (X_cvk rfl (u8r (by omega) (by omega))) ?_
      refine W_bslice hs (BS.ii rfl .nil) rfl (by simp) ?_
      intro w g18 hs hg18 hf18
      refine app1 hs rfl rfl (by rfl) (by rfl) (by decide) (by rfl) (by omega) (by omega) ?_
      intro a2 c2 w hs _
      refine asp (.slice _ _ _) rfl ?_
      refine WL_nil ?_
      refine hK7 _ _ ?_
      refine CW_ret ?_
      repeat (first | (with_reducible apply thenF_ret) | (with_reducible apply blockF_ret))
      try simp only [thenF, blockF, reduceIte]
      refine Post_r Tryz.results110 (.tmp rfl .nil) ?_
      try simp only [ev_tmp, ev_const, upd_ap, Nat.reduceLT, Nat.reduceEqDiff, reduceIte]
      rw [vint_last (by omega)] at hv
      rw [← hv, bv_append, bv_one, u8_toNat _ (by omega)]
      have hl : (pre ++ [UInt8.ofNat u']).length = n + 1 := by simp [hn]
      rw [hl]
      exact ⟨hs.newR, hs.fm⟩
theorem rText_ok (s : ByteArray) (w0 : World) (hsz : s.size ≤ 16777216) :
    Ret Tryz.prog 111 #[.string s] w0 fun v w' => (∃ a n c, v = .slice a n c ∧ n = (encT s.data.toList).length ∧ NewR w0 w' 5 1 n (.slice a n c) (bv (encT s.data.toList))) ∧ Fm [] w0 w' := by
  have hs := St.init w0 []
  have ht : s.data.toList.length = s.size := by rw [Array.length_toList]; rfl
  have hvl := vnat_le s.size
  refine Ret_enter Tryz.func111 rfl Tryz.ntmps111 (by simp) ?_
  refine CW_seq (fun K1 hK1 => ?_)
  refine CW_region ?_
  refine asp (.slice _ _ _) rfl ?_
  refine WL_nil ?_
  refine hK1 _ _ ?_
  refine CW_seq (fun K2 hK2 => ?_)
  refine CW_region ?_
  refine mvp (.string _) rfl ?_
  refine lenS rfl ?_
  refine WL_v (v := .int .u64 (s.size : Int)) (X_cvk rfl (u64_wrap _ (by omega) (by omega))) ?_
  refine cll (rNatural_ok s.size _ (by omega)) ?_
  rintro v w ⟨hnew, hf⟩
  obtain ⟨a0, c0, rfl⟩ := ownsRow_form hnew
  replace hs := hs.callR hf hnew
  refine asp (.slice _ _ _) rfl ?_
  refine WL_nil ?_
  refine hK2 _ _ ?_
  refine CW_seq (fun K3 hK3 => ?_)
  refine CW_seq (fun K4 hK4 => ?_)
  refine CW_region ?_
  refine asp (.int _ _) rfl ?_
  refine WL_nil ?_
  refine hK4 _ _ ?_
  refine CW_block ?_
  refine CW_loop (fun k f w' => ∃ (i n c : Nat) (a : Option Addr), k = s.size - i ∧ i ≤ s.size ∧ f 0 = .string s ∧ f 3 = .slice a n c ∧ f 4 = .int .i64 i ∧ n = (vnat s.size).length + i ∧ St w0 [] w' [eR (.slice a n c) 5 1 n (bv (vnat s.size ++ s.data.toList.take i))]) s.size ?_ ?_
  · exact ⟨0, _, c0, a0, by omega, by omega, rfl, rfl, rfl, rfl, by simpa using hs⟩
  · rintro k f w1 ⟨i, n, c, a, rfl, hi, e0, e3, e4, hn, hs⟩
    refine CW_kn (i := 0) e0 (CW_kn (i := 3) e3 (CW_kn (i := 4) e4 ?_))
    refine CW_seq (fun K5 hK5 => ?_)
    refine CW_seq (fun K6 hK6 => ?_)
    refine CW_region ?_
    refine mvp (.int _ _) rfl ?_
    refine mvp (.string _) rfl ?_
    refine lenS rfl ?_
    refine lssW rfl rfl ?_
    refine WL_nil ?_
    refine hK6 _ _ ?_
    refine CW_cond rfl (fun hc12 => ?_) (fun hc12 => ?_)
    · have hi2 : i < s.size := by simp at hc12; omega
      have hi3 : i < s.data.toList.length := by omega
      refine CW_skip ?_
      refine hK5 _ _ ?_
      refine CW_seq (fun K7 hK7 => ?_)
      refine CW_block ?_
      refine CW_region ?_
      refine mvp (.slice _ _ _) rfl ?_
      refine mvp (.string _) rfl ?_
      refine mvp (.int _ _) rfl ?_
      refine ixS rfl rfl (by omega) ?_
      refine W_bslice hs (BS.ii rfl .nil) rfl (by simp) ?_
      intro w g19 hs hg19 hf19
      refine app1 hs rfl rfl (by rfl) (by rfl) (by decide) (by rfl) (by omega) (by omega) ?_
      intro a2 c2 w hs _
      refine asp (.slice _ _ _) rfl ?_
      refine WL_nil ?_
      refine hK7 _ _ ?_
      refine CW_region ?_
      refine mvp (.int _ _) rfl ?_
      first | refine addI rfl rfl (by omega) ?_ | refine addW rfl rfl ?_
      refine asp (.int _ _) rfl ?_
      refine WL_nil ?_
      skip
      refine ⟨s.size - (i + 1), by omega, i + 1, n + 1, c2, a2, rfl, by omega, rfl, rfl, rfl, by omega, ?_⟩
      have hb : bt s (i : Int) = (s.data.toList[i].toNat : Int) := by unfold bt; rw [Int.toNat_natCast, List.getD_eq_getElem?_getD, List.getElem?_eq_getElem hi3]; rfl
      rw [List.take_add_one, List.getElem?_eq_getElem hi3, ← List.append_assoc, bv_append, Option.toList_some, bv_one]
      rw [hb] at hs
      exact hs.wk
    · skip
      refine CW_exit ?_
      refine hK3 _ _ ?_
      refine CW_seq (fun K8 hK8 => ?_)
      refine CW_region ?_
      refine mvp (.slice _ _ _) rfl ?_
      refine asp (.slice _ _ _) rfl ?_
      refine WL_nil ?_
      refine hK8 _ _ ?_
      refine CW_ret ?_
      repeat (first | (with_reducible apply thenF_ret) | (with_reducible apply blockF_ret))
      try simp only [thenF, blockF, reduceIte]
      refine Post_r Tryz.results111 (.tmp rfl .nil) ?_
      try simp only [ev_tmp, ev_const, upd_ap, Nat.reduceLT, Nat.reduceEqDiff, reduceIte]
      have hi2 : i = s.size := by simp at hc12; omega
      have e : vnat s.size ++ s.data.toList.take i = encT s.data.toList := by unfold encT; rw [List.take_of_length_le (by omega), ht]
      rw [e] at hs
      have hl : n = (encT s.data.toList).length := by unfold encT; rw [List.length_append, ht]; omega
      exact ⟨⟨a, n, c, rfl, hl, hs.newR⟩, hs.fm⟩
end Go.Proofs.YtkbldndbofbkcaaGreatDoor
/- The reference's lineages, words and births. -/
namespace Go.Proofs.YtkbldndbofbkcaaGreatDoor
open Go Go.RowKit
attribute [local irreducible] WL CW DW Ret RW
theorem bt_at {s : ByteArray} {i : Nat} (h : i < s.data.toList.length) : bt s (i : Int) = (s.data.toList[i].toNat : Int) := by
  unfold bt; rw [Int.toNat_natCast, List.getD_eq_getElem?_getD, List.getElem?_eq_getElem h]; rfl
def lvV (k a : Nat) (r : List UInt8) : Bool := (pts k a r).all fun p => p.e == 0
theorem lvV_0 (a : Nat) (r : List UInt8) : lvV 0 a r = false := by simp [lvV, pts]
theorem lvV_bad {k a : Nat} {r : List UInt8} (h : perr r ≠ 0) : lvV (k + 1) a r = false := by
  unfold lvV; rw [pts, if_pos h]; simp [h]
theorem lvV_end {k a : Nat} {r : List UInt8} (h : perr r = 0) (h2 : r.drop (dlen r) = []) : lvV (k + 1) a r = true := by
  unfold lvV; rw [pts, if_neg (by rw [h]; simp), h2]; rfl
theorem lvV_sep {k a : Nat} {r r' : List UInt8} {c : UInt8} (h : perr r = 0) (h2 : r.drop (dlen r) = c :: r') (hc : c.toNat ≠ 46) : lvV (k + 1) a r = false := by
  unfold lvV; rw [pts, if_neg (by rw [h]; simp), h2]; simp only; rw [if_pos hc]; rfl
theorem lvV_next {k a : Nat} {r r' : List UInt8} {c : UInt8} (h : perr r = 0) (h2 : r.drop (dlen r) = c :: r') (hc : c.toNat = 46) : lvV (k + 1) a r = lvV k (a + dlen r + 1) r' := by
  unfold lvV; rw [pts, if_neg (by rw [h]; simp), h2]; simp only; rw [if_neg (fun q => q hc), List.all_cons]; rfl
set_option maxHeartbeats 800000 in
theorem rLParse_ok (s : ByteArray) (w0 : World) (hsz : s.size ≤ 4611686018427387904) :
    Ret Tryz.prog 202 #[.string s] w0 fun v w' => (∃ a n c p e, v = .tuple #[.slice a n c, .int .i64 p, .int .i64 e] ∧ decide (e = 0) = lvalid s.data.toList) ∧ Fm [] w0 w' := by
  have hs := St.init w0 []
  have ht : s.data.toList.length = s.size := by rw [Array.length_toList]; rfl
  obtain ⟨bs, hbs⟩ : ∃ bs, s.data.toList = bs := ⟨_, rfl⟩
  rw [hbs] at ht ⊢
  have hbt : ∀ {i : Nat} (h : i < bs.length), bt s (i : Int) = (bs[i].toNat : Int) := fun {i} h => by
    subst hbs; exact bt_at h
  refine Ret_enter Tryz.func202 rfl Tryz.ntmps202 (by simp) ?_
  refine CW_seq (fun K1 hK1 => ?_)
  refine CW_region ?_
  refine asp (.slice _ _ _) rfl ?_
  refine asp (.int _ _) rfl ?_
  refine asp (.int _ _) rfl ?_
  refine WL_nil ?_
  refine hK1 _ _ ?_
  refine CW_seq (fun K2 hK2 => ?_)
  refine CW_region ?_
  refine asp (.slice _ _ _) rfl ?_
  refine WL_nil ?_
  refine hK2 _ _ ?_
  refine CW_seq (fun K3 hK3 => ?_)
  refine CW_seq (fun K4 hK4 => ?_)
  refine CW_region ?_
  refine mvp (.string _) rfl ?_
  refine eqS rfl rfl ?_
  refine WL_nil ?_
  refine hK4 _ _ ?_
  refine CW_cond rfl (fun hc10 => ?_) (fun hc10 => ?_)
  · skip
    refine CW_seq (fun K5 hK5 => ?_)
    refine CW_region ?_
    refine asp (.slice _ _ _) rfl ?_
    refine asp (.int _ _) rfl ?_
    refine asp (.int _ _) rfl ?_
    refine WL_nil ?_
    refine hK5 _ _ ?_
    refine CW_ret ?_
    repeat (first | (with_reducible apply thenF_ret) | (with_reducible apply blockF_ret))
    try simp only [thenF, blockF, reduceIte]
    refine Post_r Tryz.results202 (.tmp rfl (.tmp rfl (.tmp rfl .nil))) ?_
    try simp only [ev_tmp, ev_const, upd_ap, Nat.reduceLT, Nat.reduceEqDiff, reduceIte]
    have h1 : bs = [] := by
      have : s.data.toList = [] := by simpa using hc10
      rwa [hbs] at this
    subst h1
    exact ⟨⟨none, 0, 0, 0, 0, rfl, rfl⟩, hs.fm⟩
  · skip
    have hne : bs ≠ [] := by
      have : ¬ s.data.toList = [] := by simpa using hc10
      rwa [hbs] at this
    have hlv0 : lvalid bs = lvV 8 0 bs := by unfold lvalid lvV parts; rw [if_neg hne]
    replace hs := hs.nilR 3 1
    refine CW_skip ?_
    refine hK3 _ _ ?_
    refine CW_seq (fun K6 hK6 => ?_)
    refine CW_region ?_
    refine asp (.int _ _) rfl ?_
    refine WL_nil ?_
    refine hK6 _ _ ?_
    refine CW_block ?_
    refine CW_loop (fun m f w' => ∃ (k at_ n c : Nat) (a : Option Addr) (xs : List Value), m = k + 1 ∧ f 0 = .string s ∧ f 5 = .slice a n c ∧ f 6 = .int .i64 at_ ∧ n + k = 8 ∧ at_ ≤ s.size ∧ lvalid bs = lvV k at_ (bs.drop at_) ∧ St w0 [] w' [eR (.slice a n c) 3 1 n xs]) 9 ?_ ?_
    · exact ⟨8, 0, 0, 0, none, [], rfl, rfl, rfl, rfl, rfl, by omega, by simpa using hlv0, hs⟩
    · rintro m f w1 ⟨k, at_, n, c, a, xs, rfl, e0, e5, e6, hnk, hat, hlv, hs⟩
      refine CW_kn (i := 0) e0 (CW_kn (i := 5) e5 (CW_kn (i := 6) e6 ?_))
      obtain ⟨r, hr⟩ : ∃ r, bs.drop at_ = r := ⟨_, rfl⟩
      have hrl : r.length = s.size - at_ := by rw [← hr, List.length_drop, ht]
      rw [hr] at hlv
      refine CW_block ?_
      refine CW_seq (fun K7 hK7 => ?_)
      refine CW_seq (fun K8 hK8 => ?_)
      refine CW_region ?_
      refine mvp (.slice _ _ _) rfl ?_
      refine lenW rfl ?_
      refine eqlW rfl rfl ?_
      refine WL_nil ?_
      refine hK8 _ _ ?_
      refine CW_cond rfl (fun hc13 => ?_) (fun hc13 => ?_)
      · skip
        refine CW_seq (fun K9 hK9 => ?_)
        refine CW_region ?_
        refine mvp (.int _ _) rfl ?_
        refine asp (.slice _ _ _) rfl ?_
        refine asp (.int _ _) rfl ?_
        refine asp (.int _ _) rfl ?_
        refine WL_nil ?_
        refine hK9 _ _ ?_
        refine CW_ret ?_
        repeat (first | (with_reducible apply thenF_ret) | (with_reducible apply blockF_ret))
        try simp only [thenF, blockF, reduceIte]
        refine Post_r Tryz.results202 (.tmp rfl (.tmp rfl (.tmp rfl .nil))) ?_
        try simp only [ev_tmp, ev_const, upd_ap, Nat.reduceLT, Nat.reduceEqDiff, reduceIte]
        have h1 : k = 0 := by simp at hc13; omega
        subst h1
        rw [lvV_0] at hlv
        exact ⟨⟨none, 0, 0, at_, 9, rfl, hlv.symm⟩, hs.fm⟩
      · skip
        obtain ⟨k, rfl⟩ : ∃ k', k = k' + 1 := ⟨k - 1, by simp at hc13; omega⟩
        refine CW_skip ?_
        refine hK7 _ _ ?_
        refine CW_seq (fun K10 hK10 => ?_)
        refine CW_seq (fun K11 hK11 => ?_)
        refine CW_region ?_
        refine mvp (.int _ _) rfl ?_
        refine mvp (.string _) rfl ?_
        refine lenS rfl ?_
        refine eqlW rfl rfl ?_
        refine WL_nil ?_
        refine hK11 _ _ ?_
        refine CW_cond rfl (fun hc18 => ?_) (fun hc18 => ?_)
        · skip
          refine CW_seq (fun K12 hK12 => ?_)
          refine CW_region ?_
          refine mvp (.int _ _) rfl ?_
          refine asp (.slice _ _ _) rfl ?_
          refine asp (.int _ _) rfl ?_
          refine asp (.int _ _) rfl ?_
          refine WL_nil ?_
          refine hK12 _ _ ?_
          refine CW_ret ?_
          repeat (first | (with_reducible apply thenF_ret) | (with_reducible apply blockF_ret))
          try simp only [thenF, blockF, reduceIte]
          refine Post_r Tryz.results202 (.tmp rfl (.tmp rfl (.tmp rfl .nil))) ?_
          try simp only [ev_tmp, ev_const, upd_ap, Nat.reduceLT, Nat.reduceEqDiff, reduceIte]
          have h1 : r = [] := List.eq_nil_of_length_eq_zero (by simp at hc18; omega)
          rw [lvV_bad (by rw [h1]; decide)] at hlv
          exact ⟨⟨none, 0, 0, at_, 4, rfl, hlv.symm⟩, hs.fm⟩
        · skip
          have hlt : at_ < bs.length := by simp at hc18; omega
          have hb0 := hbt hlt
          have hrc : r = bs[at_] :: bs.drop (at_ + 1) := by rw [← hr, List.drop_eq_getElem_cons hlt]
          obtain ⟨ch, hch⟩ : ∃ ch, bs[at_] = ch := ⟨_, rfl⟩
          rw [hch] at hb0 hrc
          refine CW_skip ?_
          refine hK10 _ _ ?_
          refine CW_seq (fun K13 hK13 => ?_)
          refine CW_seq (fun K14 hK14 => ?_)
          refine CW_region ?_
          refine mvp (.string _) rfl ?_
          refine mvp (.int _ _) rfl ?_
          refine ixS rfl rfl (by omega) ?_
          rw [hb0]
          refine lssW rfl rfl ?_
          refine mvp (.bool _) rfl ?_
          refine WL_g (g := 24) rfl (by decide) rfl (fun hg24 => ?_) (fun hg24 => ?_)
          · skip
            refine mvp (.string _) rfl ?_
            refine WL_gy (g := 24) rfl (by decide) rfl ?_
            refine mvp (.int _ _) rfl ?_
            refine WL_gy (g := 24) rfl (by decide) rfl ?_
            refine ixS rfl rfl (by omega) ?_
            rw [hb0]
            refine WL_gy (g := 24) rfl (by decide) rfl ?_
            refine gtrW rfl rfl ?_
            first | refine pkT rfl rfl ?_ | refine pkF rfl rfl ?_
            refine WL_nil ?_
            refine hK14 _ _ ?_
            refine CW_cond rfl (fun hc29 => ?_) (fun hc29 => ?_)
            · skip
              refine CW_seq (fun K15 hK15 => ?_)
              refine CW_region ?_
              refine mvp (.int _ _) rfl ?_
              refine asp (.slice _ _ _) rfl ?_
              refine asp (.int _ _) rfl ?_
              refine asp (.int _ _) rfl ?_
              refine WL_nil ?_
              refine hK15 _ _ ?_
              refine CW_ret ?_
              repeat (first | (with_reducible apply thenF_ret) | (with_reducible apply blockF_ret))
              try simp only [thenF, blockF, reduceIte]
              refine Post_r Tryz.results202 (.tmp rfl (.tmp rfl (.tmp rfl .nil))) ?_
              try simp only [ev_tmp, ev_const, upd_ap, Nat.reduceLT, Nat.reduceEqDiff, reduceIte]
              have hdig : isDig ch = false := by
                first
                  | (have h1 : (ch.toNat : Int) < 48 := by simpa using hg24
                     unfold isDig; simp; omega)
                  | (have h1 : (57 : Int) < ch.toNat := by simpa using hc29
                     unfold isDig; simp; omega)
              have hd0 : dlen r = 0 := by rw [hrc]; unfold dlen; rw [List.takeWhile_cons, if_neg (by rw [hdig]; simp)]; rfl
              rw [lvV_bad (by unfold perr; rw [if_neg (by rw [hrc]; simp), if_pos hd0]; decide)] at hlv
              exact ⟨⟨none, 0, 0, at_, 6, rfl, hlv.symm⟩, hs.fm⟩
            · skip
              have hdig : isDig ch = true := by
                have h1 : ¬ (ch.toNat : Int) < 48 := by simpa using hg24
                have h2 : ¬ (57 : Int) < ch.toNat := by simpa using hc29
                unfold isDig; simp; omega
              have hd1 : 1 ≤ dlen r := by rw [hrc]; unfold dlen; rw [List.takeWhile_cons, if_pos hdig]; simp
              refine CW_skip ?_
              refine hK13 _ _ ?_
              refine CW_seq (fun K16 hK16 => ?_)
              refine CW_seq (fun K17 hK17 => ?_)
              refine CW_region ?_
              refine mvp (.string _) rfl ?_
              refine mvp (.int _ _) rfl ?_
              refine ixS rfl rfl (by omega) ?_
              rw [hb0]
              refine eqlW rfl rfl ?_
              refine WL_nil ?_
              refine hK17 _ _ ?_
              refine CW_cond rfl (fun hc34 => ?_) (fun hc34 => ?_)
              · skip
                refine CW_seq (fun K18 hK18 => ?_)
                refine CW_region ?_
                refine mvp (.int _ _) rfl ?_
                refine asp (.slice _ _ _) rfl ?_
                refine asp (.int _ _) rfl ?_
                refine asp (.int _ _) rfl ?_
                refine WL_nil ?_
                refine hK18 _ _ ?_
                refine CW_ret ?_
                repeat (first | (with_reducible apply thenF_ret) | (with_reducible apply blockF_ret))
                try simp only [thenF, blockF, reduceIte]
                refine Post_r Tryz.results202 (.tmp rfl (.tmp rfl (.tmp rfl .nil))) ?_
                try simp only [ev_tmp, ev_const, upd_ap, Nat.reduceLT, Nat.reduceEqDiff, reduceIte]
                have h48 : r.head? = some 48 := by
                  have h1 : (ch.toNat : Int) = 48 := by simpa using hc34
                  rw [hrc]; simp only [List.head?_cons, Option.some.injEq]; exact UInt8.toNat_inj.1 (by simpa using (by omega : ch.toNat = 48))
                rw [lvV_bad (by unfold perr; rw [if_neg (by rw [hrc]; simp), if_neg (by omega), if_pos h48]; decide)] at hlv
                exact ⟨⟨none, 0, 0, at_, 3, rfl, hlv.symm⟩, hs.fm⟩
              · skip
                have h48 : ch.toNat ≠ 48 := by
                  have : ¬ (ch.toNat : Int) = 48 := by simpa using hc34
                  omega
                have hhd : ¬ r.head? = some 48 := by
                  rw [hrc]; simp only [List.head?_cons, Option.some.injEq]; intro q; rw [q] at h48; exact h48 rfl
                have hdle := dlen_le r
                refine CW_skip ?_
                refine hK16 _ _ ?_
                refine CW_seq (fun K19 hK19 => ?_)
                refine CW_region ?_
                refine mvp (.int _ _) rfl ?_
                refine asp (.int _ _) rfl ?_
                refine asp (.int _ _) rfl ?_
                refine WL_nil ?_
                refine hK19 _ _ ?_
                refine CW_cut (fun f w' => ∃ j : Nat, j ≤ 7 ∧ at_ + j ≤ s.size ∧ j ≤ dlen r ∧ (j < 7 → j = dlen r) ∧ f 0 = .string s ∧ f 5 = .slice a n c ∧ f 6 = .int .i64 at_ ∧ f 7 = .int .i64 (dval (r.take j) : Nat) ∧ f 8 = .int .i64 (at_ + j : Nat) ∧ St w0 [] w' [eR (.slice a n c) 3 1 n xs]) ?_ ?_
                · skip
                  refine CW_block ?_
                  refine CW_loop (fun m f w' => ∃ j : Nat, m = 7 - j ∧ j ≤ 7 ∧ at_ + j ≤ s.size ∧ j ≤ dlen r ∧ f 0 = .string s ∧ f 5 = .slice a n c ∧ f 6 = .int .i64 at_ ∧ f 7 = .int .i64 (dval (r.take j) : Nat) ∧ f 8 = .int .i64 (at_ + j : Nat) ∧ St w0 [] w' [eR (.slice a n c) 3 1 n xs]) 7 ?_ ?_
                  · exact ⟨0, by omega, by omega, by omega, by omega, rfl, rfl, rfl, rfl, rfl, hs⟩
                  · rintro m f w1 ⟨j, rfl, hj7, hjs, hjd, e0, e5, e6, e7, e8, hs⟩
                    refine CW_kn (i := 0) e0 (CW_kn (i := 5) e5 (CW_kn (i := 6) e6 (CW_kn (i := 7) e7 (CW_kn (i := 8) e8 ?_))))
                    have hcj : ∀ h : at_ + j < bs.length, bt s ((at_ + j : Nat) : Int) = (bs[at_ + j].toNat : Int) := fun h => hbt h
                    have hrj : ∀ h : at_ + j < bs.length, ∃ h2 : j < r.length, r[j] = bs[at_ + j] := fun h => ⟨by omega, by subst hr; rw [List.getElem_drop]⟩
                    refine CW_seq (fun K20 hK20 => ?_)
                    refine CW_seq (fun K21 hK21 => ?_)
                    refine CW_region ?_
                    refine mvp (.int _ _) rfl ?_
                    refine mvp (.string _) rfl ?_
                    refine lenS rfl ?_
                    refine lssW rfl rfl ?_
                    refine mvp (.bool _) rfl ?_
                    refine WL_g (g := 41) rfl (by decide) rfl (fun hg41 => ?_) (fun hg41 => ?_)
                    · skip
                      refine mvp (.string _) rfl ?_
                      refine WL_gy (g := 41) rfl (by decide) rfl ?_
                      refine mvp (.int _ _) rfl ?_
                      refine WL_gy (g := 41) rfl (by decide) rfl ?_
                      have h41 : at_ + j < bs.length := by simp at hg41; omega
                      refine ixS rfl rfl (by omega) ?_
                      rw [hcj h41]
                      refine WL_gy (g := 41) rfl (by decide) rfl ?_
                      refine geqW rfl rfl ?_
                      first | refine pkT rfl rfl ?_ | refine pkF rfl rfl ?_
                      refine mvp (.bool _) rfl ?_
                      refine WL_g (g := 47) rfl (by decide) rfl (fun hg47 => ?_) (fun hg47 => ?_)
                      · skip
                        refine mvp (.string _) rfl ?_
                        refine WL_gy (g := 47) rfl (by decide) rfl ?_
                        refine mvp (.int _ _) rfl ?_
                        refine WL_gy (g := 47) rfl (by decide) rfl ?_
                        refine ixS rfl rfl (by omega) ?_
                        rw [hcj h41]
                        refine WL_gy (g := 47) rfl (by decide) rfl ?_
                        refine leqW rfl rfl ?_
                        first | refine pkT rfl rfl ?_ | refine pkF rfl rfl ?_
                        refine mvp (.bool _) rfl ?_
                        refine WL_g (g := 53) rfl (by decide) rfl (fun hg53 => ?_) (fun hg53 => ?_)
                        · skip
                          refine mvp (.int _ _) rfl ?_
                          refine WL_gy (g := 53) rfl (by decide) rfl ?_
                          refine mvp (.int _ _) rfl ?_
                          refine WL_gy (g := 53) rfl (by decide) rfl ?_
                          first | refine addI rfl rfl (by omega) ?_ | refine addW rfl rfl ?_
                          refine WL_gy (g := 53) rfl (by decide) rfl ?_
                          refine lssW rfl rfl ?_
                          first | refine pkT rfl rfl ?_ | refine pkF rfl rfl ?_
                          refine WL_nil ?_
                          refine hK21 _ _ ?_
                          refine CW_cond rfl (fun hc58 => ?_) (fun hc58 => ?_)
                          · skip
                            have h7 : j < 7 := by simp at hc58; omega
                            obtain ⟨hjr, hjc⟩ := hrj h41
                            have hdj : isDig r[j] = true := by
                              rw [hjc]
                              have h1 : (48 : Int) ≤ bs[at_ + j].toNat := by simpa using hg47
                              have h2 : (bs[at_ + j].toNat : Int) ≤ 57 := by simpa using hg53
                              unfold isDig; simp; omega
                            have hjlt : j < dlen r := by
                              rcases Nat.lt_or_eq_of_le hjd with q | q
                              · exact q
                              · have := tw_end r (by omega)
                                subst q
                                rw [hdj] at this; cases this
                            have hdb : dval (r.take j) < 1000000 := by
                              have := dval_take_lt (r.take (dlen r)) (take_dig r) j (by omega)
                              rwa [List.take_take, Nat.min_eq_left (by omega)] at this
                            have hdv : ((dval (r.take (j + 1)) : Nat) : Int) = 10 * (dval (r.take j) : Int) + (bs[at_ + j].toNat : Int) - 48 := by
                              rw [dval_take_succ r j bs[at_ + j] (by rw [List.getElem?_eq_getElem hjr, hjc])]
                              have h1 : (48 : Int) ≤ bs[at_ + j].toNat := by simpa using hg47
                              unfold dstep; omega
                            have hbb := bs[at_ + j].toNat_lt
                            refine CW_skip ?_
                            refine hK20 _ _ ?_
                            refine CW_block ?_
                            refine CW_seq (fun K22 hK22 => ?_)
                            refine CW_region ?_
                            refine mvp (.int _ _) rfl ?_
                            first | refine mulI rfl rfl (by omega) ?_ | refine mulW rfl rfl ?_
                            refine mvp (.string _) rfl ?_
                            refine mvp (.int _ _) rfl ?_
                            refine ixS rfl rfl (by omega) ?_
                            rw [hcj h41]
                            first | refine cviI rfl (by omega) ?_ | refine cviW rfl ?_
                            first | refine addI rfl rfl (by omega) ?_ | refine addW rfl rfl ?_
                            first | refine subI rfl rfl (by omega) ?_ | refine subW rfl rfl ?_
                            refine asp (.int _ _) rfl ?_
                            refine WL_nil ?_
                            refine hK22 _ _ ?_
                            refine CW_region ?_
                            refine mvp (.int _ _) rfl ?_
                            first | refine addI rfl rfl (by omega) ?_ | refine addW rfl rfl ?_
                            refine asp (.int _ _) rfl ?_
                            refine WL_nil ?_
                            skip
                            refine ⟨7 - (j + 1), by omega, j + 1, rfl, by omega, by omega, by omega, rfl, rfl, rfl, ?_, rfl, hs⟩
                            rw [hdv]; rfl
                          · skip
                            refine CW_exit ?_
                            refine ⟨j, hj7, hjs, hjd, fun h7 => ?_, rfl, rfl, rfl, rfl, rfl, hs⟩
                            first
                              | (have h1 : s.size ≤ at_ + j := by simp at hg41; omega
                                 omega)
                              | (have h1 : (bs[at_ + j].toNat : Int) < 48 := by simpa using hg47
                                 obtain ⟨hjr, hjc⟩ := hrj h41
                                 rcases Nat.lt_or_eq_of_le hjd with q | q
                                 · have := tw_dig r j q
                                   rw [hjc] at this; unfold isDig at this; simp at this; omega
                                 · exact q)
                              | (have h1 : (57 : Int) < bs[at_ + j].toNat := by simpa using hg53
                                 obtain ⟨hjr, hjc⟩ := hrj h41
                                 rcases Nat.lt_or_eq_of_le hjd with q | q
                                 · have := tw_dig r j q
                                   rw [hjc] at this; unfold isDig at this; simp at this; omega
                                 · exact q)
                              | (exfalso; simp at hc58; omega)
                        · skip
                          refine WL_gn (g := 53) rfl (by decide) rfl ?_
                          refine WL_gn (g := 53) rfl (by decide) rfl ?_
                          refine WL_gn (g := 53) rfl (by decide) rfl ?_
                          first | refine pkT rfl rfl ?_ | refine pkF rfl rfl ?_
                          refine WL_nil ?_
                          refine hK21 _ _ ?_
                          refine CW_condF rfl rfl ?_
                          refine CW_exit ?_
                          refine ⟨j, hj7, hjs, hjd, fun h7 => ?_, rfl, rfl, rfl, rfl, rfl, hs⟩
                          first
                            | (have h1 : s.size ≤ at_ + j := by simp at hg41; omega
                               omega)
                            | (have h1 : (bs[at_ + j].toNat : Int) < 48 := by simpa using hg47
                               obtain ⟨hjr, hjc⟩ := hrj h41
                               rcases Nat.lt_or_eq_of_le hjd with q | q
                               · have := tw_dig r j q
                                 rw [hjc] at this; unfold isDig at this; simp at this; omega
                               · exact q)
                            | (have h1 : (57 : Int) < bs[at_ + j].toNat := by simpa using hg53
                               obtain ⟨hjr, hjc⟩ := hrj h41
                               rcases Nat.lt_or_eq_of_le hjd with q | q
                               · have := tw_dig r j q
                                 rw [hjc] at this; unfold isDig at this; simp at this; omega
                               · exact q)
                            | (exfalso; simp at hc58; omega)
                      · skip
                        refine WL_gn (g := 47) rfl (by decide) rfl ?_
                        refine WL_gn (g := 47) rfl (by decide) rfl ?_
                        refine WL_gn (g := 47) rfl (by decide) rfl ?_
                        first | refine pkT rfl rfl ?_ | refine pkF rfl rfl ?_
                        refine mvp (.bool _) rfl ?_
                        refine WL_gn (g := 53) rfl (by decide) rfl ?_
                        refine WL_gn (g := 53) rfl (by decide) rfl ?_
                        refine WL_gn (g := 53) rfl (by decide) rfl ?_
                        refine WL_gn (g := 53) rfl (by decide) rfl ?_
                        first | refine pkT rfl rfl ?_ | refine pkF rfl rfl ?_
                        refine WL_nil ?_
                        refine hK21 _ _ ?_
                        refine CW_condF rfl rfl ?_
                        refine CW_exit ?_
                        refine ⟨j, hj7, hjs, hjd, fun h7 => ?_, rfl, rfl, rfl, rfl, rfl, hs⟩
                        first
                          | (have h1 : s.size ≤ at_ + j := by simp at hg41; omega
                             omega)
                          | (have h1 : (bs[at_ + j].toNat : Int) < 48 := by simpa using hg47
                             obtain ⟨hjr, hjc⟩ := hrj h41
                             rcases Nat.lt_or_eq_of_le hjd with q | q
                             · have := tw_dig r j q
                               rw [hjc] at this; unfold isDig at this; simp at this; omega
                             · exact q)
                          | (have h1 : (57 : Int) < bs[at_ + j].toNat := by simpa using hg53
                             obtain ⟨hjr, hjc⟩ := hrj h41
                             rcases Nat.lt_or_eq_of_le hjd with q | q
                             · have := tw_dig r j q
                               rw [hjc] at this; unfold isDig at this; simp at this; omega
                             · exact q)
                          | (exfalso; simp at hc58; omega)
                    · skip
                      refine WL_gn (g := 41) rfl (by decide) rfl ?_
                      refine WL_gn (g := 41) rfl (by decide) rfl ?_
                      refine WL_gn (g := 41) rfl (by decide) rfl ?_
                      first | refine pkT rfl rfl ?_ | refine pkF rfl rfl ?_
                      refine mvp (.bool _) rfl ?_
                      refine WL_gn (g := 47) rfl (by decide) rfl ?_
                      refine WL_gn (g := 47) rfl (by decide) rfl ?_
                      refine WL_gn (g := 47) rfl (by decide) rfl ?_
                      refine WL_gn (g := 47) rfl (by decide) rfl ?_
                      first | refine pkT rfl rfl ?_ | refine pkF rfl rfl ?_
                      refine mvp (.bool _) rfl ?_
                      refine WL_gn (g := 53) rfl (by decide) rfl ?_
                      refine WL_gn (g := 53) rfl (by decide) rfl ?_
                      refine WL_gn (g := 53) rfl (by decide) rfl ?_
                      refine WL_gn (g := 53) rfl (by decide) rfl ?_
                      first | refine pkT rfl rfl ?_ | refine pkF rfl rfl ?_
                      refine WL_nil ?_
                      refine hK21 _ _ ?_
                      refine CW_condF rfl rfl ?_
                      refine CW_exit ?_
                      refine ⟨j, hj7, hjs, hjd, fun h7 => ?_, rfl, rfl, rfl, rfl, rfl, hs⟩
                      first
                        | (have h1 : s.size ≤ at_ + j := by simp at hg41; omega
                           omega)
                        | (have h1 : (bs[at_ + j].toNat : Int) < 48 := by simpa using hg47
                           obtain ⟨hjr, hjc⟩ := hrj h41
                           rcases Nat.lt_or_eq_of_le hjd with q | q
                           · have := tw_dig r j q
                             rw [hjc] at this; unfold isDig at this; simp at this; omega
                           · exact q)
                        | (have h1 : (57 : Int) < bs[at_ + j].toNat := by simpa using hg53
                           obtain ⟨hjr, hjc⟩ := hrj h41
                           rcases Nat.lt_or_eq_of_le hjd with q | q
                           · have := tw_dig r j q
                             rw [hjc] at this; unfold isDig at this; simp at this; omega
                           · exact q)
                        | (exfalso; simp at hc58; omega)
                · skip
                  rintro f w ⟨j, hj7, hjs, hjd, hj, e0, e5, e6, e7, e8, hs⟩
                  refine CW_kn (i := 0) e0 (CW_kn (i := 5) e5 (CW_kn (i := 6) e6 (CW_kn (i := 7) e7 (CW_kn (i := 8) e8 ?_))))
                  refine CW_seq (fun K23 hK23 => ?_)
                  refine CW_seq (fun K24 hK24 => ?_)
                  refine CW_region ?_
                  refine mvp (.int _ _) rfl ?_
                  refine mvp (.int _ _) rfl ?_
                  first | refine addI rfl rfl (by omega) ?_ | refine addW rfl rfl ?_
                  refine eqlW rfl rfl ?_
                  refine WL_nil ?_
                  refine hK24 _ _ ?_
                  refine CW_cond rfl (fun hc72 => ?_) (fun hc72 => ?_)
                  · skip
                    refine CW_seq (fun K25 hK25 => ?_)
                    refine CW_region ?_
                    refine mvp (.int _ _) rfl ?_
                    refine asp (.slice _ _ _) rfl ?_
                    refine asp (.int _ _) rfl ?_
                    refine asp (.int _ _) rfl ?_
                    refine WL_nil ?_
                    refine hK25 _ _ ?_
                    refine CW_ret ?_
                    repeat (first | (with_reducible apply thenF_ret) | (with_reducible apply blockF_ret))
                    try simp only [thenF, blockF, reduceIte]
                    refine Post_r Tryz.results202 (.tmp rfl (.tmp rfl (.tmp rfl .nil))) ?_
                    try simp only [ev_tmp, ev_const, upd_ap, Nat.reduceLT, Nat.reduceEqDiff, reduceIte]
                    have h1 : j = 7 := by simp at hc72; omega
                    rw [lvV_bad (by unfold perr; rw [if_neg (by rw [hrc]; simp), if_neg (by omega), if_neg hhd, if_pos (by omega)]; decide)] at hlv
                    exact ⟨⟨none, 0, 0, at_, 2, rfl, hlv.symm⟩, hs.fm⟩
                  · skip
                    have hj7 : j = dlen r := hj (by simp at hc72; omega)
                    have hj6 : j < 7 := by simp at hc72; omega
                    have hpe : perr r = 0 := by
                      unfold perr
                      rw [if_neg (by rw [hrc]; simp), if_neg (by omega), if_neg hhd, if_neg (by omega)]
                    refine CW_skip ?_
                    refine hK23 _ _ ?_
                    refine CW_seq (fun K26 hK26 => ?_)
                    refine CW_region ?_
                    refine mvp (.slice _ _ _) rfl ?_
                    refine mvp (.int _ _) rfl ?_
                    refine W_bslice hs (BS.ii rfl .nil) rfl (by simp) ?_
                    intro w g76 hs hg76 hf76
                    refine app1 hs rfl rfl (by rfl) (by rfl) (by decide) (by rfl) (by omega) (by omega) ?_
                    intro a2 c2 w hs _
                    refine asp (.slice _ _ _) rfl ?_
                    refine WL_nil ?_
                    refine hK26 _ _ ?_
                    refine CW_seq (fun K27 hK27 => ?_)
                    refine CW_seq (fun K28 hK28 => ?_)
                    refine CW_region ?_
                    refine mvp (.int _ _) rfl ?_
                    refine mvp (.string _) rfl ?_
                    refine lenS rfl ?_
                    refine eqlW rfl rfl ?_
                    refine WL_nil ?_
                    refine hK28 _ _ ?_
                    refine CW_cond rfl (fun hc81 => ?_) (fun hc81 => ?_)
                    · skip
                      refine CW_seq (fun K29 hK29 => ?_)
                      refine CW_region ?_
                      refine mvp (.slice _ _ _) rfl ?_
                      refine asp (.slice _ _ _) rfl ?_
                      refine asp (.int _ _) rfl ?_
                      refine asp (.int _ _) rfl ?_
                      refine WL_nil ?_
                      refine hK29 _ _ ?_
                      refine CW_ret ?_
                      repeat (first | (with_reducible apply thenF_ret) | (with_reducible apply blockF_ret))
                      try simp only [thenF, blockF, reduceIte]
                      refine Post_r Tryz.results202 (.tmp rfl (.tmp rfl (.tmp rfl .nil))) ?_
                      try simp only [ev_tmp, ev_const, upd_ap, Nat.reduceLT, Nat.reduceEqDiff, reduceIte]
                      have h1 : at_ + j = s.size := by simp at hc81; omega
                      rw [lvV_end hpe (List.drop_eq_nil_of_le (by omega))] at hlv
                      exact ⟨⟨a2, n + 1, c2, 0, 0, rfl, hlv.symm⟩, hs.fm⟩
                    · skip
                      have h81 : at_ + j < bs.length := by simp at hc81; omega
                      have hdr : r.drop (dlen r) = bs[at_ + j] :: bs.drop (at_ + j + 1) := by
                        rw [← hj7, ← hr, List.drop_drop, List.drop_eq_getElem_cons h81]
                      refine CW_skip ?_
                      refine hK27 _ _ ?_
                      refine CW_seq (fun K30 hK30 => ?_)
                      refine CW_seq (fun K31 hK31 => ?_)
                      refine CW_region ?_
                      refine mvp (.string _) rfl ?_
                      refine mvp (.int _ _) rfl ?_
                      refine ixS rfl rfl (by omega) ?_
                      rw [hbt h81]
                      refine neqW rfl rfl ?_
                      refine WL_nil ?_
                      refine hK31 _ _ ?_
                      refine CW_cond rfl (fun hc86 => ?_) (fun hc86 => ?_)
                      · skip
                        refine CW_seq (fun K32 hK32 => ?_)
                        refine CW_region ?_
                        refine mvp (.int _ _) rfl ?_
                        refine asp (.slice _ _ _) rfl ?_
                        refine asp (.int _ _) rfl ?_
                        refine asp (.int _ _) rfl ?_
                        refine WL_nil ?_
                        refine hK32 _ _ ?_
                        refine CW_ret ?_
                        repeat (first | (with_reducible apply thenF_ret) | (with_reducible apply blockF_ret))
                        try simp only [thenF, blockF, reduceIte]
                        refine Post_r Tryz.results202 (.tmp rfl (.tmp rfl (.tmp rfl .nil))) ?_
                        try simp only [ev_tmp, ev_const, upd_ap, Nat.reduceLT, Nat.reduceEqDiff, reduceIte]
                        have h1 : (bs[at_ + j]).toNat ≠ 46 := by
                          have : ¬ (bs[at_ + j].toNat : Int) = 46 := by simpa using hc86
                          omega
                        rw [lvV_sep hpe hdr h1] at hlv
                        exact ⟨⟨none, 0, 0, ((at_ + j : Nat) : Int), 6, rfl, hlv.symm⟩, hs.fm⟩
                      · skip
                        refine CW_skip ?_
                        refine hK30 _ _ ?_
                        refine CW_region ?_
                        refine mvp (.int _ _) rfl ?_
                        first | refine addI rfl rfl (by omega) ?_ | refine addW rfl rfl ?_
                        refine asp (.int _ _) rfl ?_
                        refine WL_nil ?_
                        skip
                        have hc46 : (bs[at_ + j]).toNat = 46 := by
                          have : (bs[at_ + j].toNat : Int) = 46 := by simpa using hc86
                          omega
                        rw [lvV_next hpe hdr hc46] at hlv
                        exact ⟨k + 1, by omega, k, at_ + j + 1, n + 1, c2, a2, xs ++ [.int .i64 (dval (r.take j) : Nat)], rfl, rfl, rfl, rfl, by omega, by omega, by rw [hlv, ← hj7], hs.wk⟩
          · skip
            refine WL_gn (g := 24) rfl (by decide) rfl ?_
            refine WL_gn (g := 24) rfl (by decide) rfl ?_
            refine WL_gn (g := 24) rfl (by decide) rfl ?_
            first | refine pkT rfl rfl ?_ | refine pkF rfl rfl ?_
            refine WL_nil ?_
            refine hK14 _ _ ?_
            refine CW_condT rfl rfl ?_
            refine CW_seq (fun K33 hK33 => ?_)
            refine CW_region ?_
            refine mvp (.int _ _) rfl ?_
            refine asp (.slice _ _ _) rfl ?_
            refine asp (.int _ _) rfl ?_
            refine asp (.int _ _) rfl ?_
            refine WL_nil ?_
            refine hK33 _ _ ?_
            refine CW_ret ?_
            repeat (first | (with_reducible apply thenF_ret) | (with_reducible apply blockF_ret))
            try simp only [thenF, blockF, reduceIte]
            refine Post_r Tryz.results202 (.tmp rfl (.tmp rfl (.tmp rfl .nil))) ?_
            try simp only [ev_tmp, ev_const, upd_ap, Nat.reduceLT, Nat.reduceEqDiff, reduceIte]
            have hdig : isDig ch = false := by
              first
                | (have h1 : (ch.toNat : Int) < 48 := by simpa using hg24
                   unfold isDig; simp; omega)
                | (have h1 : (57 : Int) < ch.toNat := by simpa using hc29
                   unfold isDig; simp; omega)
            have hd0 : dlen r = 0 := by rw [hrc]; unfold dlen; rw [List.takeWhile_cons, if_neg (by rw [hdig]; simp)]; rfl
            rw [lvV_bad (by unfold perr; rw [if_neg (by rw [hrc]; simp), if_pos hd0]; decide)] at hlv
            exact ⟨⟨none, 0, 0, at_, 6, rfl, hlv.symm⟩, hs.fm⟩
theorem rValid_ok (s : ByteArray) (w0 : World) (hsz : s.size ≤ 4611686018427387904) : Ret Tryz.prog 187 #[.string s] w0 fun v w' => v = .bool (lvalid s.data.toList) ∧ Fm [] w0 w' := by
  have hs := St.init w0 []
  refine Ret_enter Tryz.func187 rfl Tryz.ntmps187 (by simp) ?_
  refine CW_seq (fun K1 hK1 => ?_)
  refine CW_region ?_
  refine asp (.bool _) rfl ?_
  refine WL_nil ?_
  refine hK1 _ _ ?_
  refine CW_seq (fun K2 hK2 => ?_)
  refine CW_region ?_
  refine mvp (.string _) rfl ?_
  refine cll (rLParse_ok s _ hsz) ?_
  rintro _ w ⟨⟨a, n, c, p, e, rfl, he⟩, hf⟩
  replace hs := hs.call hf
  refine mvp (.tuple _) rfl ?_
  refine ext rfl rfl ?_
  refine ext rfl rfl ?_
  refine ext rfl rfl ?_
  refine asp (.slice _ _ _) rfl ?_
  refine asp (.int _ _) rfl ?_
  refine asp (.int _ _) rfl ?_
  refine WL_nil ?_
  refine hK2 _ _ ?_
  refine CW_seq (fun K3 hK3 => ?_)
  refine CW_region ?_
  refine mvp (.int _ _) rfl ?_
  refine eqlW rfl rfl ?_
  refine asp (.bool _) rfl ?_
  refine WL_nil ?_
  refine hK3 _ _ ?_
  refine CW_ret ?_
  repeat (first | (with_reducible apply thenF_ret) | (with_reducible apply blockF_ret))
  try simp only [thenF, blockF, reduceIte]
  refine Post_r Tryz.results187 (.tmp rfl .nil) ?_
  try simp only [ev_tmp, ev_const, upd_ap, Nat.reduceLT, Nat.reduceEqDiff, reduceIte]
  exact ⟨by rw [he], hs.fm⟩
theorem rBirth_ok (b : Bir) (w0 : World) (hb : b.maker.size ≤ 4611686018427387904) : Ret Tryz.prog 163 #[.string b.maker, .int .i64 b.num] w0 fun v w' => v = .int .i64 (birCheck b) ∧ Fm [] w0 w' := by
  have hs := St.init w0 []
  refine Ret_enter Tryz.func163 rfl Tryz.ntmps163 (by simp) ?_
  refine CW_seq (fun K1 hK1 => ?_)
  refine CW_region ?_
  refine asp (.int _ _) rfl ?_
  refine WL_nil ?_
  refine hK1 _ _ ?_
  refine CW_seq (fun K2 hK2 => ?_)
  refine CW_seq (fun K3 hK3 => ?_)
  refine CW_region ?_
  refine mvp (.string _) rfl ?_
  refine cll (rValid_ok b.maker _ hb) ?_
  rintro _ w ⟨rfl, hf⟩
  replace hs := hs.call hf
  refine notW rfl ?_
  refine WL_nil ?_
  refine hK3 _ _ ?_
  refine CW_cond rfl (fun hc7 => ?_) (fun hc7 => ?_)
  · skip
    refine CW_seq (fun K4 hK4 => ?_)
    refine CW_region ?_
    refine asp (.int _ _) rfl ?_
    refine WL_nil ?_
    refine hK4 _ _ ?_
    refine CW_ret ?_
    repeat (first | (with_reducible apply thenF_ret) | (with_reducible apply blockF_ret))
    try simp only [thenF, blockF, reduceIte]
    refine Post_r Tryz.results163 (.tmp rfl .nil) ?_
    try simp only [ev_tmp, ev_const, upd_ap, Nat.reduceLT, Nat.reduceEqDiff, reduceIte]
    refine ⟨?_, hs.fm⟩
    unfold birCheck
    rw [if_neg (by simpa using hc7)]
  · skip
    refine CW_skip ?_
    refine hK2 _ _ ?_
    refine CW_seq (fun K5 hK5 => ?_)
    refine CW_seq (fun K6 hK6 => ?_)
    refine CW_region ?_
    refine mvp (.int _ _) rfl ?_
    refine lssW rfl rfl ?_
    refine mvp (.bool _) rfl ?_
    refine WL_g (g := 10) rfl (by decide) rfl (fun hg10 => ?_) (fun hg10 => ?_)
    · skip
      refine mvp (.int _ _) rfl ?_
      refine WL_gy (g := 10) rfl (by decide) rfl ?_
      refine gtrW rfl rfl ?_
      first | refine pkT rfl rfl ?_ | refine pkF rfl rfl ?_
      refine WL_nil ?_
      refine hK6 _ _ ?_
      refine CW_cond rfl (fun hc13 => ?_) (fun hc13 => ?_)
      · skip
        refine CW_seq (fun K7 hK7 => ?_)
        refine CW_region ?_
        refine asp (.int _ _) rfl ?_
        refine WL_nil ?_
        refine hK7 _ _ ?_
        refine CW_ret ?_
        repeat (first | (with_reducible apply thenF_ret) | (with_reducible apply blockF_ret))
        try simp only [thenF, blockF, reduceIte]
        refine Post_r Tryz.results163 (.tmp rfl .nil) ?_
        try simp only [ev_tmp, ev_const, upd_ap, Nat.reduceLT, Nat.reduceEqDiff, reduceIte]
        refine ⟨?_, hs.fm⟩
        unfold birCheck okNum
        rw [if_pos (by simpa using hc7), if_neg]
        first
          | (have h1 : b.num < 0 := by simpa using hg10
             simp; omega)
          | (have h1 : 1073741824 < b.num := by simpa using hc13
             simp; omega)
      · skip
        refine CW_skip ?_
        refine hK5 _ _ ?_
        refine CW_seq (fun K8 hK8 => ?_)
        refine CW_region ?_
        refine asp (.int _ _) rfl ?_
        refine WL_nil ?_
        refine hK8 _ _ ?_
        refine CW_ret ?_
        repeat (first | (with_reducible apply thenF_ret) | (with_reducible apply blockF_ret))
        try simp only [thenF, blockF, reduceIte]
        refine Post_r Tryz.results163 (.tmp rfl .nil) ?_
        try simp only [ev_tmp, ev_const, upd_ap, Nat.reduceLT, Nat.reduceEqDiff, reduceIte]
        refine ⟨?_, hs.fm⟩
        unfold birCheck okNum
        rw [if_pos (by simpa using hc7), if_pos]
        have h1 : ¬ b.num < 0 := by simpa using hg10
        have h2 : ¬ 1073741824 < b.num := by simpa using hc13
        simp; omega
    · skip
      refine WL_gn (g := 10) rfl (by decide) rfl ?_
      first | refine pkT rfl rfl ?_ | refine pkF rfl rfl ?_
      refine WL_nil ?_
      refine hK6 _ _ ?_
      refine CW_condT rfl rfl ?_
      refine CW_seq (fun K9 hK9 => ?_)
      refine CW_region ?_
      refine asp (.int _ _) rfl ?_
      refine WL_nil ?_
      refine hK9 _ _ ?_
      refine CW_ret ?_
      repeat (first | (with_reducible apply thenF_ret) | (with_reducible apply blockF_ret))
      try simp only [thenF, blockF, reduceIte]
      refine Post_r Tryz.results163 (.tmp rfl .nil) ?_
      try simp only [ev_tmp, ev_const, upd_ap, Nat.reduceLT, Nat.reduceEqDiff, reduceIte]
      refine ⟨?_, hs.fm⟩
      unfold birCheck okNum
      rw [if_pos (by simpa using hc7), if_neg]
      first
        | (have h1 : b.num < 0 := by simpa using hg10
           simp; omega)
        | (have h1 : 1073741824 < b.num := by simpa using hc13
           simp; omega)
theorem rCheck_ok (b : Bir) (w0 : World) (hb : b.maker.size ≤ 4611686018427387904) : Ret Tryz.prog 114 #[.agg (birV b).toArray] w0 fun v w' => v = .int .i64 (birCheck b) ∧ Fm [] w0 w' := by
  have hs := St.init w0 []
  refine Ret_enter Tryz.func114 rfl Tryz.ntmps114 (by simp) ?_
  refine CW_seq (fun K1 hK1 => ?_)
  refine CW_region ?_
  refine bx (.agg (birV b).toArray) (vl := birV b) hs rfl rfl ?_
  intro w g1 hs hg1 hf1
  replace hs : St w0 [] w [eB g1 true (Blk 80 [.string b.maker, .int .i64 b.num])] := hs
  refine asp (.int _ _) rfl ?_
  refine WL_nil ?_
  refine hK1 _ _ ?_
  refine CW_seq (fun K2 hK2 => ?_)
  refine CW_region ?_
  refine fad rfl ?_
  refine ld hs rfl rfl ?_
  refine fad rfl ?_
  refine ld hs rfl rfl ?_
  refine cll (rBirth_ok b _ hb) ?_
  rintro _ w ⟨rfl, hf⟩
  replace hs := hs.call hf
  refine asp (.int _ _) rfl ?_
  refine WL_nil ?_
  refine hK2 _ _ ?_
  refine CW_ret ?_
  repeat (first | (with_reducible apply thenF_ret) | (with_reducible apply blockF_ret))
  try simp only [thenF, blockF, reduceIte]
  refine Post_r Tryz.results114 (.tmp rfl .nil) ?_
  try simp only [ev_tmp, ev_const, upd_ap, Nat.reduceLT, Nat.reduceEqDiff, reduceIte]
  exact ⟨by trivial, hs.fm⟩
theorem rWord_ok (s : ByteArray) (w0 : World) (hsz : s.size ≤ 4611686018427387904) : Ret Tryz.prog 108 #[.string s] w0 fun v w' => v = .bool (oWord s.data.toList) ∧ Fm [] w0 w' := by
  have hs := St.init w0 []
  have ht : s.data.toList.length = s.size := by rw [Array.length_toList]; rfl
  obtain ⟨bs, hbs⟩ : ∃ bs, s.data.toList = bs := ⟨_, rfl⟩
  rw [hbs] at ht ⊢
  have hbt : ∀ {i : Nat} (h : i < bs.length), bt s (i : Int) = (bs[i].toNat : Int) := fun {i} h => by
    subst hbs; exact bt_at h
  refine Ret_enter Tryz.func108 rfl Tryz.ntmps108 (by simp) ?_
  refine CW_seq (fun K1 hK1 => ?_)
  refine CW_region ?_
  refine asp (.bool _) rfl ?_
  refine WL_nil ?_
  refine hK1 _ _ ?_
  refine CW_seq (fun K2 hK2 => ?_)
  refine CW_seq (fun K3 hK3 => ?_)
  refine CW_region ?_
  refine asp (.int _ _) rfl ?_
  refine WL_nil ?_
  refine hK3 _ _ ?_
  refine CW_block ?_
  refine CW_loop (fun m f w' => ∃ i : Nat, m = s.size - i ∧ i ≤ s.size ∧ f 0 = .string s ∧ f 3 = .int .i64 i ∧ (∀ c ∈ bs.take i, 32 < c.toNat ∧ c.toNat ≤ 126 ∧ c.toNat ≠ 47) ∧ St w0 [] w' []) s.size ?_ ?_
  · exact ⟨0, by omega, by omega, rfl, rfl, by simp, hs⟩
  · rintro m f w1 ⟨i, rfl, hi, e0, e3, hall, hs⟩
    refine CW_kn (i := 0) e0 (CW_kn (i := 3) e3 ?_)
    refine CW_seq (fun K4 hK4 => ?_)
    refine CW_seq (fun K5 hK5 => ?_)
    refine CW_region ?_
    refine mvp (.int _ _) rfl ?_
    refine mvp (.string _) rfl ?_
    refine lenS rfl ?_
    refine lssW rfl rfl ?_
    refine WL_nil ?_
    refine hK5 _ _ ?_
    refine CW_cond rfl (fun hc7 => ?_) (fun hc7 => ?_)
    · skip
      have hi2 : i < bs.length := by simp at hc7; omega
      have hb0 := hbt hi2
      refine CW_skip ?_
      refine hK4 _ _ ?_
      refine CW_seq (fun K6 hK6 => ?_)
      refine CW_block ?_
      refine CW_seq (fun K7 hK7 => ?_)
      refine CW_region ?_
      refine mvp (.string _) rfl ?_
      refine mvp (.int _ _) rfl ?_
      refine ixS rfl rfl (by omega) ?_
      rw [hb0]
      refine lssW rfl rfl ?_
      refine mvp (.bool _) rfl ?_
      refine WL_g (g := 14) rfl (by decide) rfl (fun hg14 => ?_) (fun hg14 => ?_)
      · skip
        refine mvp (.string _) rfl ?_
        refine WL_gy (g := 14) rfl (by decide) rfl ?_
        refine mvp (.int _ _) rfl ?_
        refine WL_gy (g := 14) rfl (by decide) rfl ?_
        refine ixS rfl rfl (by omega) ?_
        rw [hb0]
        refine WL_gy (g := 14) rfl (by decide) rfl ?_
        refine gtrW rfl rfl ?_
        first | refine pkT rfl rfl ?_ | refine pkF rfl rfl ?_
        refine mvp (.bool _) rfl ?_
        refine WL_g (g := 20) rfl (by decide) rfl (fun hg20 => ?_) (fun hg20 => ?_)
        · skip
          refine mvp (.string _) rfl ?_
          refine WL_gy (g := 20) rfl (by decide) rfl ?_
          refine mvp (.int _ _) rfl ?_
          refine WL_gy (g := 20) rfl (by decide) rfl ?_
          refine ixS rfl rfl (by omega) ?_
          rw [hb0]
          refine WL_gy (g := 20) rfl (by decide) rfl ?_
          refine eqlW rfl rfl ?_
          first | refine pkT rfl rfl ?_ | refine pkF rfl rfl ?_
          refine WL_nil ?_
          refine hK7 _ _ ?_
          refine CW_cond rfl (fun hc25 => ?_) (fun hc25 => ?_)
          · skip
            refine CW_seq (fun K8 hK8 => ?_)
            refine CW_region ?_
            refine asp (.bool _) rfl ?_
            refine WL_nil ?_
            refine hK8 _ _ ?_
            refine CW_ret ?_
            repeat (first | (with_reducible apply thenF_ret) | (with_reducible apply blockF_ret))
            try simp only [thenF, blockF, reduceIte]
            refine Post_r Tryz.results108 (.tmp rfl .nil) ?_
            try simp only [ev_tmp, ev_const, upd_ap, Nat.reduceLT, Nat.reduceEqDiff, reduceIte]
            refine ⟨?_, hs.fm⟩
            have hw : oWord bs = false := by
              unfold oWord
              rw [Bool.and_eq_false_iff]; right
              rw [List.all_eq_false]
              refine ⟨bs[i], List.getElem_mem hi2, ?_⟩
              first
                | (have h1 : (bs[i].toNat : Int) < 33 := by simpa using hg14
                   simp; omega)
                | (have h1 : (126 : Int) < bs[i].toNat := by simpa using hg20
                   simp; omega)
                | (have h1 : (bs[i].toNat : Int) = 47 := by simpa using hc25
                   simp; omega)
            rw [hw]
          · skip
            refine CW_skip ?_
            refine hK6 _ _ ?_
            refine CW_region ?_
            refine mvp (.int _ _) rfl ?_
            first | refine addI rfl rfl (by omega) ?_ | refine addW rfl rfl ?_
            refine asp (.int _ _) rfl ?_
            refine WL_nil ?_
            skip
            refine ⟨s.size - (i + 1), by omega, i + 1, rfl, by omega, rfl, rfl, ?_, hs⟩
            intro c hc
            rw [List.take_add_one, List.getElem?_eq_getElem hi2, List.mem_append] at hc
            rcases hc with hc | hc
            · exact hall c hc
            · simp only [Option.toList_some, List.mem_singleton] at hc
              subst hc
              have h1 : ¬ (bs[i].toNat : Int) < 33 := by simpa using hg14
              have h2 : ¬ (126 : Int) < bs[i].toNat := by simpa using hg20
              have h3 : ¬ (bs[i].toNat : Int) = 47 := by simpa using hc25
              omega
        · skip
          refine WL_gn (g := 20) rfl (by decide) rfl ?_
          refine WL_gn (g := 20) rfl (by decide) rfl ?_
          refine WL_gn (g := 20) rfl (by decide) rfl ?_
          first | refine pkT rfl rfl ?_ | refine pkF rfl rfl ?_
          refine WL_nil ?_
          refine hK7 _ _ ?_
          refine CW_condT rfl rfl ?_
          refine CW_seq (fun K9 hK9 => ?_)
          refine CW_region ?_
          refine asp (.bool _) rfl ?_
          refine WL_nil ?_
          refine hK9 _ _ ?_
          refine CW_ret ?_
          repeat (first | (with_reducible apply thenF_ret) | (with_reducible apply blockF_ret))
          try simp only [thenF, blockF, reduceIte]
          refine Post_r Tryz.results108 (.tmp rfl .nil) ?_
          try simp only [ev_tmp, ev_const, upd_ap, Nat.reduceLT, Nat.reduceEqDiff, reduceIte]
          refine ⟨?_, hs.fm⟩
          have hw : oWord bs = false := by
            unfold oWord
            rw [Bool.and_eq_false_iff]; right
            rw [List.all_eq_false]
            refine ⟨bs[i], List.getElem_mem hi2, ?_⟩
            first
              | (have h1 : (bs[i].toNat : Int) < 33 := by simpa using hg14
                 simp; omega)
              | (have h1 : (126 : Int) < bs[i].toNat := by simpa using hg20
                 simp; omega)
              | (have h1 : (bs[i].toNat : Int) = 47 := by simpa using hc25
                 simp; omega)
          rw [hw]
      · skip
        refine WL_gn (g := 14) rfl (by decide) rfl ?_
        refine WL_gn (g := 14) rfl (by decide) rfl ?_
        refine WL_gn (g := 14) rfl (by decide) rfl ?_
        first | refine pkT rfl rfl ?_ | refine pkF rfl rfl ?_
        refine mvp (.bool _) rfl ?_
        refine WL_gn (g := 20) rfl (by decide) rfl ?_
        refine WL_gn (g := 20) rfl (by decide) rfl ?_
        refine WL_gn (g := 20) rfl (by decide) rfl ?_
        refine WL_gn (g := 20) rfl (by decide) rfl ?_
        first | refine pkT rfl rfl ?_ | refine pkF rfl rfl ?_
        refine WL_nil ?_
        refine hK7 _ _ ?_
        refine CW_condT rfl rfl ?_
        refine CW_seq (fun K10 hK10 => ?_)
        refine CW_region ?_
        refine asp (.bool _) rfl ?_
        refine WL_nil ?_
        refine hK10 _ _ ?_
        refine CW_ret ?_
        repeat (first | (with_reducible apply thenF_ret) | (with_reducible apply blockF_ret))
        try simp only [thenF, blockF, reduceIte]
        refine Post_r Tryz.results108 (.tmp rfl .nil) ?_
        try simp only [ev_tmp, ev_const, upd_ap, Nat.reduceLT, Nat.reduceEqDiff, reduceIte]
        refine ⟨?_, hs.fm⟩
        have hw : oWord bs = false := by
          unfold oWord
          rw [Bool.and_eq_false_iff]; right
          rw [List.all_eq_false]
          refine ⟨bs[i], List.getElem_mem hi2, ?_⟩
          first
            | (have h1 : (bs[i].toNat : Int) < 33 := by simpa using hg14
               simp; omega)
            | (have h1 : (126 : Int) < bs[i].toNat := by simpa using hg20
               simp; omega)
            | (have h1 : (bs[i].toNat : Int) = 47 := by simpa using hc25
               simp; omega)
        rw [hw]
    · skip
      have hi2 : i = s.size := by simp at hc7; omega
      have hall2 : (bs.all fun c => decide (32 < c.toNat) && decide (c.toNat ≤ 126) && decide (c.toNat ≠ 47)) = true := by
        rw [hi2, List.take_of_length_le (by omega)] at hall
        rw [List.all_eq_true]
        intro c hc
        have := hall c hc
        simp; omega
      have hnil : (bs = []) ↔ s.size = 0 := by rw [← ht]; exact List.length_eq_zero_iff.symm
      have hw : oWord bs = (decide (1 ≤ s.size) && decide (s.size ≤ 32)) := by
        unfold oWord
        rw [hall2, Bool.and_true, ht]
        congr 1
        rw [decide_eq_decide, ne_eq, hnil]; omega
      refine CW_exit ?_
      refine hK2 _ _ ?_
      refine CW_seq (fun K11 hK11 => ?_)
      refine CW_region ?_
      refine mvp (.string _) rfl ?_
      refine lenS rfl ?_
      refine geqW rfl rfl ?_
      refine mvp (.bool _) rfl ?_
      refine WL_g (g := 29) rfl (by decide) rfl (fun hg29 => ?_) (fun hg29 => ?_)
      · skip
        refine mvp (.string _) rfl ?_
        refine WL_gy (g := 29) rfl (by decide) rfl ?_
        refine lenS rfl ?_
        refine WL_gy (g := 29) rfl (by decide) rfl ?_
        refine leqW rfl rfl ?_
        first | refine pkT rfl rfl ?_ | refine pkF rfl rfl ?_
        refine asp (.bool _) rfl ?_
        refine WL_nil ?_
        refine hK11 _ _ ?_
        refine CW_ret ?_
        repeat (first | (with_reducible apply thenF_ret) | (with_reducible apply blockF_ret))
        try simp only [thenF, blockF, reduceIte]
        refine Post_r Tryz.results108 (.tmp rfl .nil) ?_
        try simp only [ev_tmp, ev_const, upd_ap, Nat.reduceLT, Nat.reduceEqDiff, reduceIte]
        refine ⟨?_, hs.fm⟩
        rw [hw]
        first
          | (have h1 : ¬ (1 : Int) ≤ s.size := by simpa using hg29
             rw [decide_eq_false (show ¬ 1 ≤ s.size by omega)]; rfl)
          | (have h1 : (1 : Int) ≤ s.size := by simpa using hg29
             rw [decide_eq_true (show 1 ≤ s.size by omega), Bool.true_and]
             congr 1
             rw [decide_eq_decide]; omega)
      · skip
        refine WL_gn (g := 29) rfl (by decide) rfl ?_
        refine WL_gn (g := 29) rfl (by decide) rfl ?_
        first | refine pkT rfl rfl ?_ | refine pkF rfl rfl ?_
        refine asp (.bool _) rfl ?_
        refine WL_nil ?_
        refine hK11 _ _ ?_
        refine CW_ret ?_
        repeat (first | (with_reducible apply thenF_ret) | (with_reducible apply blockF_ret))
        try simp only [thenF, blockF, reduceIte]
        refine Post_r Tryz.results108 (.tmp rfl .nil) ?_
        try simp only [ev_tmp, ev_const, upd_ap, Nat.reduceLT, Nat.reduceEqDiff, reduceIte]
        refine ⟨?_, hs.fm⟩
        rw [hw]
        first
          | (have h1 : ¬ (1 : Int) ≤ s.size := by simpa using hg29
             rw [decide_eq_false (show ¬ 1 ≤ s.size by omega)]; rfl)
          | (have h1 : (1 : Int) ≤ s.size := by simpa using hg29
             rw [decide_eq_true (show 1 ≤ s.size by omega), Bool.true_and]
             congr 1
             rw [decide_eq_decide]; omega)
theorem rName_ok (s : ByteArray) (w0 : World) (hsz : s.size ≤ 4611686018427387904) : Ret Tryz.prog 41 #[.string s] w0 fun v w' => v = .bool (decide (ckN s = 0)) ∧ Fm [] w0 w' := by
  have hs := St.init w0 []
  have h1 : (s = ⟨#[46]⟩) ↔ s.data.toList = [46] := ⟨fun h => by rw [h], fun h => ba_eq h⟩
  have h2 : (s = ⟨#[46, 46]⟩) ↔ s.data.toList = [46, 46] := ⟨fun h => by rw [h], fun h => ba_eq h⟩
  have hk : decide (ckN s = 0) = (oWord s.data.toList && (decide (s.data.toList ≠ [46]) && decide (s.data.toList ≠ [46, 46]))) := by
    unfold ckN
    simp only [h1, h2]
    by_cases q1 : oWord s.data.toList = true <;> by_cases q2 : s.data.toList = [46] <;> by_cases q3 : s.data.toList = [46, 46] <;> simp_all
  refine Ret_enter Tryz.func41 rfl Tryz.ntmps41 (by simp) ?_
  refine CW_seq (fun K1 hK1 => ?_)
  refine CW_region ?_
  refine asp (.bool _) rfl ?_
  refine WL_nil ?_
  refine hK1 _ _ ?_
  refine CW_seq (fun K2 hK2 => ?_)
  refine CW_region ?_
  refine mvp (.string _) rfl ?_
  refine cll (rWord_ok s _ hsz) ?_
  rintro _ w ⟨rfl, hf⟩
  replace hs := hs.call hf
  refine mvp (.bool _) rfl ?_
  refine WL_g (g := 5) rfl (by decide) rfl (fun hg5 => ?_) (fun hg5 => ?_)
  · skip
    refine mvp (.string _) rfl ?_
    refine WL_gy (g := 5) rfl (by decide) rfl ?_
    refine neS rfl rfl ?_
    first | refine pkT rfl rfl ?_ | refine pkF rfl rfl ?_
    refine mvp (.bool _) rfl ?_
    refine WL_g (g := 9) rfl (by decide) rfl (fun hg9 => ?_) (fun hg9 => ?_)
    · skip
      refine mvp (.string _) rfl ?_
      refine WL_gy (g := 9) rfl (by decide) rfl ?_
      refine neS rfl rfl ?_
      first | refine pkT rfl rfl ?_ | refine pkF rfl rfl ?_
      refine asp (.bool _) rfl ?_
      refine WL_nil ?_
      refine hK2 _ _ ?_
      refine CW_ret ?_
      repeat (first | (with_reducible apply thenF_ret) | (with_reducible apply blockF_ret))
      try simp only [thenF, blockF, reduceIte]
      refine Post_r Tryz.results41 (.tmp rfl .nil) ?_
      try simp only [ev_tmp, ev_const, upd_ap, Nat.reduceLT, Nat.reduceEqDiff, reduceIte]
      refine ⟨?_, hs.fm⟩
      rw [hk]
      clear hs h1 h2 hk
      simp_all
    · skip
      refine WL_gn (g := 9) rfl (by decide) rfl ?_
      first | refine pkT rfl rfl ?_ | refine pkF rfl rfl ?_
      refine asp (.bool _) rfl ?_
      refine WL_nil ?_
      refine hK2 _ _ ?_
      refine CW_ret ?_
      repeat (first | (with_reducible apply thenF_ret) | (with_reducible apply blockF_ret))
      try simp only [thenF, blockF, reduceIte]
      refine Post_r Tryz.results41 (.tmp rfl .nil) ?_
      try simp only [ev_tmp, ev_const, upd_ap, Nat.reduceLT, Nat.reduceEqDiff, reduceIte]
      refine ⟨?_, hs.fm⟩
      rw [hk]
      clear hs h1 h2 hk
      simp_all
  · skip
    refine WL_gn (g := 5) rfl (by decide) rfl ?_
    first | refine pkT rfl rfl ?_ | refine pkF rfl rfl ?_
    refine mvp (.bool _) rfl ?_
    refine WL_gn (g := 9) rfl (by decide) rfl ?_
    refine WL_gn (g := 9) rfl (by decide) rfl ?_
    first | refine pkT rfl rfl ?_ | refine pkF rfl rfl ?_
    refine asp (.bool _) rfl ?_
    refine WL_nil ?_
    refine hK2 _ _ ?_
    refine CW_ret ?_
    repeat (first | (with_reducible apply thenF_ret) | (with_reducible apply blockF_ret))
    try simp only [thenF, blockF, reduceIte]
    refine Post_r Tryz.results41 (.tmp rfl .nil) ?_
    try simp only [ev_tmp, ev_const, upd_ap, Nat.reduceLT, Nat.reduceEqDiff, reduceIte]
    refine ⟨?_, hs.fm⟩
    rw [hk]
    clear hs h1 h2 hk
    simp_all
end Go.Proofs.YtkbldndbofbkcaaGreatDoor
/- The reference's values of entries; births from and to the reference. -/
namespace Go.Proofs.YtkbldndbofbkcaaGreatDoor
open Go Go.RowKit
attribute [local irreducible] WL CW DW Ret RW
theorem tk_vnat (u : Nat) (rest : List UInt8) (h : u < 2 ^ 63) : tk (vnat u ++ rest) = ((u : Int), rest) := by
  unfold tk
  rw [ppg_vnat u rest h, if_neg (by simp)]
  simp
theorem pie_enc (t rest : List UInt8) (h : t.length < 2 ^ 63) : pie (encT t ++ rest) = (t, rest) := by
  unfold pie encT
  rw [List.append_assoc, tk_vnat _ _ h, if_neg (by simp; omega)]
  simp
def drB (bs : List UInt8) : Bir × Int :=
  if birCheck ⟨str (pie bs).1, (tk (pie bs).2).1⟩ = 0 ∧ birEnc ⟨str (pie bs).1, (tk (pie bs).2).1⟩ = bs ∧ (tk (pie bs).2).2 = [] then (⟨str (pie bs).1, (tk (pie bs).2).1⟩, 0) else (⟨⟨#[]⟩, 0⟩, 3)
theorem drB_dbR (bs : List UInt8) : drB bs = dbR bs := by
  unfold drB dbR
  cases hd : birDec bs with
  | some b =>
    obtain ⟨h1, h2⟩ := birDec_iff.1 hd
    obtain ⟨h3, h4, h5⟩ := birCheck_0 h1
    have h6 := lvalid_short h3
    have e1 : pie bs = (b.maker.data.toList, vnat b.num.toNat) := by
      rw [h2]; unfold birEnc
      exact pie_enc _ _ (by omega)
    have e2 : tk (vnat b.num.toNat) = (((b.num.toNat : Nat) : Int), []) := by
      have := tk_vnat b.num.toNat [] (by omega)
      simpa using this
    have e3 : ((b.num.toNat : Nat) : Int) = b.num := by omega
    rw [e1]
    simp only [e2, e3]
    have e4 : (⟨str b.maker.data.toList, b.num⟩ : Bir) = b := rfl
    rw [e4, if_pos ⟨h1, h2.symm, trivial⟩]
  | none =>
    rw [if_neg]
    rintro ⟨h1, h2, _⟩
    have := birDec_iff.2 ⟨h1, h2.symm⟩
    rw [hd] at this; cases this
theorem rEncBirth_ok (b : Bir) (w0 : World) (hb : b.maker.size ≤ 4611686018427387904) :
    Ret Tryz.prog 49 #[.agg (birV b).toArray] w0 fun v w' => v = .tuple #[.string (if birCheck b = 0 then str (birEnc b) else ⟨#[]⟩), .int .i64 (birCheck b)] ∧ Fm [] w0 w' := by
  have hs := St.init w0 []
  refine Ret_enter Tryz.func49 rfl Tryz.ntmps49 (by simp) ?_
  refine CW_seq (fun K1 hK1 => ?_)
  refine CW_region ?_
  refine bx (.agg (birV b).toArray) (vl := birV b) hs rfl rfl ?_
  intro w g1 hs hg1 hf1
  refine asp (.string _) rfl ?_
  refine asp (.int _ _) rfl ?_
  refine WL_nil ?_
  refine hK1 _ _ ?_
  refine CW_seq (fun K2 hK2 => ?_)
  refine CW_seq (fun K3 hK3 => ?_)
  refine CW_region ?_
  refine ldA hs rfl (by simp) ?_
  refine cll (rCheck_ok b _ hb) ?_
  rintro _ w ⟨rfl, hf⟩
  replace hs := hs.call hf
  refine asp (.int _ _) rfl ?_
  refine WL_nil ?_
  refine hK3 _ _ ?_
  refine CW_seq (fun K4 hK4 => ?_)
  refine CW_region ?_
  refine mvp (.int _ _) rfl ?_
  refine neqW rfl rfl ?_
  refine WL_nil ?_
  refine hK4 _ _ ?_
  refine CW_cond rfl (fun hc8 => ?_) (fun hc8 => ?_)
  · skip
    refine CW_seq (fun K5 hK5 => ?_)
    refine CW_region ?_
    refine mvp (.int _ _) rfl ?_
    refine asp (.string _) rfl ?_
    refine asp (.int _ _) rfl ?_
    refine WL_nil ?_
    refine hK5 _ _ ?_
    refine CW_ret ?_
    repeat (first | (with_reducible apply thenF_ret) | (with_reducible apply blockF_ret))
    try simp only [thenF, blockF, reduceIte]
    refine Post_r Tryz.results49 (.tmp rfl (.tmp rfl .nil)) ?_
    try simp only [ev_tmp, ev_const, upd_ap, Nat.reduceLT, Nat.reduceEqDiff, reduceIte]
    have h11 : birCheck b ≠ 0 := by simpa using hc8
    rw [if_neg h11]
    exact ⟨by trivial, hs.fm⟩
  · skip
    have h11 : birCheck b = 0 := by simpa using hc8
    obtain ⟨h12, h13, h14⟩ := birCheck_0 h11
    have h15 := lvalid_short h12
    have hsl : b.maker.data.toList.length = b.maker.size := by rw [Array.length_toList]; rfl
    obtain ⟨u, hu⟩ : ∃ u : Nat, b.num = u := ⟨b.num.toNat, by omega⟩
    unfold birV at hs
    rw [hu] at hs
    refine CW_skip ?_
    refine hK2 _ _ ?_
    refine CW_seq (fun K6 hK6 => ?_)
    refine DW_sH hs 999 ?_
    intro w hs _
    refine DW_q hs 0 rfl (by kernel_rfl) (fun w' hw' => X_fieldAddr rfl rfl) ?_
    refine DW_q hs 1 rfl (by kernel_rfl) (fun w' hw' => X_ldH hw' rfl rfl) ?_
    refine DW_q hs 3 rfl (by kernel_rfl) (fun w' hw' => X_fieldAddr rfl rfl) ?_
    refine DW_q hs 4 rfl (by kernel_rfl) (fun w' hw' => X_ldH hw' rfl rfl) ?_
    refine DW_q hs 5 rfl (by kernel_rfl) (fun w' hw' => X_cvk rfl (u64_wrap _ (by omega) (by omega))) ?_
    refine DW_l 2 rfl (by kernel_rfl) ?_
    refine cll (rText_ok b.maker _ (by omega)) ?_
    rintro _ w ⟨⟨a12, n12, c12, rfl, hn12, hnew⟩, hf⟩
    replace hs := hs.callR hf hnew
    have hn12b : n12 ≤ 84 := by
      have := vnat_le b.maker.data.toList.length
      rw [hn12]; unfold encT; rw [List.length_append]; omega
    refine WL_nil ?_
    refine ⟨.inr hs.hold, ?_⟩
    refine DW_l 6 rfl (by kernel_rfl) ?_
    refine cll (rNatural_ok u _ (by omega)) ?_
    rintro v w ⟨hnew, hf⟩
    obtain ⟨a16, c16, rfl⟩ := ownsRow_form hnew
    replace hs := hs.callR hf hnew
    have hv10 := vnat_le u
    have hvp := vnat_pos u
    refine WL_nil ?_
    refine ⟨.inr hs.hold, ?_⟩
    refine DW_l 7 rfl (by kernel_rfl) ?_
    refine W_append hs rfl rfl (hs.rd (a := a16)) (fun h _ => by have h2 := bv_length (vnat u); rw [h] at h2; simp at h2; omega) (bv_oneCell _) (by decide) (by rfl) (by omega) (by omega) ?_
    intro a2 c2 w hs _
    rw [← bv_append] at hs
    refine WL_nil ?_
    refine ⟨.inr hs.hold, ?_⟩
    refine DW_l 8 rfl (by kernel_rfl) ?_
    refine WL_v (X_cvStr rfl (hs.rd (a := a2)) (by rw [List.length_append, hn12])) ?_
    refine WL_nil ?_
    refine ⟨.inr hs.hold, ?_⟩
    refine DW_q hs 9 rfl (by kernel_rfl) (fun w' hw' => X_assign (v := (.string _)) rfl) ?_
    refine DW_q hs 10 rfl (by kernel_rfl) (fun w' hw' => X_assign (v := (.int _ _)) rfl) ?_
    refine DW_e (by kernel_rfl) ?_
    refine hK6 _ _ ?_
    refine CW_ret ?_
    repeat (first | (with_reducible apply thenF_ret) | (with_reducible apply blockF_ret))
    try simp only [thenF, blockF, reduceIte]
    refine Post_r Tryz.results49 (.tmp rfl (.tmp rfl .nil)) ?_
    try simp only [ev_tmp, ev_const, upd_ap, Nat.reduceLT, Nat.reduceEqDiff, reduceIte]
    rw [if_pos h11, h11]
    have e : birEnc b = encT b.maker.data.toList ++ vnat u := by unfold birEnc; rw [hu]; rfl
    rw [e]
    exact ⟨by trivial, hs.fm⟩
theorem rDecBirth_ok (s : ByteArray) (w0 : World) (hsz : s.size ≤ 140737488355328) :
    Ret Tryz.prog 51 #[.string s] w0 fun v w' => v = .tuple #[.agg (birV (dbR s.data.toList).1).toArray, .int .i64 (dbR s.data.toList).2] ∧ Fm [] w0 w' := by
  have hs := St.init w0 []
  have ht : s.data.toList.length = s.size := by rw [Array.length_toList]; rfl
  rw [← drB_dbR]
  obtain ⟨bs, hbs⟩ : ∃ bs, s.data.toList = bs := ⟨_, rfl⟩
  obtain ⟨p, hp⟩ : ∃ p, pie bs = p := ⟨_, rfl⟩
  obtain ⟨q, hq⟩ : ∃ q, tk p.2 = q := ⟨_, rfl⟩
  obtain ⟨B, hB⟩ : ∃ B : Bir, B = ⟨str p.1, q.1⟩ := ⟨_, rfl⟩
  have hdr : drB bs = if birCheck B = 0 ∧ birEnc B = bs ∧ q.2 = [] then (B, 0) else (⟨⟨#[]⟩, 0⟩, 3) := by
    unfold drB; rw [hp, hq, hB]
  have htk : ∀ l : List UInt8, (tk l).2.length ≤ l.length := fun l => by
    unfold tk; split
    · simp
    · simp
  have hpl : p.1.length ≤ s.size ∧ p.2.length ≤ s.size := by
    have := htk bs
    rw [← hp]; unfold pie
    rw [hbs] at ht
    split
    · simp
    · simp only [List.length_take, List.length_drop]; omega
  rw [hbs]
  have hBs : B.maker.size ≤ 4611686018427387904 := by
    rw [hB]; show (str p.1).size ≤ _; rw [str_size]; omega
  refine Ret_enter Tryz.func51 rfl Tryz.ntmps51 (by simp) ?_
  refine CW_seq (fun K1 hK1 => ?_)
  refine CW_region ?_
  refine alc hs ?_
  intro w g2 hs hg2 hf2
  refine asp (.int _ _) rfl ?_
  refine WL_nil ?_
  refine hK1 _ _ ?_
  refine CW_seq (fun K2 hK2 => ?_)
  refine CW_region ?_
  refine alc hs ?_
  intro w g4 hs hg4 hf4
  refine WL_nil ?_
  refine hK2 _ _ ?_
  refine CW_seq (fun K3 hK3 => ?_)
  refine CW_region ?_
  refine asp (.string _) rfl ?_
  refine WL_nil ?_
  refine hK3 _ _ ?_
  refine CW_seq (fun K4 hK4 => ?_)
  refine CW_region ?_
  refine mvp (.string _) rfl ?_
  refine cll (rpiece_ok s _ hsz) ?_
  rintro _ w ⟨rfl, hf⟩
  replace hs := hs.call hf
  rw [hbs, hp]
  refine mvp (.tuple _) rfl ?_
  refine ext rfl rfl ?_
  refine ext rfl rfl ?_
  refine fad rfl ?_
  refine sto (.string (str p.1)) hs rfl rfl rfl rfl (by simp) rfl ?_
  intro w hs _
  replace hs : St w0 [] w (eB g4 true (Blk 80 [.string (str p.1), .int .i64 0]) :: _) := hs
  refine asp (.string _) rfl ?_
  refine WL_nil ?_
  refine hK4 _ _ ?_
  refine CW_seq (fun K5 hK5 => ?_)
  refine CW_region ?_
  refine mvp (.string _) rfl ?_
  refine cll (rtake_ok (str p.2) _ (by rw [str_size]; omega)) ?_
  rintro _ w ⟨rfl, hf⟩
  replace hs := hs.call hf
  rw [data_str, hq]
  refine mvp (.tuple _) rfl ?_
  refine ext rfl rfl ?_
  refine ext rfl rfl ?_
  refine fad rfl ?_
  refine sto (.int .i64 q.1) hs rfl rfl rfl rfl (by simp) rfl ?_
  intro w hs _
  replace hs : St w0 [] w (eB g4 true (Blk 80 [.string (str p.1), .int .i64 q.1]) :: _) := hs
  have e4 : [Value.string (str p.1), .int .i64 q.1] = birV B := by rw [hB]; rfl
  rw [e4] at hs
  refine asp (.string _) rfl ?_
  refine WL_nil ?_
  refine hK5 _ _ ?_
  refine CW_seq (fun K6 hK6 => ?_)
  refine CW_seq (fun K7 hK7 => ?_)
  refine CW_region ?_
  refine ldA hs rfl (by simp) ?_
  refine cll (rEncBirth_ok B _ hBs) ?_
  rintro _ w ⟨rfl, hf⟩
  replace hs := hs.call hf
  obtain ⟨z, hz⟩ : ∃ z, (if birCheck B = 0 then str (birEnc B) else (⟨#[]⟩ : ByteArray)) = z := ⟨_, rfl⟩
  rw [hz]
  refine mvp (.tuple _) rfl ?_
  refine ext rfl rfl ?_
  refine ext rfl rfl ?_
  refine asp (.string _) rfl ?_
  refine asp (.int _ _) rfl ?_
  refine WL_nil ?_
  refine hK7 _ _ ?_
  refine CW_seq (fun K8 hK8 => ?_)
  refine CW_region ?_
  refine mvp (.int _ _) rfl ?_
  refine neqW rfl rfl ?_
  refine mvp (.bool _) rfl ?_
  refine WL_g (g := 27) rfl (by decide) rfl (fun hg27 => ?_) (fun hg27 => ?_)
  · skip
    refine mvp (.string _) rfl ?_
    refine WL_gy (g := 27) rfl (by decide) rfl ?_
    refine mvp (.string _) rfl ?_
    refine WL_gy (g := 27) rfl (by decide) rfl ?_
    refine neS rfl rfl ?_
    first | refine pkT rfl rfl ?_ | refine pkF rfl rfl ?_
    refine mvp (.bool _) rfl ?_
    refine WL_g (g := 32) rfl (by decide) rfl (fun hg32 => ?_) (fun hg32 => ?_)
    · skip
      refine mvp (.string _) rfl ?_
      refine WL_gy (g := 32) rfl (by decide) rfl ?_
      refine neS rfl rfl ?_
      first | refine pkT rfl rfl ?_ | refine pkF rfl rfl ?_
      refine WL_nil ?_
      refine hK8 _ _ ?_
      refine CW_cond rfl (fun hc35 => ?_) (fun hc35 => ?_)
      · skip
        refine CW_seq (fun K9 hK9 => ?_)
        refine CW_region ?_
        refine WL_v (v := .agg (birV ⟨⟨#[]⟩, 0⟩).toArray) (X_build rfl rfl) ?_
        refine sto (.agg (birV ⟨⟨#[]⟩, 0⟩).toArray) (vl := birV ⟨⟨#[]⟩, 0⟩) hs rfl rfl rfl rfl (by simp) rfl ?_
        intro w hs _
        replace hs : St w0 [] w (_ :: eB g2 true (Blk 80 (birV ⟨⟨#[]⟩, 0⟩)) :: _) := hs
        refine asp (.int _ _) rfl ?_
        refine WL_nil ?_
        refine hK9 _ _ ?_
        refine CW_ret ?_
        repeat (first | (with_reducible apply thenF_ret) | (with_reducible apply blockF_ret))
        try simp only [thenF, blockF, reduceIte]
        refine Post_r Tryz.results51 (.cell rfl (lvA hs (by simp)) (.tmp rfl .nil)) ?_
        try simp only [ev_tmp, ev_const, upd_ap, Nat.reduceLT, Nat.reduceEqDiff, reduceIte]
        have hd : drB bs = (⟨⟨#[]⟩, 0⟩, 3) := by
          rw [hdr, if_neg]
          rintro ⟨q1, q2, q3⟩
          rw [if_pos q1] at hz
          first
            | (have h25 : birCheck B ≠ 0 := by simpa using hg27
               exact h25 q1)
            | (have h30 : ¬ z.data.toList = s.data.toList := by simpa using hg32
               rw [← hz, data_str, hbs] at h30
               exact h30 q2)
            | (have h34 : ¬ (str q.2).data.toList = [] := by simpa using hc35
               rw [data_str] at h34
               exact h34 q3)
        rw [hd]
        exact ⟨by trivial, hs.fm⟩
      · skip
        refine CW_skip ?_
        refine hK6 _ _ ?_
        refine CW_seq (fun K10 hK10 => ?_)
        refine CW_region ?_
        refine ldA hs rfl (by simp) ?_
        refine sto (.agg (birV B).toArray) (vl := birV B) hs rfl rfl rfl rfl (by simp) rfl ?_
        intro w hs _
        replace hs : St w0 [] w (_ :: eB g2 true (Blk 80 (birV B)) :: _) := hs
        refine asp (.int _ _) rfl ?_
        refine WL_nil ?_
        refine hK10 _ _ ?_
        refine CW_ret ?_
        repeat (first | (with_reducible apply thenF_ret) | (with_reducible apply blockF_ret))
        try simp only [thenF, blockF, reduceIte]
        refine Post_r Tryz.results51 (.cell rfl (lvA hs (by simp)) (.tmp rfl .nil)) ?_
        try simp only [ev_tmp, ev_const, upd_ap, Nat.reduceLT, Nat.reduceEqDiff, reduceIte]
        have hd : drB bs = (B, 0) := by
          rw [hdr, if_pos]
          have q1 : birCheck B = 0 := by simpa using hg27
          rw [if_pos q1] at hz
          have h30 : z.data.toList = s.data.toList := by simpa using hg32
          have h34 : (str q.2).data.toList = [] := by simpa using hc35
          rw [← hz, data_str, hbs] at h30
          rw [data_str] at h34
          exact ⟨q1, h30, h34⟩
        rw [hd]
        exact ⟨by trivial, hs.fm⟩
    · skip
      refine WL_gn (g := 32) rfl (by decide) rfl ?_
      first | refine pkT rfl rfl ?_ | refine pkF rfl rfl ?_
      refine WL_nil ?_
      refine hK8 _ _ ?_
      refine CW_condT rfl rfl ?_
      refine CW_seq (fun K11 hK11 => ?_)
      refine CW_region ?_
      refine WL_v (v := .agg (birV ⟨⟨#[]⟩, 0⟩).toArray) (X_build rfl rfl) ?_
      refine sto (.agg (birV ⟨⟨#[]⟩, 0⟩).toArray) (vl := birV ⟨⟨#[]⟩, 0⟩) hs rfl rfl rfl rfl (by simp) rfl ?_
      intro w hs _
      replace hs : St w0 [] w (_ :: eB g2 true (Blk 80 (birV ⟨⟨#[]⟩, 0⟩)) :: _) := hs
      refine asp (.int _ _) rfl ?_
      refine WL_nil ?_
      refine hK11 _ _ ?_
      refine CW_ret ?_
      repeat (first | (with_reducible apply thenF_ret) | (with_reducible apply blockF_ret))
      try simp only [thenF, blockF, reduceIte]
      refine Post_r Tryz.results51 (.cell rfl (lvA hs (by simp)) (.tmp rfl .nil)) ?_
      try simp only [ev_tmp, ev_const, upd_ap, Nat.reduceLT, Nat.reduceEqDiff, reduceIte]
      have hd : drB bs = (⟨⟨#[]⟩, 0⟩, 3) := by
        rw [hdr, if_neg]
        rintro ⟨q1, q2, q3⟩
        rw [if_pos q1] at hz
        first
          | (have h25 : birCheck B ≠ 0 := by simpa using hg27
             exact h25 q1)
          | (have h30 : ¬ z.data.toList = s.data.toList := by simpa using hg32
             rw [← hz, data_str, hbs] at h30
             exact h30 q2)
          | (have h34 : ¬ (str q.2).data.toList = [] := by simpa using hc35
             rw [data_str] at h34
             exact h34 q3)
      rw [hd]
      exact ⟨by trivial, hs.fm⟩
  · skip
    refine WL_gn (g := 27) rfl (by decide) rfl ?_
    refine WL_gn (g := 27) rfl (by decide) rfl ?_
    first | refine pkT rfl rfl ?_ | refine pkF rfl rfl ?_
    refine mvp (.bool _) rfl ?_
    refine WL_gn (g := 32) rfl (by decide) rfl ?_
    refine WL_gn (g := 32) rfl (by decide) rfl ?_
    first | refine pkT rfl rfl ?_ | refine pkF rfl rfl ?_
    refine WL_nil ?_
    refine hK8 _ _ ?_
    refine CW_condT rfl rfl ?_
    refine CW_seq (fun K12 hK12 => ?_)
    refine CW_region ?_
    refine WL_v (v := .agg (birV ⟨⟨#[]⟩, 0⟩).toArray) (X_build rfl rfl) ?_
    refine sto (.agg (birV ⟨⟨#[]⟩, 0⟩).toArray) (vl := birV ⟨⟨#[]⟩, 0⟩) hs rfl rfl rfl rfl (by simp) rfl ?_
    intro w hs _
    replace hs : St w0 [] w (_ :: eB g2 true (Blk 80 (birV ⟨⟨#[]⟩, 0⟩)) :: _) := hs
    refine asp (.int _ _) rfl ?_
    refine WL_nil ?_
    refine hK12 _ _ ?_
    refine CW_ret ?_
    repeat (first | (with_reducible apply thenF_ret) | (with_reducible apply blockF_ret))
    try simp only [thenF, blockF, reduceIte]
    refine Post_r Tryz.results51 (.cell rfl (lvA hs (by simp)) (.tmp rfl .nil)) ?_
    try simp only [ev_tmp, ev_const, upd_ap, Nat.reduceLT, Nat.reduceEqDiff, reduceIte]
    have hd : drB bs = (⟨⟨#[]⟩, 0⟩, 3) := by
      rw [hdr, if_neg]
      rintro ⟨q1, q2, q3⟩
      rw [if_pos q1] at hz
      first
        | (have h25 : birCheck B ≠ 0 := by simpa using hg27
           exact h25 q1)
        | (have h30 : ¬ z.data.toList = s.data.toList := by simpa using hg32
           rw [← hz, data_str, hbs] at h30
           exact h30 q2)
        | (have h34 : ¬ (str q.2).data.toList = [] := by simpa using hc35
           rw [data_str] at h34
           exact h34 q3)
    rw [hd]
    exact ⟨by trivial, hs.fm⟩
/-! ### from and to the reference -/
def shB (b : Bir) : Bir := ⟨str (b.maker.data.toList.take 100), b.num⟩
theorem shB_id {b : Bir} (h : b.maker.size ≤ 100) : shB b = b := by
  unfold shB
  have : b.maker.data.toList.length = b.maker.size := by rw [Array.length_toList]; rfl
  rw [List.take_of_length_le (by omega)]; rfl
theorem shB_sz (b : Bir) : (shB b).maker.size ≤ 100 := by
  show (str _).size ≤ 100
  rw [str_size, List.length_take]; omega
theorem dTo_ok (b : Bir) (w0 : World) : Ret Tryz.prog 48 #[.agg (birV b).toArray] w0 fun v w' => v = .agg (birV (shB b)).toArray ∧ Fm [] w0 w' := by
  have hs := St.init w0 []
  have ht : b.maker.data.toList.length = b.maker.size := by rw [Array.length_toList]; rfl
  have hcut : str (b.maker.data.toList.take (if (100 : Int) < b.maker.size then (100 : Int) else (b.maker.size : Int)).toNat) = (shB b).maker := by
    unfold shB
    split
    · rfl
    · rw [Int.toNat_natCast, List.take_of_length_le (by omega), List.take_of_length_le (by omega)]
  refine Ret_enter Tryz.func48 rfl Tryz.ntmps48 (by simp) ?_
  refine CW_seq (fun K1 hK1 => ?_)
  refine CW_region ?_
  refine bx (.agg (birV b).toArray) (vl := birV b) hs rfl rfl ?_
  intro w g1 hs hg1 hf1
  replace hs : St w0 [] w [eB g1 true (Blk 80 [.string b.maker, .int .i64 b.num])] := hs
  refine alc hs ?_
  intro w g2 hs hg2 hf2
  refine WL_nil ?_
  refine hK1 _ _ ?_
  refine CW_seq (fun K2 hK2 => ?_)
  refine DW_sH hs 10 ?_
  intro w hs _
  refine DW_q hs 0 rfl (by kernel_rfl) (fun w' hw' => X_fieldAddr rfl rfl) ?_
  refine DW_q hs 1 rfl (by kernel_rfl) (fun w' hw' => X_ldH hw' rfl rfl) ?_
  refine DW_q hs 2 rfl (by kernel_rfl) (fun w' hw' => X_fieldAddr rfl rfl) ?_
  refine DW_q hs 3 rfl (by kernel_rfl) (fun w' hw' => X_ldH hw' rfl rfl) ?_
  refine DW_q hs 4 rfl (by kernel_rfl) (fun w' hw' => X_lenS rfl) ?_
  refine DW_q hs 5 rfl (by kernel_rfl) (fun w' hw' => X_min rfl rfl) ?_
  refine DW_q hs 6 rfl (by kernel_rfl) (fun w' hw' => X_sliceS_h rfl rfl (by split <;> omega) (by split <;> omega)) ?_
  refine DW_q hs 7 rfl (by kernel_rfl) (fun w' hw' => X_fieldAddr rfl rfl) ?_
  refine DW_q hs 8 rfl (by kernel_rfl) (fun w' hw' => X_ldH hw' rfl rfl) ?_
  refine DW_q hs 9 rfl (by kernel_rfl) (fun w' hw' => X_build rfl rfl) ?_
  refine DW_l 10 rfl (by kernel_rfl) ?_
  rw [hcut]
  refine sto (.agg (birV (shB b)).toArray) (vl := birV (shB b)) hs rfl rfl rfl rfl (by simp) rfl ?_
  intro w hs _
  replace hs : St w0 [] w (eB g2 true (Blk 44 (birV (shB b))) :: _) := hs
  refine WL_nil ?_
  refine ⟨.inl rfl, ?_⟩
  refine DW_e (by kernel_rfl) ?_
  refine hK2 _ _ ?_
  refine CW_ret ?_
  repeat (first | (with_reducible apply thenF_ret) | (with_reducible apply blockF_ret))
  try simp only [thenF, blockF, reduceIte]
  refine Post_r Tryz.results48 (.cell rfl (lvA hs (by simp)) .nil) ?_
  try simp only [ev_tmp, ev_const, upd_ap, Nat.reduceLT, Nat.reduceEqDiff, reduceIte]
  exact ⟨by trivial, hs.fm⟩
theorem dOf_ok (b : Bir) (w0 : World) : Ret Tryz.prog 52 #[.agg (birV b).toArray] w0 fun v w' => v = .agg (birV b).toArray ∧ Fm [] w0 w' := by
  have hs := St.init w0 []
  refine Ret_enter Tryz.func52 rfl Tryz.ntmps52 (by simp) ?_
  refine CW_seq (fun K1 hK1 => ?_)
  refine CW_region ?_
  refine bx (.agg (birV b).toArray) (vl := birV b) hs rfl rfl ?_
  intro w g1 hs hg1 hf1
  replace hs : St w0 [] w [eB g1 true (Blk 44 [.string b.maker, .int .i64 b.num])] := hs
  refine alc hs ?_
  intro w g2 hs hg2 hf2
  refine WL_nil ?_
  refine hK1 _ _ ?_
  refine CW_seq (fun K2 hK2 => ?_)
  refine CW_region ?_
  refine fad rfl ?_
  refine ld hs rfl rfl ?_
  refine fad rfl ?_
  refine ld hs rfl rfl ?_
  refine WL_v (v := .agg (birV b).toArray) (X_build rfl rfl) ?_
  refine sto (.agg (birV b).toArray) (vl := birV b) hs rfl rfl rfl rfl (by simp) rfl ?_
  intro w hs _
  replace hs : St w0 [] w (eB g2 true (Blk 80 (birV b)) :: _) := hs
  refine WL_nil ?_
  refine hK2 _ _ ?_
  refine CW_ret ?_
  repeat (first | (with_reducible apply thenF_ret) | (with_reducible apply blockF_ret))
  try simp only [thenF, blockF, reduceIte]
  refine Post_r Tryz.results52 (.cell rfl (lvA hs (by simp)) .nil) ?_
  try simp only [ev_tmp, ev_const, upd_ap, Nat.reduceLT, Nat.reduceEqDiff, reduceIte]
  exact ⟨by trivial, hs.fm⟩
theorem rb_stood : Tryz.prog.stoodInHeld 80 = false := by kernel_rfl
theorem rb_guard : Tryz.prog.eqGuardType Tryz.prog.depth 80 = false := by kernel_rfl
theorem equalIn_rb (n : Nat) (a b : Bir) (w : World) : (Op.equalIn (n + 2) 80 (.agg (birV a).toArray) (.agg (birV b).toArray)).run Tryz.prog w = .ok (a.maker == b.maker && a.num == b.num) w := by
  have hp : ∀ w, (program).run Tryz.prog w = .ok Tryz.prog w := fun _ => rfl
  rw [Op.equalIn]
  simp only [Sem.run_bind, run_underlying Tryz.underlying80, Result.andThen_ok, hp, rb_stood]
  have ek := fun x y w => eq_int Tryz.underlying3 n .i64 x y w
  have eo := fun x y w => eq_str Tryz.underlying9 n x y w
  simp only [Bool.false_eq_true, if_false]
  simp [birV, part, AgE.h, ek, eo]
  by_cases h1 : (a.maker == b.maker) = true <;> by_cases h2 : a.num = b.num <;> simp_all
theorem equal_rb (a b : Bir) (w : World) : (Op.equal 80 (.agg (birV a).toArray) (.agg (birV b).toArray)).run Tryz.prog w = .ok (decide (a = b)) w := by
  rw [← bir_eq]; exact equalIn_rb 9998 a b w
section
variable {N d : Nat} {f : Fr} {w : World} {T B : TypeId} {p : String} {aft : Array Edge} {x y : Operand} {a b : Bir}
theorem X_eqRb (hx : ev N f x = .agg (birV a).toArray) (hy : ev N f y = .agg (birV b).toArray) : Ex Tryz.prog N f w ⟨some d, .binOp .eql 80 x y B, T, p, aft, none⟩ (.bool (decide (a = b))) w := by
  have hp : ∀ w, (program).run Tryz.prog w = .ok Tryz.prog w := fun _ => rfl
  simp [Ex, execOp, hx, hy, eqGuard, binOp, equal_rb, hp, rb_guard]
theorem X_neRb (hx : ev N f x = .agg (birV a).toArray) (hy : ev N f y = .agg (birV b).toArray) : Ex Tryz.prog N f w ⟨some d, .binOp .neq 80 x y B, T, p, aft, none⟩ (.bool (decide (a ≠ b))) w := by
  have hp : ∀ w, (program).run Tryz.prog w = .ok Tryz.prog w := fun _ => rfl
  simp [Ex, execOp, hx, hy, eqGuard, binOp, equal_rb, hp, rb_guard]
end
end Go.Proofs.YtkbldndbofbkcaaGreatDoor
/- The reference's values of listings. -/
namespace Go.Proofs.YtkbldndbofbkcaaGreatDoor
open Go Go.RowKit
attribute [local irreducible] WL CW DW Ret RW
theorem bl_le (x y : List UInt8) : (Op.bytesLess x y || x == y) = !Op.bytesLess y x := by
  by_cases h : Op.bytesLess y x = true
  · rw [h]
    have h1 : Op.bytesLess x y = false := by
      by_cases q : Op.bytesLess x y = true
      · have := bl_tr _ _ _ h q; rw [bl_irr] at this; cases this
      · simpa using q
    have h2 : x ≠ y := fun q => by rw [q, bl_irr] at h; cases h
    rw [h1]; simpa using h2
  · replace h : Op.bytesLess y x = false := by simpa using h
    rw [h]
    by_cases q : x = y
    · simp [q]
    · rw [bl_tot _ _ h (fun e => q e.symm)]; rfl
theorem X_leSn {P : Program} {N d : Nat} {f : Fr} {w : World} {T A B : TypeId} {p : String} {aft : Array Edge} {x y : Operand} {s t : ByteArray} (hx : ev N f x = .string s) (hy : ev N f y = .string t) : Ex P N f w ⟨some d, .binOp .leq A x y B, T, p, aft, none⟩ (.bool (!bls t s)) w := by
  have h := X_leS (P := P) (w := w) (d := d) (T := T) (p := p) (aft := aft) (A := A) (B := B) hx hy
  rw [bl_le] at h
  exact h
theorem sub1 {i : Nat} (h : (0 : Int) < i) (h2 : i ≤ 4611686018427387904) : IntKind.i64.wrap ((i : Int) - 1) = ((i - 1 : Nat) : Int) := by
  rw [wrap_in (by omega) (by omega)]; omega
theorem ckN_12' {s : ByteArray} (h : ckN s ≠ 0) : ckN s = 12 := by unfold ckN at h ⊢; split <;> simp_all
theorem rEncNames_ok (l : List ByteArray) (a : Option Addr) (n c : Nat) (w0 : World) (hr : Rd w0 a n 1 (sv l)) (hn : n = l.length) (hl : n ≤ 4611686018427387904) (hz : ∀ x ∈ l, x.size ≤ 4611686018427387904) :
    Ret Tryz.prog 43 #[.slice a n c] w0 fun v w' => v = .tuple #[.string (if ckNs l = 0 then str (nsEnc l) else ⟨#[]⟩), .int .i64 (ckNs l)] ∧ Fm [] w0 w' := by
  have hs := St.initS1 hr
  have hvl := vnat_le n
  refine Ret_enter Tryz.func43 rfl Tryz.ntmps43 (by simp) ?_
  refine CW_seq (fun K1 hK1 => ?_)
  refine CW_region ?_
  refine asp (.string _) rfl ?_
  refine asp (.int _ _) rfl ?_
  refine WL_nil ?_
  refine hK1 _ _ ?_
  refine CW_seq (fun K2 hK2 => ?_)
  refine CW_seq (fun K3 hK3 => ?_)
  refine CW_region ?_
  refine mvp (.slice _ _ _) rfl ?_
  refine lenW rfl ?_
  refine gtrW rfl rfl ?_
  refine WL_nil ?_
  refine hK3 _ _ ?_
  refine CW_cond rfl (fun hc8 => ?_) (fun hc8 => ?_)
  · skip
    refine CW_seq (fun K4 hK4 => ?_)
    refine CW_region ?_
    refine asp (.string _) rfl ?_
    refine asp (.int _ _) rfl ?_
    refine WL_nil ?_
    refine hK4 _ _ ?_
    refine CW_ret ?_
    repeat (first | (with_reducible apply thenF_ret) | (with_reducible apply blockF_ret))
    try simp only [thenF, blockF, reduceIte]
    refine Post_r Tryz.results43 (.tmp rfl (.tmp rfl .nil)) ?_
    try simp only [ev_tmp, ev_const, upd_ap, Nat.reduceLT, Nat.reduceEqDiff, reduceIte]
    have h1 : ckNs l = 9 := by unfold ckNs; rw [if_pos (by simp at hc8; omega)]
    rw [h1]
    exact ⟨by trivial, hs.fm⟩
  · skip
    have h256 : ¬ 256 < l.length := by simp at hc8; omega
    have hck : ckNs l = ckAt l 0 := by unfold ckNs; rw [if_neg h256]
    refine CW_skip ?_
    refine hK2 _ _ ?_
    refine CW_seq (fun K5 hK5 => ?_)
    refine CW_region ?_
    refine mvp (.slice _ _ _) rfl ?_
    refine lenW rfl ?_
    refine WL_v (v := .int .u64 (n : Int)) (X_cvk rfl (u64_wrap _ (by omega) (by omega))) ?_
    refine cll (rNatural_ok n _ (by omega)) ?_
    rintro v w ⟨hnew, hf⟩
    obtain ⟨a0, c0, rfl⟩ := ownsRow_form hnew
    replace hs := hs.callR hf hnew
    refine asp (.slice _ _ _) rfl ?_
    refine WL_nil ?_
    refine hK5 _ _ ?_
    refine CW_seq (fun K6 hK6 => ?_)
    refine CW_seq (fun K7 hK7 => ?_)
    refine CW_region ?_
    refine asp (.int _ _) rfl ?_
    refine WL_nil ?_
    refine hK7 _ _ ?_
    refine CW_block ?_
    refine CW_loop (fun k f w' => ∃ (i m c' : Nat) (a' : Option Addr), k = n - i ∧ i ≤ n ∧ f 0 = .slice a n c ∧ f 4 = .slice a' m c' ∧ f 5 = .int .i64 i ∧ m = (nsK l i).length ∧ m ≤ 10 + 42 * i ∧ ckNs l = ckAt l i ∧ St w0 [] w' [eR (.slice a' m c') 5 1 m (bv (nsK l i)), eS [(a, n, sv l)]]) n ?_ ?_
    · refine ⟨0, (vnat n).length, c0, a0, by omega, by omega, rfl, rfl, rfl, by simp [nsK, hn], by omega, hck, ?_⟩
      rw [show nsK l 0 = vnat n by simp [nsK, hn]]
      exact hs
    · rintro k f w1 ⟨i, m, c', a', rfl, hi, e0, e4, e5, hm, hmb, hch, hs⟩
      refine CW_kn (i := 0) e0 (CW_kn (i := 4) e4 (CW_kn (i := 5) e5 ?_))
      refine CW_seq (fun K8 hK8 => ?_)
      refine CW_seq (fun K9 hK9 => ?_)
      refine CW_region ?_
      refine mvp (.int _ _) rfl ?_
      refine mvp (.slice _ _ _) rfl ?_
      refine lenW rfl ?_
      refine lssW rfl rfl ?_
      refine WL_nil ?_
      refine hK9 _ _ ?_
      refine CW_cond rfl (fun hc16 => ?_) (fun hc16 => ?_)
      · skip
        have hi2 : i < n := by simpa using hc16
        have hi3 : i < l.length := by omega
        obtain ⟨b, off, rfl, hcell⟩ := sv_at (hr.fm hs.fm) hi3
        refine CW_skip ?_
        refine hK8 _ _ ?_
        refine CW_seq (fun K10 hK10 => ?_)
        refine CW_block ?_
        refine CW_seq (fun K11 hK11 => ?_)
        refine CW_seq (fun K12 hK12 => ?_)
        refine CW_region ?_
        refine mvp (.slice _ _ _) rfl ?_
        refine mvp (.int _ _) rfl ?_
        refine iad rfl rfl (by omega) ?_
        refine ldc (v := .string l[i]) rfl (by simpa using hcell i hi3) ?_
        refine cll (rName_ok l[i] _ (hz _ (List.getElem_mem hi3))) ?_
        rintro _ w ⟨rfl, hf⟩
        replace hs := hs.call hf
        refine notW rfl ?_
        refine WL_nil ?_
        refine hK12 _ _ ?_
        refine CW_cond rfl (fun hc24 => ?_) (fun hc24 => ?_)
        · skip
          refine CW_seq (fun K13 hK13 => ?_)
          refine CW_region ?_
          refine asp (.string _) rfl ?_
          refine asp (.int _ _) rfl ?_
          refine WL_nil ?_
          refine hK13 _ _ ?_
          refine CW_ret ?_
          repeat (first | (with_reducible apply thenF_ret) | (with_reducible apply blockF_ret))
          try simp only [thenF, blockF, reduceIte]
          refine Post_r Tryz.results43 (.tmp rfl (.tmp rfl .nil)) ?_
          try simp only [ev_tmp, ev_const, upd_ap, Nat.reduceLT, Nat.reduceEqDiff, reduceIte]
          have h1 : ckN l[i] ≠ 0 := by simpa using hc24
          have h2 : ckNs l = 12 := by rw [hch, ckAt_step hi3, if_pos h1]; unfold ckN at h1 ⊢; split <;> simp_all
          rw [h2]
          exact ⟨by trivial, hs.fm⟩
        · skip
          have h24 : ckN l[i] = 0 := by simpa using hc24
          have h32 := ckN_short h24
          have hsl : l[i].data.toList.length = l[i].size := by rw [Array.length_toList]; rfl
          refine CW_skip ?_
          refine hK11 _ _ ?_
          refine CW_seq (fun K14 hK14 => ?_)
          refine CW_seq (fun K15 hK15 => ?_)
          refine DW_sH hs 999 ?_
          intro w hs _
          refine DW_q hs 0 rfl (by kernel_rfl) (fun w' hw' => X_move (v := (.int _ _)) rfl) ?_
          refine DW_q hs 1 rfl (by kernel_rfl) (fun w' hw' => X_gtr rfl rfl) ?_
          refine DW_q hs 2 rfl (by kernel_rfl) (fun w' hw' => X_move (v := (.bool _)) rfl) ?_
          refine DW_b (g := 27) (by decide) rfl (fun hg27 => ?_) (fun hg27 => ?_)
          · skip
            refine DW_qy hs 3 rfl (by kernel_rfl) rfl (by decide) rfl (fun w' hw' => X_move (v := (.slice _ _ _)) rfl) ?_
            refine DW_qy hs 4 rfl (by kernel_rfl) rfl (by decide) rfl (fun w' hw' => X_move (v := (.int _ _)) rfl) ?_
            refine DW_qy hs 5 rfl (by kernel_rfl) rfl (by decide) rfl (fun w' hw' => X_indexAddr rfl rfl (by omega) (by omega) rfl) ?_
            refine DW_qy hs 6 rfl (by kernel_rfl) rfl (by decide) rfl (fun w' hw' => X_ldS (xs := sv l) (j := i) (v := .string l[i]) hw' (.head _) (by simp [sv, hi3]) rfl) ?_
            refine DW_qy hs 7 rfl (by kernel_rfl) rfl (by decide) rfl (fun w' hw' => X_move (v := (.slice _ _ _)) rfl) ?_
            refine DW_qy hs 8 rfl (by kernel_rfl) rfl (by decide) rfl (fun w' hw' => X_move (v := (.int _ _)) rfl) ?_
            refine DW_qy hs 9 rfl (by kernel_rfl) rfl (by decide) rfl (fun w' hw' => X_subE (r := ((i - 1 : Nat) : Int)) rfl rfl (sub1 (by simpa using hg27) (by omega))) ?_
            refine DW_qy hs 10 rfl (by kernel_rfl) rfl (by decide) rfl (fun w' hw' => X_indexAddr rfl rfl (by omega) (by omega) rfl) ?_
            refine DW_qy hs 11 rfl (by kernel_rfl) rfl (by decide) rfl (fun w' hw' => X_ldS (xs := sv l) (j := i - 1) (v := .string (l[i - 1]'(by omega))) hw' (.head _) (by simp [sv, show i - 1 < l.length by omega]) rfl) ?_
            refine DW_qy hs 12 rfl (by kernel_rfl) rfl (by decide) rfl (fun w' hw' => X_leSn rfl rfl) ?_
            refine DW_q hs 13 rfl (by kernel_rfl) (fun w' hw' => X_pickT rfl rfl) ?_
            refine DW_e (by kernel_rfl) ?_
            refine hK15 _ _ ?_
            refine CW_cond rfl (fun hc38 => ?_) (fun hc38 => ?_)
            · skip
              refine CW_seq (fun K16 hK16 => ?_)
              refine CW_region ?_
              refine asp (.string _) rfl ?_
              refine asp (.int _ _) rfl ?_
              refine WL_nil ?_
              refine hK16 _ _ ?_
              refine CW_ret ?_
              repeat (first | (with_reducible apply thenF_ret) | (with_reducible apply blockF_ret))
              try simp only [thenF, blockF, reduceIte]
              refine Post_r Tryz.results43 (.tmp rfl (.tmp rfl .nil)) ?_
              try simp only [ev_tmp, ev_const, upd_ap, Nat.reduceLT, Nat.reduceEqDiff, reduceIte]
              have h38 : bls l[i - 1] l[i] = false := by simpa using hc38
              have h27 : (0 : Int) < i := by simpa using hg27
              have h2 : ckNs l = 32 := by rw [hch, ckAt_step hi3, if_neg (by rw [h24]; simp), if_pos ⟨by omega, by rw [getD_at (show i - 1 < l.length by omega)]; exact h38⟩]
              rw [h2]
              exact ⟨by trivial, hs.fm⟩
            · skip
              refine CW_skip ?_
              refine hK14 _ _ ?_
              refine CW_region ?_
              refine mvp (.slice _ _ _) rfl ?_
              refine mvp (.slice _ _ _) rfl ?_
              refine mvp (.int _ _) rfl ?_
              refine iad rfl rfl (by omega) ?_
              refine WL_v (X_ldS (xs := sv l) (j := i) (v := .string l[i]) hs.has (.head _) (by simp [sv, hi3]) rfl) ?_
              refine cll (rText_ok l[i] _ (by omega)) ?_
              rintro _ w ⟨⟨a44, n44, c44, rfl, hn44, hnew⟩, hf⟩
              replace hs := hs.callR hf hnew
              have hn44b : n44 ≤ 42 ∧ 0 < n44 := by
                have h1 := vnat_le l[i].data.toList.length
                have h2 := vnat_pos l[i].data.toList.length
                rw [hn44]; unfold encT; rw [List.length_append]; omega
              refine W_append hs rfl rfl (hs.rd (a := a44)) (fun h _ => by have h2 := bv_length (encT l[i].data.toList); rw [h] at h2; simp at h2; omega) (bv_oneCell _) (by decide) (by rfl) (by omega) (by omega) ?_
              intro a2 c2 w hs _
              refine asp (.slice _ _ _) rfl ?_
              refine WL_nil ?_
              refine hK10 _ _ ?_
              refine CW_region ?_
              refine mvp (.int _ _) rfl ?_
              first | refine addI rfl rfl (by omega) ?_ | refine addW rfl rfl ?_
              refine asp (.int _ _) rfl ?_
              refine WL_nil ?_
              skip
              have hnx : ckNs l = ckAt l (i + 1) := by
                rw [hch, ckAt_step hi3, if_neg (by rw [h24]; simp), if_neg]
                rintro ⟨q1, q2⟩
                first
                  | (have h27 : ¬ (0 : Int) < i := by simpa using hg27
                     omega)
                  | (have h38 : bls l[i - 1] l[i] = true := by simpa using hc38
                     rw [getD_at (show i - 1 < l.length by omega)] at q2
                     rw [q2] at h38; cases h38)
              have hkl : (nsK l (i + 1)).length = m + n44 := by rw [nsK_step hi3, List.length_append, ← hm, ← hn44]
              refine ⟨n - (i + 1), by omega, i + 1, m + n44, c2, a2, rfl, by omega, rfl, rfl, rfl, hkl.symm, by omega, hnx, ?_⟩
              rw [nsK_step hi3, bv_append]
              exact hs.wk
          · skip
            refine DW_qn hs 3 rfl (by kernel_rfl) rfl (by decide) rfl ?_
            refine DW_qn hs 4 rfl (by kernel_rfl) rfl (by decide) rfl ?_
            refine DW_qn hs 5 rfl (by kernel_rfl) rfl (by decide) rfl ?_
            refine DW_qn hs 6 rfl (by kernel_rfl) rfl (by decide) rfl ?_
            refine DW_qn hs 7 rfl (by kernel_rfl) rfl (by decide) rfl ?_
            refine DW_qn hs 8 rfl (by kernel_rfl) rfl (by decide) rfl ?_
            refine DW_qn hs 9 rfl (by kernel_rfl) rfl (by decide) rfl ?_
            refine DW_qn hs 10 rfl (by kernel_rfl) rfl (by decide) rfl ?_
            refine DW_qn hs 11 rfl (by kernel_rfl) rfl (by decide) rfl ?_
            refine DW_qn hs 12 rfl (by kernel_rfl) rfl (by decide) rfl ?_
            refine DW_q hs 13 rfl (by kernel_rfl) (fun w' hw' => X_pickF rfl rfl) ?_
            refine DW_e (by kernel_rfl) ?_
            refine hK15 _ _ ?_
            refine CW_condF rfl rfl ?_
            refine CW_skip ?_
            refine hK14 _ _ ?_
            refine CW_region ?_
            refine mvp (.slice _ _ _) rfl ?_
            refine mvp (.slice _ _ _) rfl ?_
            refine mvp (.int _ _) rfl ?_
            refine iad rfl rfl (by omega) ?_
            refine WL_v (X_ldS (xs := sv l) (j := i) (v := .string l[i]) hs.has (.head _) (by simp [sv, hi3]) rfl) ?_
            refine cll (rText_ok l[i] _ (by omega)) ?_
            rintro _ w ⟨⟨a44, n44, c44, rfl, hn44, hnew⟩, hf⟩
            replace hs := hs.callR hf hnew
            have hn44b : n44 ≤ 42 ∧ 0 < n44 := by
              have h1 := vnat_le l[i].data.toList.length
              have h2 := vnat_pos l[i].data.toList.length
              rw [hn44]; unfold encT; rw [List.length_append]; omega
            refine W_append hs rfl rfl (hs.rd (a := a44)) (fun h _ => by have h2 := bv_length (encT l[i].data.toList); rw [h] at h2; simp at h2; omega) (bv_oneCell _) (by decide) (by rfl) (by omega) (by omega) ?_
            intro a2 c2 w hs _
            refine asp (.slice _ _ _) rfl ?_
            refine WL_nil ?_
            refine hK10 _ _ ?_
            refine CW_region ?_
            refine mvp (.int _ _) rfl ?_
            first | refine addI rfl rfl (by omega) ?_ | refine addW rfl rfl ?_
            refine asp (.int _ _) rfl ?_
            refine WL_nil ?_
            skip
            have hnx : ckNs l = ckAt l (i + 1) := by
              rw [hch, ckAt_step hi3, if_neg (by rw [h24]; simp), if_neg]
              rintro ⟨q1, q2⟩
              first
                | (have h27 : ¬ (0 : Int) < i := by simpa using hg27
                   omega)
                | (have h38 : bls l[i - 1] l[i] = true := by simpa using hc38
                   rw [getD_at (show i - 1 < l.length by omega)] at q2
                   rw [q2] at h38; cases h38)
            have hkl : (nsK l (i + 1)).length = m + n44 := by rw [nsK_step hi3, List.length_append, ← hm, ← hn44]
            refine ⟨n - (i + 1), by omega, i + 1, m + n44, c2, a2, rfl, by omega, rfl, rfl, rfl, hkl.symm, by omega, hnx, ?_⟩
            rw [nsK_step hi3, bv_append]
            exact hs.wk
      · skip
        refine CW_exit ?_
        refine hK6 _ _ ?_
        refine CW_seq (fun K17 hK17 => ?_)
        refine CW_region ?_
        refine mvp (.slice _ _ _) rfl ?_
        refine WL_v (X_cvStr rfl (hs.rd (a := a')) hm) ?_
        refine asp (.string _) rfl ?_
        refine asp (.int _ _) rfl ?_
        refine WL_nil ?_
        refine hK17 _ _ ?_
        refine CW_ret ?_
        repeat (first | (with_reducible apply thenF_ret) | (with_reducible apply blockF_ret))
        try simp only [thenF, blockF, reduceIte]
        refine Post_r Tryz.results43 (.tmp rfl (.tmp rfl .nil)) ?_
        try simp only [ev_tmp, ev_const, upd_ap, Nat.reduceLT, Nat.reduceEqDiff, reduceIte]
        have hi2 : i = l.length := by simp at hc16; omega
        have h1 : ckNs l = 0 := by rw [hch, ckAt_end (by omega)]
        rw [if_pos h1, h1, hi2, nsK_all]
        exact ⟨by trivial, hs.fm⟩
def prs (bs : List UInt8) : Nat → List (List UInt8) × List UInt8
  | 0 => ([], bs)
  | i + 1 => ((prs bs i).1 ++ [(pie (prs bs i).2).1], (pie (prs bs i).2).2)
theorem prs_enc (l : List (List UInt8)) (hl : ∀ t ∈ l, t.length < 2 ^ 63) : ∀ k, k ≤ l.length → prs (l.flatMap encT) k = (l.take k, (l.drop k).flatMap encT) := by
  intro k
  induction k with
  | zero => intro _; simp [prs]
  | succ k ih =>
    intro hk
    have hk2 : k < l.length := by omega
    rw [prs, ih (by omega)]
    simp only
    rw [List.drop_eq_getElem_cons hk2, List.flatMap_cons, pie_enc _ _ (hl _ (List.getElem_mem hk2)), List.take_add_one, List.getElem?_eq_getElem hk2]
    rfl
theorem tk_len (l : List UInt8) : (tk l).2.length ≤ l.length := by
  unfold tk; split
  · simp
  · simp
theorem pie_len (l : List UInt8) : (pie l).1.length ≤ l.length ∧ (pie l).2.length ≤ l.length := by
  have := tk_len l
  unfold pie
  split
  · simp
  · simp only [List.length_take, List.length_drop]; omega
theorem prs_len (bs : List UInt8) : ∀ k, (prs bs k).1.length = k ∧ (prs bs k).2.length ≤ bs.length ∧ ∀ t ∈ (prs bs k).1, t.length ≤ bs.length := by
  intro k
  induction k with
  | zero => simp [prs]
  | succ k ih =>
    obtain ⟨h1, h2, h3⟩ := ih
    have h4 := pie_len (prs bs k).2
    refine ⟨by simp [prs, h1], by simp only [prs]; omega, fun t ht => ?_⟩
    simp only [prs, List.mem_append, List.mem_singleton] at ht
    rcases ht with ht | rfl
    · exact h3 t ht
    · omega
def dnL (bs : List UInt8) : List ByteArray := (prs (tk bs).2 (tk bs).1.toNat).1.map str
def dnP (bs : List UInt8) : List ByteArray × Int := if (tk bs).1 < 0 ∨ 256 < (tk bs).1 then ([], 3) else if ckNs (dnL bs) = 0 ∧ nsEnc (dnL bs) = bs then (dnL bs, 0) else ([], 3)
theorem dnP_dnR (bs : List UInt8) : dnP bs = dnR bs := by
  unfold dnP dnR
  cases hd : nsDec bs with
  | some l =>
    obtain ⟨h1, h2⟩ := nsDec_iff.1 hd
    have h3 := (ckNs_0 h1).1
    have h4 := (ckNs_0 h1).2.1
    have e1 : tk bs = ((l.length : Int), l.flatMap fun h => encT h.data.toList) := by
      rw [h2]; unfold nsEnc
      exact tk_vnat _ _ (by omega)
    have e2 : dnL bs = l := by
      unfold dnL
      rw [e1]
      simp only [Int.toNat_natCast]
      have e3 : (l.flatMap fun h => encT h.data.toList) = (l.map fun h => h.data.toList).flatMap encT := by rw [List.flatMap_map]
      rw [e3, prs_enc _ (fun t ht => by
        obtain ⟨x, hx, rfl⟩ := List.mem_map.1 ht
        obtain ⟨j, hj, rfl⟩ := List.getElem_of_mem hx
        have := ckN_short (h4 j hj); omega) _ (by simp)]
      simp only
      rw [List.take_of_length_le (by simp), List.map_map]
      exact (List.map_congr_left (fun a _ => str_self a)).trans (List.map_id _)
    rw [e1, e2]
    simp only
    rw [if_neg (by omega), if_pos ⟨h1, h2.symm⟩]
  | none =>
    split
    · rfl
    · rw [if_neg]
      rintro ⟨h1, h2⟩
      have := nsDec_iff.2 ⟨h1, h2.symm⟩
      rw [hd] at this; cases this
theorem rDecNames_ok (s : ByteArray) (w0 : World) (hsz : s.size ≤ 1000000) :
    Ret Tryz.prog 45 #[.string s] w0 fun v w' => (∃ a n c, v = .tuple #[.slice a n c, .int .i64 (dnR s.data.toList).2] ∧ n = (dnR s.data.toList).1.length ∧
      NewR w0 w' 9 1 n (.slice a n c) (sv (dnR s.data.toList).1)) ∧ Fm [] w0 w' := by
  have hs := St.init w0 []
  have ht : s.data.toList.length = s.size := by rw [Array.length_toList]; rfl
  rw [← dnP_dnR]
  obtain ⟨bs, hbs⟩ : ∃ bs, s.data.toList = bs := ⟨_, rfl⟩
  obtain ⟨x, hx⟩ : ∃ x, tk bs = x := ⟨_, rfl⟩
  have hxl : x.2.length ≤ 1000000 := by have := tk_len bs; rw [hx] at this; rw [hbs] at ht; omega
  have hdp : dnP bs = if x.1 < 0 ∨ 256 < x.1 then ([], 3) else if ckNs (dnL bs) = 0 ∧ nsEnc (dnL bs) = bs then (dnL bs, 0) else ([], 3) := by unfold dnP; rw [hx]
  have hdl : dnL bs = (prs x.2 x.1.toNat).1.map str := by unfold dnL; rw [hx]
  rw [hbs]
  refine Ret_enter Tryz.func45 rfl Tryz.ntmps45 (by simp) ?_
  refine CW_seq (fun K1 hK1 => ?_)
  refine CW_region ?_
  refine asp (.slice _ _ _) rfl ?_
  refine asp (.int _ _) rfl ?_
  refine WL_nil ?_
  refine hK1 _ _ ?_
  refine CW_seq (fun K2 hK2 => ?_)
  refine CW_region ?_
  refine mvp (.string _) rfl ?_
  refine cll (rtake_ok s _ (by omega)) ?_
  rintro _ w ⟨rfl, hf⟩
  replace hs := hs.call hf
  rw [hbs, hx]
  refine mvp (.tuple _) rfl ?_
  refine ext rfl rfl ?_
  refine ext rfl rfl ?_
  refine asp (.int _ _) rfl ?_
  refine asp (.string _) rfl ?_
  refine WL_nil ?_
  refine hK2 _ _ ?_
  refine CW_seq (fun K3 hK3 => ?_)
  refine CW_seq (fun K4 hK4 => ?_)
  refine CW_region ?_
  refine mvp (.int _ _) rfl ?_
  refine lssW rfl rfl ?_
  refine mvp (.bool _) rfl ?_
  refine WL_g (g := 18) rfl (by decide) rfl (fun hg18 => ?_) (fun hg18 => ?_)
  · skip
    refine mvp (.int _ _) rfl ?_
    refine WL_gy (g := 18) rfl (by decide) rfl ?_
    refine gtrW rfl rfl ?_
    first | refine pkT rfl rfl ?_ | refine pkF rfl rfl ?_
    refine WL_nil ?_
    refine hK4 _ _ ?_
    refine CW_cond rfl (fun hc21 => ?_) (fun hc21 => ?_)
    · skip
      refine CW_seq (fun K5 hK5 => ?_)
      refine CW_region ?_
      refine asp (.slice _ _ _) rfl ?_
      refine asp (.int _ _) rfl ?_
      refine WL_nil ?_
      refine hK5 _ _ ?_
      refine CW_ret ?_
      repeat (first | (with_reducible apply thenF_ret) | (with_reducible apply blockF_ret))
      try simp only [thenF, blockF, reduceIte]
      refine Post_r Tryz.results45 (.tmp rfl (.tmp rfl .nil)) ?_
      try simp only [ev_tmp, ev_const, upd_ap, Nat.reduceLT, Nat.reduceEqDiff, reduceIte]
      have hd : dnP bs = ([], 3) := by
        rw [hdp, if_pos]
        first
          | (left; simpa using hg18)
          | (right; simpa using hc21)
      rw [hd]
      exact ⟨⟨none, 0, 0, rfl, rfl, World.ownsRow_nil _ _ _ _⟩, hs.fm⟩
    · skip
      have h18 : ¬ x.1 < 0 := by simpa using hg18
      have h21 : ¬ (256 : Int) < x.1 := by simpa using hc21
      obtain ⟨u, hu⟩ : ∃ u : Nat, x.1 = u := ⟨x.1.toNat, by omega⟩
      rw [hu]
      rw [hu, Int.toNat_natCast] at hdl
      have hu256 : u ≤ 256 := by omega
      replace hs := hs.nilR 9 1
      refine CW_skip ?_
      refine hK3 _ _ ?_
      refine CW_seq (fun K6 hK6 => ?_)
      refine CW_region ?_
      refine asp (.slice _ _ _) rfl ?_
      refine WL_nil ?_
      refine hK6 _ _ ?_
      refine CW_seq (fun K7 hK7 => ?_)
      refine CW_seq (fun K8 hK8 => ?_)
      refine CW_region ?_
      refine asp (.int _ _) rfl ?_
      refine WL_nil ?_
      refine hK8 _ _ ?_
      refine CW_block ?_
      refine CW_loop (fun k f w' => ∃ (i n c : Nat) (a : Option Addr), k = u - i ∧ i ≤ u ∧ n = i ∧ f 0 = .string s ∧ f 4 = .int .i64 u ∧ f 5 = .string (str (prs x.2 i).2) ∧ f 6 = .slice a n c ∧ f 7 = .int .i64 i ∧ St w0 [] w' [eR (.slice a n c) 9 1 n (sv ((prs x.2 i).1.map str))]) u ?_ ?_
      · exact ⟨0, 0, 0, none, by omega, by omega, rfl, rfl, rfl, rfl, rfl, rfl, hs⟩
      · rintro k f w1 ⟨i, n, c, a, rfl, hi, hni, e0, e4, e5, e6, e7, hs⟩
        refine CW_kn (i := 0) e0 (CW_kn (i := 4) e4 (CW_kn (i := 5) e5 (CW_kn (i := 6) e6 (CW_kn (i := 7) e7 ?_))))
        have hpl := prs_len x.2 i
        refine CW_seq (fun K9 hK9 => ?_)
        refine CW_seq (fun K10 hK10 => ?_)
        refine CW_region ?_
        refine mvp (.int _ _) rfl ?_
        refine mvp (.int _ _) rfl ?_
        refine lssW rfl rfl ?_
        refine WL_nil ?_
        refine hK10 _ _ ?_
        refine CW_cond rfl (fun hc24 => ?_) (fun hc24 => ?_)
        · skip
          have hi2 : i < u := by simpa using hc24
          refine CW_skip ?_
          refine hK9 _ _ ?_
          refine CW_seq (fun K11 hK11 => ?_)
          refine CW_block ?_
          refine CW_seq (fun K12 hK12 => ?_)
          refine CW_region ?_
          refine asp (.string _) rfl ?_
          refine WL_nil ?_
          refine hK12 _ _ ?_
          refine CW_seq (fun K13 hK13 => ?_)
          refine CW_region ?_
          refine mvp (.string _) rfl ?_
          refine cll (rpiece_ok (str (prs x.2 i).2) _ (by rw [str_size]; omega)) ?_
          rintro _ w ⟨rfl, hf⟩
          replace hs := hs.call hf
          rw [data_str]
          refine mvp (.tuple _) rfl ?_
          refine ext rfl rfl ?_
          refine ext rfl rfl ?_
          refine asp (.string _) rfl ?_
          refine asp (.string _) rfl ?_
          refine WL_nil ?_
          refine hK13 _ _ ?_
          refine CW_region ?_
          refine mvp (.slice _ _ _) rfl ?_
          refine mvp (.string _) rfl ?_
          refine W_bslice hs (BS.ss rfl .nil) rfl (by simp) ?_
          intro w g34 hs hg34 hf34
          refine app1 hs rfl rfl (by rfl) (by rfl) (by decide) (by rfl) (by omega) (by omega) ?_
          intro a2 c2 w hs _
          refine asp (.slice _ _ _) rfl ?_
          refine WL_nil ?_
          refine hK11 _ _ ?_
          refine CW_region ?_
          refine mvp (.int _ _) rfl ?_
          first | refine addI rfl rfl (by omega) ?_ | refine addW rfl rfl ?_
          refine asp (.int _ _) rfl ?_
          refine WL_nil ?_
          skip
          refine ⟨u - (i + 1), by omega, i + 1, n + 1, c2, a2, rfl, by omega, by omega, rfl, rfl, rfl, rfl, rfl, ?_⟩
          rw [prs, List.map_append, List.map_cons, List.map_nil, show sv ((prs x.2 i).1.map str ++ [str (pie (prs x.2 i).2).1]) = sv ((prs x.2 i).1.map str) ++ [.string (str (pie (prs x.2 i).2).1)] by simp [sv]]
          exact hs.wk
        · skip
          have hi2 : i = u := by simp at hc24; omega
          rw [hi2, ← hdl] at hs
          have hnl : n = (dnL bs).length := by rw [hdl, List.length_map, (prs_len x.2 u).1]; omega
          obtain ⟨z, hz⟩ : ∃ z, (if ckNs (dnL bs) = 0 then str (nsEnc (dnL bs)) else (⟨#[]⟩ : ByteArray)) = z := ⟨_, rfl⟩
          refine CW_exit ?_
          refine hK7 _ _ ?_
          refine CW_seq (fun K14 hK14 => ?_)
          refine CW_seq (fun K15 hK15 => ?_)
          refine CW_region ?_
          refine mvp (.slice _ _ _) rfl ?_
          refine cll (rEncNames_ok (dnL bs) a n c _ (hs.rd (a := a)) hnl (by omega) (fun y hy => by
          rw [hdl] at hy
          obtain ⟨t, ht', rfl⟩ := List.mem_map.1 hy
          have := (prs_len x.2 u).2.2 t ht'
          rw [str_size]; omega)) ?_
          rintro _ w ⟨rfl, hf⟩
          replace hs := hs.call hf
          rw [hz]
          refine mvp (.tuple _) rfl ?_
          refine ext rfl rfl ?_
          refine ext rfl rfl ?_
          refine asp (.string _) rfl ?_
          refine asp (.int _ _) rfl ?_
          refine WL_nil ?_
          refine hK15 _ _ ?_
          refine CW_seq (fun K16 hK16 => ?_)
          refine CW_region ?_
          refine mvp (.int _ _) rfl ?_
          refine neqW rfl rfl ?_
          refine mvp (.bool _) rfl ?_
          refine WL_g (g := 43) rfl (by decide) rfl (fun hg43 => ?_) (fun hg43 => ?_)
          · skip
            refine mvp (.string _) rfl ?_
            refine WL_gy (g := 43) rfl (by decide) rfl ?_
            refine mvp (.string _) rfl ?_
            refine WL_gy (g := 43) rfl (by decide) rfl ?_
            refine neS rfl rfl ?_
            first | refine pkT rfl rfl ?_ | refine pkF rfl rfl ?_
            refine WL_nil ?_
            refine hK16 _ _ ?_
            refine CW_cond rfl (fun hc47 => ?_) (fun hc47 => ?_)
            · skip
              refine CW_seq (fun K17 hK17 => ?_)
              refine CW_region ?_
              refine asp (.slice _ _ _) rfl ?_
              refine asp (.int _ _) rfl ?_
              refine WL_nil ?_
              refine hK17 _ _ ?_
              refine CW_ret ?_
              repeat (first | (with_reducible apply thenF_ret) | (with_reducible apply blockF_ret))
              try simp only [thenF, blockF, reduceIte]
              refine Post_r Tryz.results45 (.tmp rfl (.tmp rfl .nil)) ?_
              try simp only [ev_tmp, ev_const, upd_ap, Nat.reduceLT, Nat.reduceEqDiff, reduceIte]
              have hd : dnP bs = ([], 3) := by
                rw [hdp, if_neg (by omega), if_neg]
                rintro ⟨q1, q2⟩
                rw [if_pos q1] at hz
                first
                  | (have h43 : ckNs (dnL bs) ≠ 0 := by simpa using hg43
                     exact h43 q1)
                  | (have h47 : ¬ z.data.toList = s.data.toList := by simpa using hc47
                     rw [← hz, data_str, hbs] at h47
                     exact h47 q2)
              rw [hd]
              exact ⟨⟨none, 0, 0, rfl, rfl, World.ownsRow_nil _ _ _ _⟩, hs.fm⟩
            · skip
              refine CW_skip ?_
              refine hK14 _ _ ?_
              refine CW_seq (fun K18 hK18 => ?_)
              refine CW_region ?_
              refine mvp (.slice _ _ _) rfl ?_
              refine asp (.slice _ _ _) rfl ?_
              refine asp (.int _ _) rfl ?_
              refine WL_nil ?_
              refine hK18 _ _ ?_
              refine CW_ret ?_
              repeat (first | (with_reducible apply thenF_ret) | (with_reducible apply blockF_ret))
              try simp only [thenF, blockF, reduceIte]
              refine Post_r Tryz.results45 (.tmp rfl (.tmp rfl .nil)) ?_
              try simp only [ev_tmp, ev_const, upd_ap, Nat.reduceLT, Nat.reduceEqDiff, reduceIte]
              have hd : dnP bs = (dnL bs, 0) := by
                have q1 : ckNs (dnL bs) = 0 := by simpa using hg43
                rw [if_pos q1] at hz
                have h47 : z.data.toList = s.data.toList := by simpa using hc47
                rw [← hz, data_str, hbs] at h47
                rw [hdp, if_neg (by omega), if_pos ⟨q1, h47⟩]
              rw [hd]
              exact ⟨⟨a, n, c, rfl, hnl, hs.newR⟩, hs.fm⟩
          · skip
            refine WL_gn (g := 43) rfl (by decide) rfl ?_
            refine WL_gn (g := 43) rfl (by decide) rfl ?_
            first | refine pkT rfl rfl ?_ | refine pkF rfl rfl ?_
            refine WL_nil ?_
            refine hK16 _ _ ?_
            refine CW_condT rfl rfl ?_
            refine CW_seq (fun K19 hK19 => ?_)
            refine CW_region ?_
            refine asp (.slice _ _ _) rfl ?_
            refine asp (.int _ _) rfl ?_
            refine WL_nil ?_
            refine hK19 _ _ ?_
            refine CW_ret ?_
            repeat (first | (with_reducible apply thenF_ret) | (with_reducible apply blockF_ret))
            try simp only [thenF, blockF, reduceIte]
            refine Post_r Tryz.results45 (.tmp rfl (.tmp rfl .nil)) ?_
            try simp only [ev_tmp, ev_const, upd_ap, Nat.reduceLT, Nat.reduceEqDiff, reduceIte]
            have hd : dnP bs = ([], 3) := by
              rw [hdp, if_neg (by omega), if_neg]
              rintro ⟨q1, q2⟩
              rw [if_pos q1] at hz
              first
                | (have h43 : ckNs (dnL bs) ≠ 0 := by simpa using hg43
                   exact h43 q1)
                | (have h47 : ¬ z.data.toList = s.data.toList := by simpa using hc47
                   rw [← hz, data_str, hbs] at h47
                   exact h47 q2)
            rw [hd]
            exact ⟨⟨none, 0, 0, rfl, rfl, World.ownsRow_nil _ _ _ _⟩, hs.fm⟩
  · skip
    refine WL_gn (g := 18) rfl (by decide) rfl ?_
    first | refine pkT rfl rfl ?_ | refine pkF rfl rfl ?_
    refine WL_nil ?_
    refine hK4 _ _ ?_
    refine CW_condT rfl rfl ?_
    refine CW_seq (fun K20 hK20 => ?_)
    refine CW_region ?_
    refine asp (.slice _ _ _) rfl ?_
    refine asp (.int _ _) rfl ?_
    refine WL_nil ?_
    refine hK20 _ _ ?_
    refine CW_ret ?_
    repeat (first | (with_reducible apply thenF_ret) | (with_reducible apply blockF_ret))
    try simp only [thenF, blockF, reduceIte]
    refine Post_r Tryz.results45 (.tmp rfl (.tmp rfl .nil)) ?_
    try simp only [ev_tmp, ev_const, upd_ap, Nat.reduceLT, Nat.reduceEqDiff, reduceIte]
    have hd : dnP bs = ([], 3) := by
      rw [hdp, if_pos]
      first
        | (left; simpa using hg18)
        | (right; simpa using hc21)
    rw [hd]
    exact ⟨⟨none, 0, 0, rfl, rfl, World.ownsRow_nil _ _ _ _⟩, hs.fm⟩
end Go.Proofs.YtkbldndbofbkcaaGreatDoor
/- replevinlaw28.DirectoryValues: the walk. -/
namespace Go.Proofs.YtkbldndbofbkcaaGreatDoor
open Go Go.RowKit
attribute [local irreducible] WL CW DW Ret RW
theorem directoryValues_ok (l : List ByteArray) (a : Option Addr) (n c : Nat) (s : ByteArray) (w0 : World) (hr : Rd w0 a n 1 (sv l)) (hn : n = l.length) :
    Ret Tryz.prog 9 #[.slice a n c, .string s] w0 fun v w' => v = .bool true ∧ Fm [] w0 w' := by
  have hs := St.initS1 hr
  refine Ret_enter Tryz.func9 rfl Tryz.ntmps9 (by simp) ?_
  refine CW_seq (fun K1 hK1 => ?_)
  refine CW_region ?_
  refine asp (.bool _) rfl ?_
  refine WL_nil ?_
  refine hK1 _ _ ?_
  refine CW_seq (fun K2 hK2 => ?_)
  refine CW_seq (fun K3 hK3 => ?_)
  refine CW_region ?_
  refine cll (known28_ok _) ?_
  rintro _ w ⟨rfl, hf⟩
  replace hs := hs.call hf
  refine notW rfl ?_
  refine mvp (.bool _) rfl ?_
  refine WL_gyb (g := 18) rfl (by decide) rfl (rfl) ?_
  refine mvp (.slice _ _ _) rfl ?_
  refine WL_gy (g := 18) rfl (by decide) rfl ?_
  refine lenW rfl ?_
  refine WL_gy (g := 18) rfl (by decide) rfl ?_
  refine gtrW rfl rfl ?_
  first | refine pkT rfl rfl ?_ | refine pkF rfl rfl ?_
  refine mvp (.bool _) rfl ?_
  refine WL_g (g := 23) rfl (by decide) rfl (fun hg23 => ?_) (fun hg23 => ?_)
  · skip
    refine mvp (.string _) rfl ?_
    refine WL_gy (g := 23) rfl (by decide) rfl ?_
    refine lenS rfl ?_
    refine WL_gy (g := 23) rfl (by decide) rfl ?_
    refine gtrW rfl rfl ?_
    first | refine pkT rfl rfl ?_ | refine pkF rfl rfl ?_
    refine WL_nil ?_
    refine hK3 _ _ ?_
    refine CW_cond rfl (fun hc27 => ?_) (fun hc27 => ?_)
    · skip
      refine CW_seq (fun K4 hK4 => ?_)
      refine CW_region ?_
      refine cll (known28_ok _) ?_
      rintro _ w ⟨rfl, hf⟩
      replace hs := hs.call hf
      refine asp (.bool _) rfl ?_
      refine WL_nil ?_
      refine hK4 _ _ ?_
      refine CW_ret ?_
      repeat (first | (with_reducible apply thenF_ret) | (with_reducible apply blockF_ret))
      try simp only [thenF, blockF, reduceIte]
      refine Post_r Tryz.results9 (.tmp rfl .nil) ?_
      try simp only [ev_tmp, ev_const, upd_ap, Nat.reduceLT, Nat.reduceEqDiff, reduceIte]
      exact ⟨by trivial, hs.fm⟩
    · skip
      have h23 : n ≤ 300 := by have := hg23; simp at this; omega
      have h27 : s.size ≤ 400 := by simp at hc27; omega
      refine CW_skip ?_
      refine hK2 _ _ ?_
      refine CW_seq (fun K5 hK5 => ?_)
      refine CW_seq (fun K6 hK6 => ?_)
      refine CW_region ?_
      refine asp (.int _ _) rfl ?_
      refine WL_nil ?_
      refine hK6 _ _ ?_
      refine CW_block ?_
      refine CW_loop (fun k f w' => ∃ i : Nat, k = n - i ∧ i ≤ n ∧ f 0 = .slice a n c ∧ f 1 = .string s ∧ f 5 = .int .i64 i ∧ (∀ x ∈ l.take i, x.size ≤ 100) ∧ St w0 [] w' [eS [(a, n, sv l)]]) n ?_ ?_
      · exact ⟨0, by omega, by omega, rfl, rfl, rfl, by simp, hs⟩
      · rintro k f w1 ⟨i, rfl, hi, e0, e1, e5, hsz, hs⟩
        refine CW_kn (i := 0) e0 (CW_kn (i := 1) e1 (CW_kn (i := 5) e5 ?_))
        refine CW_seq (fun K7 hK7 => ?_)
        refine CW_seq (fun K8 hK8 => ?_)
        refine CW_region ?_
        refine mvp (.int _ _) rfl ?_
        refine mvp (.slice _ _ _) rfl ?_
        refine lenW rfl ?_
        refine lssW rfl rfl ?_
        refine WL_nil ?_
        refine hK8 _ _ ?_
        refine CW_cond rfl (fun hc32 => ?_) (fun hc32 => ?_)
        · skip
          have hi2 : i < n := by simpa using hc32
          have hi3 : i < l.length := by omega
          obtain ⟨b, off, rfl, hcell⟩ := sv_at (hr.fm hs.fm) hi3
          refine CW_skip ?_
          refine hK7 _ _ ?_
          refine CW_seq (fun K9 hK9 => ?_)
          refine CW_block ?_
          refine CW_seq (fun K10 hK10 => ?_)
          refine CW_seq (fun K11 hK11 => ?_)
          refine CW_region ?_
          refine mvp (.slice _ _ _) rfl ?_
          refine mvp (.int _ _) rfl ?_
          refine iad rfl rfl (by omega) ?_
          refine WL_v (X_ldS (xs := sv l) (j := i) (v := .string l[i]) hs.has (.head _) (by simp [sv, hi3]) rfl) ?_
          refine lenS rfl ?_
          refine gtrW rfl rfl ?_
          refine WL_nil ?_
          refine hK11 _ _ ?_
          refine CW_cond rfl (fun hc40 => ?_) (fun hc40 => ?_)
          · skip
            refine CW_seq (fun K12 hK12 => ?_)
            refine CW_region ?_
            refine asp (.bool _) rfl ?_
            refine WL_nil ?_
            refine hK12 _ _ ?_
            refine CW_ret ?_
            repeat (first | (with_reducible apply thenF_ret) | (with_reducible apply blockF_ret))
            try simp only [thenF, blockF, reduceIte]
            refine Post_r Tryz.results9 (.tmp rfl .nil) ?_
            try simp only [ev_tmp, ev_const, upd_ap, Nat.reduceLT, Nat.reduceEqDiff, reduceIte]
            exact ⟨by trivial, hs.fm⟩
          · skip
            have h40 : l[i].size ≤ 100 := by simp at hc40; omega
            refine CW_skip ?_
            refine hK10 _ _ ?_
            refine CW_seq (fun K13 hK13 => ?_)
            refine DW_sH hs 999 ?_
            intro w hs _
            refine DW_q hs 0 rfl (by kernel_rfl) (fun w' hw' => X_move (v := (.slice _ _ _)) rfl) ?_
            refine DW_q hs 1 rfl (by kernel_rfl) (fun w' hw' => X_move (v := (.int _ _)) rfl) ?_
            refine DW_q hs 2 rfl (by kernel_rfl) (fun w' hw' => X_indexAddr rfl rfl (by omega) (by omega) rfl) ?_
            refine DW_q hs 3 rfl (by kernel_rfl) (fun w' hw' => X_ldS (xs := sv l) (j := i) (v := .string l[i]) hw' (.head _) (by simp [sv, hi3]) rfl) ?_
            refine DW_q hs 6 rfl (by kernel_rfl) (fun w' hw' => X_move (v := (.slice _ _ _)) rfl) ?_
            refine DW_q hs 7 rfl (by kernel_rfl) (fun w' hw' => X_move (v := (.int _ _)) rfl) ?_
            refine DW_q hs 8 rfl (by kernel_rfl) (fun w' hw' => X_indexAddr rfl rfl (by omega) (by omega) rfl) ?_
            refine DW_q hs 9 rfl (by kernel_rfl) (fun w' hw' => X_ldS (xs := sv l) (j := i) (v := .string l[i]) hw' (.head _) (by simp [sv, hi3]) rfl) ?_
            refine DW_l 4 rfl (by kernel_rfl) ?_
            refine cll (CkName_ok l[i] _) ?_
            rintro _ w ⟨rfl, hf⟩
            replace hs := hs.call hf
            refine WL_nil ?_
            refine ⟨.inr hs.hold, ?_⟩
            refine DW_q hs 5 rfl (by kernel_rfl) (fun w' hw' => X_eql rfl rfl) ?_
            refine DW_l 10 rfl (by kernel_rfl) ?_
            refine cll (rName_ok l[i] _ (by omega)) ?_
            rintro _ w ⟨rfl, hf⟩
            replace hs := hs.call hf
            refine WL_nil ?_
            refine ⟨.inr hs.hold, ?_⟩
            refine DW_q hs 11 rfl (by kernel_rfl) (fun w' hw' => X_neB rfl rfl) ?_
            refine DW_q hs 12 rfl (by kernel_rfl) (fun w' hw' => X_move (v := (.bool _)) rfl) ?_
            refine DW_bF (g := 53) (by decide) rfl ((by simp)) ?_
            refine DW_qy hs 13 rfl (by kernel_rfl) rfl (by decide) rfl (fun w' hw' => X_move (v := (.slice _ _ _)) rfl) ?_
            refine DW_qy hs 14 rfl (by kernel_rfl) rfl (by decide) rfl (fun w' hw' => X_move (v := (.int _ _)) rfl) ?_
            refine DW_qy hs 15 rfl (by kernel_rfl) rfl (by decide) rfl (fun w' hw' => X_indexAddr rfl rfl (by omega) (by omega) rfl) ?_
            refine DW_qy hs 16 rfl (by kernel_rfl) rfl (by decide) rfl (fun w' hw' => X_ldS (xs := sv l) (j := i) (v := .string l[i]) hw' (.head _) (by simp [sv, hi3]) rfl) ?_
            refine DW_l 17 rfl (by kernel_rfl) ?_
            refine WL_gy (g := 53) rfl (by decide) rfl ?_
            refine cll (CkName_ok l[i] _) ?_
            rintro _ w ⟨rfl, hf⟩
            replace hs := hs.call hf
            refine WL_nil ?_
            refine ⟨.inr hs.hold, ?_⟩
            refine DW_qy hs 18 rfl (by kernel_rfl) rfl (by decide) rfl (fun w' hw' => X_neq rfl rfl) ?_
            refine DW_qy hs 19 rfl (by kernel_rfl) rfl (by decide) rfl (fun w' hw' => X_move (v := (.bool _)) rfl) ?_
            refine DW_b (g := 60) (by decide) rfl (fun hg60 => ?_) (fun hg60 => ?_)
            · skip
              refine DW_qy hs 20 rfl (by kernel_rfl) rfl (by decide) rfl (fun w' hw' => X_move (v := (.slice _ _ _)) rfl) ?_
              refine DW_qy hs 21 rfl (by kernel_rfl) rfl (by decide) rfl (fun w' hw' => X_move (v := (.int _ _)) rfl) ?_
              refine DW_qy hs 22 rfl (by kernel_rfl) rfl (by decide) rfl (fun w' hw' => X_indexAddr rfl rfl (by omega) (by omega) rfl) ?_
              refine DW_qy hs 23 rfl (by kernel_rfl) rfl (by decide) rfl (fun w' hw' => X_ldS (xs := sv l) (j := i) (v := .string l[i]) hw' (.head _) (by simp [sv, hi3]) rfl) ?_
              refine DW_l 24 rfl (by kernel_rfl) ?_
              refine WL_gy (g := 60) rfl (by decide) rfl ?_
              refine cll (CkName_ok l[i] _) ?_
              rintro _ w ⟨rfl, hf⟩
              replace hs := hs.call hf
              refine WL_nil ?_
              refine ⟨.inr hs.hold, ?_⟩
              refine DW_qy hs 25 rfl (by kernel_rfl) rfl (by decide) rfl (fun w' hw' => X_neq rfl rfl) ?_
              refine DW_qy hs 26 rfl (by kernel_rfl) rfl (by decide) rfl (fun w' hw' => X_pickT rfl rfl) ?_
              refine DW_q hs 27 rfl (by kernel_rfl) (fun w' hw' => X_pickF rfl rfl) ?_
              refine DW_e (by kernel_rfl) ?_
              refine hK13 _ _ ?_
              refine CW_condF rfl ((by
first
  | rfl
  | (have h60 : ckN l[i] ≠ 0 := by simpa using hg60
     rw [ckN_12' h60]; rfl))) ?_
              refine CW_skip ?_
              refine hK9 _ _ ?_
              refine CW_region ?_
              refine mvp (.int _ _) rfl ?_
              first | refine addI rfl rfl (by omega) ?_ | refine addW rfl rfl ?_
              refine asp (.int _ _) rfl ?_
              refine WL_nil ?_
              skip
              refine ⟨n - (i + 1), by omega, i + 1, rfl, by omega, rfl, rfl, rfl, ?_, hs⟩
              intro x hx
              rw [List.take_add_one, List.getElem?_eq_getElem hi3, List.mem_append] at hx
              rcases hx with hx | hx
              · exact hsz x hx
              · simp only [Option.toList_some, List.mem_singleton] at hx
                subst hx; exact h40
            · skip
              refine DW_qn hs 20 rfl (by kernel_rfl) rfl (by decide) rfl ?_
              refine DW_qn hs 21 rfl (by kernel_rfl) rfl (by decide) rfl ?_
              refine DW_qn hs 22 rfl (by kernel_rfl) rfl (by decide) rfl ?_
              refine DW_qn hs 23 rfl (by kernel_rfl) rfl (by decide) rfl ?_
              refine DW_l 24 rfl (by kernel_rfl) ?_
              refine WL_gn (g := 60) rfl (by decide) rfl ?_
              refine WL_nil ?_
              refine ⟨.inr hs.hold, ?_⟩
              refine DW_qn hs 25 rfl (by kernel_rfl) rfl (by decide) rfl ?_
              refine DW_qy hs 26 rfl (by kernel_rfl) rfl (by decide) rfl (fun w' hw' => X_pickF rfl rfl) ?_
              refine DW_q hs 27 rfl (by kernel_rfl) (fun w' hw' => X_pickF rfl rfl) ?_
              refine DW_e (by kernel_rfl) ?_
              refine hK13 _ _ ?_
              refine CW_condF rfl rfl ?_
              refine CW_skip ?_
              refine hK9 _ _ ?_
              refine CW_region ?_
              refine mvp (.int _ _) rfl ?_
              first | refine addI rfl rfl (by omega) ?_ | refine addW rfl rfl ?_
              refine asp (.int _ _) rfl ?_
              refine WL_nil ?_
              skip
              refine ⟨n - (i + 1), by omega, i + 1, rfl, by omega, rfl, rfl, rfl, ?_, hs⟩
              intro x hx
              rw [List.take_add_one, List.getElem?_eq_getElem hi3, List.mem_append] at hx
              rcases hx with hx | hx
              · exact hsz x hx
              · simp only [Option.toList_some, List.mem_singleton] at hx
                subst hx; exact h40
        · skip
          have hi2 : i = n := by simp at hc32; omega
          have hz : ∀ x ∈ l, x.size ≤ 100 := by rw [hi2, List.take_of_length_le (by omega)] at hsz; exact hsz
          obtain ⟨z, hzz⟩ : ∃ z, (if ckNs l = 0 then str (nsEnc l) else (⟨#[]⟩ : ByteArray)) = z := ⟨_, rfl⟩
          obtain ⟨y, hy⟩ : ∃ y, dnR s.data.toList = y := ⟨_, rfl⟩
          have hyl : y.1.length ≤ 256 := by rw [← hy]; exact dnR_len _
          have hzs : z.size ≤ 140737488355328 := by
            rw [← hzz]; split
            · rename_i h; have h1 := nsEnc_len h; have h2 := (ckNs_0 h).1; rw [str_size]; omega
            · exact Nat.zero_le _
          refine CW_exit ?_
          refine hK5 _ _ ?_
          refine CW_seq (fun K14 hK14 => ?_)
          refine CW_region ?_
          refine mvp (.slice _ _ _) rfl ?_
          refine cll (EncNames_ok l a n c _ (hs.rdS (l := [(a, n, sv l)]) (.head _)) hn (by omega)) ?_
          rintro _ w ⟨rfl, hf⟩
          replace hs := hs.call hf
          rw [hzz]
          refine mvp (.tuple _) rfl ?_
          refine ext rfl rfl ?_
          refine ext rfl rfl ?_
          refine asp (.string _) rfl ?_
          refine asp (.int _ _) rfl ?_
          refine WL_nil ?_
          refine hK14 _ _ ?_
          refine CW_seq (fun K15 hK15 => ?_)
          refine CW_region ?_
          refine mvp (.slice _ _ _) rfl ?_
          refine cll (rEncNames_ok l a n c _ (hs.rdS (l := [(a, n, sv l)]) (.head _)) hn (by omega) (fun x hx => by have := hz x hx; omega)) ?_
          rintro _ w ⟨rfl, hf⟩
          replace hs := hs.call hf
          rw [hzz]
          refine mvp (.tuple _) rfl ?_
          refine ext rfl rfl ?_
          refine ext rfl rfl ?_
          refine asp (.string _) rfl ?_
          refine asp (.int _ _) rfl ?_
          refine WL_nil ?_
          refine hK15 _ _ ?_
          refine CW_seq (fun K16 hK16 => ?_)
          refine CW_region ?_
          refine mvp (.string _) rfl ?_
          refine cll (DecNames_ok s _ (by omega)) ?_
          rintro _ w ⟨⟨a1, n1, c1, rfl, hn1, hnew⟩, hf⟩
          replace hs := hs.callR hf hnew
          rw [hy] at hs hn1
          rw [hy]
          refine mvp (.tuple _) rfl ?_
          refine ext rfl rfl ?_
          refine ext rfl rfl ?_
          refine asp (.slice _ _ _) rfl ?_
          refine asp (.int _ _) rfl ?_
          refine WL_nil ?_
          refine hK16 _ _ ?_
          refine CW_seq (fun K17 hK17 => ?_)
          refine CW_region ?_
          refine mvp (.string _) rfl ?_
          refine cll (rDecNames_ok s _ (by omega)) ?_
          rintro _ w ⟨⟨a2, n2, c2, rfl, hn2, hnew⟩, hf⟩
          replace hs := hs.callR hf hnew
          rw [hy] at hs hn2
          rw [hy]
          refine mvp (.tuple _) rfl ?_
          refine ext rfl rfl ?_
          refine ext rfl rfl ?_
          refine asp (.slice _ _ _) rfl ?_
          refine asp (.int _ _) rfl ?_
          refine WL_nil ?_
          refine hK17 _ _ ?_
          refine CW_seq (fun K18 hK18 => ?_)
          refine CW_seq (fun K19 hK19 => ?_)
          refine CW_region ?_
          refine mvp (.string _) rfl ?_
          refine mvp (.string _) rfl ?_
          refine neS rfl rfl ?_
          refine mvp (.bool _) rfl ?_
          refine WL_gyb (g := 92) rfl (by decide) rfl ((decide_eq_false (fun q => q rfl))) ?_
          refine mvp (.int _ _) rfl ?_
          refine WL_gy (g := 92) rfl (by decide) rfl ?_
          refine mvp (.int _ _) rfl ?_
          refine WL_gy (g := 92) rfl (by decide) rfl ?_
          refine neqW rfl rfl ?_
          first | refine pkT rfl rfl ?_ | refine pkF rfl rfl ?_
          refine mvp (.bool _) rfl ?_
          refine WL_gyb (g := 97) rfl (by decide) rfl ((decide_eq_false (fun q => q rfl))) ?_
          refine mvp (.slice _ _ _) rfl ?_
          refine WL_gy (g := 97) rfl (by decide) rfl ?_
          refine mvp (.slice _ _ _) rfl ?_
          refine WL_gy (g := 97) rfl (by decide) rfl ?_
          refine cll (Same_ok y.1 y.1 a1 a2 n1 c1 n2 c2 _ (hs.rd (a := a1)) hn1 (hs.rd (a := a2)) hn2 (by omega)) ?_
          rintro _ w ⟨rfl, hf⟩
          replace hs := hs.call hf
          rw [decide_eq_true rfl]
          refine WL_gy (g := 97) rfl (by decide) rfl ?_
          refine notW rfl ?_
          first | refine pkT rfl rfl ?_ | refine pkF rfl rfl ?_
          refine mvp (.bool _) rfl ?_
          refine WL_gyb (g := 103) rfl (by decide) rfl (rfl) ?_
          refine mvp (.int _ _) rfl ?_
          refine WL_gy (g := 103) rfl (by decide) rfl ?_
          refine mvp (.int _ _) rfl ?_
          refine WL_gy (g := 103) rfl (by decide) rfl ?_
          refine neqW rfl rfl ?_
          first | refine pkT rfl rfl ?_ | refine pkF rfl rfl ?_
          refine WL_nil ?_
          refine hK19 _ _ ?_
          refine CW_condF rfl ((decide_eq_false (fun q => q rfl))) ?_
          refine CW_skip ?_
          refine hK18 _ _ ?_
          refine CW_seq (fun K20 hK20 => ?_)
          refine CW_region ?_
          refine mvp (.string _) rfl ?_
          refine cll (DecNames_ok z _ hzs) ?_
          rintro _ w ⟨⟨a3, n3, c3, rfl, hn3, hnew⟩, hf⟩
          replace hs := hs.callR hf hnew
          obtain ⟨x, hx⟩ : ∃ x, dnR z.data.toList = x := ⟨_, rfl⟩
          rw [hx] at hs hn3
          rw [hx]
          have hx0 : ckNs l = 0 → x = (l, 0) := fun h => by
            rw [if_pos h] at hzz
            rw [← hx, ← hzz, data_str, dnR_enc h]
          have hxl : x.1.length ≤ 256 := by rw [← hx]; exact dnR_len _
          refine mvp (.tuple _) rfl ?_
          refine ext rfl rfl ?_
          refine ext rfl rfl ?_
          refine asp (.slice _ _ _) rfl ?_
          refine asp (.int _ _) rfl ?_
          refine WL_nil ?_
          refine hK20 _ _ ?_
          refine CW_seq (fun K21 hK21 => ?_)
          refine CW_region ?_
          refine mvp (.int _ _) rfl ?_
          refine neqW rfl rfl ?_
          refine mvp (.bool _) rfl ?_
          refine WL_g (g := 115) rfl (by decide) rfl (fun hg115 => ?_) (fun hg115 => ?_)
          · skip
            refine mvp (.int _ _) rfl ?_
            refine WL_gy (g := 115) rfl (by decide) rfl ?_
            refine eqlW rfl rfl ?_
            refine WL_gy (g := 115) rfl (by decide) rfl ?_
            refine mvp (.bool _) rfl ?_
            refine WL_gyb (g := 118) rfl (by decide) rfl ((by
have h : ckNs l = 0 := by simpa using hg115
rw [hx0 h]; rfl)) ?_
            refine mvp (.slice _ _ _) rfl ?_
            refine WL_gy (g := 118) rfl (by decide) rfl ?_
            refine mvp (.slice _ _ _) rfl ?_
            refine WL_gy (g := 118) rfl (by decide) rfl ?_
            refine cll (Same_ok x.1 l a3 a n3 c3 n c _ (hs.rd (a := a3)) hn3 (hs.rdS (l := [(a, n, sv l)]) (.head _)) hn (by omega)) ?_
            rintro _ w ⟨rfl, hf⟩
            replace hs := hs.call hf
            refine WL_gy (g := 115) rfl (by decide) rfl ?_
            first | refine pkT rfl rfl ?_ | refine pkF rfl rfl ?_
            first | refine pkT rfl rfl ?_ | refine pkF rfl rfl ?_
            refine asp (.bool _) rfl ?_
            refine WL_nil ?_
            refine hK21 _ _ ?_
            refine CW_ret ?_
            repeat (first | (with_reducible apply thenF_ret) | (with_reducible apply blockF_ret))
            try simp only [thenF, blockF, reduceIte]
            refine Post_r Tryz.results9 (.tmp rfl .nil) ?_
            try simp only [ev_tmp, ev_const, upd_ap, Nat.reduceLT, Nat.reduceEqDiff, reduceIte]
            refine ⟨?_, hs.fm⟩
            first
              | trivial
              | (have h : ckNs l = 0 := by simpa using hg115
                 rw [hx0 h, decide_eq_true rfl])
          · skip
            refine WL_gn (g := 115) rfl (by decide) rfl ?_
            refine WL_gn (g := 115) rfl (by decide) rfl ?_
            refine WL_gx (g := 118) rfl (by decide) rfl ?_
            refine WL_gx (g := 118) rfl (by decide) rfl ?_
            refine WL_gx (g := 118) rfl (by decide) rfl ?_
            refine WL_gn (g := 115) rfl (by decide) rfl ?_
            first | refine pkT rfl rfl ?_ | refine pkF rfl rfl ?_
            refine asp (.bool _) rfl ?_
            refine WL_nil ?_
            refine hK21 _ _ ?_
            refine CW_ret ?_
            repeat (first | (with_reducible apply thenF_ret) | (with_reducible apply blockF_ret))
            try simp only [thenF, blockF, reduceIte]
            refine Post_r Tryz.results9 (.tmp rfl .nil) ?_
            try simp only [ev_tmp, ev_const, upd_ap, Nat.reduceLT, Nat.reduceEqDiff, reduceIte]
            refine ⟨?_, hs.fm⟩
            first
              | trivial
              | (have h : ckNs l = 0 := by simpa using hg115
                 rw [hx0 h, decide_eq_true rfl])
  · skip
    refine WL_gn (g := 23) rfl (by decide) rfl ?_
    refine WL_gn (g := 23) rfl (by decide) rfl ?_
    first | refine pkT rfl rfl ?_ | refine pkF rfl rfl ?_
    refine WL_nil ?_
    refine hK3 _ _ ?_
    refine CW_condT rfl rfl ?_
    refine CW_seq (fun K22 hK22 => ?_)
    refine CW_region ?_
    refine cll (known28_ok _) ?_
    rintro _ w ⟨rfl, hf⟩
    replace hs := hs.call hf
    refine asp (.bool _) rfl ?_
    refine WL_nil ?_
    refine hK22 _ _ ?_
    refine CW_ret ?_
    repeat (first | (with_reducible apply thenF_ret) | (with_reducible apply blockF_ret))
    try simp only [thenF, blockF, reduceIte]
    refine Post_r Tryz.results9 (.tmp rfl .nil) ?_
    try simp only [ev_tmp, ev_const, upd_ap, Nat.reduceLT, Nat.reduceEqDiff, reduceIte]
    exact ⟨by trivial, hs.fm⟩
end Go.Proofs.YtkbldndbofbkcaaGreatDoor
/- The arguments of the laws about directories: births, texts. -/
namespace Go.Proofs.YtkbldndbofbkcaaGreatDoor
open Go Go.ChangeShapes Go.WideShapes Go.RowKit
set_option maxRecDepth 100000
section
variable {H : Type} {enc : TypeId × Value → H} {w : World} {base base' : Nat} {sp : Nat → Bool} {held : Bool} {r : Reach} {v : Value} {d : DataW H} {ps : List MemPlace}
theorem el_rb : ∀ fuel cs' y, DataW.trod enc Tryz.prog w base sp held fuel 80 cs' = some y → ∃ b : Bir, True ∧ cs' = birV b := fun fuel cs y h => by
  obtain ⟨xs, m, _, _, hl, hlen, hf⟩ := DataW.trod_struct Tryz.underlying80 h
  rw [show Tryz.prog.cellsOf 80 = 2 by kernel_rfl] at hl
  replace hlen : xs.length = 2 := hlen
  match cs, hl with
  | [c0, c1], _ =>
    have g0 := (hf 0 _ rfl).trans (List.getElem?_eq_getElem (by omega))
    have g1 := (hf 1 _ rfl).trans (List.getElem?_eq_getElem (by omega))
    rw [show Tryz.prog.cellsOf _ = 1 by kernel_rfl] at g0 g1
    obtain ⟨t, e0, _⟩ := trod_s Tryz.underlying9 g0
    obtain ⟨n, e1, _⟩ := trod_i Tryz.underlying3 g1
    refine ⟨⟨t, n⟩, trivial, ?_⟩
    injection e0 with e0; injection e1 with e1
    subst e0 e1
    rfl
theorem arg_rb (hval : Value.okWide Tryz.prog w r base' 80 v) (hd : DataW.Trod enc Tryz.prog w base sp held 80 v d ps) : ∃ b : Bir, v = .agg (birV b).toArray := by
  obtain ⟨cs, rfl, hsz⟩ := okWide_struct Tryz.underlying80 hval
  obtain ⟨fuel, h⟩ := hd
  obtain ⟨b, _, e⟩ := el_rb _ _ _ h
  obtain ⟨cs⟩ := cs
  replace e : cs = birV b := e
  subst e
  exact ⟨b, rfl⟩
theorem cells_sl {P : Program} {t e : TypeId} (ht : P.underlying t = some (.slice e)) (hval : Value.okWide P w r base' t v) : v.cells.toList = [v] := by
  unfold Value.okWide at hval
  rw [ht] at hval
  unfold Cell.okWide at hval
  cases v <;> simp_all [Value.cells, Cell.ok]
theorem el_s : ∀ fuel cs' y, DataW.trod enc Tryz.prog w base sp held fuel 9 cs' = some y → ∃ s : ByteArray, True ∧ cs' = [.string s] := fun fuel cs y h => by
  obtain ⟨t, e0, _⟩ := trod_s Tryz.underlying9 h
  exact ⟨t, trivial, e0⟩
theorem strs_sv (us : List ByteArray) : us.flatMap (fun u => [Value.string u]) = sv us := by
  unfold sv; induction us <;> simp_all
theorem arg_strs (hval : Value.okWide Tryz.prog w r base' 66 v) (hd : DataW.Trod enc Tryz.prog w base sp held 66 v d ps) :
    ∃ (a : Option Addr) (n c : Nat) (us : List ByteArray), v = .slice a n c ∧ n = us.length ∧ Rd w a n 1 (sv us) := by
  obtain ⟨fuel, h⟩ := hd
  rw [cells_sl Tryz.underlying66 hval] at h
  obtain ⟨a, n, c, us, e, hn, _, _, _, hr⟩ := trod_sl (m := 1) (fun u : ByteArray => [Value.string u]) (fun _ => True) Tryz.underlying66 (by kernel_rfl) (by decide) el_s h
  injection e with e
  rw [strs_sv] at hr
  exact ⟨a, n, c, us, e, hn, hr⟩
end
end Go.Proofs.YtkbldndbofbkcaaGreatDoor
/- For any names and any text, DirectoryValues returns true: EncodeNames and DecodeNames are inverse to each other and return the stated errors (the statement's tied card). No condition. -/
namespace Go.Proofs.YtkbldndbofbkcaaGreatDoor
open Go Go.ChangeShapes Go.WideShapes Go.RowKit
theorem directoryValues_types : ∀ t ∈ Tryz.f9.params.toList, Tryz.prog.readableRec t = true ∧ t < Tryz.prog.types.size := by
  rw [Tryz.params9]; intro t ht; simp at ht
  first | (subst ht; exact ⟨by kernel_rfl, of_decide_eq_true (by kernel_rfl)⟩) | (rcases ht with rfl | rfl <;> exact ⟨by kernel_rfl, of_decide_eq_true (by kernel_rfl)⟩) | (rcases ht with rfl | rfl | rfl <;> exact ⟨by kernel_rfl, of_decide_eq_true (by kernel_rfl)⟩)
set_option maxRecDepth 100000 in
theorem directoryValues_lifted (os : Os) (started : os.Started) (H : Type) (enc : TypeId × Value → H) :
    ReturnsInHanded {} Tryz.checked os 9 .any (fun w args => (Rows.directoryValuesSpec.pre enc Tryz.prog Tryz.f9 [] false w args ∧ laidMetH Tryz.prog laid5 w) ∧ sizedMet enc Tryz.prog Tryz.f9 (OpenSpec.ofChange Rows.directoryValuesSpec) false w args)
      (Rows.directoryValuesSpec.post enc Tryz.prog Tryz.f9 false true false false) := by
  refine returnsInHanded_of_change_and (C := Tryz.checked) (X := fun w _ => laidMetH Tryz.prog laid5 w) (fun _ _ _ hh h => h.of_heap hh) own started (by kernel_rfl) Tryz.func9
    (ChangeSpec.witness_shaped (enc := enc) (C := Tryz.checked) (os := os) (X := fun w _ => laidMetH Tryz.prog laid5 w) false (World.doorLaid Tryz.prog 400 os) #[.slice none 0 0, .string ⟨#[]⟩] 8 rfl (World.shaped_of_RefB (by kernel_rfl) (by kernel_rfl)) (by kernel_rfl) (by kernel_rfl) (by kernel_rfl) (door_met os _)) ?_
  intro W base args ds gs before hval0 hW _ _ _ _
  have hval : ∀ (j : Nat) t v, Tryz.f9.params[j]? = some t → args[j]? = some v → Value.okWide Tryz.prog W .any base t v := hval0
  have hW' := hW
  obtain ⟨p, q, hA0, hV, rfl, _, _⟩ := hW
  have hA : DataW.TrodAll enc Tryz.prog W 0 (fun _ => true) true Tryz.f9.params.toList args.toList ds p := hA0
  rw [Tryz.params9] at hA hval
  obtain ⟨v0, v1, d0, d1, p0, p1, rfl, rfl, rfl, h0, h1⟩ := trodAll_two hA
  obtain ⟨rfl, rfl⟩ := trodVars_none hV
  obtain ⟨a, n, c, us, rfl, hn, hr⟩ := arg_strs (hval 0 _ v0 rfl rfl) h0
  obtain ⟨s, rfl, rfl, rfl, _⟩ := ChangeMaps.open_string Tryz.underlying9 (hval 1 _ v1 rfl rfl) h1
  exact law_calls rfl rfl directoryValues_types hW' rfl (directoryValues_ok us a n c s W hr hn)
theorem directoryValues_j1 : Rows.directoryValuesRow.wf (OpenSpec.ofChange Rows.directoryValuesSpec) = true := by kernel_rfl
theorem directoryValues_j4 : Tryz.f9.params.all (Tryz.prog.readableRec ·) = true := by kernel_rfl
theorem directoryValues_j5 : namedTie Tryz.prog Rows.directoryValuesRow.named Rows.directoryValuesSpec.vars = true := by kernel_rfl
theorem directoryValues_j6 : (Rows.directoryValuesRow.stops == []) = true := by kernel_rfl
theorem directoryValues_j8 : (Rows.directoryValuesRow.knobs == []) = true := by kernel_rfl
theorem directoryValues_j10 : (Rows.directoryValuesRow.inPlace == Tryz.prog.inPlace 9) = true := by kernel_rfl
theorem directoryValues_j11 : (Rows.directoryValuesRow.unfollowed == Tryz.prog.unfollowed 9) = true := by kernel_rfl
theorem directoryValues_j12 : (Rows.directoryValuesRow.recurses == Tryz.prog.recurses 9) = true := by kernel_rfl
theorem directoryValues_j13 : (Rows.directoryValuesRow.named == Tryz.prog.varsNamed 9) = true := by kernel_rfl
theorem directoryValues_j14 : (Rows.directoryValuesRow.maps == (Tryz.f9.params.toList ++ Rows.directoryValuesSpec.plain.varTypes Tryz.prog).any (Tryz.prog.mapsRec ·)) = true := by kernel_rfl
theorem directoryValues_j15 : (Rows.directoryValuesRow.ifaces == (Tryz.f9.params.toList ++ Rows.directoryValuesSpec.plain.varTypes Tryz.prog).any (Tryz.prog.ifacesRec ·)) = true := by kernel_rfl
theorem directoryValues_j16 : (Rows.directoryValuesRow.mapsOut == Tryz.prog.mapsAmong Tryz.f9.resultTypes.toList) = true := by kernel_rfl
theorem directoryValues_j17 : (Rows.directoryValuesRow.loops == (Tryz.f9.params.toList ++ Rows.directoryValuesSpec.plain.varTypes Tryz.prog).any (Tryz.prog.loopsFrom ·)) = true := by kernel_rfl
theorem directoryValues_j18 : (Rows.directoryValuesRow.wideKeys == (Tryz.f9.params.toList ++ Rows.directoryValuesSpec.plain.varTypes Tryz.prog ++ Tryz.f9.resultTypes.toList).any (Tryz.prog.wideKeysFrom ·)) = true := by kernel_rfl
theorem directoryValues_j19 : Rows.directoryValuesSpec.vars.all (Tryz.prog.varReadable ·) = true := by kernel_rfl
theorem directoryValues_j20 : Tryz.f9.resultTypes.all (fun t => Tryz.prog.readableRec t && decide (t < Tryz.prog.types.size)) = true := by kernel_rfl
theorem directoryValues_j21 : (Rows.directoryValuesRow.ifacesOut == Tryz.f9.resultTypes.toList.any (Tryz.prog.ifacesRec ·)) = true := by kernel_rfl
theorem directoryValues_j22 : (Rows.directoryValuesRow.loopsOut == Tryz.f9.resultTypes.toList.any (Tryz.prog.loopsFrom ·)) = true := by kernel_rfl
theorem directoryValues_j23 : (Rows.directoryValuesRow.plainKeys == Tryz.prog.plainKeys) = true := p_keys
theorem directoryValues_j24 : Rows.directoryValuesRow.shortTexts.isNone = true := by kernel_rfl
theorem directoryValues_j27 : (Rows.directoryValuesRow.lifted == Tryz.prog.liftsFinal) = true := p_lift
theorem directoryValues_j28 : (Tryz.prog.make == some Rows.directoryValuesRow.make) = true := p_make
theorem directoryValues_j30 : (Rows.directoryValuesRow.pinned == Rows.directoryValuesRow.pinnedBy) = true := by kernel_rfl
theorem directoryValues_j31 : (Rows.directoryValuesRow.veiled == (Tryz.f9.params.toList ++ Rows.directoryValuesSpec.plain.varTypes Tryz.prog ++ Tryz.f9.resultTypes.toList).any (Tryz.prog.veiledRec ·)) = true := by kernel_rfl
theorem directoryValues_j32 : Rows.directoryValuesRow.veiledFits Tryz.prog Tryz.f9.params.toList (Tryz.f9.params.toList ++ Rows.directoryValuesSpec.plain.varTypes Tryz.prog ++ Tryz.f9.resultTypes.toList) = true := by kernel_rfl
theorem directoryValues_joined : joinedFacts Tryz.prog 9 Tryz.f9 Rows.directoryValuesSpec Rows.directoryValuesRow = true :=
  joined_of directoryValues_j1 laidOut p_maps directoryValues_j4 directoryValues_j5 directoryValues_j6 p_stops directoryValues_j8 p_knobs directoryValues_j10 directoryValues_j11 directoryValues_j12 directoryValues_j13 directoryValues_j14 directoryValues_j15 directoryValues_j16 directoryValues_j17 directoryValues_j18 directoryValues_j19 directoryValues_j20 directoryValues_j21 directoryValues_j22 directoryValues_j23 directoryValues_j24 p_heard p_enter directoryValues_j27 directoryValues_j28 rfl rfl directoryValues_j30 directoryValues_j31 directoryValues_j32
theorem directoryValues_named : Tryz.prog.funcNamed "replevin/replevinlaw28.DirectoryValues" = some 9 := by kernel_rfl
theorem directoryValues_inst : Tryz.f9.isInstance Tryz.prog Rows.directoryValuesRow.origin Rows.directoryValuesRow.targs := of_decide_eq_true (by kernel_rfl)
theorem directoryValues_wrap : Tryz.f9.isWrapper Tryz.prog Rows.directoryValuesRow.wrapper Rows.directoryValuesRow.mainSum := by unfold Func.isWrapper; rw [if_neg (of_decide_eq_false (by kernel_rfl))]; exact ⟨rfl, rfl⟩
theorem directoryValues_said : Rows.DirectoryValuesSaid :=
  OpenClaim.holds_of_wide 9 Tryz.f9 rfl rfl rfl rfl rfl rfl rfl ⟨rfl, rfl, rfl, rfl, rfl⟩ rfl rfl rfl rfl rfl directoryValues_named Tryz.func9 directoryValues_joined directoryValues_inst directoryValues_wrap (fun os started H enc _ => directoryValues_lifted os started H enc)
theorem directoryValues_want0 : Tryz.prog.wantsStandIn 66 = false := by kernel_rfl
theorem directoryValues_want1 : Tryz.prog.wantsStandIn 9 = false := by kernel_rfl
theorem directoryValues_wf : Rows.directoryValuesRow.wfByText (OpenSpec.ofChange Rows.directoryValuesSpec) = true := by kernel_rfl
theorem directoryValues_goes : false = Rows.directoryValuesRow.goesBy Tryz.prog := by kernel_rfl
theorem directoryValues_plain : ∀ f fn, Tryz.prog.funcNamed "replevin/replevinlaw28.DirectoryValues" = some f → Tryz.prog.funcs[f]? = some fn → true = Tryz.prog.looks [] ∧ ∀ (j : Nat) t, fn.params[j]? = some t → Tryz.prog.wantsStandIn t = false := fun f fn hf hfn => by
  obtain rfl : f = 9 := (Option.some.inj (directoryValues_named.symm.trans hf)).symm
  obtain rfl : fn = Tryz.f9 := (Option.some.inj (Tryz.func9.symm.trans hfn)).symm
  refine ⟨p_looks, fun j t ht => ?_⟩
  rw [Tryz.params9] at ht
  have hm := List.mem_of_getElem? (by simpa using ht)
  simp at hm
  rcases hm with rfl | rfl
  · exact directoryValues_want0
  · exact directoryValues_want1
theorem directoryValues_holds : Rows.DirectoryValuesCardSaid :=
  Claim7.holds_tied_plain_at .later [] [.data, .data, .data, .sentinel, .sentinel] true (true, "2a6453758fad6cc53dd7f591497998820b78589a43cd8ac577ef6ff2b26842bc") true
    directoryValues_said (fun _ h => by cases h) directoryValues_wf (fun _ h => by cases h) directoryValues_row_tie rfl ⟨rfl, rfl⟩ p_main rfl directoryValues_plain directoryValues_goes
#print axioms directoryValues_holds
end Go.Proofs.YtkbldndbofbkcaaGreatDoor
