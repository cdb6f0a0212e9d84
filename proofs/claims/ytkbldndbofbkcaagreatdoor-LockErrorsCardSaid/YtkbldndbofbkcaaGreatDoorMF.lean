/- replevinlaw34: birth, name, same, check. | replevinlaw34: check, value, parse. | replevinlaw34: known. -/
import Derived.Test.YtkbldndbofbkcaaGreatDoorME
import Derived.Test.YtkbldndbofbkcaaGreatDoorMA
set_option linter.unusedSimpArgs false
set_option linter.unusedVariables false
/- replevinlaw34: birth, name, same, check. -/
namespace Go.Proofs.YtkbldndbofbkcaaGreatDoor
open Go Go.RowKit
attribute [local irreducible] WL CW DW Ret RW
def fB (n : Nat) : Bir := ⟨⟨#[49]⟩, (n % 3 : Nat)⟩
theorem birth_ok (n : Nat) (w0 : World) (hn : n < 256) : Ret Tryz.prog 24 #[.int .u8 n] w0 fun v w' => v = .agg (birV (fB n)).toArray ∧ Fm [] w0 w' := by
  have hs := St.init w0 []
  have e4 : ((n : Int)).tmod 3 = ((n % 3 : Nat) : Int) := rfl
  refine Ret_enter Tryz.func24 rfl Tryz.ntmps24 (by simp) ?_
  refine CW_seq (fun K1 hK1 => ?_)
  refine CW_region ?_
  refine alc hs ?_
  intro w g2 hs hg2 hf2
  refine WL_nil ?_
  refine hK1 _ _ ?_
  refine CW_seq (fun K2 hK2 => ?_)
  refine CW_region ?_
  refine mvp (.int _ _) rfl ?_
  refine remW rfl rfl (by decide) ?_
  rw [e4]
  first | refine cviI rfl (by omega) ?_ | refine cviW rfl ?_
  refine WL_v (v := .agg (birV (fB n)).toArray) (X_build rfl rfl) ?_
  refine sto (.agg (birV (fB n)).toArray) (vl := birV (fB n)) hs rfl rfl rfl rfl (by simp) rfl ?_
  intro w hs _
  replace hs : St w0 _ w [eB g2 true (Blk 44 (birV (fB n)))] := hs
  refine WL_nil ?_
  refine hK2 _ _ ?_
  refine CW_ret ?_
  repeat (first | (with_reducible apply thenF_ret) | (with_reducible apply blockF_ret))
  try simp only [thenF, blockF, reduceIte]
  refine Post_r Tryz.results24 (.cell rfl (lvA hs (by simp)) .nil) ?_
  try simp only [ev_tmp, ev_const, upd_ap, Nat.reduceLT, Nat.reduceEqDiff, reduceIte]
  exact ⟨by trivial, hs.fm⟩
def nmB (k : Nat) : List UInt8 := [UInt8.ofNat (49 + k / 10), UInt8.ofNat (48 + k % 10)]
def nm (n : Nat) : ByteArray := str (nmB (n % 40))
theorem nm_hi : ∀ k : Fin 40, IntKind.u8.wrap (49 + IntKind.u8.wrap (IntKind.i64.wrap ((k.val : Int).tdiv 10))) = ((UInt8.ofNat (49 + k.val / 10)).toNat : Int) := by decide +kernel
theorem nm_lo : ∀ k : Fin 40, IntKind.u8.wrap (48 + IntKind.u8.wrap ((k.val : Int).tmod 10)) = ((UInt8.ofNat (48 + k.val % 10)).toNat : Int) := by decide +kernel
theorem name_ok (n : Nat) (w0 : World) (hn : n < 256) : Ret Tryz.prog 25 #[.int .u8 n] w0 fun v w' => v = .string (nm n) ∧ Fm [] w0 w' := by
  have hs := St.init w0 []
  obtain ⟨k, hk⟩ : ∃ k, n % 40 = k := ⟨_, rfl⟩
  have hk40 : k < 40 := by omega
  have e6 : ((n : Int)).tmod 40 = (k : Int) := by rw [← hk]; rfl
  have e1 := nm_hi ⟨k, hk40⟩
  have e2 := nm_lo ⟨k, hk40⟩
  simp only at e1 e2
  refine Ret_enter Tryz.func25 rfl Tryz.ntmps25 (by simp) ?_
  refine CW_seq (fun K1 hK1 => ?_)
  refine CW_region ?_
  refine asp (.string _) rfl ?_
  refine WL_nil ?_
  refine hK1 _ _ ?_
  refine CW_seq (fun K2 hK2 => ?_)
  refine CW_region ?_
  refine mvp (.int _ _) rfl ?_
  first | refine cviI rfl (by omega) ?_ | refine cviW rfl ?_
  refine remW rfl rfl (by decide) ?_
  rw [e6]
  refine asp (.int _ _) rfl ?_
  refine WL_nil ?_
  refine hK2 _ _ ?_
  refine CW_seq (fun K3 hK3 => ?_)
  refine CW_region ?_
  refine mvp (.int _ _) rfl ?_
  refine quoW rfl rfl (by omega) ?_
  refine cviW rfl ?_
  refine addW rfl rfl ?_
  rw [e1]
  refine mvp (.int _ _) rfl ?_
  refine remW rfl rfl (by omega) ?_
  refine cviW rfl ?_
  refine addW rfl rfl ?_
  rw [e2]
  refine W_bslice hs (BS.ii rfl (BS.ii rfl .nil)) rfl (by simp) ?_
  intro w g15 hs hg15 hf15
  have hrd : Rd w (some ⟨g15, 0, none⟩) 2 1 (bv (nmB k)) := rdB hs (by simp) rfl
  refine WL_v (X_cvStr rfl hrd rfl) ?_
  refine asp (.string _) rfl ?_
  refine WL_nil ?_
  refine hK3 _ _ ?_
  refine CW_ret ?_
  repeat (first | (with_reducible apply thenF_ret) | (with_reducible apply blockF_ret))
  try simp only [thenF, blockF, reduceIte]
  refine Post_r Tryz.results25 (.tmp rfl .nil) ?_
  try simp only [ev_tmp, ev_const, upd_ap, Nat.reduceLT, Nat.reduceEqDiff, reduceIte]
  exact ⟨by rw [nm, hk], hs.fm⟩
def lkSame (a b : Lk) : Bool := decide (a = b)
theorem ba_ext {a b : ByteArray} (h : a.data.toList = b.data.toList) : a = b := by
  cases a; cases b; simp at h; rw [h]
theorem same_ok (l k : Lk) (a b : Option Addr) (n c m e : Nat) (w0 : World) (hr : Rd w0 a n 1 (sv l.hs)) (hn : n = l.hs.length) (hr2 : Rd w0 b m 1 (sv k.hs)) (hm : m = k.hs.length) (hl : n ≤ 9223372036854775807) :
    Ret Tryz.prog 20 #[.agg (lkV l.ep l.sh a n c).toArray, .agg (lkV k.ep k.sh b m e).toArray] w0 fun v w' => v = .bool (lkSame l k) ∧ Fm [] w0 w' := by
  have hs := St.initS2 hr hr2
  refine Ret_enter Tryz.func20 rfl Tryz.ntmps20 (by simp) ?_
  refine CW_seq (fun K1 hK1 => ?_)
  refine CW_region ?_
  refine bx (.agg (lkV l.ep l.sh a n c).toArray) (vl := lkV l.ep l.sh a n c) hs rfl rfl ?_
  intro w g2 hs hg2 hf2
  unfold lkV at hs
  refine bx (.agg (lkV k.ep k.sh b m e).toArray) (vl := lkV k.ep k.sh b m e) hs rfl rfl ?_
  intro w g3 hs hg3 hf3
  unfold lkV at hs
  refine asp (.bool _) rfl ?_
  refine WL_nil ?_
  refine hK1 _ _ ?_
  refine CW_seq (fun K2 hK2 => ?_)
  refine CW_seq (fun K3 hK3 => ?_)
  refine CW_region ?_
  refine fad rfl ?_
  refine ld hs rfl rfl ?_
  refine fad rfl ?_
  refine ld hs rfl rfl ?_
  refine neqW rfl rfl ?_
  refine mvp (.bool _) rfl ?_
  refine WL_g (g := 11) rfl (by decide) rfl (fun hg11 => ?_) (fun hg11 => ?_)
  · skip
    refine fad rfl ?_
    refine WL_gy (g := 11) rfl (by decide) rfl ?_
    refine ld hs rfl rfl ?_
    refine WL_gy (g := 11) rfl (by decide) rfl ?_
    refine fad rfl ?_
    refine WL_gy (g := 11) rfl (by decide) rfl ?_
    refine ld hs rfl rfl ?_
    refine WL_gy (g := 11) rfl (by decide) rfl ?_
    refine WL_v (X_neB rfl rfl) ?_
    first | refine pkT rfl rfl ?_ | refine pkF rfl rfl ?_
    refine mvp (.bool _) rfl ?_
    refine WL_g (g := 18) rfl (by decide) rfl (fun hg18 => ?_) (fun hg18 => ?_)
    · skip
      refine fad rfl ?_
      refine WL_gy (g := 18) rfl (by decide) rfl ?_
      refine ld hs rfl rfl ?_
      refine WL_gy (g := 18) rfl (by decide) rfl ?_
      refine lenW rfl ?_
      refine WL_gy (g := 18) rfl (by decide) rfl ?_
      refine fad rfl ?_
      refine WL_gy (g := 18) rfl (by decide) rfl ?_
      refine ld hs rfl rfl ?_
      refine WL_gy (g := 18) rfl (by decide) rfl ?_
      refine lenW rfl ?_
      refine WL_gy (g := 18) rfl (by decide) rfl ?_
      refine neqW rfl rfl ?_
      first | refine pkT rfl rfl ?_ | refine pkF rfl rfl ?_
      refine WL_nil ?_
      refine hK3 _ _ ?_
      refine CW_cond rfl (fun hc26 => ?_) (fun hc26 => ?_)
      · skip
        refine CW_seq (fun K4 hK4 => ?_)
        refine CW_region ?_
        refine asp (.bool _) rfl ?_
        refine WL_nil ?_
        refine hK4 _ _ ?_
        refine CW_ret ?_
        repeat (first | (with_reducible apply thenF_ret) | (with_reducible apply blockF_ret))
        try simp only [thenF, blockF, reduceIte]
        refine Post_r Tryz.results20 (.tmp rfl .nil) ?_
        try simp only [ev_tmp, ev_const, upd_ap, Nat.reduceLT, Nat.reduceEqDiff, reduceIte]
        refine ⟨?_, hs.fm⟩
        rw [lkSame, decide_eq_false]
        rintro rfl
        first
          | (simp at hg11; done)
          | (simp at hg18; done)
          | (simp at hc26; omega)
      · have hd : l.ep = k.ep ∧ l.sh = k.sh ∧ n = m := by
          refine ⟨by simpa using hg11, ?_, ?_⟩
          · simpa using hg18
          · simp at hc26; omega
        obtain ⟨hd1, hd2, rfl⟩ := hd
        refine CW_skip ?_
        refine hK2 _ _ ?_
        refine CW_seq (fun K5 hK5 => ?_)
        refine CW_seq (fun K6 hK6 => ?_)
        refine CW_region ?_
        refine asp (.int _ _) rfl ?_
        refine WL_nil ?_
        refine hK6 _ _ ?_
        refine CW_block ?_
        refine CW_loop (fun kk f w' => ∃ i : Nat, kk = n - i ∧ i ≤ n ∧ f 2 = .pointer (some ⟨g2, 0, none⟩) ∧ f 3 = .pointer (some ⟨g3, 0, none⟩) ∧ f 5 = .int .i64 i ∧ l.hs.take i = k.hs.take i ∧ St w0 [] w' [eB g3 true (Blk 24 [.int .i64 k.ep, .bool k.sh, .slice b n e]), eB g2 true (Blk 24 [.int .i64 l.ep, .bool l.sh, .slice a n c]), eS [(a, n, sv l.hs), (b, n, sv k.hs)]]) n ?_ ?_
        · exact ⟨0, by omega, by omega, rfl, rfl, rfl, by simp, hs⟩
        · rintro kk f w1 ⟨i, rfl, hi, e2, e3, e5, hh, hs⟩
          refine CW_kn (i := 2) e2 (CW_kn (i := 3) e3 (CW_kn (i := 5) e5 ?_))
          refine CW_seq (fun K7 hK7 => ?_)
          refine CW_seq (fun K8 hK8 => ?_)
          refine CW_region ?_
          refine mvp (.int _ _) rfl ?_
          refine fad rfl ?_
          refine ld hs rfl rfl ?_
          refine lenW rfl ?_
          refine lssW rfl rfl ?_
          refine WL_nil ?_
          refine hK8 _ _ ?_
          refine CW_cond rfl (fun hc31 => ?_) (fun hc31 => ?_)
          · have hi2 : i < n := by simpa using hc31
            have hi3 : i < l.hs.length := by omega
            have hi4 : i < k.hs.length := by omega
            obtain ⟨b1, o1, rfl, hcell⟩ := sv_at (hr.fm hs.fm) hi3
            obtain ⟨b2, o2, rfl, hcell2⟩ := sv_at (hr2.fm hs.fm) hi4
            refine CW_skip ?_
            refine hK7 _ _ ?_
            refine CW_seq (fun K9 hK9 => ?_)
            refine CW_block ?_
            refine CW_seq (fun K10 hK10 => ?_)
            refine DW_sH hs 999 ?_
            intro w hs _
            refine DW_q hs 0 rfl (by kernel_rfl) (fun w' hw' => X_fieldAddr rfl rfl) ?_
            refine DW_q hs 1 rfl (by kernel_rfl) (fun w' hw' => X_ldH hw' rfl rfl) ?_
            refine DW_q hs 2 rfl (by kernel_rfl) (fun w' hw' => X_move (v := (.int _ _)) rfl) ?_
            refine DW_q hs 3 rfl (by kernel_rfl) (fun w' hw' => X_indexAddr rfl rfl (by omega) (by omega) rfl) ?_
            refine DW_q hs 4 rfl (by kernel_rfl) (fun w' hw' => X_ldS (xs := sv l.hs) (j := i) (v := .string l.hs[i]) hw' (.head _) (by simp [sv, hi3]) rfl) ?_
            refine DW_q hs 5 rfl (by kernel_rfl) (fun w' hw' => X_fieldAddr rfl rfl) ?_
            refine DW_q hs 6 rfl (by kernel_rfl) (fun w' hw' => X_ldH hw' rfl rfl) ?_
            refine DW_q hs 7 rfl (by kernel_rfl) (fun w' hw' => X_move (v := (.int _ _)) rfl) ?_
            refine DW_q hs 8 rfl (by kernel_rfl) (fun w' hw' => X_indexAddr rfl rfl (by omega) (by omega) rfl) ?_
            refine DW_q hs 9 rfl (by kernel_rfl) (fun w' hw' => X_ldS (xs := sv k.hs) (j := i) (v := .string k.hs[i]) hw' (.tail _ (.head _)) (by simp [sv, hi4]) rfl) ?_
            refine DW_q hs 10 rfl (by kernel_rfl) (fun w' hw' => X_neS rfl rfl) ?_
            refine DW_e (by kernel_rfl) ?_
            refine hK10 _ _ ?_
            refine CW_cond rfl (fun hc44 => ?_) (fun hc44 => ?_)
            · skip
              refine CW_seq (fun K11 hK11 => ?_)
              refine CW_region ?_
              refine asp (.bool _) rfl ?_
              refine WL_nil ?_
              refine hK11 _ _ ?_
              refine CW_ret ?_
              repeat (first | (with_reducible apply thenF_ret) | (with_reducible apply blockF_ret))
              try simp only [thenF, blockF, reduceIte]
              refine Post_r Tryz.results20 (.tmp rfl .nil) ?_
              try simp only [ev_tmp, ev_const, upd_ap, Nat.reduceLT, Nat.reduceEqDiff, reduceIte]
              refine ⟨?_, hs.fm⟩
              rw [lkSame, decide_eq_false]
              rintro rfl
              simp at hc44
            · skip
              refine CW_skip ?_
              refine hK9 _ _ ?_
              refine CW_region ?_
              refine mvp (.int _ _) rfl ?_
              first | refine addI rfl rfl (by omega) ?_ | refine addW rfl rfl ?_
              refine asp (.int _ _) rfl ?_
              refine WL_nil ?_
              skip
              refine ⟨n - (i + 1), by omega, i + 1, rfl, by omega, rfl, rfl, rfl, ?_, hs⟩
              rw [List.take_add_one, List.take_add_one, hh, List.getElem?_eq_getElem hi3, List.getElem?_eq_getElem hi4]
              have h44 : l.hs[i] = k.hs[i] := ba_ext (by simpa using hc44)
              rw [h44]
          · skip
            refine CW_exit ?_
            refine hK5 _ _ ?_
            refine CW_seq (fun K12 hK12 => ?_)
            refine CW_region ?_
            refine asp (.bool _) rfl ?_
            refine WL_nil ?_
            refine hK12 _ _ ?_
            refine CW_ret ?_
            repeat (first | (with_reducible apply thenF_ret) | (with_reducible apply blockF_ret))
            try simp only [thenF, blockF, reduceIte]
            refine Post_r Tryz.results20 (.tmp rfl .nil) ?_
            try simp only [ev_tmp, ev_const, upd_ap, Nat.reduceLT, Nat.reduceEqDiff, reduceIte]
            refine ⟨?_, hs.fm⟩
            rw [lkSame, decide_eq_true]
            have hi2 : i = n := by simp at hc31; omega
            rw [hi2, List.take_of_length_le (by omega), List.take_of_length_le (by omega)] at hh
            cases l; cases k
            simp at hd1 hd2 hh ⊢
            exact ⟨hd1, hd2, hh⟩
    · skip
      refine WL_gn (g := 18) rfl (by decide) rfl ?_
      refine WL_gn (g := 18) rfl (by decide) rfl ?_
      refine WL_gn (g := 18) rfl (by decide) rfl ?_
      refine WL_gn (g := 18) rfl (by decide) rfl ?_
      refine WL_gn (g := 18) rfl (by decide) rfl ?_
      refine WL_gn (g := 18) rfl (by decide) rfl ?_
      first | refine pkT rfl rfl ?_ | refine pkF rfl rfl ?_
      refine WL_nil ?_
      refine hK3 _ _ ?_
      refine CW_condT rfl rfl ?_
      refine CW_seq (fun K13 hK13 => ?_)
      refine CW_region ?_
      refine asp (.bool _) rfl ?_
      refine WL_nil ?_
      refine hK13 _ _ ?_
      refine CW_ret ?_
      repeat (first | (with_reducible apply thenF_ret) | (with_reducible apply blockF_ret))
      try simp only [thenF, blockF, reduceIte]
      refine Post_r Tryz.results20 (.tmp rfl .nil) ?_
      try simp only [ev_tmp, ev_const, upd_ap, Nat.reduceLT, Nat.reduceEqDiff, reduceIte]
      refine ⟨?_, hs.fm⟩
      rw [lkSame, decide_eq_false]
      rintro rfl
      first
        | (simp at hg11; done)
        | (simp at hg18; done)
        | (simp at hc26; omega)
  · skip
    refine WL_gn (g := 11) rfl (by decide) rfl ?_
    refine WL_gn (g := 11) rfl (by decide) rfl ?_
    refine WL_gn (g := 11) rfl (by decide) rfl ?_
    refine WL_gn (g := 11) rfl (by decide) rfl ?_
    first | refine pkT rfl rfl ?_ | refine pkF rfl rfl ?_
    refine mvp (.bool _) rfl ?_
    refine WL_gn (g := 18) rfl (by decide) rfl ?_
    refine WL_gn (g := 18) rfl (by decide) rfl ?_
    refine WL_gn (g := 18) rfl (by decide) rfl ?_
    refine WL_gn (g := 18) rfl (by decide) rfl ?_
    refine WL_gn (g := 18) rfl (by decide) rfl ?_
    refine WL_gn (g := 18) rfl (by decide) rfl ?_
    refine WL_gn (g := 18) rfl (by decide) rfl ?_
    first | refine pkT rfl rfl ?_ | refine pkF rfl rfl ?_
    refine WL_nil ?_
    refine hK3 _ _ ?_
    refine CW_condT rfl rfl ?_
    refine CW_seq (fun K14 hK14 => ?_)
    refine CW_region ?_
    refine asp (.bool _) rfl ?_
    refine WL_nil ?_
    refine hK14 _ _ ?_
    refine CW_ret ?_
    repeat (first | (with_reducible apply thenF_ret) | (with_reducible apply blockF_ret))
    try simp only [thenF, blockF, reduceIte]
    refine Post_r Tryz.results20 (.tmp rfl .nil) ?_
    try simp only [ev_tmp, ev_const, upd_ap, Nat.reduceLT, Nat.reduceEqDiff, reduceIte]
    refine ⟨?_, hs.fm⟩
    rw [lkSame, decide_eq_false]
    rintro rfl
    first
      | (simp at hg11; done)
      | (simp at hg18; done)
      | (simp at hc26; omega)
end Go.Proofs.YtkbldndbofbkcaaGreatDoor
/- replevinlaw34: check, value, parse. -/
namespace Go.Proofs.YtkbldndbofbkcaaGreatDoor
open Go Go.RowKit
attribute [local irreducible] WL CW DW Ret RW
theorem check_ok (l : Lk) (a : Option Addr) (n c : Nat) (w0 : World) (hr : Rd w0 a n 1 (sv l.hs)) (hn : n = l.hs.length) (hsz : ∀ h ∈ l.hs, h.size ≤ 9223372036854775807) :
    Ret Tryz.prog 32 #[.agg (lkV l.ep l.sh a n c).toArray] w0 fun v w' => v = .int .i64 (lkCheck l) ∧ Fm [] w0 w' := by
  have hs := St.initS1 hr
  have hep : okEp l.ep = 0 ↔ ¬ (l.ep < 0 ∨ 1073741824 < l.ep) := by unfold okEp; split <;> simp_all
  have hep2 : (l.ep < 0 ∨ 1073741824 < l.ep) → okEp l.ep = 2 := fun h => by unfold okEp; rw [if_pos h]
  refine Ret_enter Tryz.func32 rfl Tryz.ntmps32 (by simp) ?_
  refine CW_seq (fun K1 hK1 => ?_)
  refine CW_region ?_
  refine bx (.agg (lkV l.ep l.sh a n c).toArray) (vl := lkV l.ep l.sh a n c) hs rfl rfl ?_
  intro w g1 hs hg1 hf1
  unfold lkV at hs
  refine asp (.int _ _) rfl ?_
  refine WL_nil ?_
  refine hK1 _ _ ?_
  refine CW_seq (fun K2 hK2 => ?_)
  refine CW_seq (fun K3 hK3 => ?_)
  refine CW_region ?_
  refine fad rfl ?_
  refine ld hs rfl rfl ?_
  refine lssW rfl rfl ?_
  refine mvp (.bool _) rfl ?_
  refine WL_g (g := 7) rfl (by decide) rfl (fun hg7 => ?_) (fun hg7 => ?_)
  · skip
    refine fad rfl ?_
    refine WL_gy (g := 7) rfl (by decide) rfl ?_
    refine ld hs rfl rfl ?_
    refine WL_gy (g := 7) rfl (by decide) rfl ?_
    refine gtrW rfl rfl ?_
    first | refine pkT rfl rfl ?_ | refine pkF rfl rfl ?_
    refine WL_nil ?_
    refine hK3 _ _ ?_
    refine CW_cond rfl (fun hc11 => ?_) (fun hc11 => ?_)
    · skip
      refine CW_seq (fun K4 hK4 => ?_)
      refine CW_region ?_
      refine asp (.int _ _) rfl ?_
      refine WL_nil ?_
      refine hK4 _ _ ?_
      refine CW_ret ?_
      repeat (first | (with_reducible apply thenF_ret) | (with_reducible apply blockF_ret))
      try simp only [thenF, blockF, reduceIte]
      refine Post_r Tryz.results32 (.tmp rfl .nil) ?_
      try simp only [ev_tmp, ev_const, upd_ap, Nat.reduceLT, Nat.reduceEqDiff, reduceIte]
      refine ⟨?_, hs.fm⟩
      have h11 : okEp l.ep = 2 := hep2 (by
        first
          | (have h7 : l.ep < 0 := by simpa using hg7
             exact .inl h7)
          | (have h11 : 1073741824 < l.ep := by simpa using hc11
             exact .inr h11))
      unfold lkCheck
      rw [h11, if_pos (by simp)]
    · have h11 : okEp l.ep = 0 := hep.2 (by
      have h7 : ¬ l.ep < 0 := by simpa using hg7
      have h11 : ¬ 1073741824 < l.ep := by simpa using hc11
      omega)
      refine CW_skip ?_
      refine hK2 _ _ ?_
      refine CW_seq (fun K5 hK5 => ?_)
      refine CW_seq (fun K6 hK6 => ?_)
      refine CW_region ?_
      refine fad rfl ?_
      refine ld hs rfl rfl ?_
      refine lenW rfl ?_
      refine gtrW rfl rfl ?_
      refine WL_nil ?_
      refine hK6 _ _ ?_
      refine CW_cond rfl (fun hc15 => ?_) (fun hc15 => ?_)
      · skip
        refine CW_seq (fun K7 hK7 => ?_)
        refine CW_region ?_
        refine asp (.int _ _) rfl ?_
        refine WL_nil ?_
        refine hK7 _ _ ?_
        refine CW_ret ?_
        repeat (first | (with_reducible apply thenF_ret) | (with_reducible apply blockF_ret))
        try simp only [thenF, blockF, reduceIte]
        refine Post_r Tryz.results32 (.tmp rfl .nil) ?_
        try simp only [ev_tmp, ev_const, upd_ap, Nat.reduceLT, Nat.reduceEqDiff, reduceIte]
        refine ⟨?_, hs.fm⟩
        have h16 : 32 < l.hs.length := by simp at hc15; omega
        unfold lkCheck
        rw [h11, if_neg (by simp), if_pos h16]
      · skip
        refine CW_skip ?_
        refine hK5 _ _ ?_
        refine CW_seq (fun K8 hK8 => ?_)
        refine CW_seq (fun K9 hK9 => ?_)
        refine CW_region ?_
        refine asp (.int _ _) rfl ?_
        refine WL_nil ?_
        refine hK9 _ _ ?_
        refine CW_block ?_
        refine CW_loop (fun k f w' => ∃ i : Nat, k = n - i ∧ i ≤ n ∧ f 1 = .pointer (some ⟨g1, 0, none⟩) ∧ f 3 = .int .i64 i ∧ hsAt l.hs 0 = hsAt l.hs i ∧ St w0 [] w' [eB g1 true (Blk 24 [.int .i64 l.ep, .bool l.sh, .slice a n c]), eS [(a, n, sv l.hs)]]) n ?_ ?_
        · exact ⟨0, by omega, by omega, rfl, rfl, rfl, hs⟩
        · rintro k f w1 ⟨i, rfl, hi, e1, e3, hh, hs⟩
          refine CW_kn (i := 1) e1 (CW_kn (i := 3) e3 ?_)
          refine CW_seq (fun K10 hK10 => ?_)
          refine CW_seq (fun K11 hK11 => ?_)
          refine CW_region ?_
          refine mvp (.int _ _) rfl ?_
          refine fad rfl ?_
          refine ld hs rfl rfl ?_
          refine lenW rfl ?_
          refine lssW rfl rfl ?_
          refine WL_nil ?_
          refine hK11 _ _ ?_
          refine CW_cond rfl (fun hc20 => ?_) (fun hc20 => ?_)
          · have hi2 : i < n := by simpa using hc20
            have hi3 : i < l.hs.length := by omega
            have h32 : n ≤ 32 := by simp at hc15; omega
            obtain ⟨b, off, rfl, hcell⟩ := sv_at (hr.fm hs.fm) hi3
            have hstep := hsAt_step hi3
            have hsi := hsz l.hs[i] (List.getElem_mem _)
            refine CW_skip ?_
            refine hK10 _ _ ?_
            refine CW_seq (fun K12 hK12 => ?_)
            refine CW_block ?_
            refine CW_seq (fun K13 hK13 => ?_)
            refine CW_seq (fun K14 hK14 => ?_)
            refine CW_region ?_
            refine fad rfl ?_
            refine ld hs rfl rfl ?_
            refine mvp (.int _ _) rfl ?_
            refine iad rfl rfl (by omega) ?_
            refine ldc (v := .string l.hs[i]) rfl (by simpa using hcell i hi3) ?_
            refine cll (Valid_ok l.hs[i] _ hsi) ?_
            rintro _ w ⟨rfl, hf⟩
            replace hs := hs.call hf
            refine notW rfl ?_
            refine mvp (.bool _) rfl ?_
            refine WL_g (g := 30) rfl (by decide) rfl (fun hg30 => ?_) (fun hg30 => ?_)
            · skip
              refine fad rfl ?_
              refine WL_gy (g := 30) rfl (by decide) rfl ?_
              refine ld hs rfl rfl ?_
              refine WL_gy (g := 30) rfl (by decide) rfl ?_
              refine mvp (.int _ _) rfl ?_
              refine WL_gy (g := 30) rfl (by decide) rfl ?_
              refine iad rfl rfl (by omega) ?_
              refine WL_gy (g := 30) rfl (by decide) rfl ?_
              obtain ⟨b2, off2, e2, hcell2⟩ := sv_at (hr.fm hs.fm) hi3
              injection e2 with e2; injection e2 with e2 e2b; subst e2 e2b
              refine ldc (v := .string l.hs[i]) rfl (by simpa using hcell2 i hi3) ?_
              refine WL_gy (g := 30) rfl (by decide) rfl ?_
              refine eqS rfl rfl ?_
              first | refine pkT rfl rfl ?_ | refine pkF rfl rfl ?_
              refine WL_nil ?_
              refine hK14 _ _ ?_
              refine CW_cond rfl (fun hc37 => ?_) (fun hc37 => ?_)
              · skip
                refine CW_seq (fun K15 hK15 => ?_)
                refine CW_region ?_
                refine asp (.int _ _) rfl ?_
                refine WL_nil ?_
                refine hK15 _ _ ?_
                refine CW_ret ?_
                repeat (first | (with_reducible apply thenF_ret) | (with_reducible apply blockF_ret))
                try simp only [thenF, blockF, reduceIte]
                refine Post_r Tryz.results32 (.tmp rfl .nil) ?_
                try simp only [ev_tmp, ev_const, upd_ap, Nat.reduceLT, Nat.reduceEqDiff, reduceIte]
                refine ⟨?_, hs.fm⟩
                have h16 : ¬ 32 < l.hs.length := by omega
                have h28 : okWho l.hs[i] = 12 := by
                  unfold okWho
                  rw [if_pos]
                  first
                    | (have h30 : lvalid l.hs[i].data.toList = false := by simpa using hg30
                       exact .inr h30)
                    | (have h37 : l.hs[i].data.toList = [] := by simpa using hc37
                       exact .inl h37)
                have e : hsAt l.hs 0 = 12 := by rw [hh, hstep, h28, if_pos (by simp)]
                unfold lkCheck
                rw [h11, if_neg (by simp), if_neg h16, e, if_pos (by simp)]
              · skip
                have h37 : okWho l.hs[i] = 0 := by
                  unfold okWho
                  rw [if_neg]
                  rintro (q | q)
                  · simp [q] at hc37
                  · simp [q] at hg30
                refine CW_skip ?_
                refine hK13 _ _ ?_
                refine CW_seq (fun K16 hK16 => ?_)
                refine DW_sH hs 999 ?_
                intro w hs _
                refine DW_q hs 0 rfl (by kernel_rfl) (fun w' hw' => X_move (v := (.int _ _)) rfl) ?_
                refine DW_q hs 1 rfl (by kernel_rfl) (fun w' hw' => X_gtr rfl rfl) ?_
                refine DW_q hs 2 rfl (by kernel_rfl) (fun w' hw' => X_move (v := (.bool _)) rfl) ?_
                refine DW_b (g := 40) (by decide) rfl (fun hg40 => ?_) (fun hg40 => ?_)
                · skip
                  refine DW_qy hs 3 rfl (by kernel_rfl) rfl (by decide) rfl (fun w' hw' => X_fieldAddr rfl rfl) ?_
                  refine DW_qy hs 4 rfl (by kernel_rfl) rfl (by decide) rfl (fun w' hw' => X_ldH hw' rfl rfl) ?_
                  refine DW_qy hs 5 rfl (by kernel_rfl) rfl (by decide) rfl (fun w' hw' => X_move (v := (.int _ _)) rfl) ?_
                  refine DW_qy hs 6 rfl (by kernel_rfl) rfl (by decide) rfl (fun w' hw' => X_subE (r := ((i - 1 : Nat) : Int)) rfl rfl (by have h0 : 0 < i := (by simp at hg40; omega); rw [wrap_in (by omega) (by omega)]; omega)) ?_
                  refine DW_qy hs 7 rfl (by kernel_rfl) rfl (by decide) rfl (fun w' hw' => X_indexAddr rfl rfl (by omega) (by omega) rfl) ?_
                  refine DW_qy hs 8 rfl (by kernel_rfl) rfl (by decide) rfl (fun w' hw' => X_ldS (xs := sv l.hs) (j := i - 1) (v := .string (l.hs.getD (i - 1) ⟨#[]⟩)) hw' (.head _) (by simp [sv, List.getD, show i - 1 < l.hs.length from by omega]) rfl) ?_
                  refine DW_qy hs 9 rfl (by kernel_rfl) rfl (by decide) rfl (fun w' hw' => X_fieldAddr rfl rfl) ?_
                  refine DW_qy hs 10 rfl (by kernel_rfl) rfl (by decide) rfl (fun w' hw' => X_ldH hw' rfl rfl) ?_
                  refine DW_qy hs 11 rfl (by kernel_rfl) rfl (by decide) rfl (fun w' hw' => X_move (v := (.int _ _)) rfl) ?_
                  refine DW_qy hs 12 rfl (by kernel_rfl) rfl (by decide) rfl (fun w' hw' => X_indexAddr rfl rfl (by omega) (by omega) rfl) ?_
                  refine DW_qy hs 13 rfl (by kernel_rfl) rfl (by decide) rfl (fun w' hw' => X_ldS (xs := sv l.hs) (j := i) (v := .string l.hs[i]) hw' (.head _) (by simp [sv, hi3]) rfl) ?_
                  refine DW_l 14 rfl (by kernel_rfl) ?_
                  refine WL_gy (g := 40) rfl (by decide) rfl ?_
                  have hi4 : i - 1 < l.hs.length := by omega
                  refine cll (LCompare_ok (l.hs.getD (i - 1) ⟨#[]⟩) l.hs[i] _ (by rw [show l.hs.getD (i - 1) ⟨#[]⟩ = l.hs[i - 1] from by simp [List.getD, hi4]]; exact hsz _ (List.getElem_mem _)) hsi) ?_
                  rintro _ w ⟨rfl, hf⟩
                  replace hs := hs.call hf
                  refine WL_nil ?_
                  refine ⟨.inr hs.hold, ?_⟩
                  refine DW_qy hs 15 rfl (by kernel_rfl) rfl (by decide) rfl (fun w' hw' => X_geq rfl rfl) ?_
                  refine DW_q hs 16 rfl (by kernel_rfl) (fun w' hw' => X_pickT rfl rfl) ?_
                  refine DW_e (by kernel_rfl) ?_
                  refine hK16 _ _ ?_
                  refine CW_cond rfl (fun hc54 => ?_) (fun hc54 => ?_)
                  · skip
                    refine CW_seq (fun K17 hK17 => ?_)
                    refine CW_region ?_
                    refine asp (.int _ _) rfl ?_
                    refine WL_nil ?_
                    refine hK17 _ _ ?_
                    refine CW_ret ?_
                    repeat (first | (with_reducible apply thenF_ret) | (with_reducible apply blockF_ret))
                    try simp only [thenF, blockF, reduceIte]
                    refine Post_r Tryz.results32 (.tmp rfl .nil) ?_
                    try simp only [ev_tmp, ev_const, upd_ap, Nat.reduceLT, Nat.reduceEqDiff, reduceIte]
                    refine ⟨?_, hs.fm⟩
                    have h16 : ¬ 32 < l.hs.length := by omega
                    have e : hsAt l.hs 0 = 32 := by
                      rw [hh, hstep, if_neg (by rw [h37]; simp), if_pos]
                      simp at hg40 hc54
                      exact ⟨by omega, hc54⟩
                    unfold lkCheck
                    rw [h11, if_neg (by simp), if_neg h16, e, if_pos (by simp)]
                  · skip
                    refine CW_skip ?_
                    refine hK12 _ _ ?_
                    refine CW_region ?_
                    refine mvp (.int _ _) rfl ?_
                    first | refine addI rfl rfl (by omega) ?_ | refine addW rfl rfl ?_
                    refine asp (.int _ _) rfl ?_
                    refine WL_nil ?_
                    skip
                    refine ⟨n - (i + 1), by omega, i + 1, rfl, by omega, rfl, rfl, ?_, hs⟩
                    rw [hh, hstep, if_neg (by rw [h37]; simp), if_neg]
                    rintro ⟨q1, q2⟩
                    first
                      | exact absurd q2 (of_decide_eq_false hc54)
                      | (simp at hg40; omega)
                · skip
                  refine DW_qn hs 3 rfl (by kernel_rfl) rfl (by decide) rfl ?_
                  refine DW_qn hs 4 rfl (by kernel_rfl) rfl (by decide) rfl ?_
                  refine DW_qn hs 5 rfl (by kernel_rfl) rfl (by decide) rfl ?_
                  refine DW_qn hs 6 rfl (by kernel_rfl) rfl (by decide) rfl ?_
                  refine DW_qn hs 7 rfl (by kernel_rfl) rfl (by decide) rfl ?_
                  refine DW_qn hs 8 rfl (by kernel_rfl) rfl (by decide) rfl ?_
                  refine DW_qn hs 9 rfl (by kernel_rfl) rfl (by decide) rfl ?_
                  refine DW_qn hs 10 rfl (by kernel_rfl) rfl (by decide) rfl ?_
                  refine DW_qn hs 11 rfl (by kernel_rfl) rfl (by decide) rfl ?_
                  refine DW_qn hs 12 rfl (by kernel_rfl) rfl (by decide) rfl ?_
                  refine DW_qn hs 13 rfl (by kernel_rfl) rfl (by decide) rfl ?_
                  refine DW_l 14 rfl (by kernel_rfl) ?_
                  refine WL_gn (g := 40) rfl (by decide) rfl ?_
                  refine WL_nil ?_
                  refine ⟨.inr hs.hold, ?_⟩
                  refine DW_qn hs 15 rfl (by kernel_rfl) rfl (by decide) rfl ?_
                  refine DW_q hs 16 rfl (by kernel_rfl) (fun w' hw' => X_pickF rfl rfl) ?_
                  refine DW_e (by kernel_rfl) ?_
                  refine hK16 _ _ ?_
                  refine CW_condF rfl rfl ?_
                  refine CW_skip ?_
                  refine hK12 _ _ ?_
                  refine CW_region ?_
                  refine mvp (.int _ _) rfl ?_
                  first | refine addI rfl rfl (by omega) ?_ | refine addW rfl rfl ?_
                  refine asp (.int _ _) rfl ?_
                  refine WL_nil ?_
                  skip
                  refine ⟨n - (i + 1), by omega, i + 1, rfl, by omega, rfl, rfl, ?_, hs⟩
                  rw [hh, hstep, if_neg (by rw [h37]; simp), if_neg]
                  rintro ⟨q1, q2⟩
                  first
                    | exact absurd q2 (of_decide_eq_false hc54)
                    | (simp at hg40; omega)
            · skip
              refine WL_gn (g := 30) rfl (by decide) rfl ?_
              refine WL_gn (g := 30) rfl (by decide) rfl ?_
              refine WL_gn (g := 30) rfl (by decide) rfl ?_
              refine WL_gn (g := 30) rfl (by decide) rfl ?_
              refine WL_gn (g := 30) rfl (by decide) rfl ?_
              first | refine pkT rfl rfl ?_ | refine pkF rfl rfl ?_
              refine WL_nil ?_
              refine hK14 _ _ ?_
              refine CW_condT rfl rfl ?_
              refine CW_seq (fun K18 hK18 => ?_)
              refine CW_region ?_
              refine asp (.int _ _) rfl ?_
              refine WL_nil ?_
              refine hK18 _ _ ?_
              refine CW_ret ?_
              repeat (first | (with_reducible apply thenF_ret) | (with_reducible apply blockF_ret))
              try simp only [thenF, blockF, reduceIte]
              refine Post_r Tryz.results32 (.tmp rfl .nil) ?_
              try simp only [ev_tmp, ev_const, upd_ap, Nat.reduceLT, Nat.reduceEqDiff, reduceIte]
              refine ⟨?_, hs.fm⟩
              have h16 : ¬ 32 < l.hs.length := by omega
              have h28 : okWho l.hs[i] = 12 := by
                unfold okWho
                rw [if_pos]
                first
                  | (have h30 : lvalid l.hs[i].data.toList = false := by simpa using hg30
                     exact .inr h30)
                  | (have h37 : l.hs[i].data.toList = [] := by simpa using hc37
                     exact .inl h37)
              have e : hsAt l.hs 0 = 12 := by rw [hh, hstep, h28, if_pos (by simp)]
              unfold lkCheck
              rw [h11, if_neg (by simp), if_neg h16, e, if_pos (by simp)]
          · skip
            refine CW_exit ?_
            refine hK8 _ _ ?_
            refine CW_seq (fun K19 hK19 => ?_)
            refine CW_seq (fun K20 hK20 => ?_)
            refine CW_region ?_
            refine fad rfl ?_
            refine ld hs rfl rfl ?_
            refine notW rfl ?_
            refine mvp (.bool _) rfl ?_
            refine WL_g (g := 58) rfl (by decide) rfl (fun hg58 => ?_) (fun hg58 => ?_)
            · skip
              refine fad rfl ?_
              refine WL_gy (g := 58) rfl (by decide) rfl ?_
              refine ld hs rfl rfl ?_
              refine WL_gy (g := 58) rfl (by decide) rfl ?_
              refine lenW rfl ?_
              refine WL_gy (g := 58) rfl (by decide) rfl ?_
              refine gtrW rfl rfl ?_
              first | refine pkT rfl rfl ?_ | refine pkF rfl rfl ?_
              refine WL_nil ?_
              refine hK20 _ _ ?_
              refine CW_cond rfl (fun hc63 => ?_) (fun hc63 => ?_)
              · skip
                refine CW_seq (fun K21 hK21 => ?_)
                refine CW_region ?_
                refine asp (.int _ _) rfl ?_
                refine WL_nil ?_
                refine hK21 _ _ ?_
                refine CW_ret ?_
                repeat (first | (with_reducible apply thenF_ret) | (with_reducible apply blockF_ret))
                try simp only [thenF, blockF, reduceIte]
                refine Post_r Tryz.results32 (.tmp rfl .nil) ?_
                try simp only [ev_tmp, ev_const, upd_ap, Nat.reduceLT, Nat.reduceEqDiff, reduceIte]
                refine ⟨?_, hs.fm⟩
                have h16 : ¬ 32 < l.hs.length := by simp at hc15; omega
                have e : hsAt l.hs 0 = 0 := by rw [hh, hsAt_end (by simp at hc20; omega)]
                unfold lkCheck
                rw [h11, if_neg (by simp), if_neg h16, e, if_neg (by simp), if_pos]
                have h58 : l.sh = false := by simpa using hg58
                simp at hc63
                exact ⟨h58, by omega⟩
              · skip
                refine CW_skip ?_
                refine hK19 _ _ ?_
                refine CW_seq (fun K22 hK22 => ?_)
                refine CW_seq (fun K23 hK23 => ?_)
                refine CW_region ?_
                refine fad rfl ?_
                refine ld hs rfl rfl ?_
                refine mvp (.bool _) rfl ?_
                refine WL_g (g := 66) rfl (by decide) rfl (fun hg66 => ?_) (fun hg66 => ?_)
                · skip
                  refine fad rfl ?_
                  refine WL_gy (g := 66) rfl (by decide) rfl ?_
                  refine ld hs rfl rfl ?_
                  refine WL_gy (g := 66) rfl (by decide) rfl ?_
                  refine lenW rfl ?_
                  refine WL_gy (g := 66) rfl (by decide) rfl ?_
                  refine eqlW rfl rfl ?_
                  first | refine pkT rfl rfl ?_ | refine pkF rfl rfl ?_
                  refine WL_nil ?_
                  refine hK23 _ _ ?_
                  refine CW_cond rfl (fun hc71 => ?_) (fun hc71 => ?_)
                  · skip
                    refine CW_seq (fun K24 hK24 => ?_)
                    refine CW_region ?_
                    refine asp (.int _ _) rfl ?_
                    refine WL_nil ?_
                    refine hK24 _ _ ?_
                    refine CW_ret ?_
                    repeat (first | (with_reducible apply thenF_ret) | (with_reducible apply blockF_ret))
                    try simp only [thenF, blockF, reduceIte]
                    refine Post_r Tryz.results32 (.tmp rfl .nil) ?_
                    try simp only [ev_tmp, ev_const, upd_ap, Nat.reduceLT, Nat.reduceEqDiff, reduceIte]
                    refine ⟨?_, hs.fm⟩
                    have h16 : ¬ 32 < l.hs.length := by simp at hc15; omega
                    have e : hsAt l.hs 0 = 0 := by rw [hh, hsAt_end (by simp at hc20; omega)]
                    have h66 : l.sh = true := by simpa using hg66
                    simp at hc71
                    unfold lkCheck
                    rw [h11, if_neg (by simp), if_neg h16, e, if_neg (by simp), if_neg (by rw [h66]; simp), if_pos ⟨h66, by omega⟩]
                  · skip
                    refine CW_skip ?_
                    refine hK22 _ _ ?_
                    refine CW_seq (fun K25 hK25 => ?_)
                    refine CW_region ?_
                    refine asp (.int _ _) rfl ?_
                    refine WL_nil ?_
                    refine hK25 _ _ ?_
                    refine CW_ret ?_
                    repeat (first | (with_reducible apply thenF_ret) | (with_reducible apply blockF_ret))
                    try simp only [thenF, blockF, reduceIte]
                    refine Post_r Tryz.results32 (.tmp rfl .nil) ?_
                    try simp only [ev_tmp, ev_const, upd_ap, Nat.reduceLT, Nat.reduceEqDiff, reduceIte]
                    refine ⟨?_, hs.fm⟩
                    have h16 : ¬ 32 < l.hs.length := by simp at hc15; omega
                    have e : hsAt l.hs 0 = 0 := by rw [hh, hsAt_end (by simp at hc20; omega)]
                    unfold lkCheck
                    rw [h11, if_neg (by simp), if_neg h16, e, if_neg (by simp)]
                    first
                      | (have h66 : l.sh = true := by simpa using hg66
                         have h71 : ¬ l.hs.length = 0 := by simp at hc71; omega
                         rw [if_neg (by rw [h66]; simp), if_neg (fun q => h71 q.2)])
                      | (have h66 : l.sh = false := by simpa using hg66
                         first
                           | (have h63 : ¬ 1 < l.hs.length := by simp at hc63; omega
                              rw [if_neg (fun q => h63 q.2), if_neg (by rw [h66]; simp)])
                           | (have h58 : l.sh = true := by simpa using hg58
                              rw [h66] at h58; cases h58))
                · skip
                  refine WL_gn (g := 66) rfl (by decide) rfl ?_
                  refine WL_gn (g := 66) rfl (by decide) rfl ?_
                  refine WL_gn (g := 66) rfl (by decide) rfl ?_
                  first | refine pkT rfl rfl ?_ | refine pkF rfl rfl ?_
                  refine WL_nil ?_
                  refine hK23 _ _ ?_
                  refine CW_condF rfl rfl ?_
                  refine CW_skip ?_
                  refine hK22 _ _ ?_
                  refine CW_seq (fun K26 hK26 => ?_)
                  refine CW_region ?_
                  refine asp (.int _ _) rfl ?_
                  refine WL_nil ?_
                  refine hK26 _ _ ?_
                  refine CW_ret ?_
                  repeat (first | (with_reducible apply thenF_ret) | (with_reducible apply blockF_ret))
                  try simp only [thenF, blockF, reduceIte]
                  refine Post_r Tryz.results32 (.tmp rfl .nil) ?_
                  try simp only [ev_tmp, ev_const, upd_ap, Nat.reduceLT, Nat.reduceEqDiff, reduceIte]
                  refine ⟨?_, hs.fm⟩
                  have h16 : ¬ 32 < l.hs.length := by simp at hc15; omega
                  have e : hsAt l.hs 0 = 0 := by rw [hh, hsAt_end (by simp at hc20; omega)]
                  unfold lkCheck
                  rw [h11, if_neg (by simp), if_neg h16, e, if_neg (by simp)]
                  first
                    | (have h66 : l.sh = true := by simpa using hg66
                       have h71 : ¬ l.hs.length = 0 := by simp at hc71; omega
                       rw [if_neg (by rw [h66]; simp), if_neg (fun q => h71 q.2)])
                    | (have h66 : l.sh = false := by simpa using hg66
                       first
                         | (have h63 : ¬ 1 < l.hs.length := by simp at hc63; omega
                            rw [if_neg (fun q => h63 q.2), if_neg (by rw [h66]; simp)])
                         | (have h58 : l.sh = true := by simpa using hg58
                            rw [h66] at h58; cases h58))
            · skip
              refine WL_gn (g := 58) rfl (by decide) rfl ?_
              refine WL_gn (g := 58) rfl (by decide) rfl ?_
              refine WL_gn (g := 58) rfl (by decide) rfl ?_
              first | refine pkT rfl rfl ?_ | refine pkF rfl rfl ?_
              refine WL_nil ?_
              refine hK20 _ _ ?_
              refine CW_condF rfl rfl ?_
              refine CW_skip ?_
              refine hK19 _ _ ?_
              refine CW_seq (fun K27 hK27 => ?_)
              refine CW_seq (fun K28 hK28 => ?_)
              refine CW_region ?_
              refine fad rfl ?_
              refine ld hs rfl rfl ?_
              refine mvp (.bool _) rfl ?_
              refine WL_g (g := 66) rfl (by decide) rfl (fun hg66 => ?_) (fun hg66 => ?_)
              · skip
                refine fad rfl ?_
                refine WL_gy (g := 66) rfl (by decide) rfl ?_
                refine ld hs rfl rfl ?_
                refine WL_gy (g := 66) rfl (by decide) rfl ?_
                refine lenW rfl ?_
                refine WL_gy (g := 66) rfl (by decide) rfl ?_
                refine eqlW rfl rfl ?_
                first | refine pkT rfl rfl ?_ | refine pkF rfl rfl ?_
                refine WL_nil ?_
                refine hK28 _ _ ?_
                refine CW_cond rfl (fun hc71 => ?_) (fun hc71 => ?_)
                · skip
                  refine CW_seq (fun K29 hK29 => ?_)
                  refine CW_region ?_
                  refine asp (.int _ _) rfl ?_
                  refine WL_nil ?_
                  refine hK29 _ _ ?_
                  refine CW_ret ?_
                  repeat (first | (with_reducible apply thenF_ret) | (with_reducible apply blockF_ret))
                  try simp only [thenF, blockF, reduceIte]
                  refine Post_r Tryz.results32 (.tmp rfl .nil) ?_
                  try simp only [ev_tmp, ev_const, upd_ap, Nat.reduceLT, Nat.reduceEqDiff, reduceIte]
                  refine ⟨?_, hs.fm⟩
                  have h16 : ¬ 32 < l.hs.length := by simp at hc15; omega
                  have e : hsAt l.hs 0 = 0 := by rw [hh, hsAt_end (by simp at hc20; omega)]
                  have h66 : l.sh = true := by simpa using hg66
                  simp at hc71
                  unfold lkCheck
                  rw [h11, if_neg (by simp), if_neg h16, e, if_neg (by simp), if_neg (by rw [h66]; simp), if_pos ⟨h66, by omega⟩]
                · skip
                  refine CW_skip ?_
                  refine hK27 _ _ ?_
                  refine CW_seq (fun K30 hK30 => ?_)
                  refine CW_region ?_
                  refine asp (.int _ _) rfl ?_
                  refine WL_nil ?_
                  refine hK30 _ _ ?_
                  refine CW_ret ?_
                  repeat (first | (with_reducible apply thenF_ret) | (with_reducible apply blockF_ret))
                  try simp only [thenF, blockF, reduceIte]
                  refine Post_r Tryz.results32 (.tmp rfl .nil) ?_
                  try simp only [ev_tmp, ev_const, upd_ap, Nat.reduceLT, Nat.reduceEqDiff, reduceIte]
                  refine ⟨?_, hs.fm⟩
                  have h16 : ¬ 32 < l.hs.length := by simp at hc15; omega
                  have e : hsAt l.hs 0 = 0 := by rw [hh, hsAt_end (by simp at hc20; omega)]
                  unfold lkCheck
                  rw [h11, if_neg (by simp), if_neg h16, e, if_neg (by simp)]
                  first
                    | (have h66 : l.sh = true := by simpa using hg66
                       have h71 : ¬ l.hs.length = 0 := by simp at hc71; omega
                       rw [if_neg (by rw [h66]; simp), if_neg (fun q => h71 q.2)])
                    | (have h66 : l.sh = false := by simpa using hg66
                       first
                         | (have h63 : ¬ 1 < l.hs.length := by simp at hc63; omega
                            rw [if_neg (fun q => h63 q.2), if_neg (by rw [h66]; simp)])
                         | (have h58 : l.sh = true := by simpa using hg58
                            rw [h66] at h58; cases h58))
              · skip
                refine WL_gn (g := 66) rfl (by decide) rfl ?_
                refine WL_gn (g := 66) rfl (by decide) rfl ?_
                refine WL_gn (g := 66) rfl (by decide) rfl ?_
                first | refine pkT rfl rfl ?_ | refine pkF rfl rfl ?_
                refine WL_nil ?_
                refine hK28 _ _ ?_
                refine CW_condF rfl rfl ?_
                refine CW_skip ?_
                refine hK27 _ _ ?_
                refine CW_seq (fun K31 hK31 => ?_)
                refine CW_region ?_
                refine asp (.int _ _) rfl ?_
                refine WL_nil ?_
                refine hK31 _ _ ?_
                refine CW_ret ?_
                repeat (first | (with_reducible apply thenF_ret) | (with_reducible apply blockF_ret))
                try simp only [thenF, blockF, reduceIte]
                refine Post_r Tryz.results32 (.tmp rfl .nil) ?_
                try simp only [ev_tmp, ev_const, upd_ap, Nat.reduceLT, Nat.reduceEqDiff, reduceIte]
                refine ⟨?_, hs.fm⟩
                have h16 : ¬ 32 < l.hs.length := by simp at hc15; omega
                have e : hsAt l.hs 0 = 0 := by rw [hh, hsAt_end (by simp at hc20; omega)]
                unfold lkCheck
                rw [h11, if_neg (by simp), if_neg h16, e, if_neg (by simp)]
                first
                  | (have h66 : l.sh = true := by simpa using hg66
                     have h71 : ¬ l.hs.length = 0 := by simp at hc71; omega
                     rw [if_neg (by rw [h66]; simp), if_neg (fun q => h71 q.2)])
                  | (have h66 : l.sh = false := by simpa using hg66
                     first
                       | (have h63 : ¬ 1 < l.hs.length := by simp at hc63; omega
                          rw [if_neg (fun q => h63 q.2), if_neg (by rw [h66]; simp)])
                       | (have h58 : l.sh = true := by simpa using hg58
                          rw [h66] at h58; cases h58))
  · skip
    refine WL_gn (g := 7) rfl (by decide) rfl ?_
    refine WL_gn (g := 7) rfl (by decide) rfl ?_
    first | refine pkT rfl rfl ?_ | refine pkF rfl rfl ?_
    refine WL_nil ?_
    refine hK3 _ _ ?_
    refine CW_condT rfl rfl ?_
    refine CW_seq (fun K32 hK32 => ?_)
    refine CW_region ?_
    refine asp (.int _ _) rfl ?_
    refine WL_nil ?_
    refine hK32 _ _ ?_
    refine CW_ret ?_
    repeat (first | (with_reducible apply thenF_ret) | (with_reducible apply blockF_ret))
    try simp only [thenF, blockF, reduceIte]
    refine Post_r Tryz.results32 (.tmp rfl .nil) ?_
    try simp only [ev_tmp, ev_const, upd_ap, Nat.reduceLT, Nat.reduceEqDiff, reduceIte]
    refine ⟨?_, hs.fm⟩
    have h11 : okEp l.ep = 2 := hep2 (by
      first
        | (have h7 : l.ep < 0 := by simpa using hg7
           exact .inl h7)
        | (have h11 : 1073741824 < l.ep := by simpa using hc11
           exact .inr h11))
    unfold lkCheck
    rw [h11, if_pos (by simp)]
theorem value_ok (l : Lk) (a : Option Addr) (n c : Nat) (w0 : World) (hr : Rd w0 a n 1 (sv l.hs)) (hn : n = l.hs.length) (h13 : lkCheck l = 0) (hsm : ∀ h ∈ l.hs, h.size ≤ 65536) :
    Ret Tryz.prog 34 #[.agg (lkV l.ep l.sh a n c).toArray] w0 fun v w' => v = .string (str (lkEnc l)) ∧ Fm [] w0 w' := by
  have hs := St.init w0 []
  have h14 := lkCheck_0 h13
  have hwl : ∀ i, i ≤ l.hs.length → (encK l i).length ≤ 2200000 := fun i hi => by
    have h1 := encK_len l hsm h14.2.1 i hi
    have h2 : i * 65546 ≤ 32 * 65546 := Nat.mul_le_mul_right _ (by omega)
    omega
  refine Ret_enter Tryz.func34 rfl Tryz.ntmps34 (by simp) ?_
  refine CW_seq (fun K1 hK1 => ?_)
  refine CW_region ?_
  refine bx (.agg (lkV l.ep l.sh a n c).toArray) (vl := lkV l.ep l.sh a n c) hs rfl rfl ?_
  intro w g1 hs hg1 hf1
  unfold lkV at hs
  refine asp (.string _) rfl ?_
  refine WL_nil ?_
  refine hK1 _ _ ?_
  refine CW_seq (fun K2 hK2 => ?_)
  refine CW_region ?_
  refine cll (NewWriter_ok _) ?_
  rintro _ w ⟨p, rfl, hw, hp, hf⟩
  replace hs := hs.callNew hf (e := eWr p none [] 0) hw (by intro b hb; simp [eWr, ab] at hb; omega)
  refine asp (.pointer _) rfl ?_
  refine WL_nil ?_
  refine hK2 _ _ ?_
  refine CW_seq (fun K3 hK3 => ?_)
  refine CW_region ?_
  refine mvp (.pointer _) rfl ?_
  refine fad rfl ?_
  refine ld hs rfl rfl ?_
  refine cll (WNumber_ok p none ([], 0) l.ep _ (hs.he (eWr p none [] 0)) (by omega) (by simp)) ?_
  rintro _ w ⟨rfl, hp⟩
  rw [wN_0 _ _ h14.1.1] at hp
  obtain ⟨a1, hs⟩ := hs.wrp (t := ([], 0)) hp
  refine WL_nil ?_
  refine hK3 _ _ ?_
  refine CW_seq (fun K4 hK4 => ?_)
  refine CW_region ?_
  refine mvp (.pointer _) rfl ?_
  refine fad rfl ?_
  refine ld hs rfl rfl ?_
  refine cll (WFlag_ok p a1 ([] ++ vnat l.ep.toNat, 0) l.sh _ (hs.he (eWr p a1 ([] ++ vnat l.ep.toNat) 0)) (by have := vnat_le l.ep.toNat; simp; omega)) ?_
  rintro _ w ⟨rfl, hp⟩
  rw [wB_0] at hp
  obtain ⟨a2, hs⟩ := hs.wrp (t := ([] ++ vnat l.ep.toNat, 0)) hp
  refine WL_nil ?_
  refine hK4 _ _ ?_
  refine CW_seq (fun K5 hK5 => ?_)
  refine CW_region ?_
  refine mvp (.pointer _) rfl ?_
  refine fad rfl ?_
  refine ld hs rfl rfl ?_
  refine lenW rfl ?_
  refine cll (WNumber_ok p a2 (([] ++ vnat l.ep.toNat) ++ encB l.sh, 0) n _ (hs.he (eWr p a2 (([] ++ vnat l.ep.toNat) ++ encB l.sh) 0)) (by omega) (by have := vnat_le l.ep.toNat; simp [encB]; omega)) ?_
  rintro _ w ⟨rfl, hp⟩
  rw [wN_0 _ _ (by omega)] at hp
  obtain ⟨a3, hs⟩ := hs.wrp (t := (([] ++ vnat l.ep.toNat) ++ encB l.sh, 0)) hp
  have e0 : (([] ++ vnat l.ep.toNat) ++ encB l.sh) ++ vnat (n : Int).toNat = encK l 0 := by simp [encK, hn]
  rw [e0] at hs
  refine WL_nil ?_
  refine hK5 _ _ ?_
  refine CW_seq (fun K6 hK6 => ?_)
  refine CW_seq (fun K7 hK7 => ?_)
  refine CW_region ?_
  refine asp (.int _ _) rfl ?_
  refine WL_nil ?_
  refine hK7 _ _ ?_
  refine CW_block ?_
  refine CW_loop (fun k f w' => ∃ (i : Nat) (a' : Option Addr), k = n - i ∧ i ≤ n ∧ f 1 = .pointer (some ⟨g1, 0, none⟩) ∧ f 3 = .pointer (some ⟨p, 0, none⟩) ∧ f 4 = .int .i64 i ∧ St w0 [] w' [eWr p a' (encK l i) 0, eB g1 true (Blk 24 [.int .i64 l.ep, .bool l.sh, .slice a n c])]) n ?_ ?_
  · exact ⟨0, a3, by omega, by omega, rfl, rfl, rfl, hs⟩
  · rintro k f w1 ⟨i, a', rfl, hi, e1, e3, e4, hs⟩
    refine CW_kn (i := 1) e1 (CW_kn (i := 3) e3 (CW_kn (i := 4) e4 ?_))
    refine CW_seq (fun K8 hK8 => ?_)
    refine CW_seq (fun K9 hK9 => ?_)
    refine CW_region ?_
    refine mvp (.int _ _) rfl ?_
    refine fad rfl ?_
    refine ld hs rfl rfl ?_
    refine lenW rfl ?_
    refine lssW rfl rfl ?_
    refine WL_nil ?_
    refine hK9 _ _ ?_
    refine CW_cond rfl (fun hc25 => ?_) (fun hc25 => ?_)
    · have hi2 : i < n := by simpa using hc25
      have hi3 : i < l.hs.length := by omega
      obtain ⟨b, off, rfl, hcell⟩ := sv_at (hr.fm hs.fm) hi3
      have hsi := hsm l.hs[i] (List.getElem_mem _)
      have hsl : l.hs[i].data.toList.length = l.hs[i].size := by rw [Array.length_toList]; rfl
      have hki := hwl i (by omega)
      refine CW_skip ?_
      refine hK8 _ _ ?_
      refine CW_seq (fun K10 hK10 => ?_)
      refine CW_block ?_
      refine CW_region ?_
      refine mvp (.pointer _) rfl ?_
      refine fad rfl ?_
      refine ld hs rfl rfl ?_
      refine mvp (.int _ _) rfl ?_
      refine iad rfl rfl (by omega) ?_
      refine ldc (v := .string l.hs[i]) rfl (by simpa using hcell i hi3) ?_
      refine cll (WText_ok p a' (encK l i, 0) l.hs[i] _ (hs.he (eWr p a' (encK l i) 0)) (by simp only; omega)) ?_
      rintro _ w ⟨rfl, hp⟩
      rw [wT_0 _ _ (by omega)] at hp
      obtain ⟨a4, hs⟩ := hs.wrp (t := (encK l i, 0)) hp
      refine WL_nil ?_
      refine hK10 _ _ ?_
      refine CW_region ?_
      refine mvp (.int _ _) rfl ?_
      first | refine addI rfl rfl (by omega) ?_ | refine addW rfl rfl ?_
      refine asp (.int _ _) rfl ?_
      refine WL_nil ?_
      skip
      refine ⟨n - (i + 1), by omega, i + 1, a4, rfl, by omega, rfl, rfl, rfl, ?_⟩
      rw [encK_step hi3]
      exact hs
    · skip
      refine CW_exit ?_
      refine hK6 _ _ ?_
      refine CW_seq (fun K11 hK11 => ?_)
      refine CW_region ?_
      refine mvp (.pointer _) rfl ?_
      refine cll (WBytes_ok p a' (encK l i, 0) _ (hs.he (eWr p a' (encK l i) 0)) (by have := hwl i (by omega); simp only; omega)) ?_
      intro v w ⟨hv, hf⟩
      rw [if_neg (by simp)] at hv
      obtain ⟨gb, cb, rfl, hnew⟩ := hv
      replace hs := hs.callR hf hnew
      refine mvp (.tuple _) rfl ?_
      refine ext rfl rfl ?_
      refine ext rfl rfl ?_
      refine asp (.slice _ _ _) rfl ?_
      refine asp (.int _ _) rfl ?_
      refine WL_nil ?_
      refine hK11 _ _ ?_
      refine CW_seq (fun K12 hK12 => ?_)
      refine CW_region ?_
      refine mvp (.slice _ _ _) rfl ?_
      refine WL_v (X_cvStr rfl (hs.rd (a := gb)) rfl) ?_
      refine asp (.string _) rfl ?_
      refine WL_nil ?_
      refine hK12 _ _ ?_
      refine CW_ret ?_
      repeat (first | (with_reducible apply thenF_ret) | (with_reducible apply blockF_ret))
      try simp only [thenF, blockF, reduceIte]
      refine Post_r Tryz.results34 (.tmp rfl .nil) ?_
      try simp only [ev_tmp, ev_const, upd_ap, Nat.reduceLT, Nat.reduceEqDiff, reduceIte]
      have hi2 : i = l.hs.length := by simp at hc25; omega
      rw [hi2, encK_all]
      exact ⟨by trivial, hs.fm⟩
def parR (bs : List UInt8) : Lk × Bool := match lkDec 65536 bs with | some l => (l, true) | none => (⟨0, false, []⟩, false)
theorem parse34_ok (s : ByteArray) (w0 : World) (hsz : s.size ≤ 140737488355328) :
    Ret Tryz.prog 18 #[.string s] w0 fun v w' => (∃ a n c, v = .tuple #[.agg (lkV (parR s.data.toList).1.ep (parR s.data.toList).1.sh a n c).toArray, .bool (parR s.data.toList).2] ∧ n = (parR s.data.toList).1.hs.length ∧
      NewR w0 w' 42 1 n (.slice a n c) (sv (parR s.data.toList).1.hs)) ∧ Fm [] w0 w' := by
  have hs := St.init w0 []
  have ht : s.data.toList.length = s.size := by rw [Array.length_toList]; rfl
  obtain ⟨bs, hbs⟩ : ∃ bs, s.data.toList = bs := ⟨_, rfl⟩
  obtain ⟨s1, hs1⟩ : ∃ s1, rN 1073741824 bs (0, 0) = s1 := ⟨_, rfl⟩
  obtain ⟨s2, hs2⟩ : ∃ s2, rB bs s1.2 = s2 := ⟨_, rfl⟩
  obtain ⟨s3, hs3⟩ : ∃ s3, rN 32 bs s2.2 = s3 := ⟨_, rfl⟩
  have hcnt : s3.1 ≤ 32 := by rw [← hs3]; exact rN_le _ _ _
  have hrd : lkRd 65536 bs = (⟨s1.1, s2.1, (rTs 65536 bs s3.1 s3.2).1.map str⟩, (rTs 65536 bs s3.1 s3.2).2) := by
    unfold lkRd; rw [hs1, hs2, hs3]
  refine Ret_enter Tryz.func18 rfl Tryz.ntmps18 (by simp) ?_
  refine CW_seq (fun K1 hK1 => ?_)
  refine CW_region ?_
  refine alc hs ?_
  intro w g2 hs hg2 hf2
  refine asp (.bool _) rfl ?_
  refine WL_nil ?_
  refine hK1 _ _ ?_
  refine CW_seq (fun K2 hK2 => ?_)
  refine CW_region ?_
  refine mvp (.string _) rfl ?_
  refine W_cvBytes hs rfl ?_
  intro w g9 cap9 zs9 k9 hs hg9 hf9 hcap9
  rw [hbs] at hs
  rw [hbs] at ht
  refine cll (NewReader_ok (some ⟨g9, 0, none⟩) s.size cap9 bs _ (rdB hs (by rw [List.length_append, bv_length]; omega) (by rw [subl_eq, List.drop_zero, List.take_append_of_le_length (by rw [bv_length]; omega), List.take_of_length_le (by rw [bv_length]; omega)])) ht.symm (by omega) (fun _ h => by cases h)) ?_
  rintro _ w ⟨r, g, rfl, hR, hr, hg, hf⟩
  replace hs := hs.callNew hf hR (by intro b hb; simp [eRd] at hb; omega)
  refine asp (.pointer _) rfl ?_
  refine WL_nil ?_
  refine hK2 _ _ ?_
  refine CW_seq (fun K3 hK3 => ?_)
  refine CW_region ?_
  refine mvp (.pointer _) rfl ?_
  refine cll (RNumber_ok r g 1073741824 bs (0, 0) _ (hs.he (eRd r g bs (0, 0))) (by omega)) ?_
  rintro _ w ⟨rfl, hR, hf⟩
  replace hs := hs.rdr (0, 0) hR hf
  rw [hs1] at hs ⊢
  refine mvp (.pointer _) rfl ?_
  refine cll (RFlag_ok r g bs s1.2 _ (hs.he (eRd r g bs s1.2))) ?_
  rintro _ w ⟨rfl, hR, hf⟩
  replace hs := hs.rdr s1.2 hR hf
  rw [hs2] at hs ⊢
  refine WL_v (v := .agg (lkV s1.1 s2.1 none 0 0).toArray) (X_build rfl rfl) ?_
  refine alc hs ?_
  intro w g5 hs hg5 hf5
  refine sto (.agg (lkV s1.1 s2.1 none 0 0).toArray) (vl := lkV s1.1 s2.1 none 0 0) hs rfl rfl rfl rfl (by simp) rfl ?_
  intro w hs _
  replace hs : St w0 [] w (eB g5 true (Blk 24 [.int .i64 s1.1, .bool s2.1, .slice none 0 0]) :: _) := hs
  refine WL_nil ?_
  refine hK3 _ _ ?_
  refine CW_seq (fun K4 hK4 => ?_)
  refine CW_region ?_
  refine mvp (.pointer _) rfl ?_
  refine cll (RNumber_ok r g 32 bs s2.2 _ (hs.he (eRd r g bs s2.2)) (by omega)) ?_
  rintro _ w ⟨rfl, hR, hf⟩
  replace hs := hs.rdr s2.2 hR hf
  rw [hs3] at hs ⊢
  replace hs := hs.nilR 42 1
  refine asp (.int _ _) rfl ?_
  refine WL_nil ?_
  refine hK4 _ _ ?_
  refine CW_seq (fun K5 hK5 => ?_)
  refine CW_seq (fun K6 hK6 => ?_)
  refine CW_region ?_
  refine asp (.int _ _) rfl ?_
  refine WL_nil ?_
  refine hK6 _ _ ?_
  refine CW_block ?_
  refine CW_loop (fun k f w' => ∃ (i n c : Nat) (a : Option Addr), k = s3.1 - i ∧ i ≤ s3.1 ∧ n = i ∧ f 2 = .pointer (some ⟨g2, 0, none⟩) ∧ f 4 = .pointer (some ⟨r, 0, none⟩) ∧ f 5 = .pointer (some ⟨g5, 0, none⟩) ∧ f 6 = .int .i64 s3.1 ∧ f 7 = .int .i64 i ∧ St w0 [] w' [eR (.slice a n c) 42 1 n (sv ((rTs 65536 bs i s3.2).1.map str)), eB g5 true (Blk 24 [.int .i64 s1.1, .bool s2.1, .slice a n c]), eRd r g bs (rTs 65536 bs i s3.2).2, eB g2 true (Blk 24 [.int .i64 0, .bool false, .slice none 0 0])]) s3.1 ?_ ?_
  · have hs' : St w0 [] _ [eR (.slice none 0 0) 42 1 0 [], eB g5 true (Blk 24 [.int .i64 s1.1, .bool s2.1, .slice none 0 0]), eRd r g bs s3.2, eB g2 true (Blk 24 [.int .i64 0, .bool false, .slice none 0 0])] := hs.wk
    exact ⟨0, 0, 0, none, by omega, by omega, rfl, rfl, rfl, rfl, rfl, rfl, hs'⟩
  · rintro k f w1 ⟨i, n, c, a, rfl, hi, hn, e2, e4, e5, e6, e7, hs⟩
    refine CW_kn (i := 2) e2 (CW_kn (i := 4) e4 (CW_kn (i := 5) e5 (CW_kn (i := 6) e6 (CW_kn (i := 7) e7 ?_))))
    refine CW_seq (fun K7 hK7 => ?_)
    refine CW_seq (fun K8 hK8 => ?_)
    refine CW_region ?_
    refine mvp (.int _ _) rfl ?_
    refine mvp (.int _ _) rfl ?_
    refine lssW rfl rfl ?_
    refine WL_nil ?_
    refine hK8 _ _ ?_
    refine CW_cond rfl (fun hc20 => ?_) (fun hc20 => ?_)
    · skip
      refine CW_skip ?_
      refine hK7 _ _ ?_
      refine CW_seq (fun K9 hK9 => ?_)
      refine CW_block ?_
      refine DW_s hs 7 ([eB g5 true (Blk 24 [.int .i64 s1.1, .bool s2.1, .slice a n c])]) ?_
      intro w hs _
      refine DW_q hs 0 rfl (by kernel_rfl) (fun w' hw' => X_fieldAddr rfl rfl) ?_
      refine DW_q hs 1 rfl (by kernel_rfl) (fun w' hw' => X_ldH hw' rfl rfl) ?_
      refine DW_q hs 2 rfl (by kernel_rfl) (fun w' hw' => X_move (v := (.pointer _)) rfl) ?_
      refine DW_l 3 rfl (by kernel_rfl) ?_
      refine cll (RText_ok r g 65536 bs (rTs 65536 bs i s3.2).2 _ (hs.he (eRd r g bs (rTs 65536 bs i s3.2).2)) (by omega)) ?_
      rintro _ w ⟨rfl, hR, hf⟩
      replace hs := hs.rdr (rTs 65536 bs i s3.2).2 hR hf
      refine WL_nil ?_
      refine ⟨.inr hs.hold, ?_⟩
      refine DW_l 4 rfl (by kernel_rfl) ?_
      refine W_bslice hs (BS.ss rfl .nil) rfl (by simp) ?_
      intro w g27 hs hg27 hf27
      refine WL_nil ?_
      refine ⟨.inr hs.hold, ?_⟩
      refine DW_l 5 rfl (by kernel_rfl) ?_
      refine app1 hs rfl rfl (by rfl) (by rfl) (by decide) (by rfl) (by simp at hc20; omega) (by simp at hc20; omega) ?_
      intro a2 c2 w hs _
      refine WL_nil ?_
      refine ⟨.inr hs.hold, ?_⟩
      refine DW_q hs 6 rfl (by kernel_rfl) (fun w' hw' => X_fieldAddr rfl rfl) ?_
      refine DW_l 7 rfl (by kernel_rfl) ?_
      refine sto (.slice a2 (n + 1) c2) hs rfl rfl rfl rfl (by simp) rfl ?_
      intro w hs _
      replace hs : St w0 [] w (_ :: _ :: eB g5 true (Blk 24 [.int .i64 s1.1, .bool s2.1, .slice a2 (n + 1) c2]) :: _) := hs
      refine WL_nil ?_
      refine ⟨.inl rfl, ?_⟩
      refine DW_e (by kernel_rfl) ?_
      refine hK9 _ _ ?_
      refine CW_region ?_
      refine mvp (.int _ _) rfl ?_
      first | refine addI rfl rfl (by omega) ?_ | refine addW rfl rfl ?_
      refine asp (.int _ _) rfl ?_
      refine WL_nil ?_
      skip
      refine ⟨s3.1 - (i + 1), by simp at hc20; omega, i + 1, n + 1, c2, a2, rfl, by simp at hc20; omega, by omega, rfl, rfl, rfl, rfl, rfl, ?_⟩
      have e6 : sv ((rTs 65536 bs (i + 1) s3.2).1.map str) = sv ((rTs 65536 bs i s3.2).1.map str) ++ [.string (str (rT 65536 bs (rTs 65536 bs i s3.2).2).1)] := by simp [rTs, sv]
      rw [e6]
      have hs' : St w0 [] _ [eR (.slice a2 (n + 1) c2) 42 1 (n + 1) (sv ((rTs 65536 bs i s3.2).1.map str) ++ [.string (str (rT 65536 bs (rTs 65536 bs i s3.2).2).1)]), eB g5 true (Blk 24 [.int .i64 s1.1, .bool s2.1, .slice a2 (n + 1) c2]), eRd r g bs (rT 65536 bs (rTs 65536 bs i s3.2).2).2, eB g2 true (Blk 24 [.int .i64 0, .bool false, .slice none 0 0])] := hs.wk
      exact hs'
    · have hi2 : i = s3.1 := by simp at hc20; omega
      subst hi2
      refine CW_exit ?_
      refine hK5 _ _ ?_
      refine CW_seq (fun K10 hK10 => ?_)
      refine CW_seq (fun K11 hK11 => ?_)
      refine CW_region ?_
      refine mvp (.pointer _) rfl ?_
      refine cll (RClose_ok r g bs (rTs 65536 bs s3.1 s3.2).2 _ (hs.he (eRd r g bs (rTs 65536 bs s3.1 s3.2).2))) ?_
      rintro _ w ⟨rfl, hf⟩
      replace hs := hs.call hf
      refine neqW rfl rfl ?_
      refine mvp (.bool _) rfl ?_
      refine WL_g (g := 33) rfl (by decide) rfl (fun hg33 => ?_) (fun hg33 => ?_)
      · skip
        refine ldA hs rfl (by simp) ?_
        refine WL_gy (g := 33) rfl (by decide) rfl ?_
        refine cll (check_ok ⟨s1.1, s2.1, (rTs 65536 bs s3.1 s3.2).1.map str⟩ a n c _ (hs.rd (a := a)) (by simp [rTs_len, hn]) (rTs_short _ _ _ _)) ?_
        rintro _ w ⟨rfl, hf⟩
        replace hs := hs.call hf
        refine WL_gy (g := 33) rfl (by decide) rfl ?_
        refine neqW rfl rfl ?_
        first | refine pkT rfl rfl ?_ | refine pkF rfl rfl ?_
        refine WL_nil ?_
        refine hK11 _ _ ?_
        refine CW_cond rfl (fun hc37 => ?_) (fun hc37 => ?_)
        · skip
          refine CW_seq (fun K12 hK12 => ?_)
          refine CW_region ?_
          refine WL_v (v := .agg (lkV 0 false none 0 0).toArray) (X_build rfl rfl) ?_
          refine sto (.agg (lkV 0 false none 0 0).toArray) (vl := lkV 0 false none 0 0) hs rfl rfl rfl rfl (by simp) rfl ?_
          intro w hs _
          replace hs : St w0 [] w (_ :: _ :: _ :: eB g2 true (Blk 24 (lkV 0 false none 0 0)) :: _) := hs
          refine asp (.bool _) rfl ?_
          refine WL_nil ?_
          refine hK12 _ _ ?_
          refine CW_ret ?_
          repeat (first | (with_reducible apply thenF_ret) | (with_reducible apply blockF_ret))
          try simp only [thenF, blockF, reduceIte]
          refine Post_r Tryz.results18 (.cell rfl (lvA hs (by simp)) (.tmp rfl .nil)) ?_
          try simp only [ev_tmp, ev_const, upd_ap, Nat.reduceLT, Nat.reduceEqDiff, reduceIte]
          have hd : parR s.data.toList = (⟨0, false, []⟩, false) := by
            unfold parR lkDec
            rw [hbs, hrd, if_neg]
            rintro ⟨q1, q2⟩
            first
              | (have h29 : rClose bs (rTs 65536 bs s3.1 s3.2).2 ≠ 0 := by simpa using hg33
                 exact h29 q1)
              | (have h33 : lkCheck ⟨s1.1, s2.1, (rTs 65536 bs s3.1 s3.2).1.map str⟩ ≠ 0 := by simpa using hc37
                 exact h33 q2)
          rw [hd]
          exact ⟨⟨none, 0, 0, rfl, rfl, World.ownsRow_nil _ _ _ _⟩, hs.fm⟩
        · skip
          refine CW_skip ?_
          refine hK10 _ _ ?_
          refine CW_seq (fun K13 hK13 => ?_)
          refine CW_region ?_
          refine ldA hs rfl (by simp) ?_
          refine sto (.agg (lkV s1.1 s2.1 a n c).toArray) (vl := lkV s1.1 s2.1 a n c) hs rfl rfl rfl rfl (by simp) rfl ?_
          intro w hs _
          replace hs : St w0 [] w (_ :: _ :: _ :: eB g2 true (Blk 24 (lkV s1.1 s2.1 a n c)) :: _) := hs
          refine asp (.bool _) rfl ?_
          refine WL_nil ?_
          refine hK13 _ _ ?_
          refine CW_ret ?_
          repeat (first | (with_reducible apply thenF_ret) | (with_reducible apply blockF_ret))
          try simp only [thenF, blockF, reduceIte]
          refine Post_r Tryz.results18 (.cell rfl (lvA hs (by simp)) (.tmp rfl .nil)) ?_
          try simp only [ev_tmp, ev_const, upd_ap, Nat.reduceLT, Nat.reduceEqDiff, reduceIte]
          have hd : parR s.data.toList = (⟨s1.1, s2.1, (rTs 65536 bs s3.1 s3.2).1.map str⟩, true) := by
            unfold parR lkDec
            rw [hbs, hrd, if_pos]
            exact ⟨by simpa using hg33, by simpa using hc37⟩
          rw [hd]
          exact ⟨⟨a, n, c, rfl, by simp [rTs_len, hn], hs.newR⟩, hs.fm⟩
      · skip
        refine WL_gn (g := 33) rfl (by decide) rfl ?_
        refine WL_gn (g := 33) rfl (by decide) rfl ?_
        first | refine pkT rfl rfl ?_ | refine pkF rfl rfl ?_
        refine WL_nil ?_
        refine hK11 _ _ ?_
        refine CW_condT rfl rfl ?_
        refine CW_seq (fun K14 hK14 => ?_)
        refine CW_region ?_
        refine WL_v (v := .agg (lkV 0 false none 0 0).toArray) (X_build rfl rfl) ?_
        refine sto (.agg (lkV 0 false none 0 0).toArray) (vl := lkV 0 false none 0 0) hs rfl rfl rfl rfl (by simp) rfl ?_
        intro w hs _
        replace hs : St w0 [] w (_ :: _ :: _ :: eB g2 true (Blk 24 (lkV 0 false none 0 0)) :: _) := hs
        refine asp (.bool _) rfl ?_
        refine WL_nil ?_
        refine hK14 _ _ ?_
        refine CW_ret ?_
        repeat (first | (with_reducible apply thenF_ret) | (with_reducible apply blockF_ret))
        try simp only [thenF, blockF, reduceIte]
        refine Post_r Tryz.results18 (.cell rfl (lvA hs (by simp)) (.tmp rfl .nil)) ?_
        try simp only [ev_tmp, ev_const, upd_ap, Nat.reduceLT, Nat.reduceEqDiff, reduceIte]
        have hd : parR s.data.toList = (⟨0, false, []⟩, false) := by
          unfold parR lkDec
          rw [hbs, hrd, if_neg]
          rintro ⟨q1, q2⟩
          first
            | (have h29 : rClose bs (rTs 65536 bs s3.1 s3.2).2 ≠ 0 := by simpa using hg33
               exact h29 q1)
            | (have h33 : lkCheck ⟨s1.1, s2.1, (rTs 65536 bs s3.1 s3.2).1.map str⟩ ≠ 0 := by simpa using hc37
               exact h33 q2)
        rw [hd]
        exact ⟨⟨none, 0, 0, rfl, rfl, World.ownsRow_nil _ _ _ _⟩, hs.fm⟩
end Go.Proofs.YtkbldndbofbkcaaGreatDoor
/- replevinlaw34: known. -/
namespace Go.Proofs.YtkbldndbofbkcaaGreatDoor
open Go Go.RowKit
attribute [local irreducible] WL CW DW Ret RW
theorem VNew_t (b : Nat) (t : Tr) (w0 : World) (hb : (eT b t).holds w0) :
    Ret Tryz.prog 22 #[.pointer (some ⟨b, 0, none⟩)] w0 fun v w' => ∃ g r1 r2, v = .pointer (some ⟨g, 0, none⟩) ∧ Turned (eT b t) (eV g b r1 r2 t none 0 0 [] [] []) w0 w' := by
  refine (VNew_ok b t w0 hb).mono ?_
  rintro v w' ⟨g, r1, r2, rfl, h1, h2, h3, h4, hf⟩
  refine ⟨g, r1, r2, rfl, rfl, h1, hf.mono (by simp), fun x hx => ?_⟩
  obtain ⟨e, he, hx⟩ := eL_mem.1 hx
  simp at he
  rcases he with rfl | rfl | rfl | rfl | rfl
  · simp [eB] at hx; subst hx; exact .inr h2
  · simp [eM] at hx; subst hx; exact .inr h3
  · simp [eR, Value.ownBlock] at hx
  · simp [eM] at hx; subst hx; exact .inr h4
  · exact .inl hx
def b1 : Bir := ⟨⟨#[49]⟩, 0⟩
def kN1 : Chs := acqN .nil [] b1 0 ⟨#[49]⟩ false
def kN3 : Chs := relN .nil kN1 b1 0 ⟨#[49]⟩
def kN4 : Chs := acqN .nil kN3 b1 0 ⟨#[50]⟩ true
theorem k1 : acqV .nil [] b1 0 ⟨#[49]⟩ false = 0 := by decide +kernel
theorem k2 : acqV .nil kN1 b1 0 ⟨#[50]⟩ false = 19 := by decide +kernel
theorem k2N : acqN .nil kN1 b1 0 ⟨#[50]⟩ false = kN1 := by decide +kernel
theorem k3 : (decide (useE .nil kN1 b1 0 ⟨#[49]⟩ = 0) && useH .nil kN1 b1 0 ⟨#[49]⟩) = true := by decide +kernel
theorem k4 : (decide (useE .nil kN1 b1 0 ⟨#[50]⟩ = 0) && useH .nil kN1 b1 0 ⟨#[50]⟩) = false := by decide +kernel
theorem k5 : relV .nil kN1 b1 0 ⟨#[49]⟩ = 0 := by decide +kernel
theorem k6 : acqV .nil kN3 b1 0 ⟨#[50]⟩ true = 0 := by decide +kernel
theorem k7 : (decide (useE .nil kN4 b1 0 ⟨#[50]⟩ = 0) && useH .nil kN4 b1 0 ⟨#[50]⟩) = true := by decide +kernel
theorem ks0 : (vwGet .nil [] (lkName b1)).1.size ≤ 100 := by decide +kernel
theorem ks1 : (vwGet .nil kN1 (lkName b1)).1.size ≤ 100 := by decide +kernel
theorem ks3 : (vwGet .nil kN3 (lkName b1)).1.size ≤ 100 := by decide +kernel
theorem ks4 : (vwGet .nil kN4 (lkName b1)).1.size ≤ 100 := by decide +kernel
theorem sz49 : (⟨#[49]⟩ : ByteArray).size ≤ 9223372036854775807 := by decide
theorem sz50 : (⟨#[50]⟩ : ByteArray).size ≤ 9223372036854775807 := by decide
theorem szb1 : b1.maker.size ≤ 9223372036854775807 := by decide
theorem known_ok (w0 : World) : Ret Tryz.prog 19 #[] w0 fun v w' => v = .bool true ∧ Fm [] w0 w' := by
  have hs := St.init w0 []
  refine Ret_enter Tryz.func19 rfl Tryz.ntmps19 (by simp) ?_
  refine CW_seq (fun K1 hK1 => ?_)
  refine CW_region ?_
  refine asp (.bool _) rfl ?_
  refine WL_nil ?_
  refine hK1 _ _ ?_
  refine CW_seq (fun K2 hK2 => ?_)
  refine CW_region ?_
  refine cll (SNew_ok _) ?_
  rintro _ w ⟨b, rfl, hT, hb, hf⟩
  replace hs := hs.callNew hf hT (by intro x hx; simp [eT, Tr.fp] at hx; subst hx; exact hb)
  refine cll (VNew_t b .nil _ (hs.he _)) ?_
  rintro _ w ⟨g, r1, r2, rfl, ht⟩
  replace hs := hs.turnE rfl ht
  refine asp (.pointer _) rfl ?_
  refine WL_nil ?_
  refine hK2 _ _ ?_
  refine CW_seq (fun K3 hK3 => ?_)
  refine CW_region ?_
  refine WL_v (v := .agg (birV b1).toArray) (X_build rfl rfl) ?_
  refine alc hs ?_
  intro w g2 hs hg2 hf2
  refine sto (.agg (birV b1).toArray) (vl := birV b1) hs rfl rfl rfl rfl (by simp) rfl ?_
  intro w hs _
  replace hs : St w0 _ w (eB g2 true (Blk 44 (birV b1)) :: _) := hs
  refine WL_nil ?_
  refine hK3 _ _ ?_
  refine CW_seq (fun K4 hK4 => ?_)
  refine CW_seq (fun K5 hK5 => ?_)
  refine CW_region ?_
  refine mvp (.pointer _) rfl ?_
  refine ldA hs rfl (by simp) ?_
  refine cll (Acquire_ok g b r1 r2 .nil none 0 0 [] [] [] b1 0 ⟨#[49]⟩ false _ (hs.he _) szb1 (by omega) (by have := ks0; omega) sz49) ?_
  rintro _ w ⟨rfl, R1, a1, m1, c1, C1, hm1, ht⟩
  replace hs := hs.turnE rfl ht
  rw [show acqN .nil [] b1 0 ⟨#[49]⟩ false = kN1 from rfl] at hs
  rw [k1]
  refine neqW rfl rfl ?_
  refine mvp (.bool _) rfl ?_
  refine WL_gyb (g := 10) rfl (by decide) rfl (rfl) ?_
  refine mvp (.pointer _) rfl ?_
  refine WL_gy (g := 10) rfl (by decide) rfl ?_
  refine ldA hs rfl (by simp) ?_
  refine WL_gy (g := 10) rfl (by decide) rfl ?_
  refine cll (Acquire_ok g b r1 r2 .nil a1 m1 c1 R1 C1 kN1 b1 0 ⟨#[50]⟩ false _ (hs.he _) szb1 (by omega) (by have := ks1; omega) sz50) ?_
  rintro _ w ⟨rfl, R2, a2, m2, c2, C2, hm2, ht⟩
  replace hs := hs.turnE rfl ht
  rw [k2N] at hs
  rw [k2]
  refine WL_gy (g := 10) rfl (by decide) rfl ?_
  refine neqW rfl rfl ?_
  first | refine pkT rfl rfl ?_ | refine pkF rfl rfl ?_
  refine mvp (.bool _) rfl ?_
  refine WL_gyb (g := 16) rfl (by decide) rfl (rfl) ?_
  refine mvp (.pointer _) rfl ?_
  refine WL_gy (g := 16) rfl (by decide) rfl ?_
  refine ldA hs rfl (by simp) ?_
  refine WL_gy (g := 16) rfl (by decide) rfl ?_
  refine cll (Holds_ok g b r1 r2 .nil a2 m2 c2 R2 C2 kN1 b1 0 ⟨#[49]⟩ _ (hs.he _) szb1 (by have := ks1; omega) sz49) ?_
  rintro _ w ⟨rfl, R3, ht⟩
  replace hs := hs.turnE rfl ht
  rw [k3]
  refine WL_gy (g := 16) rfl (by decide) rfl ?_
  refine notW rfl ?_
  first | refine pkT rfl rfl ?_ | refine pkF rfl rfl ?_
  refine mvp (.bool _) rfl ?_
  refine WL_gyb (g := 22) rfl (by decide) rfl (rfl) ?_
  refine mvp (.pointer _) rfl ?_
  refine WL_gy (g := 22) rfl (by decide) rfl ?_
  refine ldA hs rfl (by simp) ?_
  refine WL_gy (g := 22) rfl (by decide) rfl ?_
  refine cll (Holds_ok g b r1 r2 .nil a2 m2 c2 R3 C2 kN1 b1 0 ⟨#[50]⟩ _ (hs.he _) szb1 (by have := ks1; omega) sz50) ?_
  rintro _ w ⟨rfl, R4, ht⟩
  replace hs := hs.turnE rfl ht
  rw [k4]
  first | refine pkT rfl rfl ?_ | refine pkF rfl rfl ?_
  refine WL_nil ?_
  refine hK5 _ _ ?_
  refine CW_condF rfl (rfl) ?_
  refine CW_skip ?_
  refine hK4 _ _ ?_
  refine CW_seq (fun K6 hK6 => ?_)
  refine CW_region ?_
  refine mvp (.pointer _) rfl ?_
  refine ldA hs rfl (by simp) ?_
  refine cll (Release_ok g b r1 r2 .nil a2 m2 c2 R4 C2 kN1 b1 0 ⟨#[49]⟩ _ (hs.he _) szb1 (by omega) (by have := ks1; omega) sz49) ?_
  rintro _ w ⟨rfl, R5, a5, m5, c5, C5, hm5, ht⟩
  replace hs := hs.turnE rfl ht
  rw [show relN .nil kN1 b1 0 ⟨#[49]⟩ = kN3 from rfl] at hs
  rw [k5]
  refine eqlW rfl rfl ?_
  refine mvp (.bool _) rfl ?_
  refine WL_gyb (g := 31) rfl (by decide) rfl (rfl) ?_
  refine mvp (.pointer _) rfl ?_
  refine WL_gy (g := 31) rfl (by decide) rfl ?_
  refine ldA hs rfl (by simp) ?_
  refine WL_gy (g := 31) rfl (by decide) rfl ?_
  refine cll (Acquire_ok g b r1 r2 .nil a5 m5 c5 R5 C5 kN3 b1 0 ⟨#[50]⟩ true _ (hs.he _) szb1 (by omega) (by have := ks3; omega) sz50) ?_
  rintro _ w ⟨rfl, R6, a6, m6, c6, C6, hm6, ht⟩
  replace hs := hs.turnE rfl ht
  rw [show acqN .nil kN3 b1 0 ⟨#[50]⟩ true = kN4 from rfl] at hs
  rw [k6]
  refine WL_gy (g := 31) rfl (by decide) rfl ?_
  refine eqlW rfl rfl ?_
  first | refine pkT rfl rfl ?_ | refine pkF rfl rfl ?_
  refine mvp (.bool _) rfl ?_
  refine WL_gyb (g := 37) rfl (by decide) rfl (rfl) ?_
  refine mvp (.pointer _) rfl ?_
  refine WL_gy (g := 37) rfl (by decide) rfl ?_
  refine ldA hs rfl (by simp) ?_
  refine WL_gy (g := 37) rfl (by decide) rfl ?_
  refine cll (Holds_ok g b r1 r2 .nil a6 m6 c6 R6 C6 kN4 b1 0 ⟨#[50]⟩ _ (hs.he _) szb1 (by have := ks4; omega) sz50) ?_
  rintro _ w ⟨rfl, R7, ht⟩
  replace hs := hs.turnE rfl ht
  rw [k7]
  first | refine pkT rfl rfl ?_ | refine pkF rfl rfl ?_
  refine asp (.bool _) rfl ?_
  refine WL_nil ?_
  refine hK6 _ _ ?_
  refine CW_ret ?_
  repeat (first | (with_reducible apply thenF_ret) | (with_reducible apply blockF_ret))
  try simp only [thenF, blockF, reduceIte]
  refine Post_r Tryz.results19 (.tmp rfl .nil) ?_
  try simp only [ev_tmp, ev_const, upd_ap, Nat.reduceLT, Nat.reduceEqDiff, reduceIte]
  exact ⟨by trivial, hs.fm⟩
end Go.Proofs.YtkbldndbofbkcaaGreatDoor
