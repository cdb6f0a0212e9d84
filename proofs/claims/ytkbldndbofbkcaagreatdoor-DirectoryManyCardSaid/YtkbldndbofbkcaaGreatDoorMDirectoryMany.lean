/- Plain: a directory with 256 names. | replevinlaw28.DirectoryMany: the walk. | For every number of a name, DirectoryMany returns true: a directory has at most 256 names (the statement's tied card). No condition. -/
import Derived.Test.YtkbldndbofbkcaaGreatDoorNG
import Derived.Test.YtkbldndbofbkcaaGreatDoorNR
set_option linter.unusedSimpArgs false
set_option linter.unusedVariables false
/- Plain: a directory with 256 names. -/
namespace Go.Proofs.YtkbldndbofbkcaaGreatDoor
open Go Go.RowKit
theorem Sm.pt {t : Tr} {N : Chs} (h : Sm t N) (b : Bir) (s : ByteArray) (x : Bir) : Sm t (ptN N b s x) := by
  unfold ptN; split
  · exact h
  · exact h.call _ _
theorem Sm.ch {t : Tr} {N : Chs} (h : Sm t N) (b : Bir) (f : List ByteArray → List ByteArray × Int) : Sm t (chE t N b f).2 := by
  unfold chE; split
  · exact h
  split
  · exact h
  split
  · exact h
  · exact h.call _ _
theorem Sm.ins {t : Tr} {N : Chs} (h : Sm t N) (b : Bir) (s : ByteArray) (x : Bir) : Sm t (insV t N b s x).2 := by
  unfold insV; split
  · exact h
  split
  · exact h.ch _ _
  · exact (h.ch _ _).pt _ _ _
theorem Sm.rm {t : Tr} {N : Chs} (h : Sm t N) (b : Bir) (s : ByteArray) : Sm t (rmV t N b s).2 := by
  unfold rmV; split
  · exact h
  split
  · exact h.ch _ _
  · exact (h.ch _ _).call _ _
theorem Sm.mk {t : Tr} {N : Chs} (h : Sm t N) (b p : Bir) : Sm t (mkV t N b p).2 := by
  unfold mkV; split
  · exact h
  split
  · exact h
  · exact (h.call _ _).pt _ _ _
theorem Sm.dr {t : Tr} {N : Chs} (h : Sm t N) (b : Bir) : Sm t (drV t N b).2 := by
  unfold drV; split
  · exact h
  split
  · exact h
  split
  · exact h
  · exact (h.call _ _).call _ _
theorem Sm.le {t : Tr} {N : Chs} (h : Sm t N) (m : ONm) : (vwGet t N m).1.size ≤ 140737488355328 := by have := h m; omega
theorem sim_nil : Sim (gv .nil []) [] := by
  have h0 : ∀ n, gv .nil [] n = none := fun n => by
    unfold gv vwGet
    by_cases h : onCheckB n ≠ 0
    · rw [if_pos h]; rfl
    · rw [if_neg h]; rfl
  exact ⟨fun b _ => h0 _, fun b s _ _ => h0 _, (by simp), (by simp)⟩
/-! ### 256 names -/
def nm2 (i : Nat) : ByteArray := ⟨#[UInt8.ofNat (97 + i / 16), UInt8.ofNat (97 + i % 16)]⟩
def d10 : Bir := ⟨⟨#[49]⟩, 0⟩
theorem d10_ok : birCheck d10 = 0 := by decide +kernel
theorem d10_sz : d10.maker.size ≤ 4611686018427387904 := by decide
theorem nm2_adj : ∀ j : Fin 255, bls (nm2 j.val) (nm2 (j.val + 1)) = true := by decide +kernel
theorem nm2_ck : ∀ j : Fin 256, ckN (nm2 j.val) = 0 := by decide +kernel
abbrev nmB (n : Int) : Bir := ⟨⟨#[]⟩, n⟩
def rws (i : Nat) : Rws := (List.range i).map fun j => (nm2 j, nmB j)
theorem rws_len (i : Nat) : (rws i).length = i := by simp [rws]
theorem rws_succ (i : Nat) : rws (i + 1) = rws i ++ [(nm2 i, nmB i)] := by simp [rws, List.range_succ]
theorem nms_at {i j : Nat} (h : j < (nms (rws i)).length) : (nms (rws i))[j] = nm2 j := by simp [nms, rws]
theorem rws_sbs {i : Nat} (h : i ≤ 256) : Sbs (nms (rws i)) := sbs_of fun j hj => by
  rw [nms_at, nms_at]
  rw [nms_len, rws_len] at hj
  exact nm2_adj ⟨j, by omega⟩
theorem rws_lt {i j : Nat} (hi : i < 256) (h : j < i) : bls (nm2 j) (nm2 i) = true := by
  have := sbs_get (rws_sbs (Nat.le_refl 256)) h (by rw [nms_len, rws_len]; exact hi)
  rwa [nms_at, nms_at] at this
theorem rws_none {i : Nat} (h : i < 256) : rlook (rws i) (nm2 i) = none := rlook_none.2 fun m => by
  obtain ⟨j, hj, e⟩ := List.getElem_of_mem m
  rw [nms_at] at e
  rw [nms_len, rws_len] at hj
  have := rws_lt h hj
  rw [e, bls_irr] at this; cases this
theorem rws_some {n : Nat} : ∀ i, n < i → i ≤ 256 → rlook (rws i) (nm2 n) = some (nmB n)
  | 0, h, _ => by omega
  | i + 1, h, hi => by
    rw [rws_succ, rlook_app]
    rcases Nat.lt_or_ge n i with q | q
    · rw [rws_some i q (by omega)]; rfl
    · have : n = i := by omega
      subst this
      rw [rws_none (by omega)]; simp [rlook]
theorem rws_ins {i : Nat} (h : i < 256) : rIns (rws i) (nm2 i) (nmB i) = rws (i + 1) := by
  have e : rAt (rws i) (nm2 i) = i := by
    unfold rAt
    refine lat_uniq _ _ _ (by rw [nms_len, rws_len]; omega) (fun a ha hai => ?_) (fun q => ?_)
    · rw [nms_at]; exact rws_lt h hai
    · rw [nms_len, rws_len] at q; omega
  unfold rIns
  rw [e, List.take_of_length_le (by rw [rws_len]; omega), List.drop_eq_nil_of_le (by rw [rws_len]; omega), rws_succ]
theorem nmB_ok {i : Int} (h0 : 0 ≤ i) (h : i ≤ 1000) : birCheck (nmB i) = 0 := by
  unfold birCheck
  rw [if_pos (show lvalid [] = true by decide), if_pos]
  unfold okNum
  simp; omega
theorem rws_step {i : Nat} (h : i < 256) : rInsert [⟨d10, d10, rws i⟩] d10 (nm2 i) (nmB i) = ([⟨d10, d10, rws (i + 1)⟩], 0) := by
  unfold rInsert
  rw [if_neg (by rw [d10_ok]; simp), if_neg (by rw [nm2_ck ⟨i, h⟩]; simp), if_neg (by rw [nmB_ok (by omega) (by omega)]; simp)]
  have e : dFind [⟨d10, d10, rws i⟩] d10 = some ⟨d10, d10, rws i⟩ := by rw [dFind, if_pos rfl]
  rw [e]
  simp only
  rw [rws_none h, if_neg (by simp), if_neg (by rw [rws_len]; omega), dUpd, if_pos rfl, rws_ins h]
theorem not_rws {s : ByteArray} (h : ∀ j : Fin 256, nm2 j.val ≠ s) : rlook (rws 256) s = none := rlook_none.2 fun m => by
  obtain ⟨j, hj, e⟩ := List.getElem_of_mem m
  rw [nms_at] at e
  rw [nms_len, rws_len] at hj
  exact h ⟨j, hj⟩ e
abbrev sz1 : ByteArray := ⟨#[122]⟩
abbrev sz2 : ByteArray := ⟨#[122, 122]⟩
theorem rws_z1 : rlook (rws 256) sz1 = none := not_rws (by decide +kernel)
theorem rws_z2 : rlook (rws 256) sz2 = none := not_rws (by decide +kernel)
theorem many_end {n : Nat} (hn : n < 256) {t : Tr} {N N1 N2 N3 N4 : Chs} (h : Sim (gv t N) [⟨d10, d10, rws 256⟩]) (e1 : N1 = (insV t N d10 sz1 d10).2) (e2 : N2 = (insV t N1 d10 (nm2 n) d10).2) (e3 : N3 = (rmV t N2 d10 (nm2 n)).2) (e4 : N4 = (insV t N3 d10 sz2 d10).2) :
    (insV t N d10 sz1 d10).1 = 9 ∧ (insV t N1 d10 (nm2 n) d10).1 = 13 ∧ (rmV t N2 d10 (nm2 n)).1 = (nmB n, 0) ∧ (insV t N3 d10 sz2 d10).1 = 0 ∧ (dLs t N4 d10).2 = 0 ∧ (dLs t N4 d10).1.length = 256 := by
  have hd := d10_ok
  have hf : ∀ r, dFind [⟨d10, d10, r⟩] d10 = some ⟨d10, d10, r⟩ := fun r => by rw [dFind, if_pos rfl]
  have hu : ∀ r f, dUpd [⟨d10, d10, r⟩] d10 f = [f ⟨d10, d10, r⟩] := fun r f => by rw [dUpd, if_pos rfl]
  have hz1 : ckN sz1 = 0 := by decide +kernel
  have hz2 : ckN sz2 = 0 := by decide +kernel
  have hone : ckN (nm2 n) = 0 := nm2_ck ⟨n, hn⟩
  have r1 : rInsert [⟨d10, d10, rws 256⟩] d10 sz1 d10 = ([⟨d10, d10, rws 256⟩], 9) := by
    unfold rInsert
    rw [if_neg (by rw [hd]; simp), if_neg (by rw [hz1]; simp), if_neg (by rw [hd]; simp), hf]
    simp only
    rw [rws_z1, if_neg (by simp), if_pos (by rw [rws_len]; omega)]
  have r2 : rInsert [⟨d10, d10, rws 256⟩] d10 (nm2 n) d10 = ([⟨d10, d10, rws 256⟩], 13) := by
    unfold rInsert
    rw [if_neg (by rw [hd]; simp), if_neg (by rw [hone]; simp), if_neg (by rw [hd]; simp), hf]
    simp only
    rw [rws_some 256 hn (by omega), if_pos (by simp)]
  have r3 : rRemove [⟨d10, d10, rws 256⟩] d10 (nm2 n) = ([⟨d10, d10, rDel (rws 256) (nm2 n)⟩], nmB n, 0) := by
    unfold rRemove
    rw [if_neg (by rw [hd]; simp), if_neg (by rw [hone]; simp), hf]
    simp only
    rw [rws_some 256 hn (by omega)]
    simp only
    rw [hu]
  have hsb := rws_sbs (Nat.le_refl 256)
  have hz := rlook_rDel hsb (rws_some 256 hn (by omega)) sz2
  have hlen : (rDel (rws 256) (nm2 n)).length = 255 := by
    obtain ⟨a, b, e, hl, _⟩ := r_split hsb (rws_some 256 hn (by omega))
    have h1 := rws_len 256
    rw [rDel_eq e hl]
    rw [e] at h1
    simp at h1 ⊢
    omega
  have hzn : rlook (rDel (rws 256) (nm2 n)) sz2 = none := by
    rw [hz, rws_z2]; split <;> rfl
  have r4 : rInsert [⟨d10, d10, rDel (rws 256) (nm2 n)⟩] d10 sz2 d10 = ([⟨d10, d10, rIns (rDel (rws 256) (nm2 n)) sz2 d10⟩], 0) := by
    unfold rInsert
    rw [if_neg (by rw [hd]; simp), if_neg (by rw [hz2]; simp), if_neg (by rw [hd]; simp), hf]
    simp only
    rw [hzn, if_neg (by simp), if_neg (by rw [hlen]; omega), hu]
  obtain ⟨a1, a2, _⟩ := ins_sim h d10 sz1 d10
  rw [r1] at a1 a2
  rw [← e1] at a2
  obtain ⟨b1, b2, _⟩ := ins_sim a2 d10 (nm2 n) d10
  rw [r2] at b1 b2
  rw [← e2] at b2
  obtain ⟨c1, c2, _⟩ := rem_sim b2 d10 (nm2 n)
  rw [r3] at c1 c2
  rw [← e3] at c2
  obtain ⟨g1, g2, _⟩ := ins_sim c2 d10 sz2 d10
  rw [r4] at g1 g2
  rw [← e4] at g2
  have g3 := g2.dls hd
  rw [hf] at g3
  refine ⟨a1, b1, c1, g1, by rw [g3], ?_⟩
  rw [g3]
  simp only
  rw [nms_len, len_rIns, hlen]
theorem many_begin : (mkV .nil [] d10 d10).1 = 0 ∧ Sim (gv .nil (mkV .nil [] d10 d10).2) [⟨d10, d10, rws 0⟩] ∧ Sm .nil (mkV .nil [] d10 d10).2 := by
  have hr : rMake [] d10 d10 = ([⟨d10, d10, []⟩], 0) := by
    unfold rMake
    rw [if_neg (by rw [d10_ok]; simp), if_neg (by rw [d10_ok]; simp), if_neg (by simp [dFind])]
    rfl
  obtain ⟨h1, h2, _⟩ := make_sim sim_nil d10 d10
  rw [hr] at h1 h2
  exact ⟨h1, h2, (Sm.nil [] rfl).mk _ _⟩
theorem many_step {t : Tr} {N : Chs} {i : Nat} (hi : i < 256) (h : Sim (gv t N) [⟨d10, d10, rws i⟩]) (hm : Sm t N) :
    (insV t N d10 (nm2 i) (nmB i)).1 = 0 ∧ Sim (gv t (insV t N d10 (nm2 i) (nmB i)).2) [⟨d10, d10, rws (i + 1)⟩] ∧ Sm t (insV t N d10 (nm2 i) (nmB i)).2 := by
  obtain ⟨h1, h2, _⟩ := ins_sim h d10 (nm2 i) (nmB i)
  rw [rws_step hi] at h1 h2
  exact ⟨h1, h2, hm.ins _ _ _⟩
end Go.Proofs.YtkbldndbofbkcaaGreatDoor
/- replevinlaw28.DirectoryMany: the walk. -/
namespace Go.Proofs.YtkbldndbofbkcaaGreatDoor
open Go Go.RowKit
attribute [local irreducible] WL CW DW Ret RW
section
variable {P : Program} {N d : Nat} {f : Fr} {w : World} {T A B : TypeId} {p : String} {aft : Array Edge} {x y : Operand} {m n r : Int}
theorem X_addu (hx : ev N f x = .int .u8 m) (hy : ev N f y = .int .u8 n) (hr : r = m + n) (h0 : 0 ≤ r) (h1 : r ≤ 255) : Ex P N f w ⟨some d, .binOp .add A x y B, T, p, aft, none⟩ (.int .u8 r) w := by
  have h := X_add (P := P) (w := w) (d := d) (T := T) (p := p) (aft := aft) (A := A) (B := B) hx hy
  have e : IntKind.u8.wrap (m + n) = r := by
    subst hr
    simp [IntKind.wrap, IntKind.bits, IntKind.signed]; omega
  rwa [e] at h
theorem X_quon {k : IntKind} {m : Nat} (n : Nat) (hx : ev N f x = .int k m) (hy : ev N f y = .int k n) (hn : n ≠ 0) (hr : r = ((m / n : Nat) : Int)) (hw : k.wrap r = r) : Ex P N f w ⟨some d, .binOp .quo A x y B, T, p, aft, none⟩ (.int k r) w := by
  have h := X_quo (P := P) (w := w) (d := d) (T := T) (p := p) (aft := aft) (A := A) (B := B) hx hy (by omega)
  have e : (m : Int).tdiv (n : Int) = r := by subst hr; exact (Int.ofNat_tdiv m n).symm
  rw [e, hw] at h
  exact h
theorem X_remm {k : IntKind} {m : Nat} (n : Nat) (hx : ev N f x = .int k m) (hy : ev N f y = .int k n) (hn : n ≠ 0) (hr : r = ((m % n : Nat) : Int)) : Ex P N f w ⟨some d, .binOp .rem A x y B, T, p, aft, none⟩ (.int k r) w := by
  subst hr; exact X_rem hx hy (by omega)
theorem u8w {r : Int} (h0 : 0 ≤ r) (h1 : r ≤ 255) : IntKind.u8.wrap r = r := by
  simp [IntKind.wrap, IntKind.bits, IntKind.signed]; omega
end
theorem directoryMany_ok (n : Nat) (w0 : World) (hn : n < 256) :
    Ret Tryz.prog 8 #[.int .u8 n] w0 fun v w' => v = .bool true ∧ Fm [] w0 w' := by
  have hs := St.init w0 []
  refine Ret_enter Tryz.func8 rfl Tryz.ntmps8 (by simp) ?_
  refine CW_seq (fun K1 hK1 => ?_)
  refine CW_region ?_
  refine asp (.bool _) rfl ?_
  refine WL_nil ?_
  refine hK1 _ _ ?_
  refine CW_seq (fun K2 hK2 => ?_)
  refine CW_seq (fun K3 hK3 => ?_)
  refine CW_region ?_
  refine cll (known28_ok _) ?_
  rintro _ w ⟨rfl, hf⟩
  replace hs := hs.call hf
  refine notW rfl ?_
  refine WL_nil ?_
  refine hK3 _ _ ?_
  refine CW_condF rfl (rfl) ?_
  refine CW_skip ?_
  refine hK2 _ _ ?_
  refine CW_seq (fun K4 hK4 => ?_)
  refine CW_region ?_
  refine cll (SNew_ok _) ?_
  rintro _ w ⟨b, rfl, hT, hb, hf⟩
  replace hs := hs.callNew hf hT (by intro x hx; simp [eT, Tr.fp] at hx; subst hx; exact hb)
  refine cll (VNewT b .nil _ (hs.he _)) ?_
  rintro _ w ⟨g, r1, r2, rfl, ht⟩
  replace hs := hs.turnE rfl ht
  refine asp (.pointer _) rfl ?_
  refine WL_nil ?_
  refine hK4 _ _ ?_
  refine CW_seq (fun K5 hK5 => ?_)
  refine CW_region ?_
  refine WL_v (v := .agg (birV d10).toArray) (X_build rfl rfl) ?_
  refine alc hs ?_
  intro w g4 hs hg4 hf4
  refine sto (.agg (birV d10).toArray) (vl := birV d10) hs rfl rfl rfl rfl (by simp) rfl ?_
  intro w hs _
  replace hs : St w0 _ w (eB g4 true (Blk 44 (birV d10)) :: _) := hs
  refine WL_nil ?_
  refine hK5 _ _ ?_
  refine CW_seq (fun K6 hK6 => ?_)
  refine CW_seq (fun K7 hK7 => ?_)
  refine CW_region ?_
  refine mvp (.pointer _) rfl ?_
  refine ldA hs rfl (by simp) ?_
  refine ldA hs rfl (by simp) ?_
  refine cll (Make_ok g b r1 r2 .nil none 0 0 [] [] [] d10 d10 _ (hs.he _) d10_sz d10_sz (by omega)) ?_
  rintro _ w ⟨rfl, a1, m1, c1, C1, hm1, ht⟩
  replace hs := hs.turnE rfl ht
  obtain ⟨k1, k2, k3⟩ := many_begin
  rw [k1]
  generalize (mkV .nil [] d10 d10).2 = N1 at hs k2 k3
  generalize mkR .nil [] [] d10 d10 = R1 at hs
  refine neqW rfl rfl ?_
  refine WL_nil ?_
  refine hK7 _ _ ?_
  refine CW_condF rfl (rfl) ?_
  refine CW_skip ?_
  refine hK6 _ _ ?_
  refine CW_seq (fun K8 hK8 => ?_)
  refine CW_seq (fun K9 hK9 => ?_)
  refine CW_region ?_
  refine asp (.int _ _) rfl ?_
  refine WL_nil ?_
  refine hK9 _ _ ?_
  refine CW_block ?_
  refine CW_loop (fun kk f w' => ∃ (i m cc : Nat) (aa : Option Addr) (R C N : Chs), kk = 256 - i ∧ i ≤ 256 ∧ f 0 = .int .u8 n ∧ f 3 = .pointer (some ⟨g, 0, none⟩) ∧ f 4 = .pointer (some ⟨g4, 0, none⟩) ∧ f 5 = .int .i64 i ∧ m ≤ 2 * i + 2 ∧ Sim (gv .nil N) [⟨d10, d10, rws i⟩] ∧ Sm .nil N ∧ St w0 [] w' [eV g b r1 r2 .nil aa m cc R C N, eB g4 true (Blk 44 (birV d10))]) 256 ?_ ?_
  · exact ⟨0, m1, c1, a1, R1, C1, N1, by omega, by omega, rfl, rfl, rfl, rfl, by omega, k2, k3, hs.sel⟩
  · rintro kk f w1 ⟨i, m, cc, aa, R, C, N, rfl, hi, e0, e3, e4, e5, hm, hN, hNs, hs⟩
    refine CW_kn (i := 0) e0 (CW_kn (i := 3) e3 (CW_kn (i := 4) e4 (CW_kn (i := 5) e5 ?_)))
    refine CW_seq (fun K10 hK10 => ?_)
    refine CW_seq (fun K11 hK11 => ?_)
    refine CW_region ?_
    refine mvp (.int _ _) rfl ?_
    refine lssW rfl rfl ?_
    refine WL_nil ?_
    refine hK11 _ _ ?_
    refine CW_cond rfl (fun hc25 => ?_) (fun hc25 => ?_)
    · have hi2 : i < 256 := by simp at hc25; omega
      obtain ⟨p, hp⟩ : ∃ p : UInt8, p = UInt8.ofNat (97 + i / 16) := ⟨_, rfl⟩
      obtain ⟨q, hq⟩ : ∃ q : UInt8, q = UInt8.ofNat (97 + i % 16) := ⟨_, rfl⟩
      have hpn : p.toNat = 97 + i / 16 := by rw [hp]; exact UInt8.toNat_ofNat_of_lt (by show _ < 256; omega)
      have hqn : q.toNat = 97 + i % 16 := by rw [hq]; exact UInt8.toNat_ofNat_of_lt (by show _ < 256; omega)
      have hnm : nm2 i = str [p, q] := by unfold nm2; rw [← hp, ← hq]; rfl
      refine CW_skip ?_
      refine hK10 _ _ ?_
      refine CW_seq (fun K12 hK12 => ?_)
      refine CW_block ?_
      refine CW_seq (fun K13 hK13 => ?_)
      refine CW_region ?_
      refine mvp (.pointer _) rfl ?_
      refine ldA hs rfl (by simp) ?_
      refine mvp (.int _ _) rfl ?_
      refine WL_v (v := .int .i64 ((i / 16 : Nat) : Int)) (X_quon 16 rfl rfl (by omega) rfl (wrap_in (by omega) (by omega))) ?_
      refine cviW rfl ?_
      rw [u8w (by omega) (by omega)]
      refine WL_v (v := .int .u8 (p.toNat : Int)) (X_addu rfl rfl (by omega) (by omega) (by omega)) ?_
      refine mvp (.int _ _) rfl ?_
      refine WL_v (v := .int .i64 ((i % 16 : Nat) : Int)) (X_remm 16 rfl rfl (by omega) rfl) ?_
      refine cviW rfl ?_
      rw [u8w (by omega) (by omega)]
      refine WL_v (v := .int .u8 (q.toNat : Int)) (X_addu rfl rfl (by omega) (by omega) (by omega)) ?_
      refine W_bslice hs (BS.ii rfl (BS.ii rfl .nil)) rfl (by simp) ?_
      intro w g38 hs hg38 hf38
      refine WL_v (v := .string (nm2 i)) (by rw [hnm]; exact X_cvStr rfl (rdB hs (by simp) rfl) rfl) ?_
      refine mvp (.int _ _) rfl ?_
      refine WL_v (v := .agg (birV (nmB i)).toArray) (X_build rfl rfl) ?_
      refine cll (DInsert_ok g b r1 r2 .nil aa m cc R C N d10 (nm2 i) (nmB i) _ (hs.he _) d10_sz (show (0 : Nat) ≤ _ from Nat.zero_le _) (hNs.le _) (by omega)) ?_
      rintro _ w ⟨rfl, a2, m2, c2, C2, hm2, ht⟩
      replace hs := hs.turnE rfl ht
      obtain ⟨j1, j2, j3⟩ := many_step hi2 hN hNs
      rw [j1]
      generalize (insV .nil N d10 (nm2 i) (nmB i)).2 = N2 at hs j2 j3
      generalize insR .nil R N d10 (nm2 i) (nmB i) = R2 at hs
      refine neqW rfl rfl ?_
      refine WL_nil ?_
      refine hK13 _ _ ?_
      refine CW_condF rfl (rfl) ?_
      refine CW_skip ?_
      refine hK12 _ _ ?_
      refine CW_region ?_
      refine mvp (.int _ _) rfl ?_
      first | refine addI rfl rfl (by omega) ?_ | refine addW rfl rfl ?_
      refine asp (.int _ _) rfl ?_
      refine WL_nil ?_
      skip
      exact ⟨256 - (i + 1), by omega, i + 1, m2, c2, a2, R2, C2, N2, rfl, by omega, rfl, rfl, rfl, rfl, by omega, j2, j3, hs.sel⟩
    · have hi6 : i = 256 := by simp at hc25; omega
      subst hi6
      obtain ⟨N1, hN1⟩ : ∃ N1, N1 = (insV .nil N d10 sz1 d10).2 := ⟨_, rfl⟩
      obtain ⟨N2, hN2⟩ : ∃ N2, N2 = (insV .nil N1 d10 (nm2 n) d10).2 := ⟨_, rfl⟩
      obtain ⟨N3, hN3⟩ : ∃ N3, N3 = (rmV .nil N2 d10 (nm2 n)).2 := ⟨_, rfl⟩
      obtain ⟨N4, hN4⟩ : ∃ N4, N4 = (insV .nil N3 d10 sz2 d10).2 := ⟨_, rfl⟩
      obtain ⟨z1, z2, z3, z4, z5, z6⟩ := many_end hn hN hN1 hN2 hN3 hN4
      have s1 : Sm .nil N1 := hN1 ▸ hNs.ins _ _ _
      have s2 : Sm .nil N2 := hN2 ▸ s1.ins _ _ _
      have s3 : Sm .nil N3 := hN3 ▸ s2.rm _ _
      have s4 : Sm .nil N4 := hN4 ▸ s3.ins _ _ _
      obtain ⟨p, hp⟩ : ∃ p : UInt8, p = UInt8.ofNat (97 + n / 16) := ⟨_, rfl⟩
      obtain ⟨q, hq⟩ : ∃ q : UInt8, q = UInt8.ofNat (97 + n % 16) := ⟨_, rfl⟩
      have hpn : p.toNat = 97 + n / 16 := by rw [hp]; exact UInt8.toNat_ofNat_of_lt (by show _ < 256; omega)
      have hqn : q.toNat = 97 + n % 16 := by rw [hq]; exact UInt8.toNat_ofNat_of_lt (by show _ < 256; omega)
      have hnm : nm2 n = str [p, q] := by unfold nm2; rw [← hp, ← hq]; rfl
      refine CW_exit ?_
      refine hK8 _ _ ?_
      refine CW_seq (fun K14 hK14 => ?_)
      refine CW_region ?_
      refine mvp (.int _ _) rfl ?_
      refine WL_v (v := .int .u8 ((n / 16 : Nat) : Int)) (X_quon 16 rfl rfl (by omega) rfl (u8w (by omega) (by omega))) ?_
      refine WL_v (v := .int .u8 (p.toNat : Int)) (X_addu rfl rfl (by omega) (by omega) (by omega)) ?_
      refine mvp (.int _ _) rfl ?_
      refine WL_v (v := .int .u8 ((n % 16 : Nat) : Int)) (X_remm 16 rfl rfl (by omega) rfl) ?_
      refine WL_v (v := .int .u8 (q.toNat : Int)) (X_addu rfl rfl (by omega) (by omega) (by omega)) ?_
      refine W_bslice hs (BS.ii rfl (BS.ii rfl .nil)) rfl (by simp) ?_
      intro w g50 hs hg50 hf50
      refine WL_v (v := .string (nm2 n)) (by rw [hnm]; exact X_cvStr rfl (rdB hs (by simp) rfl) rfl) ?_
      refine asp (.string _) rfl ?_
      refine WL_nil ?_
      refine hK14 _ _ ?_
      refine CW_seq (fun K15 hK15 => ?_)
      refine CW_region ?_
      refine mvp (.pointer _) rfl ?_
      refine ldA hs rfl (by simp) ?_
      refine ldA hs rfl (by simp) ?_
      refine cll (DInsert_ok g b r1 r2 .nil aa m cc R C N d10 sz1 d10 _ (hs.he _) d10_sz d10_sz (hNs.le _) (by omega)) ?_
      rintro _ w ⟨rfl, a1, m1, c1, C1, hm1, ht⟩
      replace hs := hs.turnE rfl ht
      rw [← hN1] at hs
      rw [z1]
      generalize insR .nil R N d10 sz1 d10 = R1 at hs
      refine asp (.int _ _) rfl ?_
      refine WL_nil ?_
      refine hK15 _ _ ?_
      refine CW_seq (fun K16 hK16 => ?_)
      refine CW_region ?_
      refine mvp (.pointer _) rfl ?_
      refine ldA hs rfl (by simp) ?_
      refine mvp (.string _) rfl ?_
      refine ldA hs rfl (by simp) ?_
      refine cll (DInsert_ok g b r1 r2 .nil a1 m1 c1 R1 C1 N1 d10 (nm2 n) d10 _ (hs.he _) d10_sz d10_sz (s1.le _) (by omega)) ?_
      rintro _ w ⟨rfl, a2, m2, c2, C2, hm2, ht⟩
      replace hs := hs.turnE rfl ht
      rw [← hN2] at hs
      rw [z2]
      generalize insR .nil R1 N1 d10 (nm2 n) d10 = R2 at hs
      refine asp (.int _ _) rfl ?_
      refine WL_nil ?_
      refine hK16 _ _ ?_
      refine CW_seq (fun K17 hK17 => ?_)
      refine CW_region ?_
      refine mvp (.pointer _) rfl ?_
      refine ldA hs rfl (by simp) ?_
      refine mvp (.string _) rfl ?_
      refine cll (DRemove_ok g b r1 r2 .nil a2 m2 c2 R2 C2 N2 d10 (nm2 n) _ (hs.he _) d10_sz (s2.le _) (s2.le _) (by omega)) ?_
      rintro _ w ⟨rfl, a3, m3, c3, C3, hm3, ht⟩
      replace hs := hs.turnE rfl ht
      rw [← hN3] at hs
      rw [z3]
      generalize rmR .nil R2 N2 d10 (nm2 n) = R3 at hs
      refine mvp (.tuple _) rfl ?_
      refine ext rfl rfl ?_
      refine ext rfl rfl ?_
      refine alc hs ?_
      intro w g9 hs hg9 hf9
      refine sto (.agg (birV (nmB n)).toArray) (vl := birV (nmB n)) hs rfl rfl rfl rfl (by simp) rfl ?_
      intro w hs _
      replace hs : St w0 _ w (eB g9 true (Blk 44 [.string ⟨#[]⟩, .int .i64 n]) :: _) := hs
      refine asp (.int _ _) rfl ?_
      refine WL_nil ?_
      refine hK17 _ _ ?_
      refine CW_seq (fun K18 hK18 => ?_)
      refine CW_region ?_
      refine mvp (.pointer _) rfl ?_
      refine ldA hs rfl (by simp) ?_
      refine ldA hs rfl (by simp) ?_
      refine cll (DInsert_ok g b r1 r2 .nil a3 m3 c3 R3 C3 N3 d10 sz2 d10 _ (hs.he _) d10_sz d10_sz (s3.le _) (by omega)) ?_
      rintro _ w ⟨rfl, a4, m4, c4, C4, hm4, ht⟩
      replace hs := hs.turnE rfl ht
      rw [← hN4] at hs
      rw [z4]
      generalize insR .nil R3 N3 d10 sz2 d10 = R4 at hs
      refine asp (.int _ _) rfl ?_
      refine WL_nil ?_
      refine hK18 _ _ ?_
      refine CW_seq (fun K19 hK19 => ?_)
      refine CW_region ?_
      refine mvp (.pointer _) rfl ?_
      refine ldA hs rfl (by simp) ?_
      refine cll (List_ok g b r1 r2 .nil a4 m4 c4 R4 C4 N4 d10 _ (hs.he _) d10_sz (s4.le _)) ?_
      rintro _ w ⟨la, ln, lc, rfl, hln, ht⟩
      replace hs := hs.turn2 ht rfl rfl rfl
      rw [if_neg (by rw [d10_ok]; simp)] at hln
      rw [if_neg (by rw [d10_ok]; simp)]
      rw [z6] at hln
      rw [z5]
      subst hln
      refine mvp (.tuple _) rfl ?_
      refine ext rfl rfl ?_
      refine ext rfl rfl ?_
      refine asp (.slice _ _ _) rfl ?_
      refine asp (.int _ _) rfl ?_
      refine WL_nil ?_
      refine hK19 _ _ ?_
      refine CW_seq (fun K20 hK20 => ?_)
      refine CW_region ?_
      refine mvp (.int _ _) rfl ?_
      refine eqlW rfl rfl ?_
      refine mvp (.bool _) rfl ?_
      refine WL_gyb (g := 80) rfl (by decide) rfl (rfl) ?_
      refine mvp (.int _ _) rfl ?_
      refine WL_gy (g := 80) rfl (by decide) rfl ?_
      refine eqlW rfl rfl ?_
      first | refine pkT rfl rfl ?_ | refine pkF rfl rfl ?_
      refine mvp (.bool _) rfl ?_
      refine WL_gyb (g := 84) rfl (by decide) rfl (rfl) ?_
      refine fad rfl ?_
      refine WL_gy (g := 84) rfl (by decide) rfl ?_
      refine ld hs rfl rfl ?_
      refine WL_gy (g := 84) rfl (by decide) rfl ?_
      refine mvp (.int _ _) rfl ?_
      refine WL_gy (g := 84) rfl (by decide) rfl ?_
      refine WL_v (v := .int .i64 (n : Int)) (X_cvintp rfl (by omega) (by omega)) ?_
      refine WL_gy (g := 84) rfl (by decide) rfl ?_
      refine eqlW rfl rfl ?_
      first | refine pkT rfl rfl ?_ | refine pkF rfl rfl ?_
      refine mvp (.bool _) rfl ?_
      refine WL_gyb (g := 91) rfl (by decide) rfl ((decide_eq_true rfl)) ?_
      refine mvp (.int _ _) rfl ?_
      refine WL_gy (g := 91) rfl (by decide) rfl ?_
      refine eqlW rfl rfl ?_
      first | refine pkT rfl rfl ?_ | refine pkF rfl rfl ?_
      refine mvp (.bool _) rfl ?_
      refine WL_gyb (g := 95) rfl (by decide) rfl (rfl) ?_
      refine mvp (.int _ _) rfl ?_
      refine WL_gy (g := 95) rfl (by decide) rfl ?_
      refine eqlW rfl rfl ?_
      first | refine pkT rfl rfl ?_ | refine pkF rfl rfl ?_
      refine mvp (.bool _) rfl ?_
      refine WL_gyb (g := 99) rfl (by decide) rfl (rfl) ?_
      refine mvp (.int _ _) rfl ?_
      refine WL_gy (g := 99) rfl (by decide) rfl ?_
      refine eqlW rfl rfl ?_
      first | refine pkT rfl rfl ?_ | refine pkF rfl rfl ?_
      refine mvp (.bool _) rfl ?_
      refine WL_gyb (g := 103) rfl (by decide) rfl (rfl) ?_
      refine mvp (.slice _ _ _) rfl ?_
      refine WL_gy (g := 103) rfl (by decide) rfl ?_
      refine lenW rfl ?_
      refine WL_gy (g := 103) rfl (by decide) rfl ?_
      refine eqlW rfl rfl ?_
      first | refine pkT rfl rfl ?_ | refine pkF rfl rfl ?_
      refine asp (.bool _) rfl ?_
      refine WL_nil ?_
      refine hK20 _ _ ?_
      refine CW_ret ?_
      repeat (first | (with_reducible apply thenF_ret) | (with_reducible apply blockF_ret))
      try simp only [thenF, blockF, reduceIte]
      refine Post_r Tryz.results8 (.tmp rfl .nil) ?_
      try simp only [ev_tmp, ev_const, upd_ap, Nat.reduceLT, Nat.reduceEqDiff, reduceIte]
      exact ⟨by trivial, hs.fm⟩
end Go.Proofs.YtkbldndbofbkcaaGreatDoor
/- For every number of a name, DirectoryMany returns true: a directory has at most 256 names (the statement's tied card). No condition. -/
namespace Go.Proofs.YtkbldndbofbkcaaGreatDoor
open Go Go.ChangeShapes Go.WideShapes Go.RowKit
theorem directoryMany_types : ∀ t ∈ Tryz.f8.params.toList, Tryz.prog.readableRec t = true ∧ t < Tryz.prog.types.size := by
  rw [Tryz.params8]; intro t ht; simp at ht
  first | (subst ht; exact ⟨by kernel_rfl, of_decide_eq_true (by kernel_rfl)⟩) | (rcases ht with rfl | rfl <;> exact ⟨by kernel_rfl, of_decide_eq_true (by kernel_rfl)⟩) | (rcases ht with rfl | rfl | rfl <;> exact ⟨by kernel_rfl, of_decide_eq_true (by kernel_rfl)⟩)
set_option maxRecDepth 100000 in
theorem directoryMany_lifted (os : Os) (started : os.Started) (H : Type) (enc : TypeId × Value → H) :
    ReturnsInHanded {} Tryz.checked os 8 .any (fun w args => (Rows.directoryManySpec.pre enc Tryz.prog Tryz.f8 [] false w args ∧ laidMetH Tryz.prog laid5 w) ∧ sizedMet enc Tryz.prog Tryz.f8 (OpenSpec.ofChange Rows.directoryManySpec) false w args)
      (Rows.directoryManySpec.post enc Tryz.prog Tryz.f8 false true false false) := by
  refine returnsInHanded_of_change_and (C := Tryz.checked) (X := fun w _ => laidMetH Tryz.prog laid5 w) (fun _ _ _ hh h => h.of_heap hh) own started (by kernel_rfl) Tryz.func8
    (ChangeSpec.witness_shaped (enc := enc) (C := Tryz.checked) (os := os) (X := fun w _ => laidMetH Tryz.prog laid5 w) false (World.doorLaid Tryz.prog 400 os) #[.int .u8 0] 8 rfl (World.shaped_of_RefB (by kernel_rfl) (by kernel_rfl)) (by kernel_rfl) (by kernel_rfl) (by kernel_rfl) (door_met os _)) ?_
  intro W base args ds gs before hval0 hW _ _ _ _
  have hval : ∀ (j : Nat) t v, Tryz.f8.params[j]? = some t → args[j]? = some v → Value.okWide Tryz.prog W .any base t v := hval0
  have hW' := hW
  obtain ⟨p, q, hA0, hV, rfl, _, _⟩ := hW
  have hA : DataW.TrodAll enc Tryz.prog W 0 (fun _ => true) true Tryz.f8.params.toList args.toList ds p := hA0
  rw [Tryz.params8] at hA hval
  obtain ⟨v0, d0, rfl, rfl, h0⟩ := trodAll_one hA
  obtain ⟨rfl, rfl⟩ := trodVars_none hV
  obtain ⟨k, rfl, hk⟩ := arg_u8 (hval 0 _ v0 rfl rfl) h0
  exact law_calls rfl rfl directoryMany_types hW' rfl (directoryMany_ok k W hk)
theorem directoryMany_j1 : Rows.directoryManyRow.wf (OpenSpec.ofChange Rows.directoryManySpec) = true := by kernel_rfl
theorem directoryMany_j4 : Tryz.f8.params.all (Tryz.prog.readableRec ·) = true := by kernel_rfl
theorem directoryMany_j5 : namedTie Tryz.prog Rows.directoryManyRow.named Rows.directoryManySpec.vars = true := by kernel_rfl
theorem directoryMany_j6 : (Rows.directoryManyRow.stops == []) = true := by kernel_rfl
theorem directoryMany_j8 : (Rows.directoryManyRow.knobs == []) = true := by kernel_rfl
theorem directoryMany_j10 : (Rows.directoryManyRow.inPlace == Tryz.prog.inPlace 8) = true := by kernel_rfl
theorem directoryMany_j11 : (Rows.directoryManyRow.unfollowed == Tryz.prog.unfollowed 8) = true := by kernel_rfl
theorem directoryMany_j12 : (Rows.directoryManyRow.recurses == Tryz.prog.recurses 8) = true := by kernel_rfl
theorem directoryMany_j13 : (Rows.directoryManyRow.named == Tryz.prog.varsNamed 8) = true := by kernel_rfl
theorem directoryMany_j14 : (Rows.directoryManyRow.maps == (Tryz.f8.params.toList ++ Rows.directoryManySpec.plain.varTypes Tryz.prog).any (Tryz.prog.mapsRec ·)) = true := by kernel_rfl
theorem directoryMany_j15 : (Rows.directoryManyRow.ifaces == (Tryz.f8.params.toList ++ Rows.directoryManySpec.plain.varTypes Tryz.prog).any (Tryz.prog.ifacesRec ·)) = true := by kernel_rfl
theorem directoryMany_j16 : (Rows.directoryManyRow.mapsOut == Tryz.prog.mapsAmong Tryz.f8.resultTypes.toList) = true := by kernel_rfl
theorem directoryMany_j17 : (Rows.directoryManyRow.loops == (Tryz.f8.params.toList ++ Rows.directoryManySpec.plain.varTypes Tryz.prog).any (Tryz.prog.loopsFrom ·)) = true := by kernel_rfl
theorem directoryMany_j18 : (Rows.directoryManyRow.wideKeys == (Tryz.f8.params.toList ++ Rows.directoryManySpec.plain.varTypes Tryz.prog ++ Tryz.f8.resultTypes.toList).any (Tryz.prog.wideKeysFrom ·)) = true := by kernel_rfl
theorem directoryMany_j19 : Rows.directoryManySpec.vars.all (Tryz.prog.varReadable ·) = true := by kernel_rfl
theorem directoryMany_j20 : Tryz.f8.resultTypes.all (fun t => Tryz.prog.readableRec t && decide (t < Tryz.prog.types.size)) = true := by kernel_rfl
theorem directoryMany_j21 : (Rows.directoryManyRow.ifacesOut == Tryz.f8.resultTypes.toList.any (Tryz.prog.ifacesRec ·)) = true := by kernel_rfl
theorem directoryMany_j22 : (Rows.directoryManyRow.loopsOut == Tryz.f8.resultTypes.toList.any (Tryz.prog.loopsFrom ·)) = true := by kernel_rfl
theorem directoryMany_j23 : (Rows.directoryManyRow.plainKeys == Tryz.prog.plainKeys) = true := p_keys
theorem directoryMany_j24 : Rows.directoryManyRow.shortTexts.isNone = true := by kernel_rfl
theorem directoryMany_j27 : (Rows.directoryManyRow.lifted == Tryz.prog.liftsFinal) = true := p_lift
theorem directoryMany_j28 : (Tryz.prog.make == some Rows.directoryManyRow.make) = true := p_make
theorem directoryMany_j30 : (Rows.directoryManyRow.pinned == Rows.directoryManyRow.pinnedBy) = true := by kernel_rfl
theorem directoryMany_j31 : (Rows.directoryManyRow.veiled == (Tryz.f8.params.toList ++ Rows.directoryManySpec.plain.varTypes Tryz.prog ++ Tryz.f8.resultTypes.toList).any (Tryz.prog.veiledRec ·)) = true := by kernel_rfl
theorem directoryMany_j32 : Rows.directoryManyRow.veiledFits Tryz.prog Tryz.f8.params.toList (Tryz.f8.params.toList ++ Rows.directoryManySpec.plain.varTypes Tryz.prog ++ Tryz.f8.resultTypes.toList) = true := by kernel_rfl
theorem directoryMany_joined : joinedFacts Tryz.prog 8 Tryz.f8 Rows.directoryManySpec Rows.directoryManyRow = true :=
  joined_of directoryMany_j1 laidOut p_maps directoryMany_j4 directoryMany_j5 directoryMany_j6 p_stops directoryMany_j8 p_knobs directoryMany_j10 directoryMany_j11 directoryMany_j12 directoryMany_j13 directoryMany_j14 directoryMany_j15 directoryMany_j16 directoryMany_j17 directoryMany_j18 directoryMany_j19 directoryMany_j20 directoryMany_j21 directoryMany_j22 directoryMany_j23 directoryMany_j24 p_heard p_enter directoryMany_j27 directoryMany_j28 rfl rfl directoryMany_j30 directoryMany_j31 directoryMany_j32
theorem directoryMany_named : Tryz.prog.funcNamed "replevin/replevinlaw28.DirectoryMany" = some 8 := by kernel_rfl
theorem directoryMany_inst : Tryz.f8.isInstance Tryz.prog Rows.directoryManyRow.origin Rows.directoryManyRow.targs := of_decide_eq_true (by kernel_rfl)
theorem directoryMany_wrap : Tryz.f8.isWrapper Tryz.prog Rows.directoryManyRow.wrapper Rows.directoryManyRow.mainSum := by unfold Func.isWrapper; rw [if_neg (of_decide_eq_false (by kernel_rfl))]; exact ⟨rfl, rfl⟩
theorem directoryMany_said : Rows.DirectoryManySaid :=
  OpenClaim.holds_of_wide 8 Tryz.f8 rfl rfl rfl rfl rfl rfl rfl ⟨rfl, rfl, rfl, rfl, rfl⟩ rfl rfl rfl rfl rfl directoryMany_named Tryz.func8 directoryMany_joined directoryMany_inst directoryMany_wrap (fun os started H enc _ => directoryMany_lifted os started H enc)
theorem directoryMany_want0 : Tryz.prog.wantsStandIn 5 = false := by kernel_rfl
theorem directoryMany_wf : Rows.directoryManyRow.wfByText (OpenSpec.ofChange Rows.directoryManySpec) = true := by kernel_rfl
theorem directoryMany_goes : false = Rows.directoryManyRow.goesBy Tryz.prog := by kernel_rfl
theorem directoryMany_plain : ∀ f fn, Tryz.prog.funcNamed "replevin/replevinlaw28.DirectoryMany" = some f → Tryz.prog.funcs[f]? = some fn → true = Tryz.prog.looks [] ∧ ∀ (j : Nat) t, fn.params[j]? = some t → Tryz.prog.wantsStandIn t = false := fun f fn hf hfn => by
  obtain rfl : f = 8 := (Option.some.inj (directoryMany_named.symm.trans hf)).symm
  obtain rfl : fn = Tryz.f8 := (Option.some.inj (Tryz.func8.symm.trans hfn)).symm
  refine ⟨p_looks, fun j t ht => ?_⟩
  rw [Tryz.params8] at ht
  have hm := List.mem_of_getElem? (by simpa using ht)
  simp at hm
  subst hm
  exact directoryMany_want0
theorem directoryMany_holds : Rows.DirectoryManyCardSaid :=
  Claim7.holds_tied_plain_at .later [] [.data, .data, .data, .sentinel, .sentinel] true (true, "2a6453758fad6cc53dd7f591497998820b78589a43cd8ac577ef6ff2b26842bc") true
    directoryMany_said (fun _ h => by cases h) directoryMany_wf (fun _ h => by cases h) directoryMany_row_tie rfl ⟨rfl, rfl⟩ p_main rfl directoryMany_plain directoryMany_goes
#print axioms directoryMany_holds
end Go.Proofs.YtkbldndbofbkcaaGreatDoor
