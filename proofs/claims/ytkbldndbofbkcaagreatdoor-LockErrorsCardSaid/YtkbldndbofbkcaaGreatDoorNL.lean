/- Plain: trees of objects. | A drawn region: an operation whose guard was itself passed over. | state: tall, many, total, join, balance, with. | state: balance, with. | state: with, first, without; Len, With, Without. | Plain: the order of names; trees in order. | Plain: what a view has of a name. | Plain: what a tree in order says of a name; a list of changes. -/
import Derived.Test.YtkbldndbofbkcaaGreatDoorMD
import Derived.Test.YtkbldndbofbkcaaGreatDoorMA
import Derived.Lib.Bytealg
set_option linter.unusedSimpArgs false
set_option linter.unusedVariables false
/- Plain: trees of objects. -/
namespace Go.Proofs.YtkbldndbofbkcaaGreatDoor
open Go Go.RowKit
def Tr.tall : Tr → Int
  | .nil => 0
  | .node _ _ _ _ _ h _ _ => h
def Tr.many : Tr → Int
  | .nil => 0
  | .node _ _ _ _ _ _ sz _ => sz
def Tr.total : Tr → Int
  | .nil => 0
  | .node _ _ _ _ _ _ _ by_ => by_
def mx (a b : Int) : Int := if b > a then b else a
theorem mx_le (a b : Int) : a ≤ mx a b ∧ b ≤ mx a b ∧ (mx a b = a ∨ mx a b = b) := by unfold mx; split <;> omega
def Tr.ok : Tr → Prop
  | .nil => True
  | .node _ _ v l r h sz by_ => h = 1 + mx l.tall r.tall ∧ sz = 1 + l.many + r.many ∧ by_ = v.size + l.total + r.total ∧ v.size ≤ 65536 ∧ l.ok ∧ r.ok
abbrev Ols := List (ONm × ByteArray)
def Tr.list : Tr → Ols
  | .nil => []
  | .node _ nm v l r _ _ _ => l.list ++ (nm, v) :: r.list
theorem Tr.list_len : ∀ t : Tr, t.list.length = t.count
  | .nil => rfl
  | .node _ nm v l r _ _ _ => by simp only [Tr.list, Tr.count, List.length_append, List.length_cons, Tr.list_len l, Tr.list_len r]; omega
theorem Tr.cnt : ∀ {t : Tr}, t.ok → t.many = t.count ∧ 0 ≤ t.tall ∧ t.tall ≤ t.count ∧ 0 ≤ t.total ∧ t.total ≤ 65536 * t.count ∧ (t.tall = 0 → t = .nil)
  | .nil, _ => ⟨rfl, Int.le_refl _, Int.le_refl _, Int.le_refl _, Int.le_refl _, fun _ => rfl⟩
  | .node k nm v l r h sz by_, ⟨e1, e2, e3, e4, h1, h2⟩ => by
    obtain ⟨a1, a2, a3, a4, a5, _⟩ := Tr.cnt h1
    obtain ⟨b1, b2, b3, b4, b5, _⟩ := Tr.cnt h2
    have hm := mx_le l.tall r.tall
    simp only [Tr.many, Tr.tall, Tr.total, Tr.count]
    refine ⟨by omega, by omega, by omega, by omega, by omega, fun q => by omega⟩
theorem Tr.at.fm {w w' : World} {t : Tr} (ha : t.at w) (h : Fm [] w w') : t.at w' := Tr.loc (fun b hb => h.block b (Tr.lt ha b hb) (by simp)) ha
theorem Tr.uniq {w : World} : ∀ {t s : Tr}, t.at w → s.at w → t.q = s.q → t = s
  | .nil, .nil, _, _, _ => rfl
  | .nil, .node .., _, _, h => by simp [Tr.q] at h
  | .node .., .nil, _, _, h => by simp [Tr.q] at h
  | .node k nm v l r h sz by_, .node k' nm' v' l' r' h' sz' by_', ⟨a1, _, a3, a4⟩, ⟨b1, _, b3, b4⟩, hq => by
    simp only [Tr.q, Option.some.injEq, Addr.mk.injEq, and_true] at hq
    subst hq
    rw [a1] at b1
    have b2 := Option.some.inj b1
    have b3' : Tr.row nm v l.ptr r.ptr h sz by_ = Tr.row nm' v' l'.ptr r'.ptr h' sz' by_' := by
      have := congrArg (fun o => match o with | Obj.cells c _ _ => c.toList | _ => []) b2
      simpa using this
    simp [Tr.row, onV] at b3'
    obtain ⟨c1, c2, c3, c4, c5, c6, c7, c8, c9, c10, c11⟩ := b3'
    have e1 := Tr.uniq a3 b3 c7
    have e2 := Tr.uniq a4 b4 c8
    have e3 : nm = nm' := by cases nm; cases nm'; simp_all
    subst e1 e2 e3 c6 c9 c10 c11
    rfl
theorem Tr.apartR {w : World} {k k2 : Nat} {nm nm2 : ONm} {v v2 : ByteArray} {l l2 r2 : Tr} {h sz by_ h2 sz2 by2 : Int} (ha : (Tr.node k nm v l (.node k2 nm2 v2 l2 r2 h2 sz2 by2) h sz by_).at w) : k2 ≠ k := by
  rintro rfl
  have := Tr.uniq ha ha.2.2.2 rfl
  have := congrArg Tr.count this
  simp only [Tr.count] at this
  omega
theorem Tr.apartL {w : World} {k k2 : Nat} {nm nm2 : ONm} {v v2 : ByteArray} {r l2 r2 : Tr} {h sz by_ h2 sz2 by2 : Int} (ha : (Tr.node k nm v (.node k2 nm2 v2 l2 r2 h2 sz2 by2) r h sz by_).at w) : k2 ≠ k := by
  rintro rfl
  have := Tr.uniq ha ha.2.2.1 rfl
  have := congrArg Tr.count this
  simp only [Tr.count] at this
  omega
/-- A node between two trees. -/
def jn (k : Nat) (n : ONm) (v : ByteArray) (l r : Tr) : Tr := .node k n v l r (1 + mx l.tall r.tall) (1 + l.many + r.many) (v.size + l.total + r.total)
theorem jn_ok {k : Nat} {n : ONm} {v : ByteArray} {l r : Tr} (hl : l.ok) (hr : r.ok) (hv : v.size ≤ 65536) : (jn k n v l r).ok := ⟨rfl, rfl, rfl, hv, hl, hr⟩
theorem jn_list (k : Nat) (n : ONm) (v : ByteArray) (l r : Tr) : (jn k n v l r).list = l.list ++ (n, v) :: r.list := rfl
theorem jn_count (k : Nat) (n : ONm) (v : ByteArray) (l r : Tr) : (jn k n v l r).count = l.count + r.count + 1 := rfl
theorem jn_fp {S : Nat → Prop} {k : Nat} {n : ONm} {v : ByteArray} {l r : Tr} (hk : S k) (hl : ∀ b ∈ l.fp, S b) (hr : ∀ b ∈ r.fp, S b) : ∀ b ∈ (jn k n v l r).fp, S b := by
  intro b hb
  simp only [jn, Tr.fp, List.mem_cons, List.mem_append] at hb
  rcases hb with rfl | hb | hb
  · exact hk
  · exact hl b hb
  · exact hr b hb
theorem fp_l {S : Nat → Prop} {k : Nat} {nm : ONm} {v : ByteArray} {l r : Tr} {h sz by_ : Int} (hS : ∀ b ∈ (Tr.node k nm v l r h sz by_).fp, S b) : ∀ b ∈ l.fp, S b := fun b hb => hS b (by simp [Tr.fp, hb])
theorem fp_r {S : Nat → Prop} {k : Nat} {nm : ONm} {v : ByteArray} {l r : Tr} {h sz by_ : Int} (hS : ∀ b ∈ (Tr.node k nm v l r h sz by_).fp, S b) : ∀ b ∈ r.fp, S b := fun b hb => hS b (by simp [Tr.fp, hb])
theorem Tr.node_of {t : Tr} (h : 0 < t.tall) : ∃ k nm v l r h sz by_, t = .node k nm v l r h sz by_ := by
  cases t with
  | nil => simp [Tr.tall] at h
  | node k nm v l r h sz by_ => exact ⟨_, _, _, _, _, _, _, _, rfl⟩
/-- One more object, and one less. -/
def Tr.wl : Tr → ONm → ByteArray → Ols
  | .nil, n, v => [(n, v)]
  | .node _ nm u l r _ _ _, n, v => if ocmp n nm < 0 then l.wl n v ++ (nm, u) :: r.list else if 0 < ocmp n nm then l.list ++ (nm, u) :: r.wl n v else l.list ++ (n, v) :: r.list
def Tr.wo : Tr → ONm → Ols
  | .nil, _ => []
  | .node _ nm u l r _ _ _, n => if ocmp n nm < 0 then l.wo n ++ (nm, u) :: r.list else if 0 < ocmp n nm then l.list ++ (nm, u) :: r.wo n else l.list ++ r.list
theorem Tr.wl_len (n : ONm) (v : ByteArray) : ∀ t : Tr, (t.wl n v).length ≤ t.count + 1
  | .nil => by simp [Tr.wl]
  | .node _ nm u l r _ _ _ => by
    have h1 := Tr.wl_len n v l
    have h2 := Tr.wl_len n v r
    have h3 := Tr.list_len l
    have h4 := Tr.list_len r
    simp only [Tr.wl, Tr.count]
    split
    · simp; omega
    · split
      · simp; omega
      · simp; omega
theorem Tr.wo_len (n : ONm) : ∀ t : Tr, (t.wo n).length ≤ t.count
  | .nil => by simp [Tr.wo]
  | .node _ nm u l r _ _ _ => by
    have h1 := Tr.wo_len n l
    have h2 := Tr.wo_len n r
    have h3 := Tr.list_len l
    have h4 := Tr.list_len r
    simp only [Tr.wo, Tr.count]
    split
    · simp; omega
    · split
      · simp; omega
      · simp; omega
end Go.Proofs.YtkbldndbofbkcaaGreatDoor
/- A drawn region: an operation whose guard was itself passed over. -/
namespace Go.Proofs.YtkbldndbofbkcaaGreatDoor
open Go Go.RowKit
section
variable {X : Cx} {P : Program} {N : Nat} {Q : Exit → Fr → World → Prop} {f : Fr} {w w0 : World} {M : List Nat} {H Hc : List Ent} {ops : Array Oper} {last n : Nat} {done : List Nat}
theorem DW_qx (hs : St w0 M w H) [hsub : SubH Hc H] (i : Nat) {d j g : Nat} {want : Bool} {op : Op} {T : TypeId} {p : String} {aft : Array Edge} (hi : ops[i]? = some ⟨some d, op, T, p, aft, some (j, want)⟩) (hd : dq ops done last i = true)
    (hg : (ops[j]?).bind (·.dst) = some g) (hN : g < N) (hb : ev N f (.tmp g) = undef)
    (k : DW X P N ops Q last Hc n (i :: done) (upd f d undef) w) : DW X P N ops Q last Hc (n + 1) done f w := by
  have hw : Region.wanted (⟨some d, op, T, p, aft, some (j, want)⟩ : Oper) (yielded ops (FA X N f).tmps) = false := by
    have hfg : f g = undef := by rw [ev_tmp, if_pos hN] at hb; exact hb
    simp only [Region.wanted, yielded, hg, Option.bind_some, FA_get?, hN, hfg, if_true]
    rfl
  exact DW_qi hs i hi hd (.inr ⟨hw, rfl⟩) k
end
end Go.Proofs.YtkbldndbofbkcaaGreatDoor
/- state: tall, many, total, join, balance, with. -/
namespace Go.Proofs.YtkbldndbofbkcaaGreatDoor
open Go Go.RowKit
attribute [local irreducible] WL CW DW Ret RW
theorem tall_ok (t : Tr) (w0 : World) (hat : t.at w0) : Ret Tryz.prog 189 #[t.ptr] w0 fun v w' => v = .int .i64 t.tall ∧ Fm [] w0 w' := by
  cases t with
  | nil =>
    have hs := St.init w0 []
    refine Ret_enter Tryz.func189 rfl Tryz.ntmps189 (by simp) ?_
    refine CW_seq (fun K1 hK1 => ?_)
    refine CW_region ?_
    refine asp (.int _ _) rfl ?_
    refine WL_nil ?_
    refine hK1 _ _ ?_
    refine CW_seq (fun K2 hK2 => ?_)
    refine CW_seq (fun K3 hK3 => ?_)
    refine CW_region ?_
    refine mvp (.pointer _) rfl ?_
    refine eqnP rfl rfl ?_
    refine WL_nil ?_
    refine hK3 _ _ ?_
    refine CW_condT rfl (rfl) ?_
    refine CW_seq (fun K4 hK4 => ?_)
    refine CW_region ?_
    refine asp (.int _ _) rfl ?_
    refine WL_nil ?_
    refine hK4 _ _ ?_
    refine CW_ret ?_
    repeat (first | (with_reducible apply thenF_ret) | (with_reducible apply blockF_ret))
    try simp only [thenF, blockF, reduceIte]
    refine Post_r Tryz.results189 (.tmp rfl .nil) ?_
    try simp only [ev_tmp, ev_const, upd_ap, Nat.reduceLT, Nat.reduceEqDiff, reduceIte]
    exact ⟨by trivial, hs.fm⟩
  | node k nm u l r h sz by_ =>
    have hs := St.one (M := []) (q := false) hat.1 (by simp)
    refine Ret_enter Tryz.func189 rfl Tryz.ntmps189 (by simp) ?_
    refine CW_seq (fun K1 hK1 => ?_)
    refine CW_region ?_
    refine asp (.int _ _) rfl ?_
    refine WL_nil ?_
    refine hK1 _ _ ?_
    refine CW_seq (fun K2 hK2 => ?_)
    refine CW_seq (fun K3 hK3 => ?_)
    refine CW_region ?_
    refine mvp (.pointer _) rfl ?_
    refine eqnP rfl rfl ?_
    refine WL_nil ?_
    refine hK3 _ _ ?_
    refine CW_condF rfl (rfl) ?_
    refine CW_skip ?_
    refine hK2 _ _ ?_
    refine CW_seq (fun K4 hK4 => ?_)
    refine CW_region ?_
    refine mvp (.pointer _) rfl ?_
    refine nckW rfl ?_
    refine fad rfl ?_
    refine ld hs rfl rfl ?_
    refine asp (.int _ _) rfl ?_
    refine WL_nil ?_
    refine hK4 _ _ ?_
    refine CW_ret ?_
    repeat (first | (with_reducible apply thenF_ret) | (with_reducible apply blockF_ret))
    try simp only [thenF, blockF, reduceIte]
    refine Post_r Tryz.results189 (.tmp rfl .nil) ?_
    try simp only [ev_tmp, ev_const, upd_ap, Nat.reduceLT, Nat.reduceEqDiff, reduceIte]
    exact ⟨by trivial, hs.fm⟩
theorem many_ok (t : Tr) (w0 : World) (hat : t.at w0) : Ret Tryz.prog 167 #[t.ptr] w0 fun v w' => v = .int .i64 t.many ∧ Fm [] w0 w' := by
  cases t with
  | nil =>
    have hs := St.init w0 []
    refine Ret_enter Tryz.func167 rfl Tryz.ntmps167 (by simp) ?_
    refine CW_seq (fun K1 hK1 => ?_)
    refine CW_region ?_
    refine asp (.int _ _) rfl ?_
    refine WL_nil ?_
    refine hK1 _ _ ?_
    refine CW_seq (fun K2 hK2 => ?_)
    refine CW_seq (fun K3 hK3 => ?_)
    refine CW_region ?_
    refine mvp (.pointer _) rfl ?_
    refine eqnP rfl rfl ?_
    refine WL_nil ?_
    refine hK3 _ _ ?_
    refine CW_condT rfl (rfl) ?_
    refine CW_seq (fun K4 hK4 => ?_)
    refine CW_region ?_
    refine asp (.int _ _) rfl ?_
    refine WL_nil ?_
    refine hK4 _ _ ?_
    refine CW_ret ?_
    repeat (first | (with_reducible apply thenF_ret) | (with_reducible apply blockF_ret))
    try simp only [thenF, blockF, reduceIte]
    refine Post_r Tryz.results167 (.tmp rfl .nil) ?_
    try simp only [ev_tmp, ev_const, upd_ap, Nat.reduceLT, Nat.reduceEqDiff, reduceIte]
    exact ⟨by trivial, hs.fm⟩
  | node k nm u l r h sz by_ =>
    have hs := St.one (M := []) (q := false) hat.1 (by simp)
    refine Ret_enter Tryz.func167 rfl Tryz.ntmps167 (by simp) ?_
    refine CW_seq (fun K1 hK1 => ?_)
    refine CW_region ?_
    refine asp (.int _ _) rfl ?_
    refine WL_nil ?_
    refine hK1 _ _ ?_
    refine CW_seq (fun K2 hK2 => ?_)
    refine CW_seq (fun K3 hK3 => ?_)
    refine CW_region ?_
    refine mvp (.pointer _) rfl ?_
    refine eqnP rfl rfl ?_
    refine WL_nil ?_
    refine hK3 _ _ ?_
    refine CW_condF rfl (rfl) ?_
    refine CW_skip ?_
    refine hK2 _ _ ?_
    refine CW_seq (fun K4 hK4 => ?_)
    refine CW_region ?_
    refine mvp (.pointer _) rfl ?_
    refine nckW rfl ?_
    refine fad rfl ?_
    refine ld hs rfl rfl ?_
    refine asp (.int _ _) rfl ?_
    refine WL_nil ?_
    refine hK4 _ _ ?_
    refine CW_ret ?_
    repeat (first | (with_reducible apply thenF_ret) | (with_reducible apply blockF_ret))
    try simp only [thenF, blockF, reduceIte]
    refine Post_r Tryz.results167 (.tmp rfl .nil) ?_
    try simp only [ev_tmp, ev_const, upd_ap, Nat.reduceLT, Nat.reduceEqDiff, reduceIte]
    exact ⟨by trivial, hs.fm⟩
theorem total_ok (t : Tr) (w0 : World) (hat : t.at w0) : Ret Tryz.prog 190 #[t.ptr] w0 fun v w' => v = .int .i64 t.total ∧ Fm [] w0 w' := by
  cases t with
  | nil =>
    have hs := St.init w0 []
    refine Ret_enter Tryz.func190 rfl Tryz.ntmps190 (by simp) ?_
    refine CW_seq (fun K1 hK1 => ?_)
    refine CW_region ?_
    refine asp (.int _ _) rfl ?_
    refine WL_nil ?_
    refine hK1 _ _ ?_
    refine CW_seq (fun K2 hK2 => ?_)
    refine CW_seq (fun K3 hK3 => ?_)
    refine CW_region ?_
    refine mvp (.pointer _) rfl ?_
    refine eqnP rfl rfl ?_
    refine WL_nil ?_
    refine hK3 _ _ ?_
    refine CW_condT rfl (rfl) ?_
    refine CW_seq (fun K4 hK4 => ?_)
    refine CW_region ?_
    refine asp (.int _ _) rfl ?_
    refine WL_nil ?_
    refine hK4 _ _ ?_
    refine CW_ret ?_
    repeat (first | (with_reducible apply thenF_ret) | (with_reducible apply blockF_ret))
    try simp only [thenF, blockF, reduceIte]
    refine Post_r Tryz.results190 (.tmp rfl .nil) ?_
    try simp only [ev_tmp, ev_const, upd_ap, Nat.reduceLT, Nat.reduceEqDiff, reduceIte]
    exact ⟨by trivial, hs.fm⟩
  | node k nm u l r h sz by_ =>
    have hs := St.one (M := []) (q := false) hat.1 (by simp)
    refine Ret_enter Tryz.func190 rfl Tryz.ntmps190 (by simp) ?_
    refine CW_seq (fun K1 hK1 => ?_)
    refine CW_region ?_
    refine asp (.int _ _) rfl ?_
    refine WL_nil ?_
    refine hK1 _ _ ?_
    refine CW_seq (fun K2 hK2 => ?_)
    refine CW_seq (fun K3 hK3 => ?_)
    refine CW_region ?_
    refine mvp (.pointer _) rfl ?_
    refine eqnP rfl rfl ?_
    refine WL_nil ?_
    refine hK3 _ _ ?_
    refine CW_condF rfl (rfl) ?_
    refine CW_skip ?_
    refine hK2 _ _ ?_
    refine CW_seq (fun K4 hK4 => ?_)
    refine CW_region ?_
    refine mvp (.pointer _) rfl ?_
    refine nckW rfl ?_
    refine fad rfl ?_
    refine ld hs rfl rfl ?_
    refine asp (.int _ _) rfl ?_
    refine WL_nil ?_
    refine hK4 _ _ ?_
    refine CW_ret ?_
    repeat (first | (with_reducible apply thenF_ret) | (with_reducible apply blockF_ret))
    try simp only [thenF, blockF, reduceIte]
    refine Post_r Tryz.results190 (.tmp rfl .nil) ?_
    try simp only [ev_tmp, ev_const, upd_ap, Nat.reduceLT, Nat.reduceEqDiff, reduceIte]
    exact ⟨by trivial, hs.fm⟩
theorem X_maxE {P : Program} {N : Nat} {f : Fr} {w : World} {d : Nat} {T : TypeId} {p : String} {aft : Array Edge} {x y : Operand} {k k' : IntKind} {m n r : Int} {Ts : Array TypeId} (hx : ev N f x = .int k m) (hy : ev N f y = .int k' n) (hr : (if n > m then n else m) = r) : Ex P N f w ⟨some d, .call ⟨.builtin .max, #[x, y], Ts⟩, T, p, aft, none⟩ (.int k r) w := by
  subst hr; exact X_max hx hy
theorem join_ok (l r : Tr) (n : ONm) (v : ByteArray) (w0 : World) (hl : l.at w0) (hr : r.at w0) (ol : l.ok) (or_ : r.ok) (hv : v.size ≤ 65536) (ho : n.owner.size ≤ 9223372036854775807) (hc : l.count + r.count ≤ 2000000) :
    Ret Tryz.prog 168 #[l.ptr, .agg (onV n).toArray, .string v, r.ptr] w0 fun u w' => ∃ k, u = .pointer (some ⟨k, 0, none⟩) ∧ w0.heap.size ≤ k ∧ (jn k n v l r).at w' ∧ Fm [] w0 w' := by
  have hs := St.init w0 []
  obtain ⟨a1, a2, a3, a4, a5, _⟩ := Tr.cnt ol
  obtain ⟨b1, b2, b3, b4, b5, _⟩ := Tr.cnt or_
  have hm := mx_le l.tall r.tall
  refine Ret_enter Tryz.func168 rfl Tryz.ntmps168 (by simp) ?_
  refine CW_seq (fun K1 hK1 => ?_)
  refine CW_region ?_
  refine bx (.agg (onV n).toArray) (vl := onV n) hs rfl rfl ?_
  intro w g5 hs hg5 hf5
  unfold onV at hs
  refine asp (.pointer _) rfl ?_
  refine WL_nil ?_
  refine hK1 _ _ ?_
  refine CW_seq (fun K2 hK2 => ?_)
  refine DW_sH hs 999 ?_
  intro w hs _
  refine DW_q hs 0 rfl (by kernel_rfl) (fun w' hw' => X_ldAH hw' rfl (by simp)) ?_
  refine DW_q hs 1 rfl (by kernel_rfl) (fun w' hw' => X_move (v := (.string _)) rfl) ?_
  refine DW_q hs 2 rfl (by kernel_rfl) (fun w' hw' => X_move (v := (.pointer _)) rfl) ?_
  refine DW_q hs 3 rfl (by kernel_rfl) (fun w' hw' => X_move (v := (.pointer _)) rfl) ?_
  refine DW_q hs 4 rfl (by kernel_rfl) (fun w' hw' => X_move (v := (.pointer _)) rfl) ?_
  refine DW_q hs 6 rfl (by kernel_rfl) (fun w' hw' => X_move (v := (.pointer _)) rfl) ?_
  refine DW_q hs 10 rfl (by kernel_rfl) (fun w' hw' => X_move (v := (.pointer _)) rfl) ?_
  refine DW_q hs 13 rfl (by kernel_rfl) (fun w' hw' => X_move (v := (.pointer _)) rfl) ?_
  refine DW_q hs 16 rfl (by kernel_rfl) (fun w' hw' => X_move (v := (.string _)) rfl) ?_
  refine DW_q hs 17 rfl (by kernel_rfl) (fun w' hw' => X_lenS rfl) ?_
  refine DW_q hs 18 rfl (by kernel_rfl) (fun w' hw' => X_move (v := (.pointer _)) rfl) ?_
  refine DW_q hs 21 rfl (by kernel_rfl) (fun w' hw' => X_move (v := (.pointer _)) rfl) ?_
  refine DW_l 5 rfl (by kernel_rfl) ?_
  refine cll (tall_ok l _ (hl.fm hs.fm)) ?_
  rintro _ w ⟨rfl, hf⟩
  replace hs := hs.call hf
  refine WL_nil ?_
  refine ⟨.inr hs.hold, ?_⟩
  refine DW_l 7 rfl (by kernel_rfl) ?_
  refine cll (tall_ok r _ (hr.fm hs.fm)) ?_
  rintro _ w ⟨rfl, hf⟩
  replace hs := hs.call hf
  refine WL_nil ?_
  refine ⟨.inr hs.hold, ?_⟩
  refine DW_q hs 8 rfl (by kernel_rfl) (fun w' hw' => X_maxE (r := mx l.tall r.tall) rfl rfl rfl) ?_
  refine DW_q hs 9 rfl (by kernel_rfl) (fun w' hw' => X_addp rfl rfl (by omega) (by omega)) ?_
  refine DW_l 11 rfl (by kernel_rfl) ?_
  refine cll (many_ok l _ (hl.fm hs.fm)) ?_
  rintro _ w ⟨rfl, hf⟩
  replace hs := hs.call hf
  refine WL_nil ?_
  refine ⟨.inr hs.hold, ?_⟩
  refine DW_q hs 12 rfl (by kernel_rfl) (fun w' hw' => X_addp rfl rfl (by omega) (by omega)) ?_
  refine DW_l 14 rfl (by kernel_rfl) ?_
  refine cll (many_ok r _ (hr.fm hs.fm)) ?_
  rintro _ w ⟨rfl, hf⟩
  replace hs := hs.call hf
  refine WL_nil ?_
  refine ⟨.inr hs.hold, ?_⟩
  refine DW_q hs 15 rfl (by kernel_rfl) (fun w' hw' => X_addp rfl rfl (by omega) (by omega)) ?_
  refine DW_l 19 rfl (by kernel_rfl) ?_
  refine cll (total_ok l _ (hl.fm hs.fm)) ?_
  rintro _ w ⟨rfl, hf⟩
  replace hs := hs.call hf
  refine WL_nil ?_
  refine ⟨.inr hs.hold, ?_⟩
  refine DW_q hs 20 rfl (by kernel_rfl) (fun w' hw' => X_addp rfl rfl (by omega) (by omega)) ?_
  refine DW_l 22 rfl (by kernel_rfl) ?_
  refine cll (total_ok r _ (hr.fm hs.fm)) ?_
  rintro _ w ⟨rfl, hf⟩
  replace hs := hs.call hf
  refine WL_nil ?_
  refine ⟨.inr hs.hold, ?_⟩
  refine DW_q hs 23 rfl (by kernel_rfl) (fun w' hw' => X_addp rfl rfl (by omega) (by omega)) ?_
  refine DW_q hs 24 rfl (by kernel_rfl) (fun w' hw' => X_build (vl := Tr.row n v l.ptr r.ptr (1 + mx l.tall r.tall) (1 + l.many + r.many) (v.size + l.total + r.total)) rfl rfl) ?_
  refine DW_l 25 rfl (by kernel_rfl) ?_
  refine bx (.agg (Tr.row n v l.ptr r.ptr (1 + mx l.tall r.tall) (1 + l.many + r.many) (v.size + l.total + r.total)).toArray) (vl := Tr.row n v l.ptr r.ptr (1 + mx l.tall r.tall) (1 + l.many + r.many) (v.size + l.total + r.total)) hs rfl rfl ?_
  intro w g34 hs hg34 hf34
  refine WL_nil ?_
  refine ⟨.inr hs.hold, ?_⟩
  refine DW_q hs 26 rfl (by kernel_rfl) (fun w' hw' => X_assign (v := (.pointer _)) rfl) ?_
  refine DW_e (by kernel_rfl) ?_
  refine hK2 _ _ ?_
  refine CW_ret ?_
  repeat (first | (with_reducible apply thenF_ret) | (with_reducible apply blockF_ret))
  try simp only [thenF, blockF, reduceIte]
  refine Post_r Tryz.results168 (.tmp rfl .nil) ?_
  try simp only [ev_tmp, ev_const, upd_ap, Nat.reduceLT, Nat.reduceEqDiff, reduceIte]
  exact ⟨g34, rfl, hs.geB, ⟨hs.get (b := g34) InB.h, ho, hl.fm hs.fm, hr.fm hs.fm⟩, hs.fm⟩
end Go.Proofs.YtkbldndbofbkcaaGreatDoor
/- state: balance, with. -/
namespace Go.Proofs.YtkbldndbofbkcaaGreatDoor
open Go Go.RowKit
attribute [local irreducible] WL CW DW Ret RW
/-- A node that is only read. -/
theorem St.node {w0 w : World} {H : List Ent} (hs : St w0 [] w H) {k : Nat} {nm : ONm} {v : ByteArray} {l r : Tr} {h sz by_ : Int} (ha : (Tr.node k nm v l r h sz by_).at w0) (hn : ∀ x ∈ H, k ∉ x.fp) : St w0 [] w (eB k false (Blk 231 (Tr.row nm v l.ptr r.ptr h sz by_)) :: H) :=
  hs.put (e := eB k false (Blk 231 (Tr.row nm v l.ptr r.ptr h sz by_))) (hs.fm.keep ha.1 (by simp)) (fun x hx b hb hq => by simp [eB] at hb; subst hb; exact hn x hx hq) (by intro q; cases q)
set_option maxHeartbeats 1000000 in
theorem balance_ok (S : Nat → Prop) (l r : Tr) (n : ONm) (v : ByteArray) (w0 : World) (hl : l.at w0) (hr : r.at w0) (ol : l.ok) (or_ : r.ok) (hv : v.size ≤ 65536) (ho : n.owner.size ≤ 9223372036854775807) (hc : l.count + r.count ≤ 1000000)
    (Sl : ∀ b ∈ l.fp, S b) (Sr : ∀ b ∈ r.fp, S b) (Sn : ∀ b, w0.heap.size ≤ b → S b) :
    Ret Tryz.prog 169 #[l.ptr, .agg (onV n).toArray, .string v, r.ptr] w0 fun u w' => ∃ t : Tr, u = t.ptr ∧ t.at w' ∧ t.ok ∧ t.list = l.list ++ (n, v) :: r.list ∧ (∀ b ∈ t.fp, S b) ∧ Fm [] w0 w' := by
  have hs := St.init w0 []
  obtain ⟨a1, a2, a3, a4, a5, _⟩ := Tr.cnt ol
  obtain ⟨b1, b2, b3, b4, b5, _⟩ := Tr.cnt or_
  refine Ret_enter Tryz.func169 rfl Tryz.ntmps169 (by simp) ?_
  refine CW_seq (fun K1 hK1 => ?_)
  refine CW_region ?_
  refine bx (.agg (onV n).toArray) (vl := onV n) hs rfl rfl ?_
  intro w g5 hs hg5 hf5
  unfold onV at hs
  have hg5' : w0.heap.size ≤ g5 := hs.geB
  refine asp (.pointer _) rfl ?_
  refine WL_nil ?_
  refine hK1 _ _ ?_
  refine CW_seq (fun K2 hK2 => ?_)
  refine CW_block ?_
  refine CW_seq (fun K3 hK3 => ?_)
  refine CW_region ?_
  refine mvp (.pointer _) rfl ?_
  refine cll (tall_ok l _ (hl.fm hs.fm)) ?_
  rintro _ w ⟨rfl, hf⟩
  replace hs := hs.call hf
  refine mvp (.pointer _) rfl ?_
  refine cll (tall_ok r _ (hr.fm hs.fm)) ?_
  rintro _ w ⟨rfl, hf⟩
  replace hs := hs.call hf
  first | refine addI rfl rfl (by omega) ?_ | refine addW rfl rfl ?_
  refine gtrW rfl rfl ?_
  refine asp (.bool _) rfl ?_
  refine WL_nil ?_
  refine hK3 _ _ ?_
  refine CW_cond rfl (fun hc11 => ?_) (fun hc11 => ?_)
  · skip
    have h11 : r.tall + 1 < l.tall := by simpa using hc11
    obtain ⟨k, nm, u, ll, lr, h, sz, by_, rfl⟩ := Tr.node_of (show 0 < l.tall by omega)
    replace hs := hs.node hl (fun x hx hq => by
      simp at hx; subst hx; simp [eB] at hq
      have := heap_lt hl.1
      omega)
    obtain ⟨oe1, oe2, oe3, ou, oll, olr⟩ := ol
    obtain ⟨c1, c2, c3, c4, c5, _⟩ := Tr.cnt oll
    obtain ⟨d1, d2, d3, d4, d5, _⟩ := Tr.cnt olr
    simp only [Tr.count] at hc
    refine CW_seq (fun K4 hK4 => ?_)
    refine CW_seq (fun K5 hK5 => ?_)
    refine DW_sH hs 999 ?_
    intro w hs _
    refine DW_q hs 0 rfl (by kernel_rfl) (fun w' hw' => X_move (v := (.pointer _)) rfl) ?_
    refine DW_q hs 1 rfl (by kernel_rfl) (fun w' hw' => X_nilCheckP rfl) ?_
    refine DW_q hs 2 rfl (by kernel_rfl) (fun w' hw' => X_fieldAddr rfl rfl) ?_
    refine DW_q hs 3 rfl (by kernel_rfl) (fun w' hw' => X_ldH hw' rfl rfl) ?_
    refine DW_q hs 5 rfl (by kernel_rfl) (fun w' hw' => X_move (v := (.pointer _)) rfl) ?_
    refine DW_q hs 6 rfl (by kernel_rfl) (fun w' hw' => X_nilCheckP rfl) ?_
    refine DW_q hs 7 rfl (by kernel_rfl) (fun w' hw' => X_fieldAddr rfl rfl) ?_
    refine DW_q hs 8 rfl (by kernel_rfl) (fun w' hw' => X_ldH hw' rfl rfl) ?_
    refine DW_l 4 rfl (by kernel_rfl) ?_
    refine cll (tall_ok ll _ (hl.2.2.1.fm hs.fm)) ?_
    rintro _ w ⟨rfl, hf⟩
    replace hs := hs.call hf
    refine WL_nil ?_
    refine ⟨.inr hs.hold, ?_⟩
    refine DW_l 9 rfl (by kernel_rfl) ?_
    refine cll (tall_ok lr _ (hl.2.2.2.fm hs.fm)) ?_
    rintro _ w ⟨rfl, hf⟩
    replace hs := hs.call hf
    refine WL_nil ?_
    refine ⟨.inr hs.hold, ?_⟩
    refine DW_q hs 10 rfl (by kernel_rfl) (fun w' hw' => X_geq rfl rfl) ?_
    refine DW_e (by kernel_rfl) ?_
    refine hK5 _ _ ?_
    refine CW_cond rfl (fun hc28 => ?_) (fun hc28 => ?_)
    · skip
      refine CW_seq (fun K6 hK6 => ?_)
      refine DW_sH hs 999 ?_
      intro w hs _
      refine DW_q hs 0 rfl (by kernel_rfl) (fun w' hw' => X_move (v := (.pointer _)) rfl) ?_
      refine DW_q hs 1 rfl (by kernel_rfl) (fun w' hw' => X_nilCheckP rfl) ?_
      refine DW_q hs 2 rfl (by kernel_rfl) (fun w' hw' => X_fieldAddr rfl rfl) ?_
      refine DW_q hs 3 rfl (by kernel_rfl) (fun w' hw' => X_ldH hw' rfl rfl) ?_
      refine DW_q hs 4 rfl (by kernel_rfl) (fun w' hw' => X_move (v := (.pointer _)) rfl) ?_
      refine DW_q hs 5 rfl (by kernel_rfl) (fun w' hw' => X_nilCheckP rfl) ?_
      refine DW_q hs 6 rfl (by kernel_rfl) (fun w' hw' => X_fieldAddr rfl rfl) ?_
      refine DW_q hs 7 rfl (by kernel_rfl) (fun w' hw' => X_ldAH hw' rfl (by simp)) ?_
      refine DW_q hs 8 rfl (by kernel_rfl) (fun w' hw' => X_move (v := (.pointer _)) rfl) ?_
      refine DW_q hs 9 rfl (by kernel_rfl) (fun w' hw' => X_nilCheckP rfl) ?_
      refine DW_q hs 10 rfl (by kernel_rfl) (fun w' hw' => X_fieldAddr rfl rfl) ?_
      refine DW_q hs 11 rfl (by kernel_rfl) (fun w' hw' => X_ldH hw' rfl rfl) ?_
      refine DW_q hs 12 rfl (by kernel_rfl) (fun w' hw' => X_move (v := (.pointer _)) rfl) ?_
      refine DW_q hs 13 rfl (by kernel_rfl) (fun w' hw' => X_nilCheckP rfl) ?_
      refine DW_q hs 14 rfl (by kernel_rfl) (fun w' hw' => X_fieldAddr rfl rfl) ?_
      refine DW_q hs 15 rfl (by kernel_rfl) (fun w' hw' => X_ldH hw' rfl rfl) ?_
      refine DW_q hs 16 rfl (by kernel_rfl) (fun w' hw' => X_ldAH hw' rfl (by simp)) ?_
      refine DW_q hs 17 rfl (by kernel_rfl) (fun w' hw' => X_move (v := (.string _)) rfl) ?_
      refine DW_q hs 18 rfl (by kernel_rfl) (fun w' hw' => X_move (v := (.pointer _)) rfl) ?_
      refine DW_l 19 rfl (by kernel_rfl) ?_
      refine cll (join_ok lr r n v _ (hl.2.2.2.fm hs.fm) (hr.fm hs.fm) olr or_ hv ho (by omega)) ?_
      rintro _ w ⟨k1, rfl, hk1, hat1, hf⟩
      have hk1' : w0.heap.size ≤ k1 := Nat.le_trans hs.fm.size hk1
      replace hs := hs.call hf
      refine WL_nil ?_
      refine ⟨.inr hs.hold, ?_⟩
      refine DW_l 20 rfl (by kernel_rfl) ?_
      refine cll (join_ok ll (jn k1 n v lr r) nm u _ (hl.2.2.1.fm hs.fm) hat1 oll (jn_ok olr or_ hv) ou hl.2.1 (by rw [jn_count]; omega)) ?_
      rintro _ w ⟨k2, rfl, hk2, hat2, hf⟩
      have hk2' : w0.heap.size ≤ k2 := Nat.le_trans hs.fm.size hk2
      replace hs := hs.call hf
      refine WL_nil ?_
      refine ⟨.inr hs.hold, ?_⟩
      refine DW_q hs 21 rfl (by kernel_rfl) (fun w' hw' => X_assign (v := (.pointer _)) rfl) ?_
      refine DW_e (by kernel_rfl) ?_
      refine hK6 _ _ ?_
      refine CW_ret ?_
      repeat (first | (with_reducible apply thenF_ret) | (with_reducible apply blockF_ret))
      try simp only [thenF, blockF, reduceIte]
      refine Post_r Tryz.results169 (.tmp rfl .nil) ?_
      try simp only [ev_tmp, ev_const, upd_ap, Nat.reduceLT, Nat.reduceEqDiff, reduceIte]
      exact ⟨jn k2 nm u ll (jn k1 n v lr r), rfl, hat2, jn_ok oll (jn_ok olr or_ hv) ou, by simp [jn, Tr.list], jn_fp (Sn _ hk2') (fp_l Sl) (jn_fp (Sn _ hk1') (fp_r Sl) Sr), hs.fm⟩
    · skip
      have h28 : ll.tall < lr.tall := by simp at hc28; omega
      obtain ⟨mk, mn, mv, ml, mr, mh, msz, mby, rfl⟩ := Tr.node_of (show 0 < lr.tall by omega)
      obtain ⟨me1, me2, me3, mu, oml, omr⟩ := olr
      simp only [Tr.count] at hc
      replace hs := hs.node hl.2.2.2 (fun x hx hq => by
        simp at hx
        have := heap_lt hl.2.2.2.1
        rcases hx with rfl | rfl
        · simp [eB] at hq; exact Tr.apartR hl hq
        · simp [eB] at hq; omega)
      refine CW_skip ?_
      refine hK4 _ _ ?_
      refine CW_seq (fun K7 hK7 => ?_)
      refine CW_region ?_
      refine mvp (.pointer _) rfl ?_
      refine nckW rfl ?_
      refine fad rfl ?_
      refine ld hs rfl rfl ?_
      refine asp (.pointer _) rfl ?_
      refine WL_nil ?_
      refine hK7 _ _ ?_
      refine CW_seq (fun K8 hK8 => ?_)
      refine DW_sH hs 999 ?_
      intro w hs _
      refine DW_q hs 0 rfl (by kernel_rfl) (fun w' hw' => X_move (v := (.pointer _)) rfl) ?_
      refine DW_q hs 1 rfl (by kernel_rfl) (fun w' hw' => X_nilCheckP rfl) ?_
      refine DW_q hs 2 rfl (by kernel_rfl) (fun w' hw' => X_fieldAddr rfl rfl) ?_
      refine DW_q hs 3 rfl (by kernel_rfl) (fun w' hw' => X_ldH hw' rfl rfl) ?_
      refine DW_q hs 4 rfl (by kernel_rfl) (fun w' hw' => X_move (v := (.pointer _)) rfl) ?_
      refine DW_q hs 5 rfl (by kernel_rfl) (fun w' hw' => X_nilCheckP rfl) ?_
      refine DW_q hs 6 rfl (by kernel_rfl) (fun w' hw' => X_fieldAddr rfl rfl) ?_
      refine DW_q hs 7 rfl (by kernel_rfl) (fun w' hw' => X_ldAH hw' rfl (by simp)) ?_
      refine DW_q hs 8 rfl (by kernel_rfl) (fun w' hw' => X_move (v := (.pointer _)) rfl) ?_
      refine DW_q hs 9 rfl (by kernel_rfl) (fun w' hw' => X_nilCheckP rfl) ?_
      refine DW_q hs 10 rfl (by kernel_rfl) (fun w' hw' => X_fieldAddr rfl rfl) ?_
      refine DW_q hs 11 rfl (by kernel_rfl) (fun w' hw' => X_ldH hw' rfl rfl) ?_
      refine DW_q hs 12 rfl (by kernel_rfl) (fun w' hw' => X_move (v := (.pointer _)) rfl) ?_
      refine DW_q hs 13 rfl (by kernel_rfl) (fun w' hw' => X_nilCheckP rfl) ?_
      refine DW_q hs 14 rfl (by kernel_rfl) (fun w' hw' => X_fieldAddr rfl rfl) ?_
      refine DW_q hs 15 rfl (by kernel_rfl) (fun w' hw' => X_ldH hw' rfl rfl) ?_
      refine DW_q hs 17 rfl (by kernel_rfl) (fun w' hw' => X_move (v := (.pointer _)) rfl) ?_
      refine DW_q hs 18 rfl (by kernel_rfl) (fun w' hw' => X_nilCheckP rfl) ?_
      refine DW_q hs 19 rfl (by kernel_rfl) (fun w' hw' => X_fieldAddr rfl rfl) ?_
      refine DW_q hs 20 rfl (by kernel_rfl) (fun w' hw' => X_ldAH hw' rfl (by simp)) ?_
      refine DW_q hs 21 rfl (by kernel_rfl) (fun w' hw' => X_move (v := (.pointer _)) rfl) ?_
      refine DW_q hs 22 rfl (by kernel_rfl) (fun w' hw' => X_nilCheckP rfl) ?_
      refine DW_q hs 23 rfl (by kernel_rfl) (fun w' hw' => X_fieldAddr rfl rfl) ?_
      refine DW_q hs 24 rfl (by kernel_rfl) (fun w' hw' => X_ldH hw' rfl rfl) ?_
      refine DW_q hs 25 rfl (by kernel_rfl) (fun w' hw' => X_move (v := (.pointer _)) rfl) ?_
      refine DW_q hs 26 rfl (by kernel_rfl) (fun w' hw' => X_nilCheckP rfl) ?_
      refine DW_q hs 27 rfl (by kernel_rfl) (fun w' hw' => X_fieldAddr rfl rfl) ?_
      refine DW_q hs 28 rfl (by kernel_rfl) (fun w' hw' => X_ldH hw' rfl rfl) ?_
      refine DW_q hs 29 rfl (by kernel_rfl) (fun w' hw' => X_ldAH hw' rfl (by simp)) ?_
      refine DW_q hs 30 rfl (by kernel_rfl) (fun w' hw' => X_move (v := (.string _)) rfl) ?_
      refine DW_q hs 31 rfl (by kernel_rfl) (fun w' hw' => X_move (v := (.pointer _)) rfl) ?_
      refine DW_l 16 rfl (by kernel_rfl) ?_
      refine cll (join_ok ll ml nm u _ (hl.2.2.1.fm hs.fm) (hl.2.2.2.2.2.1.fm hs.fm) oll oml ou hl.2.1 (by omega)) ?_
      rintro _ w ⟨k1, rfl, hk1, hat1, hf⟩
      have hk1' : w0.heap.size ≤ k1 := Nat.le_trans hs.fm.size hk1
      replace hs := hs.call hf
      refine WL_nil ?_
      refine ⟨.inr hs.hold, ?_⟩
      refine DW_l 32 rfl (by kernel_rfl) ?_
      refine cll (join_ok mr r n v _ (hl.2.2.2.2.2.2.fm hs.fm) (hr.fm hs.fm) omr or_ hv ho (by omega)) ?_
      rintro _ w ⟨k2, rfl, hk2, hat2, hf⟩
      have hk2' : w0.heap.size ≤ k2 := Nat.le_trans hs.fm.size hk2
      replace hs := hs.call hf
      replace hat1 := hat1.fm hf
      refine WL_nil ?_
      refine ⟨.inr hs.hold, ?_⟩
      refine DW_l 33 rfl (by kernel_rfl) ?_
      refine cll (join_ok (jn k1 nm u ll ml) (jn k2 n v mr r) mn mv _ hat1 hat2 (jn_ok oll oml ou) (jn_ok omr or_ hv) mu hl.2.2.2.2.1 (by rw [jn_count, jn_count]; omega)) ?_
      rintro _ w ⟨k3, rfl, hk3, hat3, hf⟩
      have hk3' : w0.heap.size ≤ k3 := Nat.le_trans hs.fm.size hk3
      replace hs := hs.call hf
      refine WL_nil ?_
      refine ⟨.inr hs.hold, ?_⟩
      refine DW_q hs 34 rfl (by kernel_rfl) (fun w' hw' => X_assign (v := (.pointer _)) rfl) ?_
      refine DW_e (by kernel_rfl) ?_
      refine hK8 _ _ ?_
      refine CW_ret ?_
      repeat (first | (with_reducible apply thenF_ret) | (with_reducible apply blockF_ret))
      try simp only [thenF, blockF, reduceIte]
      refine Post_r Tryz.results169 (.tmp rfl .nil) ?_
      try simp only [ev_tmp, ev_const, upd_ap, Nat.reduceLT, Nat.reduceEqDiff, reduceIte]
      exact ⟨jn k3 mn mv (jn k1 nm u ll ml) (jn k2 n v mr r), rfl, hat3, jn_ok (jn_ok oll oml ou) (jn_ok omr or_ hv) mu, by simp [jn, Tr.list], jn_fp (Sn _ hk3') (jn_fp (Sn _ hk1') (fp_l Sl) (fp_l (fp_r Sl))) (jn_fp (Sn _ hk2') (fp_r (fp_r Sl)) Sr), hs.fm⟩
  · skip
    refine CW_seq (fun K9 hK9 => ?_)
    refine CW_region ?_
    refine mvp (.pointer _) rfl ?_
    refine cll (tall_ok r _ (hr.fm hs.fm)) ?_
    rintro _ w ⟨rfl, hf⟩
    replace hs := hs.call hf
    refine mvp (.pointer _) rfl ?_
    refine cll (tall_ok l _ (hl.fm hs.fm)) ?_
    rintro _ w ⟨rfl, hf⟩
    replace hs := hs.call hf
    first | refine addI rfl rfl (by omega) ?_ | refine addW rfl rfl ?_
    refine gtrW rfl rfl ?_
    refine asp (.bool _) rfl ?_
    refine WL_nil ?_
    refine hK9 _ _ ?_
    refine CW_cond rfl (fun hc88 => ?_) (fun hc88 => ?_)
    · skip
      have h88 : l.tall + 1 < r.tall := by simpa using hc88
      obtain ⟨k, nm, u, ll, lr, h, sz, by_, rfl⟩ := Tr.node_of (show 0 < r.tall by omega)
      replace hs := hs.node hr (fun x hx hq => by
        simp at hx; subst hx; simp [eB] at hq
        have := heap_lt hr.1
        omega)
      obtain ⟨oe1, oe2, oe3, ou, oll, olr⟩ := or_
      obtain ⟨c1, c2, c3, c4, c5, _⟩ := Tr.cnt oll
      obtain ⟨d1, d2, d3, d4, d5, _⟩ := Tr.cnt olr
      simp only [Tr.count] at hc
      refine CW_seq (fun K10 hK10 => ?_)
      refine CW_seq (fun K11 hK11 => ?_)
      refine DW_sH hs 999 ?_
      intro w hs _
      refine DW_q hs 0 rfl (by kernel_rfl) (fun w' hw' => X_move (v := (.pointer _)) rfl) ?_
      refine DW_q hs 1 rfl (by kernel_rfl) (fun w' hw' => X_nilCheckP rfl) ?_
      refine DW_q hs 2 rfl (by kernel_rfl) (fun w' hw' => X_fieldAddr rfl rfl) ?_
      refine DW_q hs 3 rfl (by kernel_rfl) (fun w' hw' => X_ldH hw' rfl rfl) ?_
      refine DW_q hs 5 rfl (by kernel_rfl) (fun w' hw' => X_move (v := (.pointer _)) rfl) ?_
      refine DW_q hs 6 rfl (by kernel_rfl) (fun w' hw' => X_nilCheckP rfl) ?_
      refine DW_q hs 7 rfl (by kernel_rfl) (fun w' hw' => X_fieldAddr rfl rfl) ?_
      refine DW_q hs 8 rfl (by kernel_rfl) (fun w' hw' => X_ldH hw' rfl rfl) ?_
      refine DW_l 4 rfl (by kernel_rfl) ?_
      refine cll (tall_ok lr _ (hr.2.2.2.fm hs.fm)) ?_
      rintro _ w ⟨rfl, hf⟩
      replace hs := hs.call hf
      refine WL_nil ?_
      refine ⟨.inr hs.hold, ?_⟩
      refine DW_l 9 rfl (by kernel_rfl) ?_
      refine cll (tall_ok ll _ (hr.2.2.1.fm hs.fm)) ?_
      rintro _ w ⟨rfl, hf⟩
      replace hs := hs.call hf
      refine WL_nil ?_
      refine ⟨.inr hs.hold, ?_⟩
      refine DW_q hs 10 rfl (by kernel_rfl) (fun w' hw' => X_geq rfl rfl) ?_
      refine DW_e (by kernel_rfl) ?_
      refine hK11 _ _ ?_
      refine CW_cond rfl (fun hc105 => ?_) (fun hc105 => ?_)
      · skip
        refine CW_seq (fun K12 hK12 => ?_)
        refine DW_sH hs 999 ?_
        intro w hs _
        refine DW_q hs 0 rfl (by kernel_rfl) (fun w' hw' => X_move (v := (.pointer _)) rfl) ?_
        refine DW_q hs 1 rfl (by kernel_rfl) (fun w' hw' => X_ldAH hw' rfl (by simp)) ?_
        refine DW_q hs 2 rfl (by kernel_rfl) (fun w' hw' => X_move (v := (.string _)) rfl) ?_
        refine DW_q hs 3 rfl (by kernel_rfl) (fun w' hw' => X_move (v := (.pointer _)) rfl) ?_
        refine DW_q hs 4 rfl (by kernel_rfl) (fun w' hw' => X_nilCheckP rfl) ?_
        refine DW_q hs 5 rfl (by kernel_rfl) (fun w' hw' => X_fieldAddr rfl rfl) ?_
        refine DW_q hs 6 rfl (by kernel_rfl) (fun w' hw' => X_ldH hw' rfl rfl) ?_
        refine DW_q hs 8 rfl (by kernel_rfl) (fun w' hw' => X_move (v := (.pointer _)) rfl) ?_
        refine DW_q hs 9 rfl (by kernel_rfl) (fun w' hw' => X_nilCheckP rfl) ?_
        refine DW_q hs 10 rfl (by kernel_rfl) (fun w' hw' => X_fieldAddr rfl rfl) ?_
        refine DW_q hs 11 rfl (by kernel_rfl) (fun w' hw' => X_ldAH hw' rfl (by simp)) ?_
        refine DW_q hs 12 rfl (by kernel_rfl) (fun w' hw' => X_move (v := (.pointer _)) rfl) ?_
        refine DW_q hs 13 rfl (by kernel_rfl) (fun w' hw' => X_nilCheckP rfl) ?_
        refine DW_q hs 14 rfl (by kernel_rfl) (fun w' hw' => X_fieldAddr rfl rfl) ?_
        refine DW_q hs 15 rfl (by kernel_rfl) (fun w' hw' => X_ldH hw' rfl rfl) ?_
        refine DW_q hs 16 rfl (by kernel_rfl) (fun w' hw' => X_move (v := (.pointer _)) rfl) ?_
        refine DW_q hs 17 rfl (by kernel_rfl) (fun w' hw' => X_nilCheckP rfl) ?_
        refine DW_q hs 18 rfl (by kernel_rfl) (fun w' hw' => X_fieldAddr rfl rfl) ?_
        refine DW_q hs 19 rfl (by kernel_rfl) (fun w' hw' => X_ldH hw' rfl rfl) ?_
        refine DW_l 7 rfl (by kernel_rfl) ?_
        refine cll (join_ok l ll n v _ (hl.fm hs.fm) (hr.2.2.1.fm hs.fm) ol oll hv ho (by omega)) ?_
        rintro _ w ⟨k1, rfl, hk1, hat1, hf⟩
        have hk1' : w0.heap.size ≤ k1 := Nat.le_trans hs.fm.size hk1
        replace hs := hs.call hf
        refine WL_nil ?_
        refine ⟨.inr hs.hold, ?_⟩
        refine DW_l 20 rfl (by kernel_rfl) ?_
        refine cll (join_ok (jn k1 n v l ll) lr nm u _ hat1 (hr.2.2.2.fm hs.fm) (jn_ok ol oll hv) olr ou hr.2.1 (by rw [jn_count]; omega)) ?_
        rintro _ w ⟨k2, rfl, hk2, hat2, hf⟩
        have hk2' : w0.heap.size ≤ k2 := Nat.le_trans hs.fm.size hk2
        replace hs := hs.call hf
        refine WL_nil ?_
        refine ⟨.inr hs.hold, ?_⟩
        refine DW_q hs 21 rfl (by kernel_rfl) (fun w' hw' => X_assign (v := (.pointer _)) rfl) ?_
        refine DW_e (by kernel_rfl) ?_
        refine hK12 _ _ ?_
        refine CW_ret ?_
        repeat (first | (with_reducible apply thenF_ret) | (with_reducible apply blockF_ret))
        try simp only [thenF, blockF, reduceIte]
        refine Post_r Tryz.results169 (.tmp rfl .nil) ?_
        try simp only [ev_tmp, ev_const, upd_ap, Nat.reduceLT, Nat.reduceEqDiff, reduceIte]
        exact ⟨jn k2 nm u (jn k1 n v l ll) lr, rfl, hat2, jn_ok (jn_ok ol oll hv) olr ou, by simp [jn, Tr.list], jn_fp (Sn _ hk2') (jn_fp (Sn _ hk1') Sl (fp_l Sr)) (fp_r Sr), hs.fm⟩
      · skip
        have h105 : lr.tall < ll.tall := by simp at hc105; omega
        obtain ⟨mk, mn, mv, ml, mr, mh, msz, mby, rfl⟩ := Tr.node_of (show 0 < ll.tall by omega)
        obtain ⟨me1, me2, me3, mu, oml, omr⟩ := oll
        simp only [Tr.count] at hc
        replace hs := hs.node hr.2.2.1 (fun x hx hq => by
          simp at hx
          have := heap_lt hr.2.2.1.1
          rcases hx with rfl | rfl
          · simp [eB] at hq; exact Tr.apartL hr hq
          · simp [eB] at hq; omega)
        refine CW_skip ?_
        refine hK10 _ _ ?_
        refine CW_seq (fun K13 hK13 => ?_)
        refine CW_region ?_
        refine mvp (.pointer _) rfl ?_
        refine nckW rfl ?_
        refine fad rfl ?_
        refine ld hs rfl rfl ?_
        refine asp (.pointer _) rfl ?_
        refine WL_nil ?_
        refine hK13 _ _ ?_
        refine CW_seq (fun K14 hK14 => ?_)
        refine DW_sH hs 999 ?_
        intro w hs _
        refine DW_q hs 0 rfl (by kernel_rfl) (fun w' hw' => X_move (v := (.pointer _)) rfl) ?_
        refine DW_q hs 1 rfl (by kernel_rfl) (fun w' hw' => X_ldAH hw' rfl (by simp)) ?_
        refine DW_q hs 2 rfl (by kernel_rfl) (fun w' hw' => X_move (v := (.string _)) rfl) ?_
        refine DW_q hs 3 rfl (by kernel_rfl) (fun w' hw' => X_move (v := (.pointer _)) rfl) ?_
        refine DW_q hs 4 rfl (by kernel_rfl) (fun w' hw' => X_nilCheckP rfl) ?_
        refine DW_q hs 5 rfl (by kernel_rfl) (fun w' hw' => X_fieldAddr rfl rfl) ?_
        refine DW_q hs 6 rfl (by kernel_rfl) (fun w' hw' => X_ldH hw' rfl rfl) ?_
        refine DW_q hs 8 rfl (by kernel_rfl) (fun w' hw' => X_move (v := (.pointer _)) rfl) ?_
        refine DW_q hs 9 rfl (by kernel_rfl) (fun w' hw' => X_nilCheckP rfl) ?_
        refine DW_q hs 10 rfl (by kernel_rfl) (fun w' hw' => X_fieldAddr rfl rfl) ?_
        refine DW_q hs 11 rfl (by kernel_rfl) (fun w' hw' => X_ldAH hw' rfl (by simp)) ?_
        refine DW_q hs 12 rfl (by kernel_rfl) (fun w' hw' => X_move (v := (.pointer _)) rfl) ?_
        refine DW_q hs 13 rfl (by kernel_rfl) (fun w' hw' => X_nilCheckP rfl) ?_
        refine DW_q hs 14 rfl (by kernel_rfl) (fun w' hw' => X_fieldAddr rfl rfl) ?_
        refine DW_q hs 15 rfl (by kernel_rfl) (fun w' hw' => X_ldH hw' rfl rfl) ?_
        refine DW_q hs 16 rfl (by kernel_rfl) (fun w' hw' => X_move (v := (.pointer _)) rfl) ?_
        refine DW_q hs 17 rfl (by kernel_rfl) (fun w' hw' => X_nilCheckP rfl) ?_
        refine DW_q hs 18 rfl (by kernel_rfl) (fun w' hw' => X_fieldAddr rfl rfl) ?_
        refine DW_q hs 19 rfl (by kernel_rfl) (fun w' hw' => X_ldH hw' rfl rfl) ?_
        refine DW_q hs 20 rfl (by kernel_rfl) (fun w' hw' => X_move (v := (.pointer _)) rfl) ?_
        refine DW_q hs 21 rfl (by kernel_rfl) (fun w' hw' => X_nilCheckP rfl) ?_
        refine DW_q hs 22 rfl (by kernel_rfl) (fun w' hw' => X_fieldAddr rfl rfl) ?_
        refine DW_q hs 23 rfl (by kernel_rfl) (fun w' hw' => X_ldAH hw' rfl (by simp)) ?_
        refine DW_q hs 24 rfl (by kernel_rfl) (fun w' hw' => X_move (v := (.pointer _)) rfl) ?_
        refine DW_q hs 25 rfl (by kernel_rfl) (fun w' hw' => X_nilCheckP rfl) ?_
        refine DW_q hs 26 rfl (by kernel_rfl) (fun w' hw' => X_fieldAddr rfl rfl) ?_
        refine DW_q hs 27 rfl (by kernel_rfl) (fun w' hw' => X_ldH hw' rfl rfl) ?_
        refine DW_q hs 28 rfl (by kernel_rfl) (fun w' hw' => X_move (v := (.pointer _)) rfl) ?_
        refine DW_q hs 29 rfl (by kernel_rfl) (fun w' hw' => X_nilCheckP rfl) ?_
        refine DW_q hs 30 rfl (by kernel_rfl) (fun w' hw' => X_fieldAddr rfl rfl) ?_
        refine DW_q hs 31 rfl (by kernel_rfl) (fun w' hw' => X_ldH hw' rfl rfl) ?_
        refine DW_l 7 rfl (by kernel_rfl) ?_
        refine cll (join_ok l ml n v _ (hl.fm hs.fm) (hr.2.2.1.2.2.1.fm hs.fm) ol oml hv ho (by omega)) ?_
        rintro _ w ⟨k1, rfl, hk1, hat1, hf⟩
        have hk1' : w0.heap.size ≤ k1 := Nat.le_trans hs.fm.size hk1
        replace hs := hs.call hf
        refine WL_nil ?_
        refine ⟨.inr hs.hold, ?_⟩
        refine DW_l 32 rfl (by kernel_rfl) ?_
        refine cll (join_ok mr lr nm u _ (hr.2.2.1.2.2.2.fm hs.fm) (hr.2.2.2.fm hs.fm) omr olr ou hr.2.1 (by omega)) ?_
        rintro _ w ⟨k2, rfl, hk2, hat2, hf⟩
        have hk2' : w0.heap.size ≤ k2 := Nat.le_trans hs.fm.size hk2
        replace hs := hs.call hf
        replace hat1 := hat1.fm hf
        refine WL_nil ?_
        refine ⟨.inr hs.hold, ?_⟩
        refine DW_l 33 rfl (by kernel_rfl) ?_
        refine cll (join_ok (jn k1 n v l ml) (jn k2 nm u mr lr) mn mv _ hat1 hat2 (jn_ok ol oml hv) (jn_ok omr olr ou) mu hr.2.2.1.2.1 (by rw [jn_count, jn_count]; omega)) ?_
        rintro _ w ⟨k3, rfl, hk3, hat3, hf⟩
        have hk3' : w0.heap.size ≤ k3 := Nat.le_trans hs.fm.size hk3
        replace hs := hs.call hf
        refine WL_nil ?_
        refine ⟨.inr hs.hold, ?_⟩
        refine DW_q hs 34 rfl (by kernel_rfl) (fun w' hw' => X_assign (v := (.pointer _)) rfl) ?_
        refine DW_e (by kernel_rfl) ?_
        refine hK14 _ _ ?_
        refine CW_ret ?_
        repeat (first | (with_reducible apply thenF_ret) | (with_reducible apply blockF_ret))
        try simp only [thenF, blockF, reduceIte]
        refine Post_r Tryz.results169 (.tmp rfl .nil) ?_
        try simp only [ev_tmp, ev_const, upd_ap, Nat.reduceLT, Nat.reduceEqDiff, reduceIte]
        exact ⟨jn k3 mn mv (jn k1 n v l ml) (jn k2 nm u mr lr), rfl, hat3, jn_ok (jn_ok ol oml hv) (jn_ok omr olr ou) mu, by simp [jn, Tr.list], jn_fp (Sn _ hk3') (jn_fp (Sn _ hk1') Sl (fp_l (fp_l Sr))) (jn_fp (Sn _ hk2') (fp_r (fp_l Sr)) (fp_r Sr)), hs.fm⟩
    · skip
      refine CW_skip ?_
      refine hK2 _ _ ?_
      refine CW_seq (fun K15 hK15 => ?_)
      refine CW_region ?_
      refine mvp (.pointer _) rfl ?_
      refine ldA hs rfl (by simp) ?_
      refine mvp (.string _) rfl ?_
      refine mvp (.pointer _) rfl ?_
      refine cll (join_ok l r n v _ (hl.fm hs.fm) (hr.fm hs.fm) ol or_ hv ho (by omega)) ?_
      rintro _ w ⟨k1, rfl, hk1, hat1, hf⟩
      have hk1' : w0.heap.size ≤ k1 := Nat.le_trans hs.fm.size hk1
      replace hs := hs.call hf
      refine asp (.pointer _) rfl ?_
      refine WL_nil ?_
      refine hK15 _ _ ?_
      refine CW_ret ?_
      repeat (first | (with_reducible apply thenF_ret) | (with_reducible apply blockF_ret))
      try simp only [thenF, blockF, reduceIte]
      refine Post_r Tryz.results169 (.tmp rfl .nil) ?_
      try simp only [ev_tmp, ev_const, upd_ap, Nat.reduceLT, Nat.reduceEqDiff, reduceIte]
      exact ⟨jn k1 n v l r, rfl, hat1, jn_ok ol or_ hv, rfl, jn_fp (Sn _ hk1') Sl Sr, hs.fm⟩
end Go.Proofs.YtkbldndbofbkcaaGreatDoor
/- state: with, first, without; Len, With, Without. -/
namespace Go.Proofs.YtkbldndbofbkcaaGreatDoor
open Go Go.RowKit
attribute [local irreducible] WL CW DW Ret RW
theorem St.nodeW {w0 w : World} {M : List Nat} {H : List Ent} (hs : St w0 M w H) {k : Nat} {row : List Value} (ha : w.heap[k]? = some (Blk 231 row)) (hn : ∀ x ∈ H, k ∉ x.fp) : St w0 M w (eB k false (Blk 231 row) :: H) :=
  hs.put (e := eB k false (Blk 231 row)) ha (fun x hx b hb hq => by simp [eB] at hb; subst hb; exact hn x hx hq) (by intro q; cases q)
theorem Tr.nil_of {t : Tr} (h : t.q.isNone = true) : t = .nil := by
  cases t with
  | nil => rfl
  | node => simp [Tr.q] at h
theorem Tr.node_q {t : Tr} (h : t.q.isNone = false) : t ≠ .nil := by
  rintro rfl; simp [Tr.q] at h
theorem Tr.count_list {t : Tr} {l : Ols} (h : t.list = l) : t.count = l.length := by rw [← h, Tr.list_len]
set_option maxHeartbeats 1000000 in
theorem twith_ok (S : Nat → Prop) (n : ONm) (v : ByteArray) (hv : v.size ≤ 65536) (ho : n.owner.size ≤ 9223372036854775807) : ∀ (t : Tr) (w0 : World), t.at w0 → t.ok → t.count ≤ 900000 → (∀ b ∈ t.fp, S b) → (∀ b, w0.heap.size ≤ b → S b) →
    Ret Tryz.prog 118 #[t.ptr, .agg (onV n).toArray, .string v] w0 fun u w' => ∃ t' : Tr, u = t'.ptr ∧ t'.at w' ∧ t'.ok ∧ t'.list = t.wl n v ∧ (∀ b ∈ t'.fp, S b) ∧ Fm [] w0 w' := by
  intro t
  induction t with
  | nil =>
    intro w0 hat ok hc hS Sn
    have hs := St.init w0 []
    refine Ret_enter Tryz.func118 rfl Tryz.ntmps118 (by simp) ?_
    refine CW_seq (fun K1 hK1 => ?_)
    refine CW_region ?_
    refine bx (.agg (onV n).toArray) (vl := onV n) hs rfl rfl ?_
    intro w g4 hs hg4 hf4
    unfold onV at hs
    refine asp (.pointer _) rfl ?_
    refine WL_nil ?_
    refine hK1 _ _ ?_
    refine CW_seq (fun K2 hK2 => ?_)
    refine CW_seq (fun K3 hK3 => ?_)
    refine CW_region ?_
    refine mvp (.pointer _) rfl ?_
    refine eqnP rfl rfl ?_
    refine WL_nil ?_
    refine hK3 _ _ ?_
    refine CW_condT rfl (rfl) ?_
    refine CW_seq (fun K4 hK4 => ?_)
    refine CW_region ?_
    refine ldA hs rfl (by simp) ?_
    refine mvp (.string _) rfl ?_
    refine cll (join_ok .nil .nil n v _ trivial trivial trivial trivial hv ho (by decide)) ?_
    rintro _ w ⟨k1, rfl, hk1, hat1, hf⟩
    have hk1' : w0.heap.size ≤ k1 := Nat.le_trans hs.fm.size hk1
    replace hs := hs.call hf
    refine asp (.pointer _) rfl ?_
    refine WL_nil ?_
    refine hK4 _ _ ?_
    refine CW_ret ?_
    repeat (first | (with_reducible apply thenF_ret) | (with_reducible apply blockF_ret))
    try simp only [thenF, blockF, reduceIte]
    refine Post_r Tryz.results118 (.tmp rfl .nil) ?_
    try simp only [ev_tmp, ev_const, upd_ap, Nat.reduceLT, Nat.reduceEqDiff, reduceIte]
    exact ⟨jn k1 n v .nil .nil, rfl, hat1, jn_ok trivial trivial hv, rfl, jn_fp (Sn _ hk1') (by simp [Tr.fp]) (by simp [Tr.fp]), hs.fm⟩
  | node k nm u l r h sz by_ ihl ihr =>
    intro w0 hat ok hc hS Sn
    have hs := St.init w0 []
    obtain ⟨oe1, oe2, oe3, ou, ol, or_⟩ := ok
    simp only [Tr.count] at hc
    have hkl := heap_lt hat.1
    refine Ret_enter Tryz.func118 rfl Tryz.ntmps118 (by simp) ?_
    refine CW_seq (fun K1 hK1 => ?_)
    refine CW_region ?_
    refine bx (.agg (onV n).toArray) (vl := onV n) hs rfl rfl ?_
    intro w g4 hs hg4 hf4
    unfold onV at hs
    have hg4' : w0.heap.size ≤ g4 := hs.geB
    replace hs := hs.nodeW (hs.fm.keep hat.1 (by simp)) (fun x hx hq => by
      simp at hx; subst hx; simp [eB] at hq; omega)
    refine asp (.pointer _) rfl ?_
    refine WL_nil ?_
    refine hK1 _ _ ?_
    refine CW_seq (fun K2 hK2 => ?_)
    refine CW_seq (fun K3 hK3 => ?_)
    refine CW_region ?_
    refine mvp (.pointer _) rfl ?_
    refine eqnP rfl rfl ?_
    refine WL_nil ?_
    refine hK3 _ _ ?_
    refine CW_condF rfl (rfl) ?_
    refine CW_skip ?_
    refine hK2 _ _ ?_
    refine CW_seq (fun K4 hK4 => ?_)
    refine CW_seq (fun K5 hK5 => ?_)
    refine DW_sH hs 999 ?_
    intro w hs _
    refine DW_q hs 0 rfl (by kernel_rfl) (fun w' hw' => X_ldAH hw' rfl (by simp)) ?_
    refine DW_q hs 1 rfl (by kernel_rfl) (fun w' hw' => X_move (v := (.pointer _)) rfl) ?_
    refine DW_q hs 2 rfl (by kernel_rfl) (fun w' hw' => X_nilCheckP rfl) ?_
    refine DW_q hs 3 rfl (by kernel_rfl) (fun w' hw' => X_fieldAddr rfl rfl) ?_
    refine DW_q hs 4 rfl (by kernel_rfl) (fun w' hw' => X_ldAH hw' rfl (by simp)) ?_
    refine DW_l 5 rfl (by kernel_rfl) ?_
    refine cll (OCompare_ok n nm _ ho hat.2.1) ?_
    rintro _ w ⟨rfl, hf⟩
    replace hs := hs.call hf
    refine WL_nil ?_
    refine ⟨.inr hs.hold, ?_⟩
    refine DW_q hs 6 rfl (by kernel_rfl) (fun w' hw' => X_assign (v := (.int _ _)) rfl) ?_
    refine DW_e (by kernel_rfl) ?_
    refine hK5 _ _ ?_
    refine CW_block ?_
    refine CW_seq (fun K6 hK6 => ?_)
    refine CW_region ?_
    refine mvp (.int _ _) rfl ?_
    refine lssW rfl rfl ?_
    refine asp (.bool _) rfl ?_
    refine WL_nil ?_
    refine hK6 _ _ ?_
    refine CW_cond rfl (fun hc19 => ?_) (fun hc19 => ?_)
    · skip
      refine CW_seq (fun K7 hK7 => ?_)
      refine DW_sH hs 999 ?_
      intro w hs _
      refine DW_q hs 0 rfl (by kernel_rfl) (fun w' hw' => X_move (v := (.pointer _)) rfl) ?_
      refine DW_q hs 1 rfl (by kernel_rfl) (fun w' hw' => X_nilCheckP rfl) ?_
      refine DW_q hs 2 rfl (by kernel_rfl) (fun w' hw' => X_fieldAddr rfl rfl) ?_
      refine DW_q hs 3 rfl (by kernel_rfl) (fun w' hw' => X_ldH hw' rfl rfl) ?_
      refine DW_q hs 4 rfl (by kernel_rfl) (fun w' hw' => X_ldAH hw' rfl (by simp)) ?_
      refine DW_q hs 5 rfl (by kernel_rfl) (fun w' hw' => X_move (v := (.string _)) rfl) ?_
      refine DW_q hs 7 rfl (by kernel_rfl) (fun w' hw' => X_move (v := (.pointer _)) rfl) ?_
      refine DW_q hs 8 rfl (by kernel_rfl) (fun w' hw' => X_nilCheckP rfl) ?_
      refine DW_q hs 9 rfl (by kernel_rfl) (fun w' hw' => X_fieldAddr rfl rfl) ?_
      refine DW_q hs 10 rfl (by kernel_rfl) (fun w' hw' => X_ldAH hw' rfl (by simp)) ?_
      refine DW_q hs 11 rfl (by kernel_rfl) (fun w' hw' => X_move (v := (.pointer _)) rfl) ?_
      refine DW_q hs 12 rfl (by kernel_rfl) (fun w' hw' => X_nilCheckP rfl) ?_
      refine DW_q hs 13 rfl (by kernel_rfl) (fun w' hw' => X_fieldAddr rfl rfl) ?_
      refine DW_q hs 14 rfl (by kernel_rfl) (fun w' hw' => X_ldH hw' rfl rfl) ?_
      refine DW_q hs 15 rfl (by kernel_rfl) (fun w' hw' => X_move (v := (.pointer _)) rfl) ?_
      refine DW_q hs 16 rfl (by kernel_rfl) (fun w' hw' => X_nilCheckP rfl) ?_
      refine DW_q hs 17 rfl (by kernel_rfl) (fun w' hw' => X_fieldAddr rfl rfl) ?_
      refine DW_q hs 18 rfl (by kernel_rfl) (fun w' hw' => X_ldH hw' rfl rfl) ?_
      refine DW_l 6 rfl (by kernel_rfl) ?_
      refine cll (ihl _ (hat.2.2.1.fm hs.fm) ol (by omega) (fp_l hS) (fun b hb => Sn b (Nat.le_trans hs.fm.size hb))) ?_
      rintro _ w ⟨t1, rfl, hat1, ok1, hl1, hS1, hf⟩
      replace hs := hs.call hf
      have hc1 : t1.count ≤ l.count + 1 := by rw [Tr.count_list hl1]; exact Tr.wl_len n v l
      refine WL_nil ?_
      refine ⟨.inr hs.hold, ?_⟩
      refine DW_l 19 rfl (by kernel_rfl) ?_
      refine cll (balance_ok S t1 r nm u _ hat1 (hat.2.2.2.fm hs.fm) ok1 or_ ou hat.2.1 (by omega) hS1 (fp_r hS) (fun b hb => Sn b (Nat.le_trans hs.fm.size hb))) ?_
      rintro _ w ⟨t2, rfl, hat2, ok2, hl2, hS2, hf⟩
      replace hs := hs.call hf
      refine WL_nil ?_
      refine ⟨.inr hs.hold, ?_⟩
      refine DW_q hs 20 rfl (by kernel_rfl) (fun w' hw' => X_assign (v := (.pointer _)) rfl) ?_
      refine DW_e (by kernel_rfl) ?_
      refine hK7 _ _ ?_
      refine CW_ret ?_
      repeat (first | (with_reducible apply thenF_ret) | (with_reducible apply blockF_ret))
      try simp only [thenF, blockF, reduceIte]
      refine Post_r Tryz.results118 (.tmp rfl .nil) ?_
      try simp only [ev_tmp, ev_const, upd_ap, Nat.reduceLT, Nat.reduceEqDiff, reduceIte]
      have h1 : ocmp n nm < 0 := by simpa using hc19
      exact ⟨t2, rfl, hat2, ok2, by rw [hl2, hl1, Tr.wl, if_pos h1], hS2, hs.fm⟩
    · skip
      refine CW_seq (fun K8 hK8 => ?_)
      refine CW_region ?_
      refine mvp (.int _ _) rfl ?_
      refine gtrW rfl rfl ?_
      refine asp (.bool _) rfl ?_
      refine WL_nil ?_
      refine hK8 _ _ ?_
      refine CW_cond rfl (fun hc42 => ?_) (fun hc42 => ?_)
      · skip
        refine CW_seq (fun K9 hK9 => ?_)
        refine DW_sH hs 999 ?_
        intro w hs _
        refine DW_q hs 0 rfl (by kernel_rfl) (fun w' hw' => X_move (v := (.pointer _)) rfl) ?_
        refine DW_q hs 1 rfl (by kernel_rfl) (fun w' hw' => X_nilCheckP rfl) ?_
        refine DW_q hs 2 rfl (by kernel_rfl) (fun w' hw' => X_fieldAddr rfl rfl) ?_
        refine DW_q hs 3 rfl (by kernel_rfl) (fun w' hw' => X_ldH hw' rfl rfl) ?_
        refine DW_q hs 4 rfl (by kernel_rfl) (fun w' hw' => X_move (v := (.pointer _)) rfl) ?_
        refine DW_q hs 5 rfl (by kernel_rfl) (fun w' hw' => X_nilCheckP rfl) ?_
        refine DW_q hs 6 rfl (by kernel_rfl) (fun w' hw' => X_fieldAddr rfl rfl) ?_
        refine DW_q hs 7 rfl (by kernel_rfl) (fun w' hw' => X_ldAH hw' rfl (by simp)) ?_
        refine DW_q hs 8 rfl (by kernel_rfl) (fun w' hw' => X_move (v := (.pointer _)) rfl) ?_
        refine DW_q hs 9 rfl (by kernel_rfl) (fun w' hw' => X_nilCheckP rfl) ?_
        refine DW_q hs 10 rfl (by kernel_rfl) (fun w' hw' => X_fieldAddr rfl rfl) ?_
        refine DW_q hs 11 rfl (by kernel_rfl) (fun w' hw' => X_ldH hw' rfl rfl) ?_
        refine DW_q hs 12 rfl (by kernel_rfl) (fun w' hw' => X_move (v := (.pointer _)) rfl) ?_
        refine DW_q hs 13 rfl (by kernel_rfl) (fun w' hw' => X_nilCheckP rfl) ?_
        refine DW_q hs 14 rfl (by kernel_rfl) (fun w' hw' => X_fieldAddr rfl rfl) ?_
        refine DW_q hs 15 rfl (by kernel_rfl) (fun w' hw' => X_ldH hw' rfl rfl) ?_
        refine DW_q hs 16 rfl (by kernel_rfl) (fun w' hw' => X_ldAH hw' rfl (by simp)) ?_
        refine DW_q hs 17 rfl (by kernel_rfl) (fun w' hw' => X_move (v := (.string _)) rfl) ?_
        refine DW_l 18 rfl (by kernel_rfl) ?_
        refine cll (ihr _ (hat.2.2.2.fm hs.fm) or_ (by omega) (fp_r hS) (fun b hb => Sn b (Nat.le_trans hs.fm.size hb))) ?_
        rintro _ w ⟨t1, rfl, hat1, ok1, hl1, hS1, hf⟩
        replace hs := hs.call hf
        have hc1 : t1.count ≤ r.count + 1 := by rw [Tr.count_list hl1]; exact Tr.wl_len n v r
        refine WL_nil ?_
        refine ⟨.inr hs.hold, ?_⟩
        refine DW_l 19 rfl (by kernel_rfl) ?_
        refine cll (balance_ok S l t1 nm u _ (hat.2.2.1.fm hs.fm) hat1 ol ok1 ou hat.2.1 (by omega) (fp_l hS) hS1 (fun b hb => Sn b (Nat.le_trans hs.fm.size hb))) ?_
        rintro _ w ⟨t2, rfl, hat2, ok2, hl2, hS2, hf⟩
        replace hs := hs.call hf
        refine WL_nil ?_
        refine ⟨.inr hs.hold, ?_⟩
        refine DW_q hs 20 rfl (by kernel_rfl) (fun w' hw' => X_assign (v := (.pointer _)) rfl) ?_
        refine DW_e (by kernel_rfl) ?_
        refine hK9 _ _ ?_
        refine CW_ret ?_
        repeat (first | (with_reducible apply thenF_ret) | (with_reducible apply blockF_ret))
        try simp only [thenF, blockF, reduceIte]
        refine Post_r Tryz.results118 (.tmp rfl .nil) ?_
        try simp only [ev_tmp, ev_const, upd_ap, Nat.reduceLT, Nat.reduceEqDiff, reduceIte]
        have h1 : ¬ ocmp n nm < 0 := by simpa using hc19
        have h2 : 0 < ocmp n nm := by simpa using hc42
        exact ⟨t2, rfl, hat2, ok2, by rw [hl2, hl1, Tr.wl, if_neg h1, if_pos h2], hS2, hs.fm⟩
      · skip
        refine CW_skip ?_
        refine hK4 _ _ ?_
        refine CW_seq (fun K10 hK10 => ?_)
        refine DW_sH hs 999 ?_
        intro w hs _
        refine DW_q hs 0 rfl (by kernel_rfl) (fun w' hw' => X_move (v := (.pointer _)) rfl) ?_
        refine DW_q hs 1 rfl (by kernel_rfl) (fun w' hw' => X_nilCheckP rfl) ?_
        refine DW_q hs 2 rfl (by kernel_rfl) (fun w' hw' => X_fieldAddr rfl rfl) ?_
        refine DW_q hs 3 rfl (by kernel_rfl) (fun w' hw' => X_ldH hw' rfl rfl) ?_
        refine DW_q hs 4 rfl (by kernel_rfl) (fun w' hw' => X_ldAH hw' rfl (by simp)) ?_
        refine DW_q hs 5 rfl (by kernel_rfl) (fun w' hw' => X_move (v := (.string _)) rfl) ?_
        refine DW_q hs 6 rfl (by kernel_rfl) (fun w' hw' => X_move (v := (.pointer _)) rfl) ?_
        refine DW_q hs 7 rfl (by kernel_rfl) (fun w' hw' => X_nilCheckP rfl) ?_
        refine DW_q hs 8 rfl (by kernel_rfl) (fun w' hw' => X_fieldAddr rfl rfl) ?_
        refine DW_q hs 9 rfl (by kernel_rfl) (fun w' hw' => X_ldH hw' rfl rfl) ?_
        refine DW_l 10 rfl (by kernel_rfl) ?_
        refine cll (join_ok l r n v _ (hat.2.2.1.fm hs.fm) (hat.2.2.2.fm hs.fm) ol or_ hv ho (by omega)) ?_
        rintro _ w ⟨k1, rfl, hk1, hat1, hf⟩
        have hk1' : w0.heap.size ≤ k1 := Nat.le_trans hs.fm.size hk1
        replace hs := hs.call hf
        refine WL_nil ?_
        refine ⟨.inr hs.hold, ?_⟩
        refine DW_q hs 11 rfl (by kernel_rfl) (fun w' hw' => X_assign (v := (.pointer _)) rfl) ?_
        refine DW_e (by kernel_rfl) ?_
        refine hK10 _ _ ?_
        refine CW_ret ?_
        repeat (first | (with_reducible apply thenF_ret) | (with_reducible apply blockF_ret))
        try simp only [thenF, blockF, reduceIte]
        refine Post_r Tryz.results118 (.tmp rfl .nil) ?_
        try simp only [ev_tmp, ev_const, upd_ap, Nat.reduceLT, Nat.reduceEqDiff, reduceIte]
        have h1 : ¬ ocmp n nm < 0 := by simpa using hc19
        have h2 : ¬ 0 < ocmp n nm := by simpa using hc42
        exact ⟨jn k1 n v l r, rfl, hat1, jn_ok ol or_ hv, by rw [jn_list, Tr.wl, if_neg h1, if_neg h2], jn_fp (Sn _ hk1') (fp_l hS) (fp_r hS), hs.fm⟩
set_option maxHeartbeats 1000000 in
theorem tfirst_ok (S : Nat → Prop) : ∀ (t : Tr) (w0 : World), t ≠ .nil → t.at w0 → t.ok → t.count ≤ 900000 → (∀ b ∈ t.fp, S b) → (∀ b, w0.heap.size ≤ b → S b) →
    Ret Tryz.prog 196 #[t.ptr] w0 fun u w' => ∃ (t' : Tr) (k : Nat) (nm : ONm) (v : ByteArray) (l r : Tr) (h sz by_ : Int), u = .tuple #[t'.ptr, .pointer (some ⟨k, 0, none⟩)] ∧ t.list = (nm, v) :: t'.list ∧ (Tr.node k nm v l r h sz by_).at w0 ∧ (Tr.node k nm v l r h sz by_).count ≤ t.count ∧ k ∈ t.fp ∧ v.size ≤ 65536 ∧
      t'.at w' ∧ t'.ok ∧ (∀ b ∈ t'.fp, S b) ∧ Fm [] w0 w' := by
  intro t
  induction t with
  | nil => intro w0 h; exact absurd rfl h
  | node k nm u l r h sz by_ ihl ihr =>
    intro w0 _ hat ok hc hS Sn
    have hs := St.one (M := []) (q := false) hat.1 (by simp)
    obtain ⟨oe1, oe2, oe3, ou, ol, or_⟩ := ok
    simp only [Tr.count] at hc
    have hkl := heap_lt hat.1
    refine Ret_enter Tryz.func196 rfl Tryz.ntmps196 (by simp) ?_
    refine CW_seq (fun K1 hK1 => ?_)
    refine CW_region ?_
    refine asp (.pointer _) rfl ?_
    refine asp (.pointer _) rfl ?_
    refine WL_nil ?_
    refine hK1 _ _ ?_
    refine CW_seq (fun K2 hK2 => ?_)
    refine CW_seq (fun K3 hK3 => ?_)
    refine CW_region ?_
    refine mvp (.pointer _) rfl ?_
    refine nckW rfl ?_
    refine fad rfl ?_
    refine ld hs rfl rfl ?_
    refine eqnP rfl rfl ?_
    refine WL_nil ?_
    refine hK3 _ _ ?_
    refine CW_cond rfl (fun hc8 => ?_) (fun hc8 => ?_)
    · skip
      refine CW_seq (fun K4 hK4 => ?_)
      refine CW_region ?_
      refine mvp (.pointer _) rfl ?_
      refine nckW rfl ?_
      refine fad rfl ?_
      refine ld hs rfl rfl ?_
      refine mvp (.pointer _) rfl ?_
      refine asp (.pointer _) rfl ?_
      refine asp (.pointer _) rfl ?_
      refine WL_nil ?_
      refine hK4 _ _ ?_
      refine CW_ret ?_
      repeat (first | (with_reducible apply thenF_ret) | (with_reducible apply blockF_ret))
      try simp only [thenF, blockF, reduceIte]
      refine Post_r Tryz.results196 (.tmp rfl (.tmp rfl .nil)) ?_
      try simp only [ev_tmp, ev_const, upd_ap, Nat.reduceLT, Nat.reduceEqDiff, reduceIte]
      have hln : l = .nil := Tr.nil_of (by simpa using hc8)
      subst hln
      exact ⟨r, k, nm, u, .nil, r, h, sz, by_, rfl, rfl, hat, Nat.le_refl _, by simp [Tr.fp], ou, hat.2.2.2.fm hs.fm, or_, fp_r hS, hs.fm⟩
    · skip
      have hln : l ≠ .nil := Tr.node_q (by simpa using hc8)
      refine CW_skip ?_
      refine hK2 _ _ ?_
      refine CW_seq (fun K5 hK5 => ?_)
      refine CW_region ?_
      refine mvp (.pointer _) rfl ?_
      refine nckW rfl ?_
      refine fad rfl ?_
      refine ld hs rfl rfl ?_
      refine cll (ihl _ hln (hat.2.2.1.fm hs.fm) ol (by omega) (fp_l hS) (fun b hb => Sn b (Nat.le_trans hs.fm.size hb))) ?_
      rintro _ w ⟨t1, fk, fn, fv, fl, fr, fh, fsz, fby, rfl, hl1, hfat, hfc, hfk, hfv, hat1, ok1, hS1, hf⟩
      replace hs := hs.call hf
      have hc1 : t1.count + 1 = l.count := by rw [← Tr.list_len l, hl1, List.length_cons, Tr.list_len]
      refine mvp (.tuple _) rfl ?_
      refine ext rfl rfl ?_
      refine ext rfl rfl ?_
      refine asp (.pointer _) rfl ?_
      refine asp (.pointer _) rfl ?_
      refine WL_nil ?_
      refine hK5 _ _ ?_
      refine CW_seq (fun K6 hK6 => ?_)
      refine DW_sH hs 999 ?_
      intro w hs hd4
      refine DW_q hs 0 rfl (by kernel_rfl) (fun w' hw' => X_move (v := (.pointer _)) rfl) ?_
      refine DW_q hs 1 rfl (by kernel_rfl) (fun w' hw' => X_move (v := (.pointer _)) rfl) ?_
      refine DW_q hs 2 rfl (by kernel_rfl) (fun w' hw' => X_nilCheckP rfl) ?_
      refine DW_q hs 3 rfl (by kernel_rfl) (fun w' hw' => X_fieldAddr rfl rfl) ?_
      refine DW_q hs 4 rfl (by kernel_rfl) (fun w' hw' => X_ldAH hw' rfl (by simp)) ?_
      refine DW_q hs 5 rfl (by kernel_rfl) (fun w' hw' => X_move (v := (.pointer _)) rfl) ?_
      refine DW_q hs 6 rfl (by kernel_rfl) (fun w' hw' => X_nilCheckP rfl) ?_
      refine DW_q hs 7 rfl (by kernel_rfl) (fun w' hw' => X_fieldAddr rfl rfl) ?_
      refine DW_q hs 8 rfl (by kernel_rfl) (fun w' hw' => X_ldH hw' rfl rfl) ?_
      refine DW_q hs 9 rfl (by kernel_rfl) (fun w' hw' => X_move (v := (.pointer _)) rfl) ?_
      refine DW_q hs 10 rfl (by kernel_rfl) (fun w' hw' => X_nilCheckP rfl) ?_
      refine DW_q hs 11 rfl (by kernel_rfl) (fun w' hw' => X_fieldAddr rfl rfl) ?_
      refine DW_q hs 12 rfl (by kernel_rfl) (fun w' hw' => X_ldH hw' rfl rfl) ?_
      refine DW_q hs 14 rfl (by kernel_rfl) (fun w' hw' => X_move (v := (.pointer _)) rfl) ?_
      refine DW_l 13 rfl (by kernel_rfl) ?_
      refine cll (balance_ok S t1 r nm u _ (hat1.fm hd4) (hat.2.2.2.fm hs.fm) ok1 or_ ou hat.2.1 (by omega) hS1 (fp_r hS) (fun b hb => Sn b (Nat.le_trans hs.fm.size hb))) ?_
      rintro _ w ⟨t2, rfl, hat2, ok2, hl2, hS2, hf⟩
      replace hs := hs.call hf
      refine WL_nil ?_
      refine ⟨.inr hs.hold, ?_⟩
      refine DW_q hs 15 rfl (by kernel_rfl) (fun w' hw' => X_assign (v := (.pointer _)) rfl) ?_
      refine DW_q hs 16 rfl (by kernel_rfl) (fun w' hw' => X_assign (v := (.pointer _)) rfl) ?_
      refine DW_e (by kernel_rfl) ?_
      refine hK6 _ _ ?_
      refine CW_ret ?_
      repeat (first | (with_reducible apply thenF_ret) | (with_reducible apply blockF_ret))
      try simp only [thenF, blockF, reduceIte]
      refine Post_r Tryz.results196 (.tmp rfl (.tmp rfl .nil)) ?_
      try simp only [ev_tmp, ev_const, upd_ap, Nat.reduceLT, Nat.reduceEqDiff, reduceIte]
      exact ⟨t2, fk, fn, fv, fl, fr, fh, fsz, fby, rfl, by rw [hl2]; simp [Tr.list, hl1], hfat, by simp only [Tr.count] at hfc ⊢; omega, by simp [Tr.fp, hfk], hfv, hat2, ok2, hS2, hs.fm⟩
set_option maxHeartbeats 1000000 in
theorem twithout_ok (S : Nat → Prop) (n : ONm) (ho : n.owner.size ≤ 9223372036854775807) : ∀ (t : Tr) (w0 : World), t.at w0 → t.ok → t.count ≤ 900000 → (∀ b ∈ t.fp, S b) → (∀ b, w0.heap.size ≤ b → S b) →
    Ret Tryz.prog 177 #[t.ptr, .agg (onV n).toArray] w0 fun u w' => ∃ t' : Tr, u = t'.ptr ∧ t'.at w' ∧ t'.ok ∧ t'.list = t.wo n ∧ (∀ b ∈ t'.fp, S b) ∧ Fm [] w0 w' := by
  intro t
  induction t with
  | nil =>
    intro w0 hat ok hc hS Sn
    have hs := St.init w0 []
    refine Ret_enter Tryz.func177 rfl Tryz.ntmps177 (by simp) ?_
    refine CW_seq (fun K1 hK1 => ?_)
    refine CW_region ?_
    refine bx (.agg (onV n).toArray) (vl := onV n) hs rfl rfl ?_
    intro w g3 hs hg3 hf3
    unfold onV at hs
    refine asp (.pointer _) rfl ?_
    refine WL_nil ?_
    refine hK1 _ _ ?_
    refine CW_seq (fun K2 hK2 => ?_)
    refine CW_seq (fun K3 hK3 => ?_)
    refine CW_region ?_
    refine mvp (.pointer _) rfl ?_
    refine eqnP rfl rfl ?_
    refine WL_nil ?_
    refine hK3 _ _ ?_
    refine CW_condT rfl (rfl) ?_
    refine CW_seq (fun K4 hK4 => ?_)
    refine CW_region ?_
    refine asp (.pointer _) rfl ?_
    refine WL_nil ?_
    refine hK4 _ _ ?_
    refine CW_ret ?_
    repeat (first | (with_reducible apply thenF_ret) | (with_reducible apply blockF_ret))
    try simp only [thenF, blockF, reduceIte]
    refine Post_r Tryz.results177 (.tmp rfl .nil) ?_
    try simp only [ev_tmp, ev_const, upd_ap, Nat.reduceLT, Nat.reduceEqDiff, reduceIte]
    exact ⟨.nil, rfl, trivial, trivial, rfl, by simp [Tr.fp], hs.fm⟩
  | node k nm u l r h sz by_ ihl ihr =>
    intro w0 hat ok hc hS Sn
    have hs := St.init w0 []
    obtain ⟨oe1, oe2, oe3, ou, ol, or_⟩ := ok
    simp only [Tr.count] at hc
    have hkl := heap_lt hat.1
    refine Ret_enter Tryz.func177 rfl Tryz.ntmps177 (by simp) ?_
    refine CW_seq (fun K1 hK1 => ?_)
    refine CW_region ?_
    refine bx (.agg (onV n).toArray) (vl := onV n) hs rfl rfl ?_
    intro w g3 hs hg3 hf3
    unfold onV at hs
    have hg3' : w0.heap.size ≤ g3 := hs.geB
    replace hs := hs.nodeW (hs.fm.keep hat.1 (by simp)) (fun x hx hq => by
      simp at hx; subst hx; simp [eB] at hq; omega)
    refine asp (.pointer _) rfl ?_
    refine WL_nil ?_
    refine hK1 _ _ ?_
    refine CW_seq (fun K2 hK2 => ?_)
    refine CW_seq (fun K3 hK3 => ?_)
    refine CW_region ?_
    refine mvp (.pointer _) rfl ?_
    refine eqnP rfl rfl ?_
    refine WL_nil ?_
    refine hK3 _ _ ?_
    refine CW_condF rfl (rfl) ?_
    refine CW_skip ?_
    refine hK2 _ _ ?_
    refine CW_seq (fun K4 hK4 => ?_)
    refine CW_seq (fun K5 hK5 => ?_)
    refine DW_sH hs 999 ?_
    intro w hs _
    refine DW_q hs 0 rfl (by kernel_rfl) (fun w' hw' => X_ldAH hw' rfl (by simp)) ?_
    refine DW_q hs 1 rfl (by kernel_rfl) (fun w' hw' => X_move (v := (.pointer _)) rfl) ?_
    refine DW_q hs 2 rfl (by kernel_rfl) (fun w' hw' => X_nilCheckP rfl) ?_
    refine DW_q hs 3 rfl (by kernel_rfl) (fun w' hw' => X_fieldAddr rfl rfl) ?_
    refine DW_q hs 4 rfl (by kernel_rfl) (fun w' hw' => X_ldAH hw' rfl (by simp)) ?_
    refine DW_l 5 rfl (by kernel_rfl) ?_
    refine cll (OCompare_ok n nm _ ho hat.2.1) ?_
    rintro _ w ⟨rfl, hf⟩
    replace hs := hs.call hf
    refine WL_nil ?_
    refine ⟨.inr hs.hold, ?_⟩
    refine DW_q hs 6 rfl (by kernel_rfl) (fun w' hw' => X_assign (v := (.int _ _)) rfl) ?_
    refine DW_e (by kernel_rfl) ?_
    refine hK5 _ _ ?_
    refine CW_block ?_
    refine CW_seq (fun K6 hK6 => ?_)
    refine CW_region ?_
    refine mvp (.int _ _) rfl ?_
    refine lssW rfl rfl ?_
    refine asp (.bool _) rfl ?_
    refine WL_nil ?_
    refine hK6 _ _ ?_
    refine CW_cond rfl (fun hc16 => ?_) (fun hc16 => ?_)
    · skip
      refine CW_seq (fun K7 hK7 => ?_)
      refine DW_sH hs 999 ?_
      intro w hs _
      refine DW_q hs 0 rfl (by kernel_rfl) (fun w' hw' => X_move (v := (.pointer _)) rfl) ?_
      refine DW_q hs 1 rfl (by kernel_rfl) (fun w' hw' => X_nilCheckP rfl) ?_
      refine DW_q hs 2 rfl (by kernel_rfl) (fun w' hw' => X_fieldAddr rfl rfl) ?_
      refine DW_q hs 3 rfl (by kernel_rfl) (fun w' hw' => X_ldH hw' rfl rfl) ?_
      refine DW_q hs 4 rfl (by kernel_rfl) (fun w' hw' => X_ldAH hw' rfl (by simp)) ?_
      refine DW_q hs 6 rfl (by kernel_rfl) (fun w' hw' => X_move (v := (.pointer _)) rfl) ?_
      refine DW_q hs 7 rfl (by kernel_rfl) (fun w' hw' => X_nilCheckP rfl) ?_
      refine DW_q hs 8 rfl (by kernel_rfl) (fun w' hw' => X_fieldAddr rfl rfl) ?_
      refine DW_q hs 9 rfl (by kernel_rfl) (fun w' hw' => X_ldAH hw' rfl (by simp)) ?_
      refine DW_q hs 10 rfl (by kernel_rfl) (fun w' hw' => X_move (v := (.pointer _)) rfl) ?_
      refine DW_q hs 11 rfl (by kernel_rfl) (fun w' hw' => X_nilCheckP rfl) ?_
      refine DW_q hs 12 rfl (by kernel_rfl) (fun w' hw' => X_fieldAddr rfl rfl) ?_
      refine DW_q hs 13 rfl (by kernel_rfl) (fun w' hw' => X_ldH hw' rfl rfl) ?_
      refine DW_q hs 14 rfl (by kernel_rfl) (fun w' hw' => X_move (v := (.pointer _)) rfl) ?_
      refine DW_q hs 15 rfl (by kernel_rfl) (fun w' hw' => X_nilCheckP rfl) ?_
      refine DW_q hs 16 rfl (by kernel_rfl) (fun w' hw' => X_fieldAddr rfl rfl) ?_
      refine DW_q hs 17 rfl (by kernel_rfl) (fun w' hw' => X_ldH hw' rfl rfl) ?_
      refine DW_l 5 rfl (by kernel_rfl) ?_
      refine cll (ihl _ (hat.2.2.1.fm hs.fm) ol (by omega) (fp_l hS) (fun b hb => Sn b (Nat.le_trans hs.fm.size hb))) ?_
      rintro _ w ⟨t1, rfl, hat1, ok1, hl1, hS1, hf⟩
      replace hs := hs.call hf
      have hc1 : t1.count ≤ l.count := by rw [Tr.count_list hl1]; exact Tr.wo_len n l
      refine WL_nil ?_
      refine ⟨.inr hs.hold, ?_⟩
      refine DW_l 18 rfl (by kernel_rfl) ?_
      refine cll (balance_ok S t1 r nm u _ hat1 (hat.2.2.2.fm hs.fm) ok1 or_ ou hat.2.1 (by omega) hS1 (fp_r hS) (fun b hb => Sn b (Nat.le_trans hs.fm.size hb))) ?_
      rintro _ w ⟨t2, rfl, hat2, ok2, hl2, hS2, hf⟩
      replace hs := hs.call hf
      refine WL_nil ?_
      refine ⟨.inr hs.hold, ?_⟩
      refine DW_q hs 19 rfl (by kernel_rfl) (fun w' hw' => X_assign (v := (.pointer _)) rfl) ?_
      refine DW_e (by kernel_rfl) ?_
      refine hK7 _ _ ?_
      refine CW_ret ?_
      repeat (first | (with_reducible apply thenF_ret) | (with_reducible apply blockF_ret))
      try simp only [thenF, blockF, reduceIte]
      refine Post_r Tryz.results177 (.tmp rfl .nil) ?_
      try simp only [ev_tmp, ev_const, upd_ap, Nat.reduceLT, Nat.reduceEqDiff, reduceIte]
      have h1 : ocmp n nm < 0 := by simpa using hc16
      exact ⟨t2, rfl, hat2, ok2, by rw [hl2, hl1, Tr.wo, if_pos h1], hS2, hs.fm⟩
    · skip
      refine CW_seq (fun K8 hK8 => ?_)
      refine CW_region ?_
      refine mvp (.int _ _) rfl ?_
      refine gtrW rfl rfl ?_
      refine asp (.bool _) rfl ?_
      refine WL_nil ?_
      refine hK8 _ _ ?_
      refine CW_cond rfl (fun hc38 => ?_) (fun hc38 => ?_)
      · skip
        refine CW_seq (fun K9 hK9 => ?_)
        refine DW_sH hs 999 ?_
        intro w hs _
        refine DW_q hs 0 rfl (by kernel_rfl) (fun w' hw' => X_move (v := (.pointer _)) rfl) ?_
        refine DW_q hs 1 rfl (by kernel_rfl) (fun w' hw' => X_nilCheckP rfl) ?_
        refine DW_q hs 2 rfl (by kernel_rfl) (fun w' hw' => X_fieldAddr rfl rfl) ?_
        refine DW_q hs 3 rfl (by kernel_rfl) (fun w' hw' => X_ldH hw' rfl rfl) ?_
        refine DW_q hs 4 rfl (by kernel_rfl) (fun w' hw' => X_move (v := (.pointer _)) rfl) ?_
        refine DW_q hs 5 rfl (by kernel_rfl) (fun w' hw' => X_nilCheckP rfl) ?_
        refine DW_q hs 6 rfl (by kernel_rfl) (fun w' hw' => X_fieldAddr rfl rfl) ?_
        refine DW_q hs 7 rfl (by kernel_rfl) (fun w' hw' => X_ldAH hw' rfl (by simp)) ?_
        refine DW_q hs 8 rfl (by kernel_rfl) (fun w' hw' => X_move (v := (.pointer _)) rfl) ?_
        refine DW_q hs 9 rfl (by kernel_rfl) (fun w' hw' => X_nilCheckP rfl) ?_
        refine DW_q hs 10 rfl (by kernel_rfl) (fun w' hw' => X_fieldAddr rfl rfl) ?_
        refine DW_q hs 11 rfl (by kernel_rfl) (fun w' hw' => X_ldH hw' rfl rfl) ?_
        refine DW_q hs 12 rfl (by kernel_rfl) (fun w' hw' => X_move (v := (.pointer _)) rfl) ?_
        refine DW_q hs 13 rfl (by kernel_rfl) (fun w' hw' => X_nilCheckP rfl) ?_
        refine DW_q hs 14 rfl (by kernel_rfl) (fun w' hw' => X_fieldAddr rfl rfl) ?_
        refine DW_q hs 15 rfl (by kernel_rfl) (fun w' hw' => X_ldH hw' rfl rfl) ?_
        refine DW_q hs 16 rfl (by kernel_rfl) (fun w' hw' => X_ldAH hw' rfl (by simp)) ?_
        refine DW_l 17 rfl (by kernel_rfl) ?_
        refine cll (ihr _ (hat.2.2.2.fm hs.fm) or_ (by omega) (fp_r hS) (fun b hb => Sn b (Nat.le_trans hs.fm.size hb))) ?_
        rintro _ w ⟨t1, rfl, hat1, ok1, hl1, hS1, hf⟩
        replace hs := hs.call hf
        have hc1 : t1.count ≤ r.count := by rw [Tr.count_list hl1]; exact Tr.wo_len n r
        refine WL_nil ?_
        refine ⟨.inr hs.hold, ?_⟩
        refine DW_l 18 rfl (by kernel_rfl) ?_
        refine cll (balance_ok S l t1 nm u _ (hat.2.2.1.fm hs.fm) hat1 ol ok1 ou hat.2.1 (by omega) (fp_l hS) hS1 (fun b hb => Sn b (Nat.le_trans hs.fm.size hb))) ?_
        rintro _ w ⟨t2, rfl, hat2, ok2, hl2, hS2, hf⟩
        replace hs := hs.call hf
        refine WL_nil ?_
        refine ⟨.inr hs.hold, ?_⟩
        refine DW_q hs 19 rfl (by kernel_rfl) (fun w' hw' => X_assign (v := (.pointer _)) rfl) ?_
        refine DW_e (by kernel_rfl) ?_
        refine hK9 _ _ ?_
        refine CW_ret ?_
        repeat (first | (with_reducible apply thenF_ret) | (with_reducible apply blockF_ret))
        try simp only [thenF, blockF, reduceIte]
        refine Post_r Tryz.results177 (.tmp rfl .nil) ?_
        try simp only [ev_tmp, ev_const, upd_ap, Nat.reduceLT, Nat.reduceEqDiff, reduceIte]
        have h1 : ¬ ocmp n nm < 0 := by simpa using hc16
        have h2 : 0 < ocmp n nm := by simpa using hc38
        exact ⟨t2, rfl, hat2, ok2, by rw [hl2, hl1, Tr.wo, if_neg h1, if_pos h2], hS2, hs.fm⟩
      · skip
        refine CW_seq (fun K10 hK10 => ?_)
        refine CW_region ?_
        refine mvp (.pointer _) rfl ?_
        refine nckW rfl ?_
        refine fad rfl ?_
        refine ld hs rfl rfl ?_
        refine eqnP rfl rfl ?_
        refine asp (.bool _) rfl ?_
        refine WL_nil ?_
        refine hK10 _ _ ?_
        refine CW_cond rfl (fun hc60 => ?_) (fun hc60 => ?_)
        · skip
          refine CW_seq (fun K11 hK11 => ?_)
          refine CW_region ?_
          refine mvp (.pointer _) rfl ?_
          refine nckW rfl ?_
          refine fad rfl ?_
          refine ld hs rfl rfl ?_
          refine asp (.pointer _) rfl ?_
          refine WL_nil ?_
          refine hK11 _ _ ?_
          refine CW_ret ?_
          repeat (first | (with_reducible apply thenF_ret) | (with_reducible apply blockF_ret))
          try simp only [thenF, blockF, reduceIte]
          refine Post_r Tryz.results177 (.tmp rfl .nil) ?_
          try simp only [ev_tmp, ev_const, upd_ap, Nat.reduceLT, Nat.reduceEqDiff, reduceIte]
          have h1 : ¬ ocmp n nm < 0 := by simpa using hc16
          have h2 : ¬ 0 < ocmp n nm := by simpa using hc38
          have hrn : r = .nil := Tr.nil_of (by simpa using hc60)
          subst hrn
          exact ⟨l, rfl, hat.2.2.1.fm hs.fm, ol, by rw [Tr.wo, if_neg h1, if_neg h2]; simp [Tr.list], fp_l hS, hs.fm⟩
        · skip
          have hrn : r ≠ .nil := Tr.node_q (by simpa using hc60)
          refine CW_skip ?_
          refine hK4 _ _ ?_
          refine CW_seq (fun K12 hK12 => ?_)
          refine CW_region ?_
          refine mvp (.pointer _) rfl ?_
          refine nckW rfl ?_
          refine fad rfl ?_
          refine ld hs rfl rfl ?_
          refine cll (tfirst_ok S r _ hrn (hat.2.2.2.fm hs.fm) or_ (by omega) (fp_r hS) (fun b hb => Sn b (Nat.le_trans hs.fm.size hb))) ?_
          rintro _ w ⟨t1, fk, fn, fv, fl, fr, fh, fsz, fby, rfl, hl1, hfat, hfc, hfk, hfv, hat1, ok1, hS1, hf⟩
          have hfk1 : fk < w0.heap.size := Tr.lt hat.2.2.2 fk hfk
          have hfkk : fk ≠ k := by
            rintro rfl
            have e1 := Tr.uniq (hat.fm hs.fm) hfat rfl
            have e2 := congrArg Tr.count e1
            simp only [Tr.count] at e2 hfc
            omega
          replace hs := hs.call hf
          have hc1 : t1.count + 1 = r.count := by rw [← Tr.list_len r, hl1, List.length_cons, Tr.list_len]
          have hfat2 := hfat.fm hf
          replace hs := hs.nodeW hfat2.1 (fun x hx hq => by
            simp at hx
            rcases hx with rfl | rfl
            · simp [eB] at hq; exact hfkk hq
            · simp [eB] at hq; omega)
          refine mvp (.tuple _) rfl ?_
          refine ext rfl rfl ?_
          refine ext rfl rfl ?_
          refine asp (.pointer _) rfl ?_
          refine asp (.pointer _) rfl ?_
          refine WL_nil ?_
          refine hK12 _ _ ?_
          refine CW_seq (fun K13 hK13 => ?_)
          refine DW_sH hs 999 ?_
          intro w hs hd11
          refine DW_q hs 0 rfl (by kernel_rfl) (fun w' hw' => X_move (v := (.pointer _)) rfl) ?_
          refine DW_q hs 1 rfl (by kernel_rfl) (fun w' hw' => X_nilCheckP rfl) ?_
          refine DW_q hs 2 rfl (by kernel_rfl) (fun w' hw' => X_fieldAddr rfl rfl) ?_
          refine DW_q hs 3 rfl (by kernel_rfl) (fun w' hw' => X_ldH hw' rfl rfl) ?_
          refine DW_q hs 4 rfl (by kernel_rfl) (fun w' hw' => X_move (v := (.pointer _)) rfl) ?_
          refine DW_q hs 5 rfl (by kernel_rfl) (fun w' hw' => X_nilCheckP rfl) ?_
          refine DW_q hs 6 rfl (by kernel_rfl) (fun w' hw' => X_fieldAddr rfl rfl) ?_
          refine DW_q hs 7 rfl (by kernel_rfl) (fun w' hw' => X_ldAH hw' rfl (by simp)) ?_
          refine DW_q hs 8 rfl (by kernel_rfl) (fun w' hw' => X_move (v := (.pointer _)) rfl) ?_
          refine DW_q hs 9 rfl (by kernel_rfl) (fun w' hw' => X_nilCheckP rfl) ?_
          refine DW_q hs 10 rfl (by kernel_rfl) (fun w' hw' => X_fieldAddr rfl rfl) ?_
          refine DW_q hs 11 rfl (by kernel_rfl) (fun w' hw' => X_ldH hw' rfl rfl) ?_
          refine DW_q hs 12 rfl (by kernel_rfl) (fun w' hw' => X_move (v := (.pointer _)) rfl) ?_
          refine DW_l 13 rfl (by kernel_rfl) ?_
          refine cll (balance_ok S l t1 fn fv _ (hat.2.2.1.fm hs.fm) (hat1.fm hd11) ol ok1 hfv hfat.2.1 (by omega) (fp_l hS) hS1 (fun b hb => Sn b (Nat.le_trans hs.fm.size hb))) ?_
          rintro _ w ⟨t2, rfl, hat2, ok2, hl2, hS2, hf⟩
          replace hs := hs.call hf
          refine WL_nil ?_
          refine ⟨.inr hs.hold, ?_⟩
          refine DW_q hs 14 rfl (by kernel_rfl) (fun w' hw' => X_assign (v := (.pointer _)) rfl) ?_
          refine DW_e (by kernel_rfl) ?_
          refine hK13 _ _ ?_
          refine CW_ret ?_
          repeat (first | (with_reducible apply thenF_ret) | (with_reducible apply blockF_ret))
          try simp only [thenF, blockF, reduceIte]
          refine Post_r Tryz.results177 (.tmp rfl .nil) ?_
          try simp only [ev_tmp, ev_const, upd_ap, Nat.reduceLT, Nat.reduceEqDiff, reduceIte]
          have h1 : ¬ ocmp n nm < 0 := by simpa using hc16
          have h2 : ¬ 0 < ocmp n nm := by simpa using hc38
          exact ⟨t2, rfl, hat2, ok2, by rw [hl2, Tr.wo, if_neg h1, if_neg h2, hl1], hS2, hs.fm⟩
end Go.Proofs.YtkbldndbofbkcaaGreatDoor
/- Plain: the order of names; trees in order. -/
namespace Go.Proofs.YtkbldndbofbkcaaGreatDoor
open Go Go.RowKit
structure Cmpr {α : Type} (c : α → α → Int) : Prop where
  rfl : ∀ a, c a a = 0
  sym : ∀ a b, c a b < 0 ↔ 0 < c b a
  tr : ∀ a b d, c a b < 0 → c b d < 0 → c a d < 0
  eq : ∀ a b, c a b = 0 → a = b
def lx {α β : Type} (c : α → α → Int) (e : β → β → Int) (x y : α × β) : Int := if c x.1 y.1 ≠ 0 then c x.1 y.1 else e x.2 y.2
theorem Cmpr.lx {α β : Type} {c : α → α → Int} {e : β → β → Int} (h : Cmpr c) (k : Cmpr e) : Cmpr (lx c e) where
  rfl := fun a => by unfold Go.Proofs.YtkbldndbofbkcaaGreatDoor.lx; rw [if_neg (by rw [h.rfl]; simp), k.rfl]
  sym := fun a b => by
    unfold Go.Proofs.YtkbldndbofbkcaaGreatDoor.lx
    have h1 := h.sym a.1 b.1
    have h2 := h.sym b.1 a.1
    have k1 := k.sym a.2 b.2
    by_cases q : c a.1 b.1 = 0
    · have q2 : c b.1 a.1 = 0 := by omega
      rw [if_neg (by simpa using q), if_neg (by simpa using q2)]; exact k1
    · have q2 : ¬ c b.1 a.1 = 0 := by omega
      rw [if_pos q, if_pos q2]; exact h1
  tr := fun a b d => by
    unfold Go.Proofs.YtkbldndbofbkcaaGreatDoor.lx
    intro p q
    by_cases e1 : c a.1 b.1 = 0
    · rw [if_neg (by simpa using e1)] at p
      have := h.eq _ _ e1
      rw [← this] at q
      by_cases e2 : c a.1 d.1 = 0
      · rw [if_neg (by simpa using e2)] at q ⊢
        exact k.tr _ _ _ p q
      · rw [if_pos e2] at q ⊢
        exact q
    · rw [if_pos e1] at p
      by_cases e2 : c b.1 d.1 = 0
      · have := h.eq _ _ e2
        rw [← this, if_pos e1]; exact p
      · rw [if_pos e2] at q
        have := h.tr _ _ _ p q
        rw [if_pos (by omega)]; exact this
  eq := fun a b => by
    unfold Go.Proofs.YtkbldndbofbkcaaGreatDoor.lx
    intro p
    by_cases e1 : c a.1 b.1 = 0
    · rw [if_neg (by simpa using e1)] at p
      exact Prod.ext (h.eq _ _ e1) (k.eq _ _ p)
    · rw [if_pos e1] at p; exact absurd p e1
theorem cmp_i : Cmpr icmp where
  rfl := fun a => by unfold icmp; rw [if_neg (by omega), if_neg (by omega)]
  sym := fun a b => by unfold icmp; split <;> split <;> (try split) <;> omega
  tr := fun a b d => by unfold icmp; split <;> split <;> (try split) <;> (try split) <;> (try split) <;> omega
  eq := fun a b => by unfold icmp; split <;> (try split) <;> omega
theorem icmp_nat (a b : Nat) : icmp a b = if a < b then -1 else if b < a then 1 else 0 := by unfold icmp; simp only [Int.ofNat_lt]
theorem lcmp_rfl : ∀ a, lcmp a a = 0
  | [] => rfl
  | a :: l => by rw [lcmp, if_neg (by rw [cmp_i.rfl]; simp)]; exact lcmp_rfl l
theorem lcmp_sym : ∀ a b, lcmp a b < 0 ↔ 0 < lcmp b a
  | [], [] => by simp [lcmp]
  | [], _ :: _ => by simp [lcmp]
  | _ :: _, [] => by simp [lcmp]
  | a :: l, b :: m => by
    have h1 := cmp_i.sym a b
    have h2 := cmp_i.sym b a
    rw [lcmp, lcmp]
    by_cases q : icmp a b = 0
    · have q2 : icmp b a = 0 := by omega
      rw [if_neg (by simpa using q), if_neg (by simpa using q2)]; exact lcmp_sym l m
    · have q2 : ¬ icmp b a = 0 := by omega
      rw [if_pos q, if_pos q2]; exact h1
theorem lcmp_eq : ∀ a b, lcmp a b = 0 → a = b
  | [], [], _ => rfl
  | [], _ :: _, h => by simp [lcmp] at h
  | _ :: _, [], h => by simp [lcmp] at h
  | a :: l, b :: m, h => by
    rw [lcmp] at h
    by_cases q : icmp a b = 0
    · rw [if_neg (by simpa using q)] at h
      have := cmp_i.eq _ _ q
      rw [lcmp_eq l m h, show a = b by omega]
    · rw [if_pos q] at h; exact absurd h q
theorem lcmp_tr : ∀ a b d, lcmp a b < 0 → lcmp b d < 0 → lcmp a d < 0
  | _, [], [], _, k => by simp [lcmp] at k
  | _, _ :: _, [], _, k => by simp [lcmp] at k
  | [], _, _ :: _, _, _ => by simp [lcmp]
  | _ :: _, [], _ :: _, h, _ => by simp [lcmp] at h
  | a :: l, b :: m, d :: o, h, k => by
    rw [lcmp] at h k ⊢
    by_cases e1 : icmp a b = 0
    · rw [if_neg (by simpa using e1)] at h
      have := cmp_i.eq _ _ e1
      have hab : a = b := by omega
      subst hab
      by_cases e2 : icmp a d = 0
      · rw [if_neg (by simpa using e2)] at k ⊢
        exact lcmp_tr l m o h k
      · rw [if_pos e2] at k ⊢; exact k
    · rw [if_pos e1] at h
      by_cases e2 : icmp b d = 0
      · have := cmp_i.eq _ _ e2
        have hbd : b = d := by omega
        subst hbd
        rw [if_pos e1]; exact h
      · rw [if_pos e2] at k
        have := cmp_i.tr _ _ _ h k
        rw [if_pos (by omega)]; exact this
theorem cmp_l : Cmpr lcmp := ⟨lcmp_rfl, lcmp_sym, lcmp_tr, lcmp_eq⟩
theorem cb_l : ∀ a b : List UInt8, Lib.compareBytes a b = lcmp (a.map (·.toNat)) (b.map (·.toNat))
  | [], [] => rfl
  | [], _ :: _ => rfl
  | _ :: _, [] => rfl
  | a :: x, b :: y => by
    rw [Lib.compareBytes, List.map_cons, List.map_cons, lcmp, icmp_nat, cb_l x y]
    simp only [UInt8.lt_iff_toNat_lt]
    by_cases h1 : a.toNat < b.toNat
    · simp [h1]
    · by_cases h2 : b.toNat < a.toNat
      · simp [h1, h2]
      · simp [h1, h2]
abbrev KN := Int × List Nat × Int × Int × List Nat
def oK (n : ONm) : KN := (n.kind, lords n.owner.data.toList, n.num, n.idx, n.text.data.toList.map (·.toNat))
def cK : KN → KN → Int := lx icmp (lx lcmp (lx icmp (lx icmp lcmp)))
theorem cmp_K : Cmpr cK := cmp_i.lx (cmp_l.lx (cmp_i.lx (cmp_i.lx cmp_l)))
/-- The owner is a lineage. -/
def Dn (n : ONm) : Prop := lvalid n.owner.data.toList = true
theorem ocmp_K {a b : ONm} (ha : Dn a) (hb : Dn b) : ocmp a b = cK (oK a) (oK b) := by
  have h1 : lncmp a.owner b.owner = lcmp (lords a.owner.data.toList) (lords b.owner.data.toList) := by unfold lncmp; rw [if_pos ⟨ha, hb⟩]
  have h2 : scmp a.text b.text = lcmp (a.text.data.toList.map (·.toNat)) (b.text.data.toList.map (·.toNat)) := by
    show Extern.BytealgCompare.cmp _ _ = _
    rw [Lib.cmp_eq, cb_l]
  unfold ocmp
  rw [h1, h2]
  simp only [orI, cK, lx, oK]
  have e : ∀ z : Int, (if z ≠ 0 then z else 0) = z := fun z => by split <;> simp_all
  rw [e]
  rfl
/-! ### lineages are what their ordinals are -/
theorem dfold_inj : ∀ (l l' : List UInt8) (n m : Nat), l.length = l'.length → (∀ c ∈ l, isDig c = true) → (∀ c ∈ l', isDig c = true) → l.foldl dstep n = l'.foldl dstep m → n = m ∧ l = l'
  | [], [], n, m, _, _, _, h => ⟨h, rfl⟩
  | [], _ :: _, _, _, h, _, _, _ => by simp at h
  | _ :: _, [], _, _, h, _, _, _ => by simp at h
  | c :: l, c' :: l', n, m, hl, h1, h2, h => by
    obtain ⟨k1, k2⟩ := dfold_inj l l' (dstep n c) (dstep m c') (by simpa using hl) (fun x hx => h1 x (.tail _ hx)) (fun x hx => h2 x (.tail _ hx)) h
    have d1 := h1 c (.head _)
    have d2 := h2 c' (.head _)
    unfold isDig at d1 d2
    simp at d1 d2
    unfold dstep at k1
    have e : c = c' := UInt8.toNat_inj.1 (by omega)
    subst e k2
    exact ⟨by omega, rfl⟩
theorem dfold_ge : ∀ (l : List UInt8) (n : Nat), n * 10 ^ l.length ≤ l.foldl dstep n
  | [], n => by simp
  | c :: l, n => by
    have h := dfold_ge l (dstep n c)
    have h2 : n * 10 ≤ dstep n c := by unfold dstep; omega
    have h3 : n * 10 * 10 ^ l.length ≤ dstep n c * 10 ^ l.length := Nat.mul_le_mul_right _ h2
    simp only [List.foldl_cons, List.length_cons]
    rw [Nat.pow_succ, Nat.mul_comm (10 ^ l.length) 10, ← Nat.mul_assoc]
    omega
theorem dval_ge {c : UInt8} {l : List UInt8} (hc : isDig c = true) (h : c.toNat ≠ 48) : 10 ^ l.length ≤ dval (c :: l) := by
  have h1 := dfold_ge l (dstep 0 c)
  unfold isDig at hc
  simp at hc
  have h2 : 1 ≤ dstep 0 c := by unfold dstep; omega
  have h3 : 1 * 10 ^ l.length ≤ dstep 0 c * 10 ^ l.length := Nat.mul_le_mul_right _ h2
  have h4 : dval (c :: l) = l.foldl dstep (dstep 0 c) := rfl
  omega
theorem dval_inj {l l' : List UInt8} (hd : ∀ c ∈ l, isDig c = true) (hd' : ∀ c ∈ l', isDig c = true) (h0 : l ≠ []) (h0' : l' ≠ []) (h1 : l.head? ≠ some 48) (h1' : l'.head? ≠ some 48) (h : dval l = dval l') : l = l' := by
  have key : ∀ {a b : List UInt8}, (∀ c ∈ a, isDig c = true) → (∀ c ∈ b, isDig c = true) → b ≠ [] → b.head? ≠ some 48 → dval a = dval b → ¬ a.length < b.length := by
    intro a b ha hb hb0 hb1 e hlt
    cases b with
    | nil => exact hb0 rfl
    | cons c b =>
      have k1 := dval_lt6 a ha
      have k2 := dval_ge (l := b) (hb c (.head _)) (fun q => hb1 (by simp only [List.head?_cons]; congr 1; exact UInt8.toNat_inj.1 (by simpa using q)))
      have k3 : 10 ^ a.length ≤ 10 ^ b.length := Nat.pow_le_pow_right (by decide) (by simp at hlt; omega)
      omega
  have hlen : l.length = l'.length := by
    have a1 := key hd hd' h0' h1' h
    have a2 := key hd' hd h0 h1 h.symm
    omega
  exact (dfold_inj l l' 0 0 hlen hd hd' h).2
theorem pts_ne (k a : Nat) (r : List UInt8) : pts k a r ≠ [] := by
  cases k with
  | zero => simp [pts]
  | succ k => rw [pts]; split <;> simp
theorem pts_inj : ∀ (k a a' : Nat) (r r' : List UInt8), ((pts k a r).all fun p => p.e == 0) = true → ((pts k a' r').all fun p => p.e == 0) = true → (pts k a r).map (·.ord) = (pts k a' r').map (·.ord) → r = r'
  | 0, _, _, _, _, h, _, _ => by simp [pts] at h
  | k + 1, a, a', r, r', h, h', e => by
    rw [pts] at h h' e
    have p1 : perr r = 0 := by
      by_cases q : perr r = 0
      · exact q
      · rw [if_pos q] at h; simp at h; exact absurd h q
    rw [if_neg (by rw [p1]; simp)] at h e
    rw [pts] at e
    have p2 : perr r' = 0 := by
      by_cases q : perr r' = 0
      · exact q
      · rw [if_pos q] at h'; simp at h'; exact absurd h' q
    rw [if_neg (by rw [p2]; simp)] at h' e
    simp only [List.map_cons, List.cons.injEq, List.all_cons, Bool.and_eq_true] at h h' e
    have hd : ∀ {x : List UInt8}, perr x = 0 → x.take (dlen x) ≠ [] ∧ (x.take (dlen x)).head? ≠ some 48 := by
      intro x hx
      unfold perr at hx
      split at hx
      · cases hx
      · rename_i q1
        split at hx
        · cases hx
        · rename_i q2
          split at hx
          · cases hx
          · rename_i q3
            cases x with
            | nil => exact absurd rfl q1
            | cons c x =>
              obtain ⟨m, hm⟩ : ∃ m, dlen (c :: x) = m + 1 := ⟨dlen (c :: x) - 1, by omega⟩
              rw [hm, List.take_succ_cons]
              exact ⟨by simp, by simpa using q3⟩
    have ed := dval_inj (take_dig r) (take_dig r') (hd p1).1 (hd p2).1 (hd p1).2 (hd p2).2 e.1
    have er : r.drop (dlen r) = r'.drop (dlen r') := by
      have h2 := h.2
      have h2' := h'.2
      have e2 := e.2
      cases q1 : r.drop (dlen r) with
      | nil =>
        rw [q1] at e2
        cases q2 : r'.drop (dlen r') with
        | nil => rfl
        | cons c x =>
          rw [q2] at e2 h2'
          simp only at e2 h2'
          split at e2
          · rename_i q; rw [if_pos q] at h2'; simp at h2'
          · simp at e2; exact absurd e2 (pts_ne _ _ _)
      | cons c x =>
        rw [q1] at e2 h2
        simp only at h2
        cases q2 : r'.drop (dlen r') with
        | nil =>
          rw [q2] at e2
          simp only at e2
          split at e2
          · rename_i q; rw [if_pos q] at h2; simp at h2
          · simp at e2; exact absurd e2 (pts_ne _ _ _)
        | cons c' x' =>
          rw [q2] at e2 h2'
          simp only at e2 h2'
          have hc : c.toNat = 46 := by
            by_cases q : c.toNat = 46
            · exact q
            · rw [if_pos q] at h2; simp at h2
          have hc' : c'.toNat = 46 := by
            by_cases q : c'.toNat = 46
            · exact q
            · rw [if_pos q] at h2'; simp at h2'
          rw [if_neg (fun q => q hc)] at h2 e2
          rw [if_neg (fun q => q hc')] at h2' e2
          rw [pts_inj k _ _ x x' h2 h2' e2, UInt8.toNat_inj.1 (show c.toNat = c'.toNat by omega)]
    rw [← List.take_append_drop (dlen r) r, ← List.take_append_drop (dlen r') r', ed, er]
theorem lords_inj {a b : List UInt8} (ha : lvalid a = true) (hb : lvalid b = true) (h : lords a = lords b) : a = b := by
  unfold lords at h
  rw [if_pos ha, if_pos hb] at h
  unfold lvalid at ha hb
  unfold parts at h ha hb
  by_cases qa : a = [] <;> by_cases qb : b = []
  · rw [qa, qb]
  · rw [if_pos qa, if_neg qb] at h
    exact absurd (by simpa using h.symm) (pts_ne 8 0 b)
  · rw [if_neg qa, if_pos qb] at h
    exact absurd (by simpa using h) (pts_ne 8 0 a)
  · rw [if_neg qa, if_neg qb] at h
    rw [if_neg qa] at ha
    rw [if_neg qb] at hb
    exact pts_inj 8 0 0 a b ha hb h
theorem map_toNat_inj {a b : List UInt8} (h : a.map (·.toNat) = b.map (·.toNat)) : a = b := by
  induction a generalizing b with
  | nil => cases b with | nil => rfl | cons => simp at h
  | cons x a ih =>
    cases b with
    | nil => simp at h
    | cons y b =>
      simp only [List.map_cons, List.cons.injEq] at h
      rw [UInt8.toNat_inj.1 h.1, ih h.2]
theorem ba_eqO {a b : ByteArray} (h : a.data.toList = b.data.toList) : a = b := by
  obtain ⟨⟨a⟩⟩ := a; obtain ⟨⟨b⟩⟩ := b; simp at h; subst h; rfl
theorem oK_inj {a b : ONm} (ha : Dn a) (hb : Dn b) (h : oK a = oK b) : a = b := by
  unfold oK at h
  simp only [Prod.mk.injEq] at h
  obtain ⟨h1, h2, h3, h4, h5⟩ := h
  have e2 := ba_eqO (lords_inj ha hb h2)
  have e5 := ba_eqO (map_toNat_inj h5)
  cases a; cases b; simp_all
theorem oc_rfl {a : ONm} (ha : Dn a) : ocmp a a = 0 := by rw [ocmp_K ha ha]; exact cmp_K.rfl _
theorem oc_sym {a b : ONm} (ha : Dn a) (hb : Dn b) : ocmp a b < 0 ↔ 0 < ocmp b a := by rw [ocmp_K ha hb, ocmp_K hb ha]; exact cmp_K.sym _ _
theorem oc_tr {a b d : ONm} (ha : Dn a) (hb : Dn b) (hd : Dn d) (h : ocmp a b < 0) (k : ocmp b d < 0) : ocmp a d < 0 := by
  rw [ocmp_K ha hb] at h; rw [ocmp_K hb hd] at k; rw [ocmp_K ha hd]; exact cmp_K.tr _ _ _ h k
theorem oc_eq {a b : ONm} (ha : Dn a) (hb : Dn b) (h : ocmp a b = 0) : a = b := by rw [ocmp_K ha hb] at h; exact oK_inj ha hb (cmp_K.eq _ _ h)
theorem oc_ne {a b : ONm} (ha : Dn a) (h : ocmp a b < 0) : a ≠ b := by rintro rfl; rw [oc_rfl ha] at h; omega
theorem Dn_of {n : ONm} (h : onCheckB n = 0) : Dn n := by
  unfold onCheckB at h
  split at h
  · cases h
  · split at h
    · cases h
    · rename_i q1
      split at h
      · cases h
      · rename_i q2
        unfold Dn
        by_cases q : (usOf n.kind).own = true
        · by_cases q3 : lvalid n.owner.data.toList = true
          · exact q3
          · exact absurd ⟨q, by simpa using q3⟩ q2
        · have : n.owner.data.toList = [] := by
            by_cases q4 : n.owner.data.toList = []
            · exact q4
            · exfalso
              apply q1
              unfold badU
              simp [q, q4]
          rw [this]; decide
end Go.Proofs.YtkbldndbofbkcaaGreatDoor
/- Plain: what a view has of a name. -/
namespace Go.Proofs.YtkbldndbofbkcaaGreatDoor
open Go Go.RowKit
def gv (t : Tr) (N : Chs) (n : ONm) : Option ByteArray := if (vwGet t N n).2 = true then some (vwGet t N n).1 else none
theorem gv_snd (t : Tr) (N : Chs) (n : ONm) : (vwGet t N n).2 = (gv t N n).isSome := by
  unfold gv; cases (vwGet t N n).2 <;> rfl
theorem vw_set {t : Tr} {N : Chs} {n : ONm} (h : onCheckB n = 0) (c : ByteArray × Bool) : vwGet t (nset N n c) n = (c.1, !c.2) := by
  unfold vwGet; rw [if_neg (by rw [h]; simp), nget_nset, if_pos rfl]
theorem vw_ne {t : Tr} {N : Chs} {n m : ONm} (h : m ≠ n) (c : ByteArray × Bool) : vwGet t (nset N n c) m = vwGet t N m := by
  unfold vwGet; rw [nget_nset, if_neg h]
theorem gv_put {t : Tr} {N : Chs} {n : ONm} (h : onCheckB n = 0) (v : ByteArray) (m : ONm) : gv t (nset N n (v, false)) m = if m = n then some v else gv t N m := by
  unfold gv
  by_cases hm : m = n
  · subst hm; rw [vw_set h, if_pos rfl]; rfl
  · rw [if_neg hm, vw_ne hm]
theorem gv_cut {t : Tr} {N : Chs} {n : ONm} (v : ByteArray) (m : ONm) : gv t (nset N n (v, true)) m = if m = n then none else gv t N m := by
  unfold gv
  by_cases hm : m = n
  · subst hm; rw [if_pos rfl]
    by_cases h : onCheckB m = 0
    · rw [vw_set h]; rfl
    · unfold vwGet; rw [if_pos h]; rfl
  · rw [if_neg hm, vw_ne hm]
end Go.Proofs.YtkbldndbofbkcaaGreatDoor
/- Plain: what a tree in order says of a name; a list of changes. -/
namespace Go.Proofs.YtkbldndbofbkcaaGreatDoor
open Go Go.RowKit
def Sol (l : Ols) : Prop := (∀ x ∈ l, Dn x.1) ∧ l.Pairwise (fun x y => ocmp x.1 y.1 < 0)
theorem Sol.sub {l k : Ols} (h : Sol l) (hk : k.Sublist l) : Sol k := ⟨fun x hx => h.1 x (hk.subset hx), h.2.sublist hk⟩
theorem sol_nil : Sol [] := ⟨by simp, .nil⟩
def olk : Ols → ONm → Option ByteArray
  | [], _ => none
  | (m, u) :: l, n => if n = m then some u else olk l n
theorem olk_app (a b : Ols) (n : ONm) : olk (a ++ b) n = (olk a n).or (olk b n) := by
  induction a with
  | nil => rfl
  | cons y a ih =>
    obtain ⟨k, x⟩ := y
    simp only [List.cons_append, olk]
    split
    · rfl
    · exact ih
theorem olk_none {l : Ols} {n : ONm} (h : ∀ x ∈ l, n ≠ x.1) : olk l n = none := by
  induction l with
  | nil => rfl
  | cons y l ih =>
    obtain ⟨k, x⟩ := y
    rw [olk, if_neg (h _ (.head _))]
    exact ih (fun x hx => h x (.tail _ hx))
theorem olk_mem {l : Ols} {n : ONm} {u : ByteArray} (h : olk l n = some u) : (n, u) ∈ l := by
  induction l with
  | nil => cases h
  | cons y l ih =>
    obtain ⟨k, x⟩ := y
    rw [olk] at h
    split at h
    · rename_i e; injection h with h; subst e h; exact .head _
    · exact .tail _ (ih h)
/-- Where a name lies in a tree. -/
theorem split_tr (n : ONm) (v : ByteArray) (hn : Dn n) : ∀ t : Tr, Sol t.list → ∃ A B : Ols, t.wl n v = A ++ (n, v) :: B ∧ t.wo n = A ++ B ∧ ((t.list = A ++ B ∧ t.get n = none) ∨ ∃ u, t.list = A ++ (n, u) :: B ∧ t.get n = some u) ∧ (∀ x ∈ A, ocmp x.1 n < 0) ∧ (∀ x ∈ B, ocmp n x.1 < 0)
  | .nil, _ => ⟨[], [], rfl, rfl, .inl ⟨rfl, rfl⟩, by simp, by simp⟩
  | .node _ m u l r _ _ _, hs => by
    have hl : Sol l.list := hs.sub (List.sublist_append_left _ _)
    have hr : Sol r.list := hs.sub ((List.sublist_cons_self _ _).trans (List.sublist_append_right _ _))
    have hm : Dn m := hs.1 (m, u) (by simp [Tr.list])
    obtain ⟨_, p2, p3⟩ := List.pairwise_append.1 hs.2
    obtain ⟨p4, _⟩ := List.pairwise_cons.1 p2
    by_cases c1 : ocmp n m < 0
    · obtain ⟨A, B, e1, e2, e3, h1, h2⟩ := split_tr n v hn l hl
      refine ⟨A, B ++ (m, u) :: r.list, by rw [Tr.wl, if_pos c1, e1]; simp, by rw [Tr.wo, if_pos c1, e2]; simp, ?_, h1, fun x hx => ?_⟩
      · rw [Tr.get, if_pos c1]
        rcases e3 with ⟨e3, e4⟩ | ⟨z, e3, e4⟩
        · exact .inl ⟨by simp [Tr.list, e3], e4⟩
        · exact .inr ⟨z, by simp [Tr.list, e3], e4⟩
      · rcases List.mem_append.1 hx with hx | hx
        · exact h2 x hx
        · rcases List.mem_cons.1 hx with rfl | hx
          · exact c1
          · exact oc_tr hn hm (hr.1 x hx) c1 (p4 x hx)
    · by_cases c2 : 0 < ocmp n m
      · obtain ⟨A, B, e1, e2, e3, h1, h2⟩ := split_tr n v hn r hr
        have hmn : ocmp m n < 0 := (oc_sym hm hn).2 c2
        refine ⟨l.list ++ (m, u) :: A, B, by rw [Tr.wl, if_neg c1, if_pos c2, e1]; simp, by rw [Tr.wo, if_neg c1, if_pos c2, e2]; simp, ?_, fun x hx => ?_, h2⟩
        · rw [Tr.get, if_neg c1, if_pos c2]
          rcases e3 with ⟨e3, e4⟩ | ⟨z, e3, e4⟩
          · exact .inl ⟨by simp [Tr.list, e3], e4⟩
          · exact .inr ⟨z, by simp [Tr.list, e3], e4⟩
        · rcases List.mem_append.1 hx with hx | hx
          · exact oc_tr (hl.1 x hx) hm hn (p3 x hx (m, u) (.head _)) hmn
          · rcases List.mem_cons.1 hx with rfl | hx
            · exact hmn
            · exact h1 x hx
      · have e : n = m := oc_eq hn hm (by omega)
        subst e
        refine ⟨l.list, r.list, by rw [Tr.wl, if_neg c1, if_neg c2], by rw [Tr.wo, if_neg c1, if_neg c2], .inr ⟨u, rfl, by rw [Tr.get, if_neg c1, if_neg c2]⟩, fun x hx => p3 x hx (n, u) (.head _), p4⟩
theorem sol_mid {A B : Ols} {n : ONm} {v : ByteArray} (hn : Dn n) (h : Sol (A ++ B)) (h1 : ∀ x ∈ A, ocmp x.1 n < 0) (h2 : ∀ x ∈ B, ocmp n x.1 < 0) : Sol (A ++ (n, v) :: B) := by
  obtain ⟨p1, p2, p3⟩ := List.pairwise_append.1 h.2
  refine ⟨fun x hx => ?_, List.pairwise_append.2 ⟨p1, List.pairwise_cons.2 ⟨h2, p2⟩, fun x hx y hy => ?_⟩⟩
  · rcases List.mem_append.1 hx with hx | hx
    · exact h.1 x (List.mem_append_left _ hx)
    · rcases List.mem_cons.1 hx with rfl | hx
      · exact hn
      · exact h.1 x (List.mem_append_right _ hx)
  · rcases List.mem_cons.1 hy with rfl | hy
    · exact h1 x hx
    · exact p3 x hx y hy
theorem tr_get {t : Tr} {n : ONm} (hs : Sol t.list) (hn : Dn n) : t.get n = olk t.list n := by
  obtain ⟨A, B, _, _, e3, h1, h2⟩ := split_tr n ⟨#[]⟩ hn t hs
  rcases e3 with ⟨e3, e4⟩ | ⟨z, e3, e4⟩
  · rw [e4, e3, olk_app, olk_none (fun x hx => ?_), olk_none (fun x hx => oc_ne hn (h2 x hx))]
    · rfl
    · exact (oc_ne (hs.1 x (by rw [e3]; exact List.mem_append_left _ hx)) (h1 x hx)).symm
  · rw [e4, e3, olk_app, olk_none (fun x hx => ?_), olk, if_pos rfl]
    · rfl
    · exact (oc_ne (hs.1 x (by rw [e3]; exact List.mem_append_left _ hx)) (h1 x hx)).symm
theorem wl_sol {t : Tr} {n : ONm} (v : ByteArray) (hs : Sol t.list) (hn : Dn n) : Sol (t.wl n v) ∧ ∀ q, olk (t.wl n v) q = if q = n then some v else olk t.list q := by
  obtain ⟨A, B, e1, _, e3, h1, h2⟩ := split_tr n v hn t hs
  have hab : Sol (A ++ B) ∧ ∀ q, q ≠ n → olk t.list q = olk (A ++ B) q := by
    rcases e3 with ⟨e3, _⟩ | ⟨z, e3, _⟩
    · rw [e3] at hs ⊢; exact ⟨hs, fun _ _ => rfl⟩
    · refine ⟨hs.sub (by rw [e3]; exact (List.sublist_cons_self _ _).append_left A), fun q hq => ?_⟩
      rw [e3, olk_app, olk_app, olk, if_neg hq]
  rw [e1]
  refine ⟨sol_mid hn hab.1 h1 h2, fun q => ?_⟩
  by_cases hq : q = n
  · subst hq
    rw [if_pos rfl, olk_app, olk_none (fun x hx => (oc_ne (hab.1.1 x (List.mem_append_left _ hx)) (h1 x hx)).symm), olk, if_pos rfl]; rfl
  · rw [if_neg hq, hab.2 q hq, olk_app, olk_app, olk, if_neg hq]
theorem wo_sol {t : Tr} {n : ONm} (hs : Sol t.list) (hn : Dn n) : Sol (t.wo n) ∧ ∀ q, olk (t.wo n) q = if q = n then none else olk t.list q := by
  obtain ⟨A, B, _, e2, e3, h1, h2⟩ := split_tr n ⟨#[]⟩ hn t hs
  have hab : Sol (A ++ B) ∧ ∀ q, q ≠ n → olk t.list q = olk (A ++ B) q := by
    rcases e3 with ⟨e3, _⟩ | ⟨z, e3, _⟩
    · rw [e3] at hs ⊢; exact ⟨hs, fun _ _ => rfl⟩
    · refine ⟨hs.sub (by rw [e3]; exact (List.sublist_cons_self _ _).append_left A), fun q hq => ?_⟩
      rw [e3, olk_app, olk_app, olk, if_neg hq]
  rw [e2]
  refine ⟨hab.1, fun q => ?_⟩
  by_cases hq : q = n
  · subst hq
    rw [if_pos rfl]
    refine olk_none fun x hx => ?_
    rcases List.mem_append.1 hx with hx | hx
    · exact (oc_ne (hab.1.1 x (List.mem_append_left _ hx)) (h1 x hx)).symm
    · exact oc_ne hn (h2 x hx)
  · rw [if_neg hq, hab.2 q hq]
/-- What a list of changes leaves of a name. -/
def apG : (ONm → Option ByteArray) → Chs → ONm → Option ByteArray
  | G, [] => G
  | G, (n, c) :: L => apG (fun m => if m = n then (if c.2 = true then none else some c.1) else G m) L
theorem apG_ext {G G' : ONm → Option ByteArray} (h : ∀ m, G m = G' m) : ∀ L m, apG G L m = apG G' L m
  | [], m => h m
  | (n, c) :: L, m => apG_ext (fun m => by simp only [h]) L m
theorem apG_skip : ∀ (L : Chs) (G : ONm → Option ByteArray) (m : ONm), (∀ x ∈ L, m ≠ x.1) → apG G L m = G m
  | [], _, _, _ => rfl
  | (n, c) :: L, G, m, h => by
    rw [apG, apG_skip L _ m (fun x hx => h x (.tail _ hx)), if_neg (h _ (.head _))]
/-- With different names the order is nothing. -/
theorem apG_nget : ∀ (L : Chs), (L.map (·.1)).Nodup → ∀ (G : ONm → Option ByteArray) (m : ONm), apG G L m = match nget L m with | some c => if c.2 = true then none else some c.1 | none => G m
  | [], _, _, _ => rfl
  | (n, c) :: L, nd, G, m => by
    rw [List.map_cons, List.nodup_cons] at nd
    rw [apG, nget]
    by_cases h : m = n
    · subst h
      rw [if_pos rfl, apG_skip L _ m (fun x hx q => nd.1 (List.mem_map.2 ⟨x, hx, q.symm⟩)), if_pos rfl]
    · rw [if_neg h, apG_nget L nd.2]
      cases nget L m with
      | some d => rfl
      | none => simp only; rw [if_neg h]
theorem nget_none {L : Chs} {n : ONm} : nget L n = none ↔ n ∉ L.map (·.1) := by
  induction L with
  | nil => simp [nget]
  | cons x L ih =>
    obtain ⟨a, c⟩ := x
    rw [nget, List.map_cons, List.mem_cons]
    by_cases h : n = a
    · simp [h]
    · rw [if_neg h, ih]
      exact ⟨fun q => fun h' => h'.elim h q, fun q h' => q (.inr h')⟩
theorem nget_mem {L : Chs} {n : ONm} {c : ByteArray × Bool} (nd : (L.map (·.1)).Nodup) : nget L n = some c ↔ (n, c) ∈ L := by
  induction L with
  | nil => simp [nget]
  | cons x L ih =>
    obtain ⟨a, d⟩ := x
    rw [List.map_cons, List.nodup_cons] at nd
    rw [nget, List.mem_cons]
    by_cases h : n = a
    · subst h
      rw [if_pos rfl]
      constructor
      · intro e; injection e with e; subst e; exact .inl rfl
      · rintro (e | e)
        · injection e with _ e; rw [e]
        · exact absurd (List.mem_map_of_mem (f := (·.1)) e) nd.1
    · rw [if_neg h, ih nd.2]
      constructor
      · exact .inr
      · rintro (e | e)
        · injection e with e; exact absurd e h
        · exact e
theorem nset_keys (L : Chs) (n : ONm) (c : ByteArray × Bool) : (nset L n c).map (·.1) = if n ∈ L.map (·.1) then L.map (·.1) else L.map (·.1) ++ [n] := by
  induction L with
  | nil => simp [nset]
  | cons x L ih =>
    obtain ⟨a, d⟩ := x
    rw [nset]
    by_cases h : n = a
    · subst h; simp
    · rw [if_neg h, List.map_cons, ih, List.map_cons]
      simp only [List.mem_cons, h, false_or]
      split <;> rfl
theorem nset_nd {L : Chs} (nd : (L.map (·.1)).Nodup) (n : ONm) (c : ByteArray × Bool) : ((nset L n c).map (·.1)).Nodup := by
  rw [nset_keys]
  split
  · exact nd
  · rename_i h
    rw [List.nodup_append]
    exact ⟨nd, by simp, fun a ha b hb q => by simp at hb; subst hb; subst q; exact h ha⟩
theorem nget_perm {L K : Chs} (h : L.Perm K) (nd : (L.map (·.1)).Nodup) (m : ONm) : nget K m = nget L m := by
  have nd' : (K.map (·.1)).Nodup := (h.map _).nodup_iff.1 nd
  cases hk : nget K m with
  | some c => exact ((nget_mem nd).2 (h.mem_iff.2 ((nget_mem nd').1 hk))).symm
  | none =>
    cases hl : nget L m with
    | none => rfl
    | some c =>
      have := (nget_mem nd').2 (h.mem_iff.1 ((nget_mem nd).1 hl))
      rw [hk] at this; cases this
/-- A state: what its tree is like. -/
structure StOk (t : Tr) : Prop where
  ok : t.ok
  sol : Sol t.list
  nm : ∀ x ∈ t.list, onCheckB x.1 = 0 ∧ x.1.owner.size ≤ 9223372036854775807
theorem stok_nil : StOk .nil := ⟨trivial, sol_nil, by simp [Tr.list]⟩
theorem gv_nil {t : Tr} (h : StOk t) (n : ONm) : gv t [] n = olk t.list n := by
  unfold gv vwGet
  by_cases hc : onCheckB n ≠ 0
  · rw [if_pos hc]
    have : olk t.list n = none := olk_none fun x hx q => hc (q ▸ (h.nm x hx).1)
    rw [this]; rfl
  · rw [if_neg hc, nget]
    replace hc : onCheckB n = 0 := by simpa using hc
    simp only
    rw [tr_get h.sol (Dn_of hc)]
    cases olk t.list n <;> rfl
/-- What a view has, its own writes over its state. -/
theorem vw_ok {t : Tr} {N : Chs} {n : ONm} (hn : onCheckB n = 0) : vwGet t N n = match nget N n with | some c => (c.1, !c.2) | none => ((t.get n).getD ⟨#[]⟩, (t.get n).isSome) := by
  unfold vwGet; rw [if_neg (by rw [hn]; simp)]
  rfl
theorem gv_net {t : Tr} {N : Chs} {n : ONm} (hn : onCheckB n = 0) : gv t N n = match nget N n with | some c => if c.2 = true then none else some c.1 | none => gv t [] n := by
  unfold gv
  rw [vw_ok hn, vw_ok hn]
  cases nget N n with
  | some c => obtain ⟨s, b⟩ := c; cases b <;> rfl
  | none => rfl
theorem gv_bad {t : Tr} {N : Chs} {n : ONm} (hn : onCheckB n ≠ 0) : gv t N n = none := by
  unfold gv vwGet
  rw [if_pos hn]; rfl
end Go.Proofs.YtkbldndbofbkcaaGreatDoor
