/- The document's step: one equation. -/
import Derived.OwnWalk
import Derived.Test.YtokmaehefenpmaaDoorPE16
import Derived.Test.YtokmaehefenpmaaDoorPE17
import Derived.Test.YtokmaehefenpmaaDoorPE19
namespace Go.Proofs.YtokmaehefenpmaaDoor
open Go.RowKit Go.ChangeMaps Go.Proofs.YtokmaehefenpmaaDoor.Nm
set_option linter.unusedSimpArgs false
section
variable {md : Region.Mode} {ops : Array Oper} {Q : Exit → Act → World → Prop} {S : World → Prop} {fuel : Nat} {listed : Array Bool} {a : Act} {w : World} {i : Nat} {oi : Oper}
theorem ha_all (hr : Region.ready md ops listed = [i]) (ho : ops[i]? = some oi) (hg : Region.wanted oi (yielded ops a.tmps) = true) (hop : oi.op = .alloc 24) (hS : ∀ W, Below w.heap.size w W → S W)
    (h : ∀ W p, Below w.heap.size w W → w.heap.size ≤ p → W.heap[p]? = some (.cells (cell4 0 ⟨#[]⟩ 0 none 0 0) 24 (0, 0)) → S W → wpAnyH Tryd.prog md ops Q S fuel (listed.setIfInBounds i true) (a.put oi.dst (.pointer (some ⟨p, 0, none⟩))) W) : wpAnyH Tryd.prog md ops Q S (fuel + 1) listed a w :=
  have hb := (Below.refl _ w).alloc (Nat.le_refl _) (.cells (cell4 0 ⟨#[]⟩ 0 none 0 0) 24)
  ha_do hr ho hg (ex_alloc24 hop _ w) (hS _ hb) (h _ _ hb (Nat.le_refl _) (ha_new rfl) (hS _ hb))
theorem sh_all (ho : ops[i]? = some oi) (hg : Region.wanted oi (yielded ops a.tmps) = true) (hop : oi.op = .alloc 24) (hS : ∀ W, Below w.heap.size w W → S W)
    (h : ∀ W p, Below w.heap.size w W → w.heap.size ≤ p → W.heap[p]? = some (.cells (cell4 0 ⟨#[]⟩ 0 none 0 0) 24 (0, 0)) → S W → wpAnyH Tryd.prog md ops Q S fuel (listed.setIfInBounds i true) (a.put oi.dst (.pointer (some ⟨p, 0, none⟩))) W) : StepH Tryd.prog md ops Q S fuel listed a w i :=
  have hb := (Below.refl _ w).alloc (Nat.le_refl _) (.cells (cell4 0 ⟨#[]⟩ 0 none 0 0) 24)
  sh_do ho hg (ex_alloc24 hop _ w) (hS _ hb) (h _ _ hb (Nat.le_refl _) (ha_new rfl) (hS _ hb))
theorem ha_bs1 (hr : Region.ready md ops listed = [i]) (ho : ops[i]? = some oi) (hg : Region.wanted oi (yielded ops a.tmps) = true) (x : Operand) (hop : oi.op = .buildSlice 53 1 #[(0, x)]) {k : Int} {s : ByteArray} {n : Int} {A : Option Addr} {l c : Nat} {k' : Int} {s' : ByteArray} {n' : Int} {A' : Option Addr} {l' c' : Nat} (hx : a.eval x = .agg (cell8 k s n A l c k' s' n' A' l' c')) (hS : ∀ W, Below w.heap.size w W → S W)
    (h : ∀ W p, Below w.heap.size w W → w.heap.size ≤ p → W.heap[p]? = some (.cells (cell8 k s n A l c k' s' n' A' l' c') 58 (0, 0)) → S W → wpAnyH Tryd.prog md ops Q S fuel (listed.setIfInBounds i true) (a.put oi.dst (.slice (some ⟨p, 0, none⟩) 1 1)) W) : wpAnyH Tryd.prog md ops Q S (fuel + 1) listed a w :=
  have hb := (Below.refl _ w).alloc (Nat.le_refl _) (.cells (cell8 k s n A l c k' s' n' A' l' c') 58)
  ha_do hr ho hg (by
    unfold execOp
    have := run_bs1 k s n A l c k' s' n' A' l' c' w
    simp [hop, hx, this, Result.andThen]) (hS _ hb) (h _ _ hb (Nat.le_refl _) (ha_new rfl) (hS _ hb))
end
/-- What is still to be solved keeps small under each solution that goes further. -/
def SmallE (m : Nat) (sol : List Ty) (todo : Eqs) : Prop := ∀ s, Good m s → Beyond m sol s → sz s todo ≤ 3200
theorem SmallE.start {m : Nat} {sol : List Ty} {a b : Ty} (ha : FineV m a) (hb : FineV m b) (h1 : a.nodes ≤ 40) (h2 : b.nodes ≤ 40) : SmallE m sol [(a, b)] := fun s hg _ => by
  have := nodes_times hg a ha
  have := nodes_times hg b hb
  simp only [sz]
  omega
theorem sz_len (s : List Ty) : ∀ todo : Eqs, todo.length ≤ sz s todo
  | [] => by simp [sz]
  | (a, b) :: l => by
    have := sz_len s l
    have := nodes_pos (applyTy s a)
    simp only [sz, List.length_cons]
    omega
theorem SmallE.len {m : Nat} {sol : List Ty} {todo : Eqs} (h : SmallE m sol todo) (hg : Good m sol) : todo.length ≤ 3200 := Nat.le_trans (sz_len sol todo) (h sol hg (beyond_self hg))
theorem SmallE.now {m : Nat} {sol : List Ty} {a b : Ty} {todo : Eqs} (h : SmallE m sol ((a, b) :: todo)) (hg : Good m sol) : (applyTy sol a).nodes ≤ 3200 ∧ (applyTy sol b).nodes ≤ 3200 ∧ todo.length ≤ 3200 := by
  have h1 := h sol hg (beyond_self hg)
  have h2 := sz_len sol todo
  simp only [sz] at h1
  omega
theorem SmallE.next {m : Nat} {sol sol' : List Ty} {a b : Ty} {todo next : Eqs} (h : SmallE m sol ((a, b) :: todo)) (hg : Good m sol) (ha : FineV m a) (hb : FineV m b) (hs : step1 a b sol = .ok (next, sol')) : SmallE m sol' (next ++ todo) := fun s gs bs => by
  rw [sz_cat]
  rcases step_is hg ha hb with ⟨e1, e2⟩ | ⟨v, t, hv, ht, hne, hfix, hvar, hle, hab, e2⟩ | ⟨h12, h12', hxa, hxb, hno, e2⟩ | ⟨h12, h0, hxa, hxb, hl, e2⟩
  · rw [e2] at hs; cases hs
    have := h s gs bs
    simp only [sz] at *
    omega
  · rw [e2] at hs
    obtain ⟨x, hx, e3⟩ := less1_ok hs
    cases e3
    obtain ⟨-, -, rfl, -⟩ := bind_ok hx
    have hbe : Beyond m sol (sol.map (sub1 v t)) := fun x hx => by
      have fx := fine_app hg.len hg.fine x hx
      rw [app_map hg.len hg.fine ht _ fx, app_app hg x hx, ← app_map hg.len hg.fine ht x hx]
    have := h s gs (hbe.trans hg bs)
    simp only [sz] at *
    omega
  · rw [e2] at hs; cases hs
  · rw [e2] at hs; cases hs
    rename_i k s' n l l'
    have h1 := h s gs bs
    simp only [sz] at h1
    rw [← bs a ha, ← bs b hb, hxa, hxb, app_node h12, app_node h12] at h1
    simp only [Ty.nodes] at h1
    have h2 := sz_zip s l l'
    omega
theorem EqsAt.lo {w : World} {D : Nat → Prop} {es : Eqs} {A : Option Addr} {l c k : Nat} (h : EqsAt w D es A l c) (hk : k ≤ l) : EqsAt w D (es.drop k) (if c = k then A else A.map (·.add (k * 8))) (l - k) (c - k) := by
  refine ⟨by rw [List.length_drop, h.len], by have := h.cap; omega, by have := h.max; omega, fun i a b hi => ?_⟩
  rw [List.getElem?_drop] at hi
  have hi2 := (List.getElem?_eq_some_iff.1 hi).1
  rw [h.len] at hi2
  obtain ⟨bl, off, Cs, t, fr, rowa, rowb, h1, h2, h3, h4, h5, h6, h7⟩ := h.el _ a b hi
  have hck : c ≠ k := by have := h.cap; omega
  rw [if_neg hck, h1, Option.map_some, Addr.add_mid]
  exact ⟨bl, off + k * 8, Cs, t, fr, rowa, rowb, rfl, h2, h3, by rw [← h4]; congr 1 <;> omega, by rw [← h5]; congr 1 <;> omega, h6, h7⟩
/-- What put hands back, in one form. -/
def PSay (x : Except Int (List Ty)) (A : Option Addr) (l c : Nat) (err : Int) (w' : World) : Prop := (x = .error err ∧ A = none ∧ l = 0 ∧ c = 0) ∨ (err = 0 ∧ ∃ s, x = .ok s ∧ TysAt w' Any s A l c)
theorem PIPost.say {w w' : World} {x : Except Int (List Ty)} {e : Ending} (h : PIPost w x e w') : ∃ A l c err, e = .returned (.tuple #[.slice A l c, .int .i64 err]) ∧ PSay x A l c err w' ∧ Below w.heap.size w w' := by
  obtain ⟨hb, h⟩ := h
  cases x with
  | error c => exact ⟨none, 0, 0, c, h, .inl ⟨rfl, rfl, rfl, rfl⟩, hb⟩
  | ok s =>
    obtain ⟨A, l, c, he, ht⟩ := h
    exact ⟨A, l, c, 0, he, .inr ⟨rfl, s, rfl, ht.weak fun _ _ => trivial⟩, hb⟩
/-- What step hands back. -/
def StPost (w : World) (rest : Eqs) (x : Except Int (Eqs × List Ty)) (e : Ending) (w' : World) : Prop :=
  Below w.heap.size w w' ∧ ∃ A1 l1 c1 A2 l2 c2 err, e = .returned (.tuple #[.slice A1 l1 c1, .slice A2 l2 c2, .int .i64 err]) ∧
    (x = .error err ∨ (err = 0 ∧ ∃ next sol', x = .ok (next, sol') ∧ EqsAt w' Any (next ++ rest) A1 l1 c1 ∧ TysAt w' Any sol' A2 l2 c2))
theorem StPost.put {w w' : World} {rest : Eqs} {x : Except Int (List Ty)} {y : Except Int (Eqs × List Ty)} {A1 : Option Addr} {l1 c1 : Nat} {A : Option Addr} {l c : Nat} {err : Int} (hy : y = less1 x) (hb : Below w.heap.size w w') (hr : EqsAt w' Any rest A1 l1 c1) (h : PSay x A l c err w') : StPost w rest y (.returned (.tuple #[.slice A1 l1 c1, .slice A l c, .int .i64 err])) w' := by
  refine ⟨hb, A1, l1, c1, A, l, c, err, rfl, ?_⟩
  rcases h with ⟨rfl, -⟩ | ⟨rfl, s, rfl, ht⟩
  · exact .inl (by rw [hy]; rfl)
  · exact .inr ⟨rfl, [], s, by rw [hy]; rfl, hr, ht⟩
theorem step1_same {a b : Ty} {sol : List Ty} (h : applyTy sol a = applyTy sol b) : step1 a b sol = .ok ([], sol) := by unfold step1; rw [if_pos h]
theorem step1_vars {a b : Ty} {sol : List Ty} {v u : Nat} (h : applyTy sol a ≠ applyTy sol b) (ha : applyTy sol a = varT v) (hb : applyTy sol b = varT u) : step1 a b sol = less1 (bindP sol (max v u) (varT (min v u))) := by
  unfold step1
  rw [if_neg h, ha, hb, if_pos ⟨rfl, rfl⟩]
  simp [varT, Ty.num]
theorem step1_left {a b : Ty} {sol : List Ty} {v : Nat} (h : applyTy sol a ≠ applyTy sol b) (ha : applyTy sol a = varT v) (hb : (applyTy sol b).kind ≠ 12) : step1 a b sol = less1 (bindP sol v (applyTy sol b)) := by
  unfold step1
  rw [if_neg h, if_neg (fun h => hb h.2), ha, if_pos (show (varT v).kind = 12 from rfl)]
  simp [varT, Ty.num]
theorem step1_right {a b : Ty} {sol : List Ty} {v : Nat} (h : applyTy sol a ≠ applyTy sol b) (hb : applyTy sol b = varT v) (ha : (applyTy sol a).kind ≠ 12) : step1 a b sol = less1 (bindP sol v (applyTy sol a)) := by
  unfold step1
  rw [if_neg h, if_neg (fun h => ha h.1), if_neg ha, hb, if_pos (show (varT v).kind = 12 from rfl)]
  simp [varT, Ty.num]
theorem step1_far {a b : Ty} {sol : List Ty} {k k' : Int} {s s' : ByteArray} {n n' : Int} {ts ts' : List Ty} (ha : applyTy sol a = .node k s n ts) (hb : applyTy sol b = .node k' s' n' ts') (hk : k ≠ 12) (hk' : k' ≠ 12) (hno : ¬ (k = k' ∧ s = s' ∧ n = n' ∧ ts.length = ts'.length)) : step1 a b sol = .error 31 := by
  have h : applyTy sol a ≠ applyTy sol b := fun h => by
    rw [ha, hb] at h
    cases h
    exact hno ⟨rfl, rfl, rfl, rfl⟩
  unfold step1
  rw [if_neg h, ha, hb, if_neg (fun h => hk h.1), if_neg (show ¬ (Ty.node k s n ts).kind = 12 from hk), if_neg (show ¬ (Ty.node k' s' n' ts').kind = 12 from hk'), if_pos]
  simp only [Ty.kind, Ty.name, Ty.num, Ty.args]
  by_cases h1 : k = k'
  · by_cases h2 : s = s'
    · by_cases h3 : n = n'
      · exact .inr (.inr (.inr fun h4 => hno ⟨h1, h2, h3, h4⟩))
      · exact .inr (.inr (.inl h3))
    · exact .inr (.inl h2)
  · exact .inl h1
theorem step1_parts {a b : Ty} {sol : List Ty} {k : Int} {s : ByteArray} {n : Int} {ts ts' : List Ty} (h : applyTy sol a ≠ applyTy sol b) (ha : applyTy sol a = .node k s n ts) (hb : applyTy sol b = .node k s n ts') (hk : k ≠ 12) (hl : ts.length = ts'.length) : step1 a b sol = .ok (ts.zip ts', sol) := by
  unfold step1
  rw [if_neg h, ha, hb, if_neg (fun h => hk h.1), if_neg (show ¬ (Ty.node k s n ts).kind = 12 from hk), if_neg (show ¬ (Ty.node k s n ts').kind = 12 from hk), if_neg]
  · rfl
  · simp only [Ty.kind, Ty.name, Ty.num, Ty.args]
    rintro (h | h | h | h)
    · exact h rfl
    · exact h rfl
    · exact h rfl
    · exact h hl
theorem var_of2 {m : Nat} {x : Ty} {k : Int} {s : ByteArray} {n : Int} {ts : List Ty} (hf : FineV m x) (he : x = .node k s n ts) (hk : k = 12) : ∃ v : Nat, v < m ∧ x = varT v ∧ n = (v : Int) := by
  subst he
  obtain ⟨h1, h2⟩ := hf.is_var hk
  refine ⟨n.toNat, h1, h2, ?_⟩
  have := congrArg Ty.num h2
  simpa [varT, Ty.num] using this
theorem lookK {B : Nat} {w0 w w' : World} (h' : Keep (fun b => B ≤ b) w0 w') (h : Keep (fun b => B ≤ b) w0 w) {b : Nat} {o : Obj} (hb : b < B) (hw : w.heap[b]? = some o) (hB : B ≤ w0.heap.size := by omega) : w'.heap[b]? = some o := by
  rw [h'.block b (by omega) (by omega), ← h.block b (by omega) (by omega)]
  exact hw
theorem built58w (k : Int) (s : ByteArray) (n : Int) (A : Option Addr) (l c : Nat) (k' : Int) (s' : ByteArray) (n' : Int) (A' : Option Addr) (l' c' : Nat) : Tryd.prog.built 58 [(0, .agg (cell4 k s n A l c)), (1, .agg (cell4 k' s' n' A' l' c'))] = some (cell8 k s n A l c k' s' n' A' l' c') := by kernel_rfl
theorem zip_get {α β : Type} {l : List α} {l' : List β} {j : Nat} {a : α} {b : β} (h : l[j]? = some a) (h' : l'[j]? = some b) : (l.zip l')[j]? = some (a, b) := by
  rw [List.getElem?_zip_eq_some]
  exact ⟨h, h'⟩
set_option maxHeartbeats 16000000 in
set_option maxRecDepth 100000 in
theorem step_any {m : Nat} (hm : m ≤ 40) {sol : List Ty} (hg : Good m sol) {a b : Ty} {rest : Eqs} (ha : FineV m a) (hb' : FineV m b) (hsm : SmallE m sol ((a, b) :: rest)) (w : World) (A : Option Addr) (l c : Nat) (h : EqsAt w Any ((a, b) :: rest) A l c) (A2 : Option Addr) (l2 c2 : Nat) (hs : TysAt w Any sol A2 l2 c2) :
    Calls Tryd.prog 72 #[.slice A l c, .slice A2 l2 c2] w (StPost w rest (step1 a b sol)) := by
  have hl1 : l = rest.length + 1 := by rw [← h.len]; rfl
  obtain ⟨hna, hnb, hnr⟩ := hsm.now hg
  have HT := Lib.hid h
  have HS := Lib.hid hs
  have HG := Lib.hid hg
  have HFA := Lib.hid ha
  have HFB := Lib.hid hb'
  have HN1 := Lib.hid (show a.nodes ≤ 1000000 by have := nodes_app sol a ha; omega)
  have HN2 := Lib.hid (show b.nodes ≤ 1000000 by have := nodes_app sol b hb'; omega)
  have hcm := h.cap
  have hmx := h.max
  unfold maxLen at hmx
  have hcm2 := hs.cap
  have hmx2 := hs.max
  unfold maxLen at hmx2
  have HSO : Hid (∀ u, u ∈ sol → u.nodes ≤ 1000000) := Lib.hid fun u hu => by have := hg.size u hu; omega
  obtain ⟨bl, off, k1, s1, n1, B1, m1, e1, k2, s2, n2, B2, m2, e2, rfl, -, hr1, hr2, ht, hu⟩ := h.get (i := 0) (a := a) (b := b) rfl (C := fun _ => False) (fun _ _ h => h)
  obtain ⟨x, hx⟩ : ∃ x, x = applyTy sol a := ⟨_, rfl⟩
  obtain ⟨y, hy⟩ : ∃ y, y = applyTy sol b := ⟨_, rfl⟩
  have HX := Lib.hid hx
  have HY := Lib.hid hy
  have HR1 : Hid (∀ w', Below w.heap.size w w' → RowAt w' 24 ⟨bl, off, none⟩ (cell4 k1 s1 n1 B1 m1 e1)) := Lib.hid fun w' hw => hr1 w' (Keep.of hw)
  have HR2 : Hid (∀ w', Below w.heap.size w w' → RowAt w' 24 ⟨bl, off + 4, none⟩ (cell4 k2 s2 n2 B2 m2 e2)) := Lib.hid fun w' hw => hr2 w' (Keep.of hw)
  have HC1 : Hid (∀ w', Below w.heap.size w w' → Calls Tryd.prog 23 #[.agg (cell4 k1 s1 n1 B1 m1 e1), .slice A2 l2 c2] w' (NewTy w' x)) := Lib.hid fun w' hw => by rw [hx]; exact ApplyI_any sol HSO.out a HN1.out w' _ _ (ht.old hw) _ _ _ _ (hs.old hw)
  have HC2 : Hid (∀ w', Below w.heap.size w w' → Calls Tryd.prog 23 #[.agg (cell4 k2 s2 n2 B2 m2 e2), .slice A2 l2 c2] w' (NewTy w' y)) := Lib.hid fun w' hw => by rw [hy]; exact ApplyI_any sol HSO.out b HN2.out w' _ _ (hu.old hw) _ _ _ _ (hs.old hw)
  rw [← hx] at hna
  rw [← hy] at hnb
  have HNX := Lib.hid (And.intro hna (And.intro hnb hnr))
  have hl0 : 0 < l := by omega
  have HL1 := Lib.hid hl1
  clear h hs hg ha hb' hsm hr1 hr2 ht hu hx hy hna hnb hnr hl1
  go_enter Tryd.func72, Tryd.ntmps72
  go_upto_region 0 with (fail)
  apply wp_region_lit
  (with_reducible refine wl_k ?_ ?_); exact rfl; intro K hK; go_simp; refine hK _ ?_; clear hK K
  (with_reducible refine wl_k ?_ ?_); exact rfl; intro K hK; go_simp; refine hK _ ?_; clear hK K
  (with_reducible refine wl_k ?_ ?_); exact rfl; intro K hK; go_simp; refine hK _ ?_; clear hK K
  go_upto_region 1 with (fail)
  go_cut [7, 8] (fun t7 t8 wx => ∃ p q k7 s7 n7 A7 l7 c7 k8 s8 n8 A8 l8 c8, t7 = .pointer (some ⟨p, 0, none⟩) ∧ t8 = .pointer (some ⟨q, 0, none⟩) ∧ Hid (TyAt wx Any x (cell4 k7 s7 n7 A7 l7 c7)) ∧ Hid (TyAt wx Any y (cell4 k8 s8 n8 A8 l8 c8)) ∧ Below w.heap.size w wx ∧ wx.heap[p]? = some (.cells (cell4 k7 s7 n7 A7 l7 c7) 24 (0, 0)) ∧ wx.heap[q]? = some (.cells (cell4 k8 s8 n8 A8 l8 c8) 24 (0, 0)))
  case first =>
    refine wp_region_held_drew (S := Below w.heap.size w) mixed ((Below.refl _ _).drew) (fun hS => ?_)
    refine hk3 (i := 0) rfl (by kernel_rfl) Zh hS rfl (fun K hK => ?_); go_simp; refine hK _ ?_; clear hK K; try simp only [Zq]
    refine hk3 (i := 1) rfl (by kernel_rfl) Zh hS rfl (fun K hK => ?_); go_simp; refine hK _ ?_; clear hK K; try simp only [Zq]
    refine hk3 (i := 2) rfl (by kernel_rfl) Zh hS rfl (fun K hK => ?_); go_simp; refine hK _ ?_; clear hK K; try simp only [Zq]
    refine hv3 (i := 3) rfl (by kernel_rfl) Zg hS rfl (fun w' hw' => ex_row rfl (HR1.out w' hw')) ?_; try simp only [Zy]
    refine hk3 (i := 4) rfl (by kernel_rfl) Zh hS rfl (fun K hK => ?_); go_simp; refine hK _ ?_; clear hK K; try simp only [Zq]
    refine hk3 (i := 6) rfl (by kernel_rfl) Zh hS rfl (fun K hK => ?_); go_simp; refine hK _ ?_; clear hK K; try simp only [Zq]
    refine hk3 (i := 7) rfl (by kernel_rfl) Zh hS rfl (fun K hK => ?_); go_simp; refine hK _ ?_; clear hK K; try simp only [Zq]
    refine hk3 (i := 8) rfl (by kernel_rfl) Zh hS rfl (fun K hK => ?_); go_simp; refine hK _ ?_; clear hK K; try simp only [Zq]
    refine hv3 (i := 9) rfl (by kernel_rfl) Zg hS rfl (fun w' hw' => ex_row rfl (HR2.out w' hw')) ?_; try simp only [Zy]
    refine hk3 (i := 10) rfl (by kernel_rfl) Zh hS rfl (fun K hK => ?_); go_simp; refine hK _ ?_; clear hK K; try simp only [Zq]
    refine ha_three (i := 5) (j := 12) (k := 13) (by kernel_rfl) ?_ ?_ ?_
    · refine sh_call (i := 5) rfl rfl (fun K hK => ?_)
      go_simp; refine ⟨_, _, ⟨rfl, rfl⟩, hK _ _ ⟨_, HC1.out _ hS, ?_⟩⟩; clear hK K; rintro e v1 ⟨row7, rfl, hta, hbn⟩; refine ⟨_, rfl, hS.trans (hbn.mono hS.size), ?_⟩
      replace hS := hS.trans (hbn.mono hS.size)
      have sz1 := hbn.size
      obtain ⟨k7, s7, n7, A7, l7, c7, ts7, hu, rfl, -⟩ := hta.parts
      have HA7 := Lib.hid hta.low
      clear hta hu
      clear hbn; try simp only [Zy]
      refine ha_three (i := 11) (j := 12) (k := 13) (by kernel_rfl) ?_ ?_ ?_
      · refine sh_call (i := 11) rfl rfl (fun K hK => ?_)
        go_simp; refine ⟨_, _, ⟨rfl, rfl⟩, hK _ _ ⟨_, HC2.out _ hS, ?_⟩⟩; clear hK K; rintro e v2 ⟨row8, rfl, hta, hbn⟩; refine ⟨_, rfl, hS.trans (hbn.mono hS.size), ?_⟩
        replace hS := hS.trans (hbn.mono hS.size)
        have sz2 := hbn.size
        obtain ⟨k8, s8, n8, A8, l8, c8, ts8, hu, rfl, -⟩ := hta.parts
        have HA8 := Lib.hid hta.low
        clear hta hu
        replace HA7 := Lib.hid (HA7.out.old hbn)
        clear hbn; try simp only [Zy]
        refine ha_two (i := 12) (j := 13) (by kernel_rfl) ?_ ?_
        · have sx3 := hS.size
          refine sh_all (i := 12) rfl rfl rfl (fun W hW => hS.trans (hW.mono hS.size)) ?_
          intro v3 p12 hbn hl12 h12 hSn
          replace hS := hSn
          have sz3 := hbn.size
          replace HA7 := Lib.hid (HA7.out.old hbn)
          replace HA8 := Lib.hid (HA8.out.old hbn)
          have hw12 : w.heap.size ≤ p12 := by omega
          clear hbn hSn; try simp only [Zy]
          have sx4 := hS.size
          refine ha_all (i := 13) (by kernel_rfl) rfl rfl rfl (fun W hW => hS.trans (hW.mono hS.size)) ?_
          intro v4 p13 hbn hl13 h13 hSn
          replace hS := hSn
          have sz4 := hbn.size
          replace HA7 := Lib.hid (HA7.out.old hbn)
          replace HA8 := Lib.hid (HA8.out.old hbn)
          have lt12_4 := heap_lt h12; replace h12 := below_look hbn h12
          have hw13 : w.heap.size ≤ p13 := by omega
          clear hbn hSn; try simp only [Zy]
          have hpq : p12 ≠ p13 := by omega
          replace HA7 := Lib.hid (HA7.out.weak (D' := fun b => b ≠ p12 ∧ b ≠ p13) fun b h => by have h1 := h.1; have h2 := h.2; exact ⟨by omega, by omega⟩)
          replace HA8 := Lib.hid (HA8.out.weak (D' := fun b => b ≠ p12 ∧ b ≠ p13) fun b h => by have h1 := h.1; have h2 := h.2; exact ⟨by omega, by omega⟩)
          refine ha_put (i := 14) (by kernel_rfl) rfl rfl _ _ rfl rfl rfl h12 (fun W hW => hW _ _ hw12 hS) ?_
          intro X1 hbx hsz hkx hnx hS1
          replace HA7 := Lib.hid (HA7.out.mono (w' := X1) (fun _ h => h) fun b hb => hkx b hb.1)
          replace HA8 := Lib.hid (HA8.out.mono (w' := X1) (fun _ h => h) fun b hb => hkx b hb.1)
          replace h13 := (hkx _ (fun e => hpq e.symm)).trans h13
          clear h12 hkx hbx hsz hS
          try simp only [Zy]
          refine ha_put (i := 15) (by kernel_rfl) rfl rfl _ _ rfl rfl rfl h13 (fun W hW => hW _ _ hw13 hS1) ?_
          intro X2 hbx hsz hkx hnx2 hS2
          have h12 := (hkx _ hpq).trans hnx
          replace HA7 := Lib.hid ((HA7.out.mono (w' := X2) (fun _ h => h) fun b hb => hkx b hb.2).weak (D' := Any) fun _ _ => trivial)
          replace HA8 := Lib.hid ((HA8.out.mono (w' := X2) (fun _ h => h) fun b hb => hkx b hb.2).weak (D' := Any) fun _ _ => trivial)
          try simp only [Zy]
          refine wpAnyH_done (by kernel_rfl) ?_ _
          try simp only [put_noneA]
          go_wp2_with fail
          go_meet
          exact ⟨p12, p13, _, _, _, _, _, _, _, _, _, _, _, _, rfl, rfl, HA7, HA8, hS2, h12, hnx2⟩
        · have sx3 := hS.size
          refine sh_all (i := 13) rfl rfl rfl (fun W hW => hS.trans (hW.mono hS.size)) ?_
          intro v3 p13 hbn hl13 h13 hSn
          replace hS := hSn
          have sz3 := hbn.size
          replace HA7 := Lib.hid (HA7.out.old hbn)
          replace HA8 := Lib.hid (HA8.out.old hbn)
          have hw13 : w.heap.size ≤ p13 := by omega
          clear hbn hSn; try simp only [Zy]
          have sx4 := hS.size
          refine ha_all (i := 12) (by kernel_rfl) rfl rfl rfl (fun W hW => hS.trans (hW.mono hS.size)) ?_
          intro v4 p12 hbn hl12 h12 hSn
          replace hS := hSn
          have sz4 := hbn.size
          replace HA7 := Lib.hid (HA7.out.old hbn)
          replace HA8 := Lib.hid (HA8.out.old hbn)
          have lt13_4 := heap_lt h13; replace h13 := below_look hbn h13
          have hw12 : w.heap.size ≤ p12 := by omega
          clear hbn hSn; try simp only [Zy]
          have hpq : p12 ≠ p13 := by omega
          replace HA7 := Lib.hid (HA7.out.weak (D' := fun b => b ≠ p12 ∧ b ≠ p13) fun b h => by have h1 := h.1; have h2 := h.2; exact ⟨by omega, by omega⟩)
          replace HA8 := Lib.hid (HA8.out.weak (D' := fun b => b ≠ p12 ∧ b ≠ p13) fun b h => by have h1 := h.1; have h2 := h.2; exact ⟨by omega, by omega⟩)
          refine ha_put (i := 14) (by kernel_rfl) rfl rfl _ _ rfl rfl rfl h12 (fun W hW => hW _ _ hw12 hS) ?_
          intro X1 hbx hsz hkx hnx hS1
          replace HA7 := Lib.hid (HA7.out.mono (w' := X1) (fun _ h => h) fun b hb => hkx b hb.1)
          replace HA8 := Lib.hid (HA8.out.mono (w' := X1) (fun _ h => h) fun b hb => hkx b hb.1)
          replace h13 := (hkx _ (fun e => hpq e.symm)).trans h13
          clear h12 hkx hbx hsz hS
          try simp only [Zy]
          refine ha_put (i := 15) (by kernel_rfl) rfl rfl _ _ rfl rfl rfl h13 (fun W hW => hW _ _ hw13 hS1) ?_
          intro X2 hbx hsz hkx hnx2 hS2
          have h12 := (hkx _ hpq).trans hnx
          replace HA7 := Lib.hid ((HA7.out.mono (w' := X2) (fun _ h => h) fun b hb => hkx b hb.2).weak (D' := Any) fun _ _ => trivial)
          replace HA8 := Lib.hid ((HA8.out.mono (w' := X2) (fun _ h => h) fun b hb => hkx b hb.2).weak (D' := Any) fun _ _ => trivial)
          try simp only [Zy]
          refine wpAnyH_done (by kernel_rfl) ?_ _
          try simp only [put_noneA]
          go_wp2_with fail
          go_meet
          exact ⟨p12, p13, _, _, _, _, _, _, _, _, _, _, _, _, rfl, rfl, HA7, HA8, hS2, h12, hnx2⟩
      · have sx2 := hS.size
        refine sh_all (i := 12) rfl rfl rfl (fun W hW => hS.trans (hW.mono hS.size)) ?_
        intro v2 p12 hbn hl12 h12 hSn
        replace hS := hSn
        have sz2 := hbn.size
        replace HA7 := Lib.hid (HA7.out.old hbn)
        have hw12 : w.heap.size ≤ p12 := by omega
        clear hbn hSn; try simp only [Zy]
        refine ha_two (i := 11) (j := 13) (by kernel_rfl) ?_ ?_
        · refine sh_call (i := 11) rfl rfl (fun K hK => ?_)
          go_simp; refine ⟨_, _, ⟨rfl, rfl⟩, hK _ _ ⟨_, HC2.out _ hS, ?_⟩⟩; clear hK K; rintro e v3 ⟨row8, rfl, hta, hbn⟩; refine ⟨_, rfl, hS.trans (hbn.mono hS.size), ?_⟩
          replace hS := hS.trans (hbn.mono hS.size)
          have sz3 := hbn.size
          obtain ⟨k8, s8, n8, A8, l8, c8, ts8, hu, rfl, -⟩ := hta.parts
          have HA8 := Lib.hid hta.low
          clear hta hu
          replace HA7 := Lib.hid (HA7.out.old hbn)
          have lt12_3 := heap_lt h12; replace h12 := below_look hbn h12
          clear hbn; try simp only [Zy]
          have sx4 := hS.size
          refine ha_all (i := 13) (by kernel_rfl) rfl rfl rfl (fun W hW => hS.trans (hW.mono hS.size)) ?_
          intro v4 p13 hbn hl13 h13 hSn
          replace hS := hSn
          have sz4 := hbn.size
          replace HA7 := Lib.hid (HA7.out.old hbn)
          replace HA8 := Lib.hid (HA8.out.old hbn)
          have lt12_4 := heap_lt h12; replace h12 := below_look hbn h12
          have hw13 : w.heap.size ≤ p13 := by omega
          clear hbn hSn; try simp only [Zy]
          have hpq : p12 ≠ p13 := by omega
          replace HA7 := Lib.hid (HA7.out.weak (D' := fun b => b ≠ p12 ∧ b ≠ p13) fun b h => by have h1 := h.1; have h2 := h.2; exact ⟨by omega, by omega⟩)
          replace HA8 := Lib.hid (HA8.out.weak (D' := fun b => b ≠ p12 ∧ b ≠ p13) fun b h => by have h1 := h.1; have h2 := h.2; exact ⟨by omega, by omega⟩)
          refine ha_put (i := 14) (by kernel_rfl) rfl rfl _ _ rfl rfl rfl h12 (fun W hW => hW _ _ hw12 hS) ?_
          intro X1 hbx hsz hkx hnx hS1
          replace HA7 := Lib.hid (HA7.out.mono (w' := X1) (fun _ h => h) fun b hb => hkx b hb.1)
          replace HA8 := Lib.hid (HA8.out.mono (w' := X1) (fun _ h => h) fun b hb => hkx b hb.1)
          replace h13 := (hkx _ (fun e => hpq e.symm)).trans h13
          clear h12 hkx hbx hsz hS
          try simp only [Zy]
          refine ha_put (i := 15) (by kernel_rfl) rfl rfl _ _ rfl rfl rfl h13 (fun W hW => hW _ _ hw13 hS1) ?_
          intro X2 hbx hsz hkx hnx2 hS2
          have h12 := (hkx _ hpq).trans hnx
          replace HA7 := Lib.hid ((HA7.out.mono (w' := X2) (fun _ h => h) fun b hb => hkx b hb.2).weak (D' := Any) fun _ _ => trivial)
          replace HA8 := Lib.hid ((HA8.out.mono (w' := X2) (fun _ h => h) fun b hb => hkx b hb.2).weak (D' := Any) fun _ _ => trivial)
          try simp only [Zy]
          refine wpAnyH_done (by kernel_rfl) ?_ _
          try simp only [put_noneA]
          go_wp2_with fail
          go_meet
          exact ⟨p12, p13, _, _, _, _, _, _, _, _, _, _, _, _, rfl, rfl, HA7, HA8, hS2, h12, hnx2⟩
        · have sx3 := hS.size
          refine sh_all (i := 13) rfl rfl rfl (fun W hW => hS.trans (hW.mono hS.size)) ?_
          intro v3 p13 hbn hl13 h13 hSn
          replace hS := hSn
          have sz3 := hbn.size
          replace HA7 := Lib.hid (HA7.out.old hbn)
          have lt12_3 := heap_lt h12; replace h12 := below_look hbn h12
          have hw13 : w.heap.size ≤ p13 := by omega
          clear hbn hSn; try simp only [Zy]
          refine ha_call (i := 11) (by kernel_rfl) rfl rfl (fun K hK => ?_)
          go_simp; refine ⟨_, _, ⟨rfl, rfl⟩, hK _ _ ⟨_, HC2.out _ hS, ?_⟩⟩; clear hK K; rintro e v4 ⟨row8, rfl, hta, hbn⟩; refine ⟨_, rfl, hS.trans (hbn.mono hS.size), ?_⟩
          replace hS := hS.trans (hbn.mono hS.size)
          have sz4 := hbn.size
          obtain ⟨k8, s8, n8, A8, l8, c8, ts8, hu, rfl, -⟩ := hta.parts
          have HA8 := Lib.hid hta.low
          clear hta hu
          replace HA7 := Lib.hid (HA7.out.old hbn)
          have lt12_4 := heap_lt h12; replace h12 := below_look hbn h12
          have lt13_4 := heap_lt h13; replace h13 := below_look hbn h13
          clear hbn; try simp only [Zy]
          have hpq : p12 ≠ p13 := by omega
          replace HA7 := Lib.hid (HA7.out.weak (D' := fun b => b ≠ p12 ∧ b ≠ p13) fun b h => by have h1 := h.1; have h2 := h.2; exact ⟨by omega, by omega⟩)
          replace HA8 := Lib.hid (HA8.out.weak (D' := fun b => b ≠ p12 ∧ b ≠ p13) fun b h => by have h1 := h.1; have h2 := h.2; exact ⟨by omega, by omega⟩)
          refine ha_put (i := 14) (by kernel_rfl) rfl rfl _ _ rfl rfl rfl h12 (fun W hW => hW _ _ hw12 hS) ?_
          intro X1 hbx hsz hkx hnx hS1
          replace HA7 := Lib.hid (HA7.out.mono (w' := X1) (fun _ h => h) fun b hb => hkx b hb.1)
          replace HA8 := Lib.hid (HA8.out.mono (w' := X1) (fun _ h => h) fun b hb => hkx b hb.1)
          replace h13 := (hkx _ (fun e => hpq e.symm)).trans h13
          clear h12 hkx hbx hsz hS
          try simp only [Zy]
          refine ha_put (i := 15) (by kernel_rfl) rfl rfl _ _ rfl rfl rfl h13 (fun W hW => hW _ _ hw13 hS1) ?_
          intro X2 hbx hsz hkx hnx2 hS2
          have h12 := (hkx _ hpq).trans hnx
          replace HA7 := Lib.hid ((HA7.out.mono (w' := X2) (fun _ h => h) fun b hb => hkx b hb.2).weak (D' := Any) fun _ _ => trivial)
          replace HA8 := Lib.hid ((HA8.out.mono (w' := X2) (fun _ h => h) fun b hb => hkx b hb.2).weak (D' := Any) fun _ _ => trivial)
          try simp only [Zy]
          refine wpAnyH_done (by kernel_rfl) ?_ _
          try simp only [put_noneA]
          go_wp2_with fail
          go_meet
          exact ⟨p12, p13, _, _, _, _, _, _, _, _, _, _, _, _, rfl, rfl, HA7, HA8, hS2, h12, hnx2⟩
      · have sx2 := hS.size
        refine sh_all (i := 13) rfl rfl rfl (fun W hW => hS.trans (hW.mono hS.size)) ?_
        intro v2 p13 hbn hl13 h13 hSn
        replace hS := hSn
        have sz2 := hbn.size
        replace HA7 := Lib.hid (HA7.out.old hbn)
        have hw13 : w.heap.size ≤ p13 := by omega
        clear hbn hSn; try simp only [Zy]
        refine ha_two (i := 11) (j := 12) (by kernel_rfl) ?_ ?_
        · refine sh_call (i := 11) rfl rfl (fun K hK => ?_)
          go_simp; refine ⟨_, _, ⟨rfl, rfl⟩, hK _ _ ⟨_, HC2.out _ hS, ?_⟩⟩; clear hK K; rintro e v3 ⟨row8, rfl, hta, hbn⟩; refine ⟨_, rfl, hS.trans (hbn.mono hS.size), ?_⟩
          replace hS := hS.trans (hbn.mono hS.size)
          have sz3 := hbn.size
          obtain ⟨k8, s8, n8, A8, l8, c8, ts8, hu, rfl, -⟩ := hta.parts
          have HA8 := Lib.hid hta.low
          clear hta hu
          replace HA7 := Lib.hid (HA7.out.old hbn)
          have lt13_3 := heap_lt h13; replace h13 := below_look hbn h13
          clear hbn; try simp only [Zy]
          have sx4 := hS.size
          refine ha_all (i := 12) (by kernel_rfl) rfl rfl rfl (fun W hW => hS.trans (hW.mono hS.size)) ?_
          intro v4 p12 hbn hl12 h12 hSn
          replace hS := hSn
          have sz4 := hbn.size
          replace HA7 := Lib.hid (HA7.out.old hbn)
          replace HA8 := Lib.hid (HA8.out.old hbn)
          have lt13_4 := heap_lt h13; replace h13 := below_look hbn h13
          have hw12 : w.heap.size ≤ p12 := by omega
          clear hbn hSn; try simp only [Zy]
          have hpq : p12 ≠ p13 := by omega
          replace HA7 := Lib.hid (HA7.out.weak (D' := fun b => b ≠ p12 ∧ b ≠ p13) fun b h => by have h1 := h.1; have h2 := h.2; exact ⟨by omega, by omega⟩)
          replace HA8 := Lib.hid (HA8.out.weak (D' := fun b => b ≠ p12 ∧ b ≠ p13) fun b h => by have h1 := h.1; have h2 := h.2; exact ⟨by omega, by omega⟩)
          refine ha_put (i := 14) (by kernel_rfl) rfl rfl _ _ rfl rfl rfl h12 (fun W hW => hW _ _ hw12 hS) ?_
          intro X1 hbx hsz hkx hnx hS1
          replace HA7 := Lib.hid (HA7.out.mono (w' := X1) (fun _ h => h) fun b hb => hkx b hb.1)
          replace HA8 := Lib.hid (HA8.out.mono (w' := X1) (fun _ h => h) fun b hb => hkx b hb.1)
          replace h13 := (hkx _ (fun e => hpq e.symm)).trans h13
          clear h12 hkx hbx hsz hS
          try simp only [Zy]
          refine ha_put (i := 15) (by kernel_rfl) rfl rfl _ _ rfl rfl rfl h13 (fun W hW => hW _ _ hw13 hS1) ?_
          intro X2 hbx hsz hkx hnx2 hS2
          have h12 := (hkx _ hpq).trans hnx
          replace HA7 := Lib.hid ((HA7.out.mono (w' := X2) (fun _ h => h) fun b hb => hkx b hb.2).weak (D' := Any) fun _ _ => trivial)
          replace HA8 := Lib.hid ((HA8.out.mono (w' := X2) (fun _ h => h) fun b hb => hkx b hb.2).weak (D' := Any) fun _ _ => trivial)
          try simp only [Zy]
          refine wpAnyH_done (by kernel_rfl) ?_ _
          try simp only [put_noneA]
          go_wp2_with fail
          go_meet
          exact ⟨p12, p13, _, _, _, _, _, _, _, _, _, _, _, _, rfl, rfl, HA7, HA8, hS2, h12, hnx2⟩
        · have sx3 := hS.size
          refine sh_all (i := 12) rfl rfl rfl (fun W hW => hS.trans (hW.mono hS.size)) ?_
          intro v3 p12 hbn hl12 h12 hSn
          replace hS := hSn
          have sz3 := hbn.size
          replace HA7 := Lib.hid (HA7.out.old hbn)
          have lt13_3 := heap_lt h13; replace h13 := below_look hbn h13
          have hw12 : w.heap.size ≤ p12 := by omega
          clear hbn hSn; try simp only [Zy]
          refine ha_call (i := 11) (by kernel_rfl) rfl rfl (fun K hK => ?_)
          go_simp; refine ⟨_, _, ⟨rfl, rfl⟩, hK _ _ ⟨_, HC2.out _ hS, ?_⟩⟩; clear hK K; rintro e v4 ⟨row8, rfl, hta, hbn⟩; refine ⟨_, rfl, hS.trans (hbn.mono hS.size), ?_⟩
          replace hS := hS.trans (hbn.mono hS.size)
          have sz4 := hbn.size
          obtain ⟨k8, s8, n8, A8, l8, c8, ts8, hu, rfl, -⟩ := hta.parts
          have HA8 := Lib.hid hta.low
          clear hta hu
          replace HA7 := Lib.hid (HA7.out.old hbn)
          have lt13_4 := heap_lt h13; replace h13 := below_look hbn h13
          have lt12_4 := heap_lt h12; replace h12 := below_look hbn h12
          clear hbn; try simp only [Zy]
          have hpq : p12 ≠ p13 := by omega
          replace HA7 := Lib.hid (HA7.out.weak (D' := fun b => b ≠ p12 ∧ b ≠ p13) fun b h => by have h1 := h.1; have h2 := h.2; exact ⟨by omega, by omega⟩)
          replace HA8 := Lib.hid (HA8.out.weak (D' := fun b => b ≠ p12 ∧ b ≠ p13) fun b h => by have h1 := h.1; have h2 := h.2; exact ⟨by omega, by omega⟩)
          refine ha_put (i := 14) (by kernel_rfl) rfl rfl _ _ rfl rfl rfl h12 (fun W hW => hW _ _ hw12 hS) ?_
          intro X1 hbx hsz hkx hnx hS1
          replace HA7 := Lib.hid (HA7.out.mono (w' := X1) (fun _ h => h) fun b hb => hkx b hb.1)
          replace HA8 := Lib.hid (HA8.out.mono (w' := X1) (fun _ h => h) fun b hb => hkx b hb.1)
          replace h13 := (hkx _ (fun e => hpq e.symm)).trans h13
          clear h12 hkx hbx hsz hS
          try simp only [Zy]
          refine ha_put (i := 15) (by kernel_rfl) rfl rfl _ _ rfl rfl rfl h13 (fun W hW => hW _ _ hw13 hS1) ?_
          intro X2 hbx hsz hkx hnx2 hS2
          have h12 := (hkx _ hpq).trans hnx
          replace HA7 := Lib.hid ((HA7.out.mono (w' := X2) (fun _ h => h) fun b hb => hkx b hb.2).weak (D' := Any) fun _ _ => trivial)
          replace HA8 := Lib.hid ((HA8.out.mono (w' := X2) (fun _ h => h) fun b hb => hkx b hb.2).weak (D' := Any) fun _ _ => trivial)
          try simp only [Zy]
          refine wpAnyH_done (by kernel_rfl) ?_ _
          try simp only [put_noneA]
          go_wp2_with fail
          go_meet
          exact ⟨p12, p13, _, _, _, _, _, _, _, _, _, _, _, _, rfl, rfl, HA7, HA8, hS2, h12, hnx2⟩
    · have sx1 := hS.size
      refine sh_all (i := 12) rfl rfl rfl (fun W hW => hS.trans (hW.mono hS.size)) ?_
      intro v1 p12 hbn hl12 h12 hSn
      replace hS := hSn
      have sz1 := hbn.size
      have hw12 : w.heap.size ≤ p12 := by omega
      clear hbn hSn; try simp only [Zy]
      refine ha_two (i := 5) (j := 13) (by kernel_rfl) ?_ ?_
      · refine sh_call (i := 5) rfl rfl (fun K hK => ?_)
        go_simp; refine ⟨_, _, ⟨rfl, rfl⟩, hK _ _ ⟨_, HC1.out _ hS, ?_⟩⟩; clear hK K; rintro e v2 ⟨row7, rfl, hta, hbn⟩; refine ⟨_, rfl, hS.trans (hbn.mono hS.size), ?_⟩
        replace hS := hS.trans (hbn.mono hS.size)
        have sz2 := hbn.size
        obtain ⟨k7, s7, n7, A7, l7, c7, ts7, hu, rfl, -⟩ := hta.parts
        have HA7 := Lib.hid hta.low
        clear hta hu
        have lt12_2 := heap_lt h12; replace h12 := below_look hbn h12
        clear hbn; try simp only [Zy]
        refine ha_two (i := 11) (j := 13) (by kernel_rfl) ?_ ?_
        · refine sh_call (i := 11) rfl rfl (fun K hK => ?_)
          go_simp; refine ⟨_, _, ⟨rfl, rfl⟩, hK _ _ ⟨_, HC2.out _ hS, ?_⟩⟩; clear hK K; rintro e v3 ⟨row8, rfl, hta, hbn⟩; refine ⟨_, rfl, hS.trans (hbn.mono hS.size), ?_⟩
          replace hS := hS.trans (hbn.mono hS.size)
          have sz3 := hbn.size
          obtain ⟨k8, s8, n8, A8, l8, c8, ts8, hu, rfl, -⟩ := hta.parts
          have HA8 := Lib.hid hta.low
          clear hta hu
          replace HA7 := Lib.hid (HA7.out.old hbn)
          have lt12_3 := heap_lt h12; replace h12 := below_look hbn h12
          clear hbn; try simp only [Zy]
          have sx4 := hS.size
          refine ha_all (i := 13) (by kernel_rfl) rfl rfl rfl (fun W hW => hS.trans (hW.mono hS.size)) ?_
          intro v4 p13 hbn hl13 h13 hSn
          replace hS := hSn
          have sz4 := hbn.size
          replace HA7 := Lib.hid (HA7.out.old hbn)
          replace HA8 := Lib.hid (HA8.out.old hbn)
          have lt12_4 := heap_lt h12; replace h12 := below_look hbn h12
          have hw13 : w.heap.size ≤ p13 := by omega
          clear hbn hSn; try simp only [Zy]
          have hpq : p12 ≠ p13 := by omega
          replace HA7 := Lib.hid (HA7.out.weak (D' := fun b => b ≠ p12 ∧ b ≠ p13) fun b h => by have h1 := h.1; have h2 := h.2; exact ⟨by omega, by omega⟩)
          replace HA8 := Lib.hid (HA8.out.weak (D' := fun b => b ≠ p12 ∧ b ≠ p13) fun b h => by have h1 := h.1; have h2 := h.2; exact ⟨by omega, by omega⟩)
          refine ha_put (i := 14) (by kernel_rfl) rfl rfl _ _ rfl rfl rfl h12 (fun W hW => hW _ _ hw12 hS) ?_
          intro X1 hbx hsz hkx hnx hS1
          replace HA7 := Lib.hid (HA7.out.mono (w' := X1) (fun _ h => h) fun b hb => hkx b hb.1)
          replace HA8 := Lib.hid (HA8.out.mono (w' := X1) (fun _ h => h) fun b hb => hkx b hb.1)
          replace h13 := (hkx _ (fun e => hpq e.symm)).trans h13
          clear h12 hkx hbx hsz hS
          try simp only [Zy]
          refine ha_put (i := 15) (by kernel_rfl) rfl rfl _ _ rfl rfl rfl h13 (fun W hW => hW _ _ hw13 hS1) ?_
          intro X2 hbx hsz hkx hnx2 hS2
          have h12 := (hkx _ hpq).trans hnx
          replace HA7 := Lib.hid ((HA7.out.mono (w' := X2) (fun _ h => h) fun b hb => hkx b hb.2).weak (D' := Any) fun _ _ => trivial)
          replace HA8 := Lib.hid ((HA8.out.mono (w' := X2) (fun _ h => h) fun b hb => hkx b hb.2).weak (D' := Any) fun _ _ => trivial)
          try simp only [Zy]
          refine wpAnyH_done (by kernel_rfl) ?_ _
          try simp only [put_noneA]
          go_wp2_with fail
          go_meet
          exact ⟨p12, p13, _, _, _, _, _, _, _, _, _, _, _, _, rfl, rfl, HA7, HA8, hS2, h12, hnx2⟩
        · have sx3 := hS.size
          refine sh_all (i := 13) rfl rfl rfl (fun W hW => hS.trans (hW.mono hS.size)) ?_
          intro v3 p13 hbn hl13 h13 hSn
          replace hS := hSn
          have sz3 := hbn.size
          replace HA7 := Lib.hid (HA7.out.old hbn)
          have lt12_3 := heap_lt h12; replace h12 := below_look hbn h12
          have hw13 : w.heap.size ≤ p13 := by omega
          clear hbn hSn; try simp only [Zy]
          refine ha_call (i := 11) (by kernel_rfl) rfl rfl (fun K hK => ?_)
          go_simp; refine ⟨_, _, ⟨rfl, rfl⟩, hK _ _ ⟨_, HC2.out _ hS, ?_⟩⟩; clear hK K; rintro e v4 ⟨row8, rfl, hta, hbn⟩; refine ⟨_, rfl, hS.trans (hbn.mono hS.size), ?_⟩
          replace hS := hS.trans (hbn.mono hS.size)
          have sz4 := hbn.size
          obtain ⟨k8, s8, n8, A8, l8, c8, ts8, hu, rfl, -⟩ := hta.parts
          have HA8 := Lib.hid hta.low
          clear hta hu
          replace HA7 := Lib.hid (HA7.out.old hbn)
          have lt12_4 := heap_lt h12; replace h12 := below_look hbn h12
          have lt13_4 := heap_lt h13; replace h13 := below_look hbn h13
          clear hbn; try simp only [Zy]
          have hpq : p12 ≠ p13 := by omega
          replace HA7 := Lib.hid (HA7.out.weak (D' := fun b => b ≠ p12 ∧ b ≠ p13) fun b h => by have h1 := h.1; have h2 := h.2; exact ⟨by omega, by omega⟩)
          replace HA8 := Lib.hid (HA8.out.weak (D' := fun b => b ≠ p12 ∧ b ≠ p13) fun b h => by have h1 := h.1; have h2 := h.2; exact ⟨by omega, by omega⟩)
          refine ha_put (i := 14) (by kernel_rfl) rfl rfl _ _ rfl rfl rfl h12 (fun W hW => hW _ _ hw12 hS) ?_
          intro X1 hbx hsz hkx hnx hS1
          replace HA7 := Lib.hid (HA7.out.mono (w' := X1) (fun _ h => h) fun b hb => hkx b hb.1)
          replace HA8 := Lib.hid (HA8.out.mono (w' := X1) (fun _ h => h) fun b hb => hkx b hb.1)
          replace h13 := (hkx _ (fun e => hpq e.symm)).trans h13
          clear h12 hkx hbx hsz hS
          try simp only [Zy]
          refine ha_put (i := 15) (by kernel_rfl) rfl rfl _ _ rfl rfl rfl h13 (fun W hW => hW _ _ hw13 hS1) ?_
          intro X2 hbx hsz hkx hnx2 hS2
          have h12 := (hkx _ hpq).trans hnx
          replace HA7 := Lib.hid ((HA7.out.mono (w' := X2) (fun _ h => h) fun b hb => hkx b hb.2).weak (D' := Any) fun _ _ => trivial)
          replace HA8 := Lib.hid ((HA8.out.mono (w' := X2) (fun _ h => h) fun b hb => hkx b hb.2).weak (D' := Any) fun _ _ => trivial)
          try simp only [Zy]
          refine wpAnyH_done (by kernel_rfl) ?_ _
          try simp only [put_noneA]
          go_wp2_with fail
          go_meet
          exact ⟨p12, p13, _, _, _, _, _, _, _, _, _, _, _, _, rfl, rfl, HA7, HA8, hS2, h12, hnx2⟩
      · have sx2 := hS.size
        refine sh_all (i := 13) rfl rfl rfl (fun W hW => hS.trans (hW.mono hS.size)) ?_
        intro v2 p13 hbn hl13 h13 hSn
        replace hS := hSn
        have sz2 := hbn.size
        have lt12_2 := heap_lt h12; replace h12 := below_look hbn h12
        have hw13 : w.heap.size ≤ p13 := by omega
        clear hbn hSn; try simp only [Zy]
        refine ha_call (i := 5) (by kernel_rfl) rfl rfl (fun K hK => ?_)
        go_simp; refine ⟨_, _, ⟨rfl, rfl⟩, hK _ _ ⟨_, HC1.out _ hS, ?_⟩⟩; clear hK K; rintro e v3 ⟨row7, rfl, hta, hbn⟩; refine ⟨_, rfl, hS.trans (hbn.mono hS.size), ?_⟩
        replace hS := hS.trans (hbn.mono hS.size)
        have sz3 := hbn.size
        obtain ⟨k7, s7, n7, A7, l7, c7, ts7, hu, rfl, -⟩ := hta.parts
        have HA7 := Lib.hid hta.low
        clear hta hu
        have lt12_3 := heap_lt h12; replace h12 := below_look hbn h12
        have lt13_3 := heap_lt h13; replace h13 := below_look hbn h13
        clear hbn; try simp only [Zy]
        refine ha_call (i := 11) (by kernel_rfl) rfl rfl (fun K hK => ?_)
        go_simp; refine ⟨_, _, ⟨rfl, rfl⟩, hK _ _ ⟨_, HC2.out _ hS, ?_⟩⟩; clear hK K; rintro e v4 ⟨row8, rfl, hta, hbn⟩; refine ⟨_, rfl, hS.trans (hbn.mono hS.size), ?_⟩
        replace hS := hS.trans (hbn.mono hS.size)
        have sz4 := hbn.size
        obtain ⟨k8, s8, n8, A8, l8, c8, ts8, hu, rfl, -⟩ := hta.parts
        have HA8 := Lib.hid hta.low
        clear hta hu
        replace HA7 := Lib.hid (HA7.out.old hbn)
        have lt12_4 := heap_lt h12; replace h12 := below_look hbn h12
        have lt13_4 := heap_lt h13; replace h13 := below_look hbn h13
        clear hbn; try simp only [Zy]
        have hpq : p12 ≠ p13 := by omega
        replace HA7 := Lib.hid (HA7.out.weak (D' := fun b => b ≠ p12 ∧ b ≠ p13) fun b h => by have h1 := h.1; have h2 := h.2; exact ⟨by omega, by omega⟩)
        replace HA8 := Lib.hid (HA8.out.weak (D' := fun b => b ≠ p12 ∧ b ≠ p13) fun b h => by have h1 := h.1; have h2 := h.2; exact ⟨by omega, by omega⟩)
        refine ha_put (i := 14) (by kernel_rfl) rfl rfl _ _ rfl rfl rfl h12 (fun W hW => hW _ _ hw12 hS) ?_
        intro X1 hbx hsz hkx hnx hS1
        replace HA7 := Lib.hid (HA7.out.mono (w' := X1) (fun _ h => h) fun b hb => hkx b hb.1)
        replace HA8 := Lib.hid (HA8.out.mono (w' := X1) (fun _ h => h) fun b hb => hkx b hb.1)
        replace h13 := (hkx _ (fun e => hpq e.symm)).trans h13
        clear h12 hkx hbx hsz hS
        try simp only [Zy]
        refine ha_put (i := 15) (by kernel_rfl) rfl rfl _ _ rfl rfl rfl h13 (fun W hW => hW _ _ hw13 hS1) ?_
        intro X2 hbx hsz hkx hnx2 hS2
        have h12 := (hkx _ hpq).trans hnx
        replace HA7 := Lib.hid ((HA7.out.mono (w' := X2) (fun _ h => h) fun b hb => hkx b hb.2).weak (D' := Any) fun _ _ => trivial)
        replace HA8 := Lib.hid ((HA8.out.mono (w' := X2) (fun _ h => h) fun b hb => hkx b hb.2).weak (D' := Any) fun _ _ => trivial)
        try simp only [Zy]
        refine wpAnyH_done (by kernel_rfl) ?_ _
        try simp only [put_noneA]
        go_wp2_with fail
        go_meet
        exact ⟨p12, p13, _, _, _, _, _, _, _, _, _, _, _, _, rfl, rfl, HA7, HA8, hS2, h12, hnx2⟩
    · have sx1 := hS.size
      refine sh_all (i := 13) rfl rfl rfl (fun W hW => hS.trans (hW.mono hS.size)) ?_
      intro v1 p13 hbn hl13 h13 hSn
      replace hS := hSn
      have sz1 := hbn.size
      have hw13 : w.heap.size ≤ p13 := by omega
      clear hbn hSn; try simp only [Zy]
      refine ha_two (i := 5) (j := 12) (by kernel_rfl) ?_ ?_
      · refine sh_call (i := 5) rfl rfl (fun K hK => ?_)
        go_simp; refine ⟨_, _, ⟨rfl, rfl⟩, hK _ _ ⟨_, HC1.out _ hS, ?_⟩⟩; clear hK K; rintro e v2 ⟨row7, rfl, hta, hbn⟩; refine ⟨_, rfl, hS.trans (hbn.mono hS.size), ?_⟩
        replace hS := hS.trans (hbn.mono hS.size)
        have sz2 := hbn.size
        obtain ⟨k7, s7, n7, A7, l7, c7, ts7, hu, rfl, -⟩ := hta.parts
        have HA7 := Lib.hid hta.low
        clear hta hu
        have lt13_2 := heap_lt h13; replace h13 := below_look hbn h13
        clear hbn; try simp only [Zy]
        refine ha_two (i := 11) (j := 12) (by kernel_rfl) ?_ ?_
        · refine sh_call (i := 11) rfl rfl (fun K hK => ?_)
          go_simp; refine ⟨_, _, ⟨rfl, rfl⟩, hK _ _ ⟨_, HC2.out _ hS, ?_⟩⟩; clear hK K; rintro e v3 ⟨row8, rfl, hta, hbn⟩; refine ⟨_, rfl, hS.trans (hbn.mono hS.size), ?_⟩
          replace hS := hS.trans (hbn.mono hS.size)
          have sz3 := hbn.size
          obtain ⟨k8, s8, n8, A8, l8, c8, ts8, hu, rfl, -⟩ := hta.parts
          have HA8 := Lib.hid hta.low
          clear hta hu
          replace HA7 := Lib.hid (HA7.out.old hbn)
          have lt13_3 := heap_lt h13; replace h13 := below_look hbn h13
          clear hbn; try simp only [Zy]
          have sx4 := hS.size
          refine ha_all (i := 12) (by kernel_rfl) rfl rfl rfl (fun W hW => hS.trans (hW.mono hS.size)) ?_
          intro v4 p12 hbn hl12 h12 hSn
          replace hS := hSn
          have sz4 := hbn.size
          replace HA7 := Lib.hid (HA7.out.old hbn)
          replace HA8 := Lib.hid (HA8.out.old hbn)
          have lt13_4 := heap_lt h13; replace h13 := below_look hbn h13
          have hw12 : w.heap.size ≤ p12 := by omega
          clear hbn hSn; try simp only [Zy]
          have hpq : p12 ≠ p13 := by omega
          replace HA7 := Lib.hid (HA7.out.weak (D' := fun b => b ≠ p12 ∧ b ≠ p13) fun b h => by have h1 := h.1; have h2 := h.2; exact ⟨by omega, by omega⟩)
          replace HA8 := Lib.hid (HA8.out.weak (D' := fun b => b ≠ p12 ∧ b ≠ p13) fun b h => by have h1 := h.1; have h2 := h.2; exact ⟨by omega, by omega⟩)
          refine ha_put (i := 14) (by kernel_rfl) rfl rfl _ _ rfl rfl rfl h12 (fun W hW => hW _ _ hw12 hS) ?_
          intro X1 hbx hsz hkx hnx hS1
          replace HA7 := Lib.hid (HA7.out.mono (w' := X1) (fun _ h => h) fun b hb => hkx b hb.1)
          replace HA8 := Lib.hid (HA8.out.mono (w' := X1) (fun _ h => h) fun b hb => hkx b hb.1)
          replace h13 := (hkx _ (fun e => hpq e.symm)).trans h13
          clear h12 hkx hbx hsz hS
          try simp only [Zy]
          refine ha_put (i := 15) (by kernel_rfl) rfl rfl _ _ rfl rfl rfl h13 (fun W hW => hW _ _ hw13 hS1) ?_
          intro X2 hbx hsz hkx hnx2 hS2
          have h12 := (hkx _ hpq).trans hnx
          replace HA7 := Lib.hid ((HA7.out.mono (w' := X2) (fun _ h => h) fun b hb => hkx b hb.2).weak (D' := Any) fun _ _ => trivial)
          replace HA8 := Lib.hid ((HA8.out.mono (w' := X2) (fun _ h => h) fun b hb => hkx b hb.2).weak (D' := Any) fun _ _ => trivial)
          try simp only [Zy]
          refine wpAnyH_done (by kernel_rfl) ?_ _
          try simp only [put_noneA]
          go_wp2_with fail
          go_meet
          exact ⟨p12, p13, _, _, _, _, _, _, _, _, _, _, _, _, rfl, rfl, HA7, HA8, hS2, h12, hnx2⟩
        · have sx3 := hS.size
          refine sh_all (i := 12) rfl rfl rfl (fun W hW => hS.trans (hW.mono hS.size)) ?_
          intro v3 p12 hbn hl12 h12 hSn
          replace hS := hSn
          have sz3 := hbn.size
          replace HA7 := Lib.hid (HA7.out.old hbn)
          have lt13_3 := heap_lt h13; replace h13 := below_look hbn h13
          have hw12 : w.heap.size ≤ p12 := by omega
          clear hbn hSn; try simp only [Zy]
          refine ha_call (i := 11) (by kernel_rfl) rfl rfl (fun K hK => ?_)
          go_simp; refine ⟨_, _, ⟨rfl, rfl⟩, hK _ _ ⟨_, HC2.out _ hS, ?_⟩⟩; clear hK K; rintro e v4 ⟨row8, rfl, hta, hbn⟩; refine ⟨_, rfl, hS.trans (hbn.mono hS.size), ?_⟩
          replace hS := hS.trans (hbn.mono hS.size)
          have sz4 := hbn.size
          obtain ⟨k8, s8, n8, A8, l8, c8, ts8, hu, rfl, -⟩ := hta.parts
          have HA8 := Lib.hid hta.low
          clear hta hu
          replace HA7 := Lib.hid (HA7.out.old hbn)
          have lt13_4 := heap_lt h13; replace h13 := below_look hbn h13
          have lt12_4 := heap_lt h12; replace h12 := below_look hbn h12
          clear hbn; try simp only [Zy]
          have hpq : p12 ≠ p13 := by omega
          replace HA7 := Lib.hid (HA7.out.weak (D' := fun b => b ≠ p12 ∧ b ≠ p13) fun b h => by have h1 := h.1; have h2 := h.2; exact ⟨by omega, by omega⟩)
          replace HA8 := Lib.hid (HA8.out.weak (D' := fun b => b ≠ p12 ∧ b ≠ p13) fun b h => by have h1 := h.1; have h2 := h.2; exact ⟨by omega, by omega⟩)
          refine ha_put (i := 14) (by kernel_rfl) rfl rfl _ _ rfl rfl rfl h12 (fun W hW => hW _ _ hw12 hS) ?_
          intro X1 hbx hsz hkx hnx hS1
          replace HA7 := Lib.hid (HA7.out.mono (w' := X1) (fun _ h => h) fun b hb => hkx b hb.1)
          replace HA8 := Lib.hid (HA8.out.mono (w' := X1) (fun _ h => h) fun b hb => hkx b hb.1)
          replace h13 := (hkx _ (fun e => hpq e.symm)).trans h13
          clear h12 hkx hbx hsz hS
          try simp only [Zy]
          refine ha_put (i := 15) (by kernel_rfl) rfl rfl _ _ rfl rfl rfl h13 (fun W hW => hW _ _ hw13 hS1) ?_
          intro X2 hbx hsz hkx hnx2 hS2
          have h12 := (hkx _ hpq).trans hnx
          replace HA7 := Lib.hid ((HA7.out.mono (w' := X2) (fun _ h => h) fun b hb => hkx b hb.2).weak (D' := Any) fun _ _ => trivial)
          replace HA8 := Lib.hid ((HA8.out.mono (w' := X2) (fun _ h => h) fun b hb => hkx b hb.2).weak (D' := Any) fun _ _ => trivial)
          try simp only [Zy]
          refine wpAnyH_done (by kernel_rfl) ?_ _
          try simp only [put_noneA]
          go_wp2_with fail
          go_meet
          exact ⟨p12, p13, _, _, _, _, _, _, _, _, _, _, _, _, rfl, rfl, HA7, HA8, hS2, h12, hnx2⟩
      · have sx2 := hS.size
        refine sh_all (i := 12) rfl rfl rfl (fun W hW => hS.trans (hW.mono hS.size)) ?_
        intro v2 p12 hbn hl12 h12 hSn
        replace hS := hSn
        have sz2 := hbn.size
        have lt13_2 := heap_lt h13; replace h13 := below_look hbn h13
        have hw12 : w.heap.size ≤ p12 := by omega
        clear hbn hSn; try simp only [Zy]
        refine ha_call (i := 5) (by kernel_rfl) rfl rfl (fun K hK => ?_)
        go_simp; refine ⟨_, _, ⟨rfl, rfl⟩, hK _ _ ⟨_, HC1.out _ hS, ?_⟩⟩; clear hK K; rintro e v3 ⟨row7, rfl, hta, hbn⟩; refine ⟨_, rfl, hS.trans (hbn.mono hS.size), ?_⟩
        replace hS := hS.trans (hbn.mono hS.size)
        have sz3 := hbn.size
        obtain ⟨k7, s7, n7, A7, l7, c7, ts7, hu, rfl, -⟩ := hta.parts
        have HA7 := Lib.hid hta.low
        clear hta hu
        have lt13_3 := heap_lt h13; replace h13 := below_look hbn h13
        have lt12_3 := heap_lt h12; replace h12 := below_look hbn h12
        clear hbn; try simp only [Zy]
        refine ha_call (i := 11) (by kernel_rfl) rfl rfl (fun K hK => ?_)
        go_simp; refine ⟨_, _, ⟨rfl, rfl⟩, hK _ _ ⟨_, HC2.out _ hS, ?_⟩⟩; clear hK K; rintro e v4 ⟨row8, rfl, hta, hbn⟩; refine ⟨_, rfl, hS.trans (hbn.mono hS.size), ?_⟩
        replace hS := hS.trans (hbn.mono hS.size)
        have sz4 := hbn.size
        obtain ⟨k8, s8, n8, A8, l8, c8, ts8, hu, rfl, -⟩ := hta.parts
        have HA8 := Lib.hid hta.low
        clear hta hu
        replace HA7 := Lib.hid (HA7.out.old hbn)
        have lt13_4 := heap_lt h13; replace h13 := below_look hbn h13
        have lt12_4 := heap_lt h12; replace h12 := below_look hbn h12
        clear hbn; try simp only [Zy]
        have hpq : p12 ≠ p13 := by omega
        replace HA7 := Lib.hid (HA7.out.weak (D' := fun b => b ≠ p12 ∧ b ≠ p13) fun b h => by have h1 := h.1; have h2 := h.2; exact ⟨by omega, by omega⟩)
        replace HA8 := Lib.hid (HA8.out.weak (D' := fun b => b ≠ p12 ∧ b ≠ p13) fun b h => by have h1 := h.1; have h2 := h.2; exact ⟨by omega, by omega⟩)
        refine ha_put (i := 14) (by kernel_rfl) rfl rfl _ _ rfl rfl rfl h12 (fun W hW => hW _ _ hw12 hS) ?_
        intro X1 hbx hsz hkx hnx hS1
        replace HA7 := Lib.hid (HA7.out.mono (w' := X1) (fun _ h => h) fun b hb => hkx b hb.1)
        replace HA8 := Lib.hid (HA8.out.mono (w' := X1) (fun _ h => h) fun b hb => hkx b hb.1)
        replace h13 := (hkx _ (fun e => hpq e.symm)).trans h13
        clear h12 hkx hbx hsz hS
        try simp only [Zy]
        refine ha_put (i := 15) (by kernel_rfl) rfl rfl _ _ rfl rfl rfl h13 (fun W hW => hW _ _ hw13 hS1) ?_
        intro X2 hbx hsz hkx hnx2 hS2
        have h12 := (hkx _ hpq).trans hnx
        replace HA7 := Lib.hid ((HA7.out.mono (w' := X2) (fun _ h => h) fun b hb => hkx b hb.2).weak (D' := Any) fun _ _ => trivial)
        replace HA8 := Lib.hid ((HA8.out.mono (w' := X2) (fun _ h => h) fun b hb => hkx b hb.2).weak (D' := Any) fun _ _ => trivial)
        try simp only [Zy]
        refine wpAnyH_done (by kernel_rfl) ?_ _
        try simp only [put_noneA]
        go_wp2_with fail
        go_meet
        exact ⟨p12, p13, _, _, _, _, _, _, _, _, _, _, _, _, rfl, rfl, HA7, HA8, hS2, h12, hnx2⟩
  case rest =>
    obtain ⟨p, q, k7, s7, n7, A7, l7, c7, k8, s8, n8, A8, l8, c8, rfl, rfl, HA7, HA8, hb, hp, hq⟩ := hcut
    have HTR := Lib.hid (EqsAt.lo (k := 1) (HT.out.old hb) (by omega))
    obtain ⟨A9, hA9⟩ : ∃ X, X = (if c = 1 then some (⟨bl, off, none⟩ : Addr) else (some (⟨bl, off, none⟩ : Addr)).map (·.add (1 * 8))) := ⟨_, rfl⟩
    obtain ⟨l9, hl9⟩ : ∃ X, X = l - 1 := ⟨_, rfl⟩
    obtain ⟨c9, hc9⟩ : ∃ X, X = c - 1 := ⟨_, rfl⟩
    rw [← hA9, ← hl9, ← hc9] at HTR
    have HB := Lib.hid hb
    have HA9 := Lib.hid hA9
    have HL99 := Lib.hid hl9
    have HC99 := Lib.hid hc9
    clear hA9 hl9 hc9
    have HFX : Hid (FineV m x) := Lib.hid (by rw [HX.out]; exact fine_app HG.out.len HG.out.fine a HFA.out)
    have HFY : Hid (FineV m y) := Lib.hid (by rw [HY.out]; exact fine_app HG.out.len HG.out.fine b HFB.out)
    clear HC1 HC2 HR1 HR2
    go_upto_region 2 with (fail)
    apply wp_region_lit
    (with_reducible refine wl_k ?_ ?_); exact rfl; intro K hK; go_simp; refine hK _ ?_; clear hK K
    (refine wl_val rfl (ex_lo (k := 1) _ _ rfl rfl rfl (by omega) _) ?_)
    rw [← HA9.out, ← HL99.out, ← HC99.out]
    simp only [Zq]
    (with_reducible refine wl_k ?_ ?_); exact rfl; intro K hK; go_simp; refine hK _ ?_; clear hK K
    have HL9 : Hid (rest.length = l9) := Lib.hid HTR.out.len
    have hc9m : c9 ≤ 9223372036854775807 := by have := HTR.out.max; unfold maxLen at this; omega
    have hl9c : l9 ≤ c9 := HTR.out.cap
    clear HA9 HL99 HC99 hl0 hcm hmx
    have hc := EqType_any x y wc _ _ _ _ HA7.out HA8.out
    obtain ⟨eb, heb⟩ : ∃ eb, eb = eqTy x y := ⟨_, rfl⟩
    rw [← heb] at hc
    have HC := Lib.hid hc
    have HEB := Lib.hid heb
    clear hc heb
    have hz := Below.refl wc.heap.size wc
    go_upto_region 3 with (fail)
    apply wp_region_lit
    (first | ((with_reducible apply wl_oneG); exact rfl; exact rfl; first | exact f0 (by with_reducible assumption) | exact f1 (by with_reducible assumption) | exact f2 (by with_reducible assumption) | exact f3 (by with_reducible assumption) | with_reducible assumption | exact g22 (by with_reducible assumption) | exact g25 (by with_reducible assumption)) | ((with_reducible apply wl_rowG); exact rfl; exact rfl; first | with_reducible assumption | exact RowK.now (by with_reducible assumption) | exact f4 (by with_reducible assumption)))
    (first | ((with_reducible apply wl_oneG); exact rfl; exact rfl; first | exact f0 (by with_reducible assumption) | exact f1 (by with_reducible assumption) | exact f2 (by with_reducible assumption) | exact f3 (by with_reducible assumption) | with_reducible assumption | exact g22 (by with_reducible assumption) | exact g25 (by with_reducible assumption)) | ((with_reducible apply wl_rowG); exact rfl; exact rfl; first | with_reducible assumption | exact RowK.now (by with_reducible assumption) | exact f4 (by with_reducible assumption)))
    (with_reducible refine wl_ck ?_ ?_); exact rfl; intro K hK; go_simp; refine ⟨_, _, ⟨rfl, rfl⟩, hK _ _ ⟨_, HC.out, ?_⟩⟩; clear hK K; rintro e w7 ⟨rfl, hb7⟩; refine ⟨_, rfl, ?_⟩; simp only [Zq]
    replace hp := below_look hb7 hp; replace hq := below_look hb7 hq; replace hz := hz.trans (hb7.mono hz.size); clear hb7
    clear HC
    cases eb with
    | true =>
      have HE : Hid (x = y) := Lib.hid (by have := HEB.out; simp [eqTy] at this; exact this)
      clear hp hq
      go_upto_region 4 with (fail)
      apply wp_region_lit
      (with_reducible refine wl_k ?_ ?_); exact rfl; intro K hK; go_simp; refine hK _ ?_; clear hK K
      (with_reducible refine wl_k ?_ ?_); exact rfl; intro K hK; go_simp; refine hK _ ?_; clear hK K
      (with_reducible refine wl_k ?_ ?_); exact rfl; intro K hK; go_simp; refine hK _ ?_; clear hK K
      (with_reducible refine wl_k ?_ ?_); exact rfl; intro K hK; go_simp; refine hK _ ?_; clear hK K
      (with_reducible refine wl_k ?_ ?_); exact rfl; intro K hK; go_simp; refine hK _ ?_; clear hK K
      go_wp2_with fail
      go_ret3
      exact ⟨hb.trans (hz.mono hb.size), _, _, _, _, _, _, _, rfl, .inr ⟨rfl, [], sol, step1_same (by rw [← HX.out, ← HY.out]; exact HE.out), HTR.out.old hz, (HS.out.old hb).old hz⟩⟩
    | false =>
      have HNE : Hid (applyTy sol a ≠ applyTy sol b) := Lib.hid (by
        rw [← HX.out, ← HY.out]
        intro e
        have := HEB.out
        simp [eqTy, e] at this)
      obtain ⟨k7', s7', n7', A7', l7', c7', ts7, hx7, hce, -, -, -, hts7⟩ := HA7.out.parts
      cases hce
      obtain ⟨k8', s8', n8', A8', l8', c8', ts8, hx8, hce, -, -, -, hts8⟩ := HA8.out.parts
      cases hce
      have HXN := Lib.hid hx7
      have HYN := Lib.hid hx8
      have HU7 := Lib.hid hts7
      have HU8 := Lib.hid hts8
      have hl7 : l7 ≤ 9223372036854775807 := by have h1 := hts7.cap; have h2 := hts7.max; unfold maxLen at h2; omega
      have hl8 : l8 ≤ 9223372036854775807 := by have h1 := hts8.cap; have h2 := hts8.max; unfold maxLen at h2; omega
      clear hx7 hx8 hts7 hts8
      by_cases h7 : k7 = 12
      · have e7 : (k7 == 12) = true := beq_iff_eq.2 h7
        obtain ⟨va, hva, hxv, rfl⟩ := var_of2 HFX.out HXN.out h7
        have HXV := Lib.hid hxv
        have HVA := Lib.hid hva
        clear h7 hxv hva
        by_cases h8 : k8 = 12
        · have e8 : (k8 == 12) = true := beq_iff_eq.2 h8
          obtain ⟨vb, hvb, hyv, rfl⟩ := var_of2 HFY.out HYN.out h8
          have HYV := Lib.hid hyv
          have HVB := Lib.hid hvb
          clear h8 hyv hvb
          go_upto_region 5 with (fail)
          apply wp_region_lit
          (with_reducible refine wl_k ?_ ?_); exact rfl; intro K hK; go_simp; refine hK _ ?_; clear hK K
          (first | ((with_reducible apply wl_oneG); exact rfl; exact rfl; first | exact f0 (by with_reducible assumption) | exact f1 (by with_reducible assumption) | exact f2 (by with_reducible assumption) | exact f3 (by with_reducible assumption) | with_reducible assumption | exact g22 (by with_reducible assumption) | exact g25 (by with_reducible assumption)) | ((with_reducible apply wl_rowG); exact rfl; exact rfl; first | with_reducible assumption | exact RowK.now (by with_reducible assumption) | exact f4 (by with_reducible assumption)))
          (with_reducible refine wl_k ?_ ?_); exact rfl; intro K hK; go_simp; refine hK _ ?_; clear hK K
          (with_reducible refine wl_k ?_ ?_); exact rfl; intro K hK; go_simp; refine hK _ ?_; clear hK K
          (with_reducible refine wl_k ?_ ?_); exact rfl; intro K hK; go_simp; refine hK _ ?_; clear hK K
          (first | ((with_reducible apply wl_oneG); exact rfl; exact rfl; first | exact f0 (by with_reducible assumption) | exact f1 (by with_reducible assumption) | exact f2 (by with_reducible assumption) | exact f3 (by with_reducible assumption) | with_reducible assumption | exact g22 (by with_reducible assumption) | exact g25 (by with_reducible assumption)) | ((with_reducible apply wl_rowG); exact rfl; exact rfl; first | with_reducible assumption | exact RowK.now (by with_reducible assumption) | exact f4 (by with_reducible assumption)))
          (with_reducible refine wl_k ?_ ?_); exact rfl; intro K hK; go_simp; refine hK _ ?_; clear hK K
          (with_reducible refine wl_k ?_ ?_); exact rfl; intro K hK; go_simp; refine hK _ ?_; clear hK K
          clear e7 e8
          have hc := putI_any HG.out hm (v := max va vb) (t := varT (min va vb)) (by have := HVA.out; have := HVB.out; omega) (fine_var (by have := HVA.out; have := HVB.out; omega)) w7 _ Any _ _ _ ((HS.out.old hb).old hz) _ (var_at w7 _ (min va vb) (by have := HVA.out; omega))
          rw [show ((max va vb : Nat) : Int) = max (va : Int) (vb : Int) by omega, show ((min va vb : Nat) : Int) = min (va : Int) (vb : Int) by omega] at hc
          have HC := Lib.hid (hc.mono fun e w' h => h.say)
          clear hc
          go_upto_region 6 with (fail)
          apply wp_region_lit
          (with_reducible refine wl_k ?_ ?_); exact rfl; intro K hK; go_simp; refine hK _ ?_; clear hK K
          (with_reducible refine wl_k ?_ ?_); exact rfl; intro K hK; go_simp; refine hK _ ?_; clear hK K
          (first | ((with_reducible apply wl_oneG); exact rfl; exact rfl; first | exact f0 (by with_reducible assumption) | exact f1 (by with_reducible assumption) | exact f2 (by with_reducible assumption) | exact f3 (by with_reducible assumption) | with_reducible assumption | exact g22 (by with_reducible assumption) | exact g25 (by with_reducible assumption)) | ((with_reducible apply wl_rowG); exact rfl; exact rfl; first | with_reducible assumption | exact RowK.now (by with_reducible assumption) | exact f4 (by with_reducible assumption)))
          (with_reducible refine wl_k ?_ ?_); exact rfl; intro K hK; go_simp; refine hK _ ?_; clear hK K
          (first | ((with_reducible apply wl_oneG); exact rfl; exact rfl; first | exact f0 (by with_reducible assumption) | exact f1 (by with_reducible assumption) | exact f2 (by with_reducible assumption) | exact f3 (by with_reducible assumption) | with_reducible assumption | exact g22 (by with_reducible assumption) | exact g25 (by with_reducible assumption)) | ((with_reducible apply wl_rowG); exact rfl; exact rfl; first | with_reducible assumption | exact RowK.now (by with_reducible assumption) | exact f4 (by with_reducible assumption)))
          (with_reducible refine wl_k ?_ ?_); exact rfl; intro K hK; go_simp; refine hK _ ?_; clear hK K
          (with_reducible refine wl_k ?_ ?_); exact rfl; intro K hK; go_simp; refine hK _ ?_; clear hK K
          (first | ((with_reducible apply wl_oneG); exact rfl; exact rfl; first | exact f0 (by with_reducible assumption) | exact f1 (by with_reducible assumption) | exact f2 (by with_reducible assumption) | exact f3 (by with_reducible assumption) | with_reducible assumption | exact g22 (by with_reducible assumption) | exact g25 (by with_reducible assumption)) | ((with_reducible apply wl_rowG); exact rfl; exact rfl; first | with_reducible assumption | exact RowK.now (by with_reducible assumption) | exact f4 (by with_reducible assumption)))
          (with_reducible refine wl_k ?_ ?_); exact rfl; intro K hK; go_simp; refine hK _ ?_; clear hK K
          (first | ((with_reducible apply wl_oneG); exact rfl; exact rfl; first | exact f0 (by with_reducible assumption) | exact f1 (by with_reducible assumption) | exact f2 (by with_reducible assumption) | exact f3 (by with_reducible assumption) | with_reducible assumption | exact g22 (by with_reducible assumption) | exact g25 (by with_reducible assumption)) | ((with_reducible apply wl_rowG); exact rfl; exact rfl; first | with_reducible assumption | exact RowK.now (by with_reducible assumption) | exact f4 (by with_reducible assumption)))
          (with_reducible refine wl_k ?_ ?_); exact rfl; intro K hK; go_simp; refine hK _ ?_; clear hK K
          refine wl_val rfl (ex_build 24 _ rfl (L := [(0, .int .i64 12), (2, .int .i64 (min (va : Int) (vb : Int)))]) rfl (built24w (min (va : Int) (vb : Int)))) ?_
          simp only [Zq]
          (with_reducible refine wl_ck ?_ ?_); exact rfl; intro K hK; go_simp; refine ⟨_, _, ⟨rfl, rfl⟩, hK _ _ ⟨_, HC.out, ?_⟩⟩; clear hK K; rintro e w9 ⟨A5, l5, c5, err, rfl, hsay, hb7⟩; refine ⟨_, rfl, ?_⟩; simp only [Zq]
          clear hp hq
          replace hz := hz.trans (hb7.mono hz.size); clear hb7
          (with_reducible refine wl_k ?_ ?_); exact rfl; intro K hK; go_simp; refine hK _ ?_; clear hK K
          (with_reducible refine wl_k ?_ ?_); exact rfl; intro K hK; go_simp; refine hK _ ?_; clear hK K
          (with_reducible refine wl_k ?_ ?_); exact rfl; intro K hK; go_simp; refine hK _ ?_; clear hK K
          (with_reducible refine wl_k ?_ ?_); exact rfl; intro K hK; go_simp; refine hK _ ?_; clear hK K
          (with_reducible refine wl_k ?_ ?_); exact rfl; intro K hK; go_simp; refine hK _ ?_; clear hK K
          clear HC
          go_upto_region 7 with (fail)
          apply wp_region_lit
          (with_reducible refine wl_k ?_ ?_); exact rfl; intro K hK; go_simp; refine hK _ ?_; clear hK K
          (with_reducible refine wl_k ?_ ?_); exact rfl; intro K hK; go_simp; refine hK _ ?_; clear hK K
          (with_reducible refine wl_k ?_ ?_); exact rfl; intro K hK; go_simp; refine hK _ ?_; clear hK K
          (with_reducible refine wl_k ?_ ?_); exact rfl; intro K hK; go_simp; refine hK _ ?_; clear hK K
          (with_reducible refine wl_k ?_ ?_); exact rfl; intro K hK; go_simp; refine hK _ ?_; clear hK K
          (with_reducible refine wl_k ?_ ?_); exact rfl; intro K hK; go_simp; refine hK _ ?_; clear hK K
          go_wp2_with fail
          go_ret3
          exact StPost.put (step1_vars HNE.out (HX.out ▸ HXV.out) (HY.out ▸ HYV.out)) (hb.trans (hz.mono hb.size)) (HTR.out.old hz) hsay
        · have e8 : (k8 == 12) = false := beq_eq_false_iff_ne.2 h8
          have HK8 : Hid ((applyTy sol b).kind ≠ 12) := Lib.hid (by rw [← HY.out, HYN.out]; exact h8)
          clear h8
          go_upto_region 5 with (fail)
          apply wp_region_lit
          (with_reducible refine wl_k ?_ ?_); exact rfl; intro K hK; go_simp; refine hK _ ?_; clear hK K
          (first | ((with_reducible apply wl_oneG); exact rfl; exact rfl; first | exact f0 (by with_reducible assumption) | exact f1 (by with_reducible assumption) | exact f2 (by with_reducible assumption) | exact f3 (by with_reducible assumption) | with_reducible assumption | exact g22 (by with_reducible assumption) | exact g25 (by with_reducible assumption)) | ((with_reducible apply wl_rowG); exact rfl; exact rfl; first | with_reducible assumption | exact RowK.now (by with_reducible assumption) | exact f4 (by with_reducible assumption)))
          (with_reducible refine wl_k ?_ ?_); exact rfl; intro K hK; go_simp; refine hK _ ?_; clear hK K
          (with_reducible refine wl_k ?_ ?_); exact rfl; intro K hK; go_simp; refine hK _ ?_; clear hK K
          (with_reducible refine wl_k ?_ ?_); exact rfl; intro K hK; go_simp; refine hK _ ?_; clear hK K
          (first | ((with_reducible apply wl_oneG); exact rfl; exact rfl; first | exact f0 (by with_reducible assumption) | exact f1 (by with_reducible assumption) | exact f2 (by with_reducible assumption) | exact f3 (by with_reducible assumption) | with_reducible assumption | exact g22 (by with_reducible assumption) | exact g25 (by with_reducible assumption)) | ((with_reducible apply wl_rowG); exact rfl; exact rfl; first | with_reducible assumption | exact RowK.now (by with_reducible assumption) | exact f4 (by with_reducible assumption)))
          (with_reducible refine wl_k ?_ ?_); exact rfl; intro K hK; go_simp; refine hK _ ?_; clear hK K
          (with_reducible refine wl_k ?_ ?_); exact rfl; intro K hK; go_simp; refine hK _ ?_; clear hK K
          clear e8
          go_upto_region 8 with (fail)
          apply wp_region_lit
          (with_reducible refine wl_k ?_ ?_); exact rfl; intro K hK; go_simp; refine hK _ ?_; clear hK K
          (first | ((with_reducible apply wl_oneG); exact rfl; exact rfl; first | exact f0 (by with_reducible assumption) | exact f1 (by with_reducible assumption) | exact f2 (by with_reducible assumption) | exact f3 (by with_reducible assumption) | with_reducible assumption | exact g22 (by with_reducible assumption) | exact g25 (by with_reducible assumption)) | ((with_reducible apply wl_rowG); exact rfl; exact rfl; first | with_reducible assumption | exact RowK.now (by with_reducible assumption) | exact f4 (by with_reducible assumption)))
          (with_reducible refine wl_k ?_ ?_); exact rfl; intro K hK; go_simp; refine hK _ ?_; clear hK K
          clear e7
          have hc := putI_any HG.out hm (v := va) (t := y) HVA.out HFY.out w7 _ _ _ _ _ ((HS.out.old hb).old hz) _ (HA8.out.old hz)
          have HC := Lib.hid (hc.mono fun e w' h => h.say)
          clear hc
          go_upto_region 9 with (fail)
          apply wp_region_lit
          (with_reducible refine wl_k ?_ ?_); exact rfl; intro K hK; go_simp; refine hK _ ?_; clear hK K
          (with_reducible refine wl_k ?_ ?_); exact rfl; intro K hK; go_simp; refine hK _ ?_; clear hK K
          (first | ((with_reducible apply wl_oneG); exact rfl; exact rfl; first | exact f0 (by with_reducible assumption) | exact f1 (by with_reducible assumption) | exact f2 (by with_reducible assumption) | exact f3 (by with_reducible assumption) | with_reducible assumption | exact g22 (by with_reducible assumption) | exact g25 (by with_reducible assumption)) | ((with_reducible apply wl_rowG); exact rfl; exact rfl; first | with_reducible assumption | exact RowK.now (by with_reducible assumption) | exact f4 (by with_reducible assumption)))
          (first | ((with_reducible apply wl_oneG); exact rfl; exact rfl; first | exact f0 (by with_reducible assumption) | exact f1 (by with_reducible assumption) | exact f2 (by with_reducible assumption) | exact f3 (by with_reducible assumption) | with_reducible assumption | exact g22 (by with_reducible assumption) | exact g25 (by with_reducible assumption)) | ((with_reducible apply wl_rowG); exact rfl; exact rfl; first | with_reducible assumption | exact RowK.now (by with_reducible assumption) | exact f4 (by with_reducible assumption)))
          (with_reducible refine wl_ck ?_ ?_); exact rfl; intro K hK; go_simp; refine ⟨_, _, ⟨rfl, rfl⟩, hK _ _ ⟨_, HC.out, ?_⟩⟩; clear hK K; rintro e w9 ⟨A5, l5, c5, err, rfl, hsay, hb7⟩; refine ⟨_, rfl, ?_⟩; simp only [Zq]
          clear hp hq
          replace hz := hz.trans (hb7.mono hz.size); clear hb7
          (with_reducible refine wl_k ?_ ?_); exact rfl; intro K hK; go_simp; refine hK _ ?_; clear hK K
          (with_reducible refine wl_k ?_ ?_); exact rfl; intro K hK; go_simp; refine hK _ ?_; clear hK K
          (with_reducible refine wl_k ?_ ?_); exact rfl; intro K hK; go_simp; refine hK _ ?_; clear hK K
          (with_reducible refine wl_k ?_ ?_); exact rfl; intro K hK; go_simp; refine hK _ ?_; clear hK K
          (with_reducible refine wl_k ?_ ?_); exact rfl; intro K hK; go_simp; refine hK _ ?_; clear hK K
          clear HC
          go_upto_region 10 with (fail)
          apply wp_region_lit
          (with_reducible refine wl_k ?_ ?_); exact rfl; intro K hK; go_simp; refine hK _ ?_; clear hK K
          (with_reducible refine wl_k ?_ ?_); exact rfl; intro K hK; go_simp; refine hK _ ?_; clear hK K
          (with_reducible refine wl_k ?_ ?_); exact rfl; intro K hK; go_simp; refine hK _ ?_; clear hK K
          (with_reducible refine wl_k ?_ ?_); exact rfl; intro K hK; go_simp; refine hK _ ?_; clear hK K
          (with_reducible refine wl_k ?_ ?_); exact rfl; intro K hK; go_simp; refine hK _ ?_; clear hK K
          (with_reducible refine wl_k ?_ ?_); exact rfl; intro K hK; go_simp; refine hK _ ?_; clear hK K
          go_wp2_with fail
          go_ret3
          exact StPost.put ((step1_left HNE.out (HX.out ▸ HXV.out) HK8.out).trans (by rw [← HY.out])) (hb.trans (hz.mono hb.size)) (HTR.out.old hz) hsay
      · have e7 : (k7 == 12) = false := beq_eq_false_iff_ne.2 h7
        have HK7 := Lib.hid h7
        have HKX : Hid ((applyTy sol a).kind ≠ 12) := Lib.hid (by rw [← HX.out, HXN.out]; exact h7)
        clear h7
        go_upto_region 5 with (fail)
        apply wp_region_lit
        (with_reducible refine wl_k ?_ ?_); exact rfl; intro K hK; go_simp; refine hK _ ?_; clear hK K
        (first | ((with_reducible apply wl_oneG); exact rfl; exact rfl; first | exact f0 (by with_reducible assumption) | exact f1 (by with_reducible assumption) | exact f2 (by with_reducible assumption) | exact f3 (by with_reducible assumption) | with_reducible assumption | exact g22 (by with_reducible assumption) | exact g25 (by with_reducible assumption)) | ((with_reducible apply wl_rowG); exact rfl; exact rfl; first | with_reducible assumption | exact RowK.now (by with_reducible assumption) | exact f4 (by with_reducible assumption)))
        (with_reducible refine wl_k ?_ ?_); exact rfl; intro K hK; go_simp; refine hK _ ?_; clear hK K
        (with_reducible refine wl_k ?_ ?_); exact rfl; intro K hK; go_simp; refine hK _ ?_; clear hK K
        (first | ((with_reducible refine wl_skipU ?_ ?_ ?_); exact rfl; exact rfl) | ((with_reducible refine wl_skip ?_ ?_); exact rfl; simp only [Zq]))
        (first | ((with_reducible refine wl_skipU ?_ ?_ ?_); exact rfl; exact rfl) | ((with_reducible refine wl_skip ?_ ?_); exact rfl; simp only [Zq]))
        (first | ((with_reducible refine wl_skipU ?_ ?_ ?_); exact rfl; exact rfl) | ((with_reducible refine wl_skip ?_ ?_); exact rfl; simp only [Zq]))
        (with_reducible refine wl_k ?_ ?_); exact rfl; intro K hK; go_simp; refine hK _ ?_; clear hK K
        go_upto_region 8 with (fail)
        apply wp_region_lit
        (with_reducible refine wl_k ?_ ?_); exact rfl; intro K hK; go_simp; refine hK _ ?_; clear hK K
        (first | ((with_reducible apply wl_oneG); exact rfl; exact rfl; first | exact f0 (by with_reducible assumption) | exact f1 (by with_reducible assumption) | exact f2 (by with_reducible assumption) | exact f3 (by with_reducible assumption) | with_reducible assumption | exact g22 (by with_reducible assumption) | exact g25 (by with_reducible assumption)) | ((with_reducible apply wl_rowG); exact rfl; exact rfl; first | with_reducible assumption | exact RowK.now (by with_reducible assumption) | exact f4 (by with_reducible assumption)))
        (with_reducible refine wl_k ?_ ?_); exact rfl; intro K hK; go_simp; refine hK _ ?_; clear hK K
        clear e7
        by_cases h8 : k8 = 12
        · have e8 : (k8 == 12) = true := beq_iff_eq.2 h8
          obtain ⟨vb, hvb, hyv, rfl⟩ := var_of2 HFY.out HYN.out h8
          have HYV := Lib.hid hyv
          have HVB := Lib.hid hvb
          clear h8 hyv hvb
          go_upto_region 11 with (fail)
          apply wp_region_lit
          (with_reducible refine wl_k ?_ ?_); exact rfl; intro K hK; go_simp; refine hK _ ?_; clear hK K
          (first | ((with_reducible apply wl_oneG); exact rfl; exact rfl; first | exact f0 (by with_reducible assumption) | exact f1 (by with_reducible assumption) | exact f2 (by with_reducible assumption) | exact f3 (by with_reducible assumption) | with_reducible assumption | exact g22 (by with_reducible assumption) | exact g25 (by with_reducible assumption)) | ((with_reducible apply wl_rowG); exact rfl; exact rfl; first | with_reducible assumption | exact RowK.now (by with_reducible assumption) | exact f4 (by with_reducible assumption)))
          (with_reducible refine wl_k ?_ ?_); exact rfl; intro K hK; go_simp; refine hK _ ?_; clear hK K
          clear e8
          have hc := putI_any HG.out hm (v := vb) (t := x) HVB.out HFX.out w7 _ _ _ _ _ ((HS.out.old hb).old hz) _ (HA7.out.old hz)
          have HC := Lib.hid (hc.mono fun e w' h => h.say)
          clear hc
          go_upto_region 12 with (fail)
          apply wp_region_lit
          (with_reducible refine wl_k ?_ ?_); exact rfl; intro K hK; go_simp; refine hK _ ?_; clear hK K
          (with_reducible refine wl_k ?_ ?_); exact rfl; intro K hK; go_simp; refine hK _ ?_; clear hK K
          (first | ((with_reducible apply wl_oneG); exact rfl; exact rfl; first | exact f0 (by with_reducible assumption) | exact f1 (by with_reducible assumption) | exact f2 (by with_reducible assumption) | exact f3 (by with_reducible assumption) | with_reducible assumption | exact g22 (by with_reducible assumption) | exact g25 (by with_reducible assumption)) | ((with_reducible apply wl_rowG); exact rfl; exact rfl; first | with_reducible assumption | exact RowK.now (by with_reducible assumption) | exact f4 (by with_reducible assumption)))
          (first | ((with_reducible apply wl_oneG); exact rfl; exact rfl; first | exact f0 (by with_reducible assumption) | exact f1 (by with_reducible assumption) | exact f2 (by with_reducible assumption) | exact f3 (by with_reducible assumption) | with_reducible assumption | exact g22 (by with_reducible assumption) | exact g25 (by with_reducible assumption)) | ((with_reducible apply wl_rowG); exact rfl; exact rfl; first | with_reducible assumption | exact RowK.now (by with_reducible assumption) | exact f4 (by with_reducible assumption)))
          (with_reducible refine wl_ck ?_ ?_); exact rfl; intro K hK; go_simp; refine ⟨_, _, ⟨rfl, rfl⟩, hK _ _ ⟨_, HC.out, ?_⟩⟩; clear hK K; rintro e w9 ⟨A5, l5, c5, err, rfl, hsay, hb7⟩; refine ⟨_, rfl, ?_⟩; simp only [Zq]
          clear hp hq
          replace hz := hz.trans (hb7.mono hz.size); clear hb7
          (with_reducible refine wl_k ?_ ?_); exact rfl; intro K hK; go_simp; refine hK _ ?_; clear hK K
          (with_reducible refine wl_k ?_ ?_); exact rfl; intro K hK; go_simp; refine hK _ ?_; clear hK K
          (with_reducible refine wl_k ?_ ?_); exact rfl; intro K hK; go_simp; refine hK _ ?_; clear hK K
          (with_reducible refine wl_k ?_ ?_); exact rfl; intro K hK; go_simp; refine hK _ ?_; clear hK K
          (with_reducible refine wl_k ?_ ?_); exact rfl; intro K hK; go_simp; refine hK _ ?_; clear hK K
          clear HC
          go_upto_region 13 with (fail)
          apply wp_region_lit
          (with_reducible refine wl_k ?_ ?_); exact rfl; intro K hK; go_simp; refine hK _ ?_; clear hK K
          (with_reducible refine wl_k ?_ ?_); exact rfl; intro K hK; go_simp; refine hK _ ?_; clear hK K
          (with_reducible refine wl_k ?_ ?_); exact rfl; intro K hK; go_simp; refine hK _ ?_; clear hK K
          (with_reducible refine wl_k ?_ ?_); exact rfl; intro K hK; go_simp; refine hK _ ?_; clear hK K
          (with_reducible refine wl_k ?_ ?_); exact rfl; intro K hK; go_simp; refine hK _ ?_; clear hK K
          (with_reducible refine wl_k ?_ ?_); exact rfl; intro K hK; go_simp; refine hK _ ?_; clear hK K
          go_wp2_with fail
          go_ret3
          exact StPost.put ((step1_right HNE.out (HY.out ▸ HYV.out) HKX.out).trans (by rw [← HX.out])) (hb.trans (hz.mono hb.size)) (HTR.out.old hz) hsay
        · have e8 : (k8 == 12) = false := beq_eq_false_iff_ne.2 h8
          have HK8 := Lib.hid h8
          clear h8
          go_upto_region 11 with (fail)
          apply wp_region_lit
          (with_reducible refine wl_k ?_ ?_); exact rfl; intro K hK; go_simp; refine hK _ ?_; clear hK K
          (first | ((with_reducible apply wl_oneG); exact rfl; exact rfl; first | exact f0 (by with_reducible assumption) | exact f1 (by with_reducible assumption) | exact f2 (by with_reducible assumption) | exact f3 (by with_reducible assumption) | with_reducible assumption | exact g22 (by with_reducible assumption) | exact g25 (by with_reducible assumption)) | ((with_reducible apply wl_rowG); exact rfl; exact rfl; first | with_reducible assumption | exact RowK.now (by with_reducible assumption) | exact f4 (by with_reducible assumption)))
          (with_reducible refine wl_k ?_ ?_); exact rfl; intro K hK; go_simp; refine hK _ ?_; clear hK K
          clear e8
          replace hb := hb.trans (hz.mono hb.size)
          have HLX := Lib.hid HU7.out.len
          have HLY := Lib.hid HU8.out.len
          by_cases h1 : k7 = k8
          · subst h1
            by_cases h2 : s7 = s8
            · subst h2
              by_cases h3 : n7 = n8
              · subst h3
                by_cases h4 : l7 = l8
                · subst h4
                  have HST : Hid (step1 a b sol = .ok (ts7.zip ts8, sol)) := Lib.hid (step1_parts HNE.out (HX.out ▸ HXN.out) (HY.out ▸ HYN.out) HK7.out (by rw [HLX.out, HLY.out]))
                  have HN7 : Hid (l7 ≤ 3200) := Lib.hid (by
                    have h1 := HNX.out.1
                    rw [HXN.out] at h1
                    simp only [Ty.nodes] at h1
                    have h2 := len_nodesL ts7
                    have h3 := HLX.out
                    omega)
                  go_upto_region 14 with (fail)
                  apply wp_region_lit
                  (with_reducible refine wl_k ?_ ?_); exact rfl; intro K hK; go_simp; refine hK _ ?_; clear hK K
                  (first | ((with_reducible apply wl_oneG); exact rfl; exact rfl; first | exact f0 (by with_reducible assumption) | exact f1 (by with_reducible assumption) | exact f2 (by with_reducible assumption) | exact f3 (by with_reducible assumption) | with_reducible assumption | exact g22 (by with_reducible assumption) | exact g25 (by with_reducible assumption)) | ((with_reducible apply wl_rowG); exact rfl; exact rfl; first | with_reducible assumption | exact RowK.now (by with_reducible assumption) | exact f4 (by with_reducible assumption)))
                  (with_reducible refine wl_k ?_ ?_); exact rfl; intro K hK; go_simp; refine hK _ ?_; clear hK K
                  (first | ((with_reducible apply wl_oneG); exact rfl; exact rfl; first | exact f0 (by with_reducible assumption) | exact f1 (by with_reducible assumption) | exact f2 (by with_reducible assumption) | exact f3 (by with_reducible assumption) | with_reducible assumption | exact g22 (by with_reducible assumption) | exact g25 (by with_reducible assumption)) | ((with_reducible apply wl_rowG); exact rfl; exact rfl; first | with_reducible assumption | exact RowK.now (by with_reducible assumption) | exact f4 (by with_reducible assumption)))
                  (with_reducible refine wl_k ?_ ?_); exact rfl; intro K hK; go_simp; refine hK _ ?_; clear hK K
                  (with_reducible refine wl_k ?_ ?_); exact rfl; intro K hK; go_simp; refine hK _ ?_; clear hK K
                  (with_reducible refine wl_k ?_ ?_); exact rfl; intro K hK; go_simp; refine hK _ ?_; clear hK K
                  (first | ((with_reducible apply wl_oneG); exact rfl; exact rfl; first | exact f0 (by with_reducible assumption) | exact f1 (by with_reducible assumption) | exact f2 (by with_reducible assumption) | exact f3 (by with_reducible assumption) | with_reducible assumption | exact g22 (by with_reducible assumption) | exact g25 (by with_reducible assumption)) | ((with_reducible apply wl_rowG); exact rfl; exact rfl; first | with_reducible assumption | exact RowK.now (by with_reducible assumption) | exact f4 (by with_reducible assumption)))
                  (with_reducible refine wl_k ?_ ?_); exact rfl; intro K hK; go_simp; refine hK _ ?_; clear hK K
                  (first | ((with_reducible apply wl_oneG); exact rfl; exact rfl; first | exact f0 (by with_reducible assumption) | exact f1 (by with_reducible assumption) | exact f2 (by with_reducible assumption) | exact f3 (by with_reducible assumption) | with_reducible assumption | exact g22 (by with_reducible assumption) | exact g25 (by with_reducible assumption)) | ((with_reducible apply wl_rowG); exact rfl; exact rfl; first | with_reducible assumption | exact RowK.now (by with_reducible assumption) | exact f4 (by with_reducible assumption)))
                  (with_reducible refine wl_k ?_ ?_); exact rfl; intro K hK; go_simp; refine hK _ ?_; clear hK K
                  (with_reducible refine wl_k ?_ ?_); exact rfl; intro K hK; go_simp; refine hK _ ?_; clear hK K
                  (with_reducible refine wl_k ?_ ?_); exact rfl; intro K hK; go_simp; refine hK _ ?_; clear hK K
                  (with_reducible refine wl_k ?_ ?_); exact rfl; intro K hK; go_simp; refine hK _ ?_; clear hK K
                  (first | ((with_reducible apply wl_oneG); exact rfl; exact rfl; first | exact f0 (by with_reducible assumption) | exact f1 (by with_reducible assumption) | exact f2 (by with_reducible assumption) | exact f3 (by with_reducible assumption) | with_reducible assumption | exact g22 (by with_reducible assumption) | exact g25 (by with_reducible assumption)) | ((with_reducible apply wl_rowG); exact rfl; exact rfl; first | with_reducible assumption | exact RowK.now (by with_reducible assumption) | exact f4 (by with_reducible assumption)))
                  (with_reducible refine wl_k ?_ ?_); exact rfl; intro K hK; go_simp; refine hK _ ?_; clear hK K
                  (first | ((with_reducible apply wl_oneG); exact rfl; exact rfl; first | exact f0 (by with_reducible assumption) | exact f1 (by with_reducible assumption) | exact f2 (by with_reducible assumption) | exact f3 (by with_reducible assumption) | with_reducible assumption | exact g22 (by with_reducible assumption) | exact g25 (by with_reducible assumption)) | ((with_reducible apply wl_rowG); exact rfl; exact rfl; first | with_reducible assumption | exact RowK.now (by with_reducible assumption) | exact f4 (by with_reducible assumption)))
                  (with_reducible refine wl_k ?_ ?_); exact rfl; intro K hK; go_simp; refine hK _ ?_; clear hK K
                  (with_reducible refine wl_k ?_ ?_); exact rfl; intro K hK; go_simp; refine hK _ ?_; clear hK K
                  (with_reducible refine wl_k ?_ ?_); exact rfl; intro K hK; go_simp; refine hK _ ?_; clear hK K
                  (with_reducible refine wl_k ?_ ?_); exact rfl; intro K hK; go_simp; refine hK _ ?_; clear hK K
                  (first | ((with_reducible apply wl_oneG); exact rfl; exact rfl; first | exact f0 (by with_reducible assumption) | exact f1 (by with_reducible assumption) | exact f2 (by with_reducible assumption) | exact f3 (by with_reducible assumption) | with_reducible assumption | exact g22 (by with_reducible assumption) | exact g25 (by with_reducible assumption)) | ((with_reducible apply wl_rowG); exact rfl; exact rfl; first | with_reducible assumption | exact RowK.now (by with_reducible assumption) | exact f4 (by with_reducible assumption)))
                  (with_reducible refine wl_k ?_ ?_); exact rfl; intro K hK; go_simp; refine hK _ ?_; clear hK K
                  (with_reducible refine wl_k ?_ ?_); exact rfl; intro K hK; go_simp; refine hK _ ?_; clear hK K
                  (first | ((with_reducible apply wl_oneG); exact rfl; exact rfl; first | exact f0 (by with_reducible assumption) | exact f1 (by with_reducible assumption) | exact f2 (by with_reducible assumption) | exact f3 (by with_reducible assumption) | with_reducible assumption | exact g22 (by with_reducible assumption) | exact g25 (by with_reducible assumption)) | ((with_reducible apply wl_rowG); exact rfl; exact rfl; first | with_reducible assumption | exact RowK.now (by with_reducible assumption) | exact f4 (by with_reducible assumption)))
                  (with_reducible refine wl_k ?_ ?_); exact rfl; intro K hK; go_simp; refine hK _ ?_; clear hK K
                  (with_reducible refine wl_k ?_ ?_); exact rfl; intro K hK; go_simp; refine hK _ ?_; clear hK K
                  (with_reducible refine wl_k ?_ ?_); exact rfl; intro K hK; go_simp; refine hK _ ?_; clear hK K
                  go_upto_region 16 with (fail)
                  apply wp_region_lit
                  (with_reducible refine wl_k ?_ ?_); exact rfl; intro K hK; go_simp; refine hK _ ?_; clear hK K
                  obtain ⟨B, hB⟩ : ∃ B, B = w7.heap.size := ⟨_, rfl⟩
                  have HBB := Lib.hid hB
                  have HV7 : Hid (TysAt w7 (fun b => b < B) ts7 A7 l7 c7) := Lib.hid ((HU7.out.old hz).lowT.weak fun b h => by have := h.2; omega)
                  have HV8 : Hid (TysAt w7 (fun b => b < B) ts8 A8 l7 c8) := Lib.hid ((HU8.out.old hz).lowT.weak fun b h => by have := h.2; omega)
                  have HVR : Hid (EqsAt w7 (fun b => b < B) rest A9 l9 c9) := Lib.hid ((HTR.out.old hz).low.mono (fun b h => by have := h.2; omega) fun _ _ _ => rfl)
                  have hy : Keep (fun b => B ≤ b) w7 w7 := Keep.refl _ _
                  have HBW := Lib.hid hb
                  have HPQ : Hid (p < B ∧ q < B) := Lib.hid (by rw [hB]; exact ⟨heap_lt hp, heap_lt hq⟩)
                  have HO0 := Lib.hid (own_nil w7 B)
                  obtain ⟨ps, hps⟩ : ∃ ps, ps = ts7.zip ts8 := ⟨_, rfl⟩
                  have HPS := Lib.hid hps
                  have HPL : Hid (ps.length = l7) := Lib.hid (by rw [hps, List.length_zip, HLX.out, HLY.out, Nat.min_self])
                  have HN9 : Hid (l9 ≤ 3200) := Lib.hid (by have := HNX.out.2.2; have := HL9.out; omega)
                  clear hz hb hB hps
                  go_wp2_with fail
                  go_loopw [16, 17] (fun sv i wr => ∃ (j : Nat) (z : Value), z = sv ∧ j ≤ l7 ∧ i = .int .i64 (j : Int) ∧ Hid (OwnE wr B sv (ps.take j)) ∧ Keep (fun b => B ≤ b) w7 wr ∧ wr.heap[p]? = some (.cells (cell4 k7 s7 n7 A7 l7 c7) 24 (0, 0)) ∧ wr.heap[q]? = some (.cells (cell4 k7 s7 n7 A8 l7 c8) 24 (0, 0))) (fun _ i _ => l7 - (intOf i).toNat)
                  case atStart => exact ⟨0, _, rfl, by omega, rfl, HO0, hy, hp, hq⟩
                  case round =>
                    clear HO0 hy hp hq
                    obtain ⟨j, sv, rfl, hj, rfl, HO, hy, hp, hq⟩ := hrel
                    obtain ⟨wo, rfl⟩ : ∃ wo, wo = wr := ⟨_, rfl⟩
                    go_upto_region 18 with (fail)
                    by_cases hlt : j < l7
                    · have hltI : (j : Int) < (l7 : Int) := by omega
                      obtain ⟨b1, o1, t, row1, rfl, -, ht, -⟩ := HV7.out.get hlt
                      obtain ⟨b2, o2, u, row2, rfl, -, hu, -⟩ := HV8.out.get hlt
                      obtain ⟨rowt, hrt, htt⟩ := HV7.out.rowC ht (C := fun b => B ≤ b) (fun b (h : b < B) e => by omega)
                      obtain ⟨rowu, hru, huu⟩ := HV8.out.rowC hu (C := fun b => B ≤ b) (fun b (h : b < B) e => by omega)
                      obtain ⟨k1, s1, n1, B1, m1, e1, tz1, hz1, rfl, -⟩ := htt.parts
                      obtain ⟨k2, s2, n2, B2, m2, e2, tz2, hz2, rfl, -⟩ := huu.parts
                      have HRT := Lib.hid hrt
                      have HRU := Lib.hid hru
                      have HTT := Lib.hid htt
                      have HUU := Lib.hid huu
                      have HTK : Hid (ps.take (j + 1) = ps.take j ++ [(t, u)]) := Lib.hid (by rw [List.take_add_one, HPS.out, zip_get ht hu]; rfl)
                      clear hrt hru htt huu hz1 hz2 ht hu
                      apply wp_region_lit
                      (with_reducible refine wl_k ?_ ?_); exact rfl; intro K hK; go_simp; refine hK _ ?_; clear hK K
                      (with_reducible refine wl_k ?_ ?_); exact rfl; intro K hK; go_simp; refine hK _ ?_; clear hK K
                      (first | ((with_reducible apply wl_oneG); exact rfl; exact rfl; first | exact f0 (by with_reducible assumption) | exact f1 (by with_reducible assumption) | exact f2 (by with_reducible assumption) | exact f3 (by with_reducible assumption) | with_reducible assumption | exact g22 (by with_reducible assumption) | exact g25 (by with_reducible assumption)) | ((with_reducible apply wl_rowG); exact rfl; exact rfl; first | with_reducible assumption | exact RowK.now (by with_reducible assumption) | exact f4 (by with_reducible assumption)))
                      (with_reducible refine wl_k ?_ ?_); exact rfl; intro K hK; go_simp; refine hK _ ?_; clear hK K
                      (with_reducible refine wl_k ?_ ?_); exact rfl; intro K hK; go_simp; refine hK _ ?_; clear hK K
                      go_upto_region 20 with (fail)
                      refine wp_region_held_drew (S := Keep (fun b => B ≤ b) w7) mixed (hy.trans (fun b h => .inl h) (Keep.drew _ _)) (fun hS => ?_)
                      refine hk3 (i := 0) rfl (by kernel_rfl) Zh hS rfl (fun K hK => ?_); go_simp; refine hK _ ?_; clear hK K; try simp only [Zq]
                      refine hk3 (i := 1) rfl (by kernel_rfl) Zh hS rfl (fun K hK => ?_); go_simp; refine hK _ ?_; clear hK K; try simp only [Zq]
                      refine hv3 (i := 2) rfl (by kernel_rfl) Zg hS rfl (fun w' hw' => ex_one rfl (f3 (lookK hw' hy HPQ.out.1 hp (Nat.le_of_eq HBB.out)))) ?_; try simp only [Zy]
                      refine hk3 (i := 3) rfl (by kernel_rfl) Zh hS rfl (fun K hK => ?_); go_simp; refine hK _ ?_; clear hK K; try simp only [Zq]
                      refine hk3 (i := 4) rfl (by kernel_rfl) Zh hS rfl (fun K hK => ?_); go_simp; refine hK _ ?_; clear hK K; try simp only [Zq]
                      refine hv3 (i := 5) rfl (by kernel_rfl) Zg hS rfl (fun w' hw' => ex_row rfl (HRT.out w' hw')) ?_; try simp only [Zy]
                      refine hk3 (i := 6) rfl (by kernel_rfl) Zh hS rfl (fun K hK => ?_); go_simp; refine hK _ ?_; clear hK K; try simp only [Zq]
                      refine hv3 (i := 7) rfl (by kernel_rfl) Zg hS rfl (fun w' hw' => ex_one rfl (f3 (lookK hw' hy HPQ.out.2 hq (Nat.le_of_eq HBB.out)))) ?_; try simp only [Zy]
                      refine hk3 (i := 8) rfl (by kernel_rfl) Zh hS rfl (fun K hK => ?_); go_simp; refine hK _ ?_; clear hK K; try simp only [Zq]
                      refine hk3 (i := 9) rfl (by kernel_rfl) Zh hS rfl (fun K hK => ?_); go_simp; refine hK _ ?_; clear hK K; try simp only [Zq]
                      refine hv3 (i := 10) rfl (by kernel_rfl) Zg hS rfl (fun w' hw' => ex_row rfl (HRU.out w' hw')) ?_; try simp only [Zy]
                      refine hv3 (i := 11) rfl (by kernel_rfl) Zg hS rfl (fun w' _ => ex_build 58 _ rfl (L := [(0, .agg (cell4 k1 s1 n1 B1 m1 e1)), (1, .agg (cell4 k2 s2 n2 B2 m2 e2))]) rfl (built58w k1 s1 n1 B1 m1 e1 k2 s2 n2 B2 m2 e2)) ?_; try simp only [Zy]
                      refine ha_bs1 (i := 12) (by kernel_rfl) rfl rfl _ rfl rfl (fun W hW => hS.trans (fun b h => .inl h) (Keep.of hW)) ?_
                      intro X1 g hbn hlg hg hS1
                      have HO1 := Lib.hid ((HO.out.old (Below.refl wo.heap.size wo).drew).old hbn)
                      have HSR := Lib.hid (src_one (B := B) hg (HTT.out.keep hS1 fun b (h : b < B) e => by omega) (HUU.out.keep hS1 fun b (h : b < B) e => by omega))
                      clear hbn hlg hg
                      try simp only [Zy]
                      refine ha_catE (i := 13) (v := sv) (by kernel_rfl) rfl rfl _ _ rfl rfl rfl HO1.out HSR.out rfl (fun e => by cases e) (by have h1 := List.length_take_le j ps; have := HN7.out; simp only [List.length_singleton]; omega) (by have := hS1.size; have := HBB.out; omega) (fun w' hk => hS1.trans (fun b e => .inl (HO1.out.lt b e).1) hk) ?_
                      intro v9 X2 hown9 hk9 hv9 hS2
                      rw [← HTK.out] at hown9
                      have HO2 := Lib.hid hown9
                      clear hown9 hk9 hv9 HO1 HSR
                      try simp only [Zy]
                      clear hS hS1
                      have hS := hS2
                      refine hk3 (i := 14) rfl (by kernel_rfl) Zh hS rfl (fun K hK => ?_); go_simp; refine hK _ ?_; clear hK K; try simp only [Zq]
                      refine wpAnyH_done (by kernel_rfl) ?_ _
                      have hp2 := lookK hS2 hy HPQ.out.1 hp (Nat.le_of_eq HBB.out)
                      have hq2 := lookK hS2 hy HPQ.out.2 hq (Nat.le_of_eq HBB.out)
                      clear hp hq hS hy HO HTK HRT HRU HTT HUU
                      go_wp2_with fail
                      go_roundw
                      case rel => exact ⟨j + 1, _, rfl, by omega, by go_num, HO2, hS2, hp2, hq2⟩
                      case measure => simp [intOf]; omega
                    · have hltI : ¬ (j : Int) < (l7 : Int) := by omega
                      apply wp_region_lit
                      (with_reducible refine wl_k ?_ ?_); exact rfl; intro K hK; go_simp; refine hK _ ?_; clear hK K
                      (with_reducible refine wl_k ?_ ?_); exact rfl; intro K hK; go_simp; refine hK _ ?_; clear hK K
                      (first | ((with_reducible apply wl_oneG); exact rfl; exact rfl; first | exact f0 (by with_reducible assumption) | exact f1 (by with_reducible assumption) | exact f2 (by with_reducible assumption) | exact f3 (by with_reducible assumption) | with_reducible assumption | exact g22 (by with_reducible assumption) | exact g25 (by with_reducible assumption)) | ((with_reducible apply wl_rowG); exact rfl; exact rfl; first | with_reducible assumption | exact RowK.now (by with_reducible assumption) | exact f4 (by with_reducible assumption)))
                      (with_reducible refine wl_k ?_ ?_); exact rfl; intro K hK; go_simp; refine hK _ ?_; clear hK K
                      (with_reducible refine wl_k ?_ ?_); exact rfl; intro K hK; go_simp; refine hK _ ?_; clear hK K
                      have HO1 : Hid (OwnE wo B sv (ps ++ rest.take 0)) := Lib.hid (by have := HO.out; rwa [List.take_of_length_le (by rw [HPL.out]; omega), ← List.append_nil ps] at this)
                      clear hltI hlt hp hq HO hj
                      go_upto_region 21 with (fail)
                      apply wp_region_lit
                      (with_reducible refine wl_k ?_ ?_); exact rfl; intro K hK; go_simp; refine hK _ ?_; clear hK K
                      go_wp2_with fail
                      go_loopw [16, 18] (fun sv i wr => ∃ (j : Nat) (z : Value), z = sv ∧ j ≤ l9 ∧ i = .int .i64 (j : Int) ∧ Hid (OwnE wr B sv (ps ++ rest.take j)) ∧ Keep (fun b => B ≤ b) w7 wr) (fun _ i _ => l9 - (intOf i).toNat)
                      case atStart => exact ⟨0, _, rfl, by omega, rfl, HO1, hy⟩
                      case round =>
                        clear HO1 hy
                        obtain ⟨j, sv, rfl, hj, rfl, HO, hy⟩ := hrel
                        obtain ⟨wo, rfl⟩ : ∃ wo, wo = wr := ⟨_, rfl⟩
                        go_upto_region 22 with (fail)
                        by_cases hlt : j < l9
                        · have hltI : (j : Int) < (l9 : Int) := by omega
                          obtain ⟨t, u, hi⟩ := HVR.out.ex hlt
                          obtain ⟨b1, o1, k1, s1, n1, B1, m1, e1, k2, s2, n2, B2, m2, e2, rfl, hr8, -, -, ht, hu⟩ := HVR.out.get hi (C := fun b => B ≤ b) (fun b h e => by omega)
                          have HR8 := Lib.hid (hr8 wo hy)
                          have HTT := Lib.hid ht
                          have HUU := Lib.hid hu
                          have HTK : Hid (ps ++ rest.take (j + 1) = (ps ++ rest.take j) ++ [(t, u)]) := Lib.hid (by rw [List.take_add_one, hi, List.append_assoc]; rfl)
                          clear hr8 ht hu hi
                          apply wp_region_lit
                          (with_reducible refine wl_k ?_ ?_); exact rfl; intro K hK; go_simp; refine hK _ ?_; clear hK K
                          (with_reducible refine wl_k ?_ ?_); exact rfl; intro K hK; go_simp; refine hK _ ?_; clear hK K
                          (with_reducible refine wl_k ?_ ?_); exact rfl; intro K hK; go_simp; refine hK _ ?_; clear hK K
                          (with_reducible refine wl_k ?_ ?_); exact rfl; intro K hK; go_simp; refine hK _ ?_; clear hK K
                          go_upto_region 24 with (fail)
                          apply wp_region_lit
                          (with_reducible refine wl_k ?_ ?_); exact rfl; intro K hK; go_simp; refine hK _ ?_; clear hK K
                          (with_reducible refine wl_k ?_ ?_); exact rfl; intro K hK; go_simp; refine hK _ ?_; clear hK K
                          (with_reducible refine wl_k ?_ ?_); exact rfl; intro K hK; go_simp; refine hK _ ?_; clear hK K
                          (with_reducible refine wl_k ?_ ?_); exact rfl; intro K hK; go_simp; refine hK _ ?_; clear hK K
                          ((with_reducible apply wl_rowG); exact rfl; exact rfl; exact HR8.out)
                          (with_reducible refine wl_bs1 rfl ?_); intro X1 g hbn hlg hg
                          have hS1 : Keep (fun b => B ≤ b) w7 X1 := hy.trans (fun b h => .inl h) (Keep.of hbn)
                          have HO1 := Lib.hid (HO.out.old hbn)
                          have HSR := Lib.hid (src_one (B := B) hg (HTT.out.keep hS1 fun b (h : b < B) e => by omega) (HUU.out.keep hS1 fun b (h : b < B) e => by omega))
                          clear hbn hlg hg
                          simp only [Zq]
                          refine wl_catE (v := sv) rfl _ _ rfl rfl rfl HO1.out HSR.out rfl (fun e => by cases e) (by have h1 := List.length_take_le j rest; have := HN7.out; have := HN9.out; have := HPL.out; simp only [List.length_singleton, List.length_append]; omega) (by have := hS1.size; have := HBB.out; omega) ?_
                          intro v9 X2 hown9 hk9 hv9
                          have hS2 : Keep (fun b => B ≤ b) w7 X2 := hS1.trans (fun b e => .inl (HO1.out.lt b e).1) hk9
                          rw [← HTK.out] at hown9
                          have HO2 := Lib.hid hown9
                          clear hown9 hk9 hv9 HO1 HSR hS1
                          simp only [Zq]
                          (with_reducible refine wl_k ?_ ?_); exact rfl; intro K hK; go_simp; refine hK _ ?_; clear hK K
                          clear hy HO HTK HR8 HTT HUU
                          go_wp2_with fail
                          go_roundw
                          case rel => exact ⟨j + 1, _, rfl, by omega, by go_num, HO2, hS2⟩
                          case measure => simp [intOf]; omega
                        · have hltI : ¬ (j : Int) < (l9 : Int) := by omega
                          apply wp_region_lit
                          (with_reducible refine wl_k ?_ ?_); exact rfl; intro K hK; go_simp; refine hK _ ?_; clear hK K
                          (with_reducible refine wl_k ?_ ?_); exact rfl; intro K hK; go_simp; refine hK _ ?_; clear hK K
                          (with_reducible refine wl_k ?_ ?_); exact rfl; intro K hK; go_simp; refine hK _ ?_; clear hK K
                          (with_reducible refine wl_k ?_ ?_); exact rfl; intro K hK; go_simp; refine hK _ ?_; clear hK K
                          have HO1 : Hid (OwnE wo B sv (ps ++ rest)) := Lib.hid (by have := HO.out; rwa [List.take_of_length_le (by rw [HL9.out]; omega)] at this)
                          clear hltI hlt HO
                          obtain ⟨A5, c5, rfl, hsrc, hcc, hmm, -⟩ := HO1.out.src
                          have HFIN : Hid (EqsAt wo Any (ps ++ rest) A5 (ps.length + rest.length) c5) := Lib.hid (by have := hsrc.eqs rfl hcc hmm; rwa [List.length_append] at this)
                          have HBF := Lib.hid (Below.keep HBW.out hy (fun b (h : B ≤ b) => by have := HBB.out; have := HBW.out.size; omega))
                          clear hsrc hcc hmm HO1 hy
                          go_upto_region 25 with (fail)
                          apply wp_region_lit
                          (with_reducible refine wl_k ?_ ?_); exact rfl; intro K hK; go_simp; refine hK _ ?_; clear hK K
                          (with_reducible refine wl_k ?_ ?_); exact rfl; intro K hK; go_simp; refine hK _ ?_; clear hK K
                          (with_reducible refine wl_k ?_ ?_); exact rfl; intro K hK; go_simp; refine hK _ ?_; clear hK K
                          (with_reducible refine wl_k ?_ ?_); exact rfl; intro K hK; go_simp; refine hK _ ?_; clear hK K
                          (with_reducible refine wl_k ?_ ?_); exact rfl; intro K hK; go_simp; refine hK _ ?_; clear hK K
                          go_wp2_with fail
                          go_ret3
                          exact ⟨HBF.out, _, _, _, _, _, _, _, rfl, .inr ⟨rfl, ps, sol, by rw [HPS.out]; exact HST.out, HFIN.out, HS.out.old HBF.out⟩⟩
                · have e4 : ((l7 : Int) != (l8 : Int)) = true := by simp; omega
                  have HD4 : Hid (ts7.length ≠ ts8.length) := Lib.hid (by rw [HLX.out, HLY.out]; exact h4)
                  clear h4
                  go_upto_region 14 with (fail)
                  apply wp_region_lit
                  (with_reducible refine wl_k ?_ ?_); exact rfl; intro K hK; go_simp; refine hK _ ?_; clear hK K
                  (first | ((with_reducible apply wl_oneG); exact rfl; exact rfl; first | exact f0 (by with_reducible assumption) | exact f1 (by with_reducible assumption) | exact f2 (by with_reducible assumption) | exact f3 (by with_reducible assumption) | with_reducible assumption | exact g22 (by with_reducible assumption) | exact g25 (by with_reducible assumption)) | ((with_reducible apply wl_rowG); exact rfl; exact rfl; first | with_reducible assumption | exact RowK.now (by with_reducible assumption) | exact f4 (by with_reducible assumption)))
                  (with_reducible refine wl_k ?_ ?_); exact rfl; intro K hK; go_simp; refine hK _ ?_; clear hK K
                  (first | ((with_reducible apply wl_oneG); exact rfl; exact rfl; first | exact f0 (by with_reducible assumption) | exact f1 (by with_reducible assumption) | exact f2 (by with_reducible assumption) | exact f3 (by with_reducible assumption) | with_reducible assumption | exact g22 (by with_reducible assumption) | exact g25 (by with_reducible assumption)) | ((with_reducible apply wl_rowG); exact rfl; exact rfl; first | with_reducible assumption | exact RowK.now (by with_reducible assumption) | exact f4 (by with_reducible assumption)))
                  (with_reducible refine wl_k ?_ ?_); exact rfl; intro K hK; go_simp; refine hK _ ?_; clear hK K
                  (with_reducible refine wl_k ?_ ?_); exact rfl; intro K hK; go_simp; refine hK _ ?_; clear hK K
                  (with_reducible refine wl_k ?_ ?_); exact rfl; intro K hK; go_simp; refine hK _ ?_; clear hK K
                  (first | ((with_reducible apply wl_oneG); exact rfl; exact rfl; first | exact f0 (by with_reducible assumption) | exact f1 (by with_reducible assumption) | exact f2 (by with_reducible assumption) | exact f3 (by with_reducible assumption) | with_reducible assumption | exact g22 (by with_reducible assumption) | exact g25 (by with_reducible assumption)) | ((with_reducible apply wl_rowG); exact rfl; exact rfl; first | with_reducible assumption | exact RowK.now (by with_reducible assumption) | exact f4 (by with_reducible assumption)))
                  (with_reducible refine wl_k ?_ ?_); exact rfl; intro K hK; go_simp; refine hK _ ?_; clear hK K
                  (first | ((with_reducible apply wl_oneG); exact rfl; exact rfl; first | exact f0 (by with_reducible assumption) | exact f1 (by with_reducible assumption) | exact f2 (by with_reducible assumption) | exact f3 (by with_reducible assumption) | with_reducible assumption | exact g22 (by with_reducible assumption) | exact g25 (by with_reducible assumption)) | ((with_reducible apply wl_rowG); exact rfl; exact rfl; first | with_reducible assumption | exact RowK.now (by with_reducible assumption) | exact f4 (by with_reducible assumption)))
                  (with_reducible refine wl_k ?_ ?_); exact rfl; intro K hK; go_simp; refine hK _ ?_; clear hK K
                  (with_reducible refine wl_k ?_ ?_); exact rfl; intro K hK; go_simp; refine hK _ ?_; clear hK K
                  (with_reducible refine wl_k ?_ ?_); exact rfl; intro K hK; go_simp; refine hK _ ?_; clear hK K
                  (with_reducible refine wl_k ?_ ?_); exact rfl; intro K hK; go_simp; refine hK _ ?_; clear hK K
                  (first | ((with_reducible apply wl_oneG); exact rfl; exact rfl; first | exact f0 (by with_reducible assumption) | exact f1 (by with_reducible assumption) | exact f2 (by with_reducible assumption) | exact f3 (by with_reducible assumption) | with_reducible assumption | exact g22 (by with_reducible assumption) | exact g25 (by with_reducible assumption)) | ((with_reducible apply wl_rowG); exact rfl; exact rfl; first | with_reducible assumption | exact RowK.now (by with_reducible assumption) | exact f4 (by with_reducible assumption)))
                  (with_reducible refine wl_k ?_ ?_); exact rfl; intro K hK; go_simp; refine hK _ ?_; clear hK K
                  (first | ((with_reducible apply wl_oneG); exact rfl; exact rfl; first | exact f0 (by with_reducible assumption) | exact f1 (by with_reducible assumption) | exact f2 (by with_reducible assumption) | exact f3 (by with_reducible assumption) | with_reducible assumption | exact g22 (by with_reducible assumption) | exact g25 (by with_reducible assumption)) | ((with_reducible apply wl_rowG); exact rfl; exact rfl; first | with_reducible assumption | exact RowK.now (by with_reducible assumption) | exact f4 (by with_reducible assumption)))
                  (with_reducible refine wl_k ?_ ?_); exact rfl; intro K hK; go_simp; refine hK _ ?_; clear hK K
                  (with_reducible refine wl_k ?_ ?_); exact rfl; intro K hK; go_simp; refine hK _ ?_; clear hK K
                  (with_reducible refine wl_k ?_ ?_); exact rfl; intro K hK; go_simp; refine hK _ ?_; clear hK K
                  (with_reducible refine wl_k ?_ ?_); exact rfl; intro K hK; go_simp; refine hK _ ?_; clear hK K
                  (first | ((with_reducible apply wl_oneG); exact rfl; exact rfl; first | exact f0 (by with_reducible assumption) | exact f1 (by with_reducible assumption) | exact f2 (by with_reducible assumption) | exact f3 (by with_reducible assumption) | with_reducible assumption | exact g22 (by with_reducible assumption) | exact g25 (by with_reducible assumption)) | ((with_reducible apply wl_rowG); exact rfl; exact rfl; first | with_reducible assumption | exact RowK.now (by with_reducible assumption) | exact f4 (by with_reducible assumption)))
                  (with_reducible refine wl_k ?_ ?_); exact rfl; intro K hK; go_simp; refine hK _ ?_; clear hK K
                  (with_reducible refine wl_k ?_ ?_); exact rfl; intro K hK; go_simp; refine hK _ ?_; clear hK K
                  (first | ((with_reducible apply wl_oneG); exact rfl; exact rfl; first | exact f0 (by with_reducible assumption) | exact f1 (by with_reducible assumption) | exact f2 (by with_reducible assumption) | exact f3 (by with_reducible assumption) | with_reducible assumption | exact g22 (by with_reducible assumption) | exact g25 (by with_reducible assumption)) | ((with_reducible apply wl_rowG); exact rfl; exact rfl; first | with_reducible assumption | exact RowK.now (by with_reducible assumption) | exact f4 (by with_reducible assumption)))
                  (with_reducible refine wl_k ?_ ?_); exact rfl; intro K hK; go_simp; refine hK _ ?_; clear hK K
                  (with_reducible refine wl_k ?_ ?_); exact rfl; intro K hK; go_simp; refine hK _ ?_; clear hK K
                  (with_reducible refine wl_k ?_ ?_); exact rfl; intro K hK; go_simp; refine hK _ ?_; clear hK K
                  clear e4 hp hq
                  go_upto_region 15 with (fail)
                  apply wp_region_lit
                  (with_reducible refine wl_k ?_ ?_); exact rfl; intro K hK; go_simp; refine hK _ ?_; clear hK K
                  (with_reducible refine wl_k ?_ ?_); exact rfl; intro K hK; go_simp; refine hK _ ?_; clear hK K
                  (with_reducible refine wl_k ?_ ?_); exact rfl; intro K hK; go_simp; refine hK _ ?_; clear hK K
                  go_wp2_with fail
                  go_ret3
                  exact ⟨hb, _, _, _, _, _, _, _, rfl, .inl (step1_far (HX.out ▸ HXN.out) (HY.out ▸ HYN.out) HK7.out HK8.out ((fun h => HD4.out h.2.2.2)))⟩
              · have e3 : (n7 != n8) = true := by simp [h3]
                have HD3 := Lib.hid h3
                clear h3
                go_upto_region 14 with (fail)
                apply wp_region_lit
                (with_reducible refine wl_k ?_ ?_); exact rfl; intro K hK; go_simp; refine hK _ ?_; clear hK K
                (first | ((with_reducible apply wl_oneG); exact rfl; exact rfl; first | exact f0 (by with_reducible assumption) | exact f1 (by with_reducible assumption) | exact f2 (by with_reducible assumption) | exact f3 (by with_reducible assumption) | with_reducible assumption | exact g22 (by with_reducible assumption) | exact g25 (by with_reducible assumption)) | ((with_reducible apply wl_rowG); exact rfl; exact rfl; first | with_reducible assumption | exact RowK.now (by with_reducible assumption) | exact f4 (by with_reducible assumption)))
                (with_reducible refine wl_k ?_ ?_); exact rfl; intro K hK; go_simp; refine hK _ ?_; clear hK K
                (first | ((with_reducible apply wl_oneG); exact rfl; exact rfl; first | exact f0 (by with_reducible assumption) | exact f1 (by with_reducible assumption) | exact f2 (by with_reducible assumption) | exact f3 (by with_reducible assumption) | with_reducible assumption | exact g22 (by with_reducible assumption) | exact g25 (by with_reducible assumption)) | ((with_reducible apply wl_rowG); exact rfl; exact rfl; first | with_reducible assumption | exact RowK.now (by with_reducible assumption) | exact f4 (by with_reducible assumption)))
                (with_reducible refine wl_k ?_ ?_); exact rfl; intro K hK; go_simp; refine hK _ ?_; clear hK K
                (with_reducible refine wl_k ?_ ?_); exact rfl; intro K hK; go_simp; refine hK _ ?_; clear hK K
                (with_reducible refine wl_k ?_ ?_); exact rfl; intro K hK; go_simp; refine hK _ ?_; clear hK K
                (first | ((with_reducible apply wl_oneG); exact rfl; exact rfl; first | exact f0 (by with_reducible assumption) | exact f1 (by with_reducible assumption) | exact f2 (by with_reducible assumption) | exact f3 (by with_reducible assumption) | with_reducible assumption | exact g22 (by with_reducible assumption) | exact g25 (by with_reducible assumption)) | ((with_reducible apply wl_rowG); exact rfl; exact rfl; first | with_reducible assumption | exact RowK.now (by with_reducible assumption) | exact f4 (by with_reducible assumption)))
                (with_reducible refine wl_k ?_ ?_); exact rfl; intro K hK; go_simp; refine hK _ ?_; clear hK K
                (first | ((with_reducible apply wl_oneG); exact rfl; exact rfl; first | exact f0 (by with_reducible assumption) | exact f1 (by with_reducible assumption) | exact f2 (by with_reducible assumption) | exact f3 (by with_reducible assumption) | with_reducible assumption | exact g22 (by with_reducible assumption) | exact g25 (by with_reducible assumption)) | ((with_reducible apply wl_rowG); exact rfl; exact rfl; first | with_reducible assumption | exact RowK.now (by with_reducible assumption) | exact f4 (by with_reducible assumption)))
                (with_reducible refine wl_k ?_ ?_); exact rfl; intro K hK; go_simp; refine hK _ ?_; clear hK K
                (with_reducible refine wl_k ?_ ?_); exact rfl; intro K hK; go_simp; refine hK _ ?_; clear hK K
                (with_reducible refine wl_k ?_ ?_); exact rfl; intro K hK; go_simp; refine hK _ ?_; clear hK K
                (with_reducible refine wl_k ?_ ?_); exact rfl; intro K hK; go_simp; refine hK _ ?_; clear hK K
                (first | ((with_reducible apply wl_oneG); exact rfl; exact rfl; first | exact f0 (by with_reducible assumption) | exact f1 (by with_reducible assumption) | exact f2 (by with_reducible assumption) | exact f3 (by with_reducible assumption) | with_reducible assumption | exact g22 (by with_reducible assumption) | exact g25 (by with_reducible assumption)) | ((with_reducible apply wl_rowG); exact rfl; exact rfl; first | with_reducible assumption | exact RowK.now (by with_reducible assumption) | exact f4 (by with_reducible assumption)))
                (with_reducible refine wl_k ?_ ?_); exact rfl; intro K hK; go_simp; refine hK _ ?_; clear hK K
                (first | ((with_reducible apply wl_oneG); exact rfl; exact rfl; first | exact f0 (by with_reducible assumption) | exact f1 (by with_reducible assumption) | exact f2 (by with_reducible assumption) | exact f3 (by with_reducible assumption) | with_reducible assumption | exact g22 (by with_reducible assumption) | exact g25 (by with_reducible assumption)) | ((with_reducible apply wl_rowG); exact rfl; exact rfl; first | with_reducible assumption | exact RowK.now (by with_reducible assumption) | exact f4 (by with_reducible assumption)))
                (with_reducible refine wl_k ?_ ?_); exact rfl; intro K hK; go_simp; refine hK _ ?_; clear hK K
                (with_reducible refine wl_k ?_ ?_); exact rfl; intro K hK; go_simp; refine hK _ ?_; clear hK K
                (with_reducible refine wl_k ?_ ?_); exact rfl; intro K hK; go_simp; refine hK _ ?_; clear hK K
                (first | ((with_reducible refine wl_skipU ?_ ?_ ?_); exact rfl; exact rfl) | ((with_reducible refine wl_skip ?_ ?_); exact rfl; simp only [Zq]))
                (first | ((with_reducible refine wl_skipU ?_ ?_ ?_); exact rfl; exact rfl) | ((with_reducible refine wl_skip ?_ ?_); exact rfl; simp only [Zq]))
                (first | ((with_reducible refine wl_skipU ?_ ?_ ?_); exact rfl; exact rfl) | ((with_reducible refine wl_skip ?_ ?_); exact rfl; simp only [Zq]))
                (first | ((with_reducible refine wl_skipU ?_ ?_ ?_); exact rfl; exact rfl) | ((with_reducible refine wl_skip ?_ ?_); exact rfl; simp only [Zq]))
                (first | ((with_reducible refine wl_skipU ?_ ?_ ?_); exact rfl; exact rfl) | ((with_reducible refine wl_skip ?_ ?_); exact rfl; simp only [Zq]))
                (first | ((with_reducible refine wl_skipU ?_ ?_ ?_); exact rfl; exact rfl) | ((with_reducible refine wl_skip ?_ ?_); exact rfl; simp only [Zq]))
                (first | ((with_reducible refine wl_skipU ?_ ?_ ?_); exact rfl; exact rfl) | ((with_reducible refine wl_skip ?_ ?_); exact rfl; simp only [Zq]))
                (with_reducible refine wl_k ?_ ?_); exact rfl; intro K hK; go_simp; refine hK _ ?_; clear hK K
                clear e3 hp hq
                go_upto_region 15 with (fail)
                apply wp_region_lit
                (with_reducible refine wl_k ?_ ?_); exact rfl; intro K hK; go_simp; refine hK _ ?_; clear hK K
                (with_reducible refine wl_k ?_ ?_); exact rfl; intro K hK; go_simp; refine hK _ ?_; clear hK K
                (with_reducible refine wl_k ?_ ?_); exact rfl; intro K hK; go_simp; refine hK _ ?_; clear hK K
                go_wp2_with fail
                go_ret3
                exact ⟨hb, _, _, _, _, _, _, _, rfl, .inl (step1_far (HX.out ▸ HXN.out) (HY.out ▸ HYN.out) HK7.out HK8.out ((fun h => HD3.out h.2.2.1)))⟩
            · have e2 : (s7.toList == s8.toList) = false := beq_eq_false_iff_ne.2 (fun e => h2 (bytes_inj e))
              have e2b : (s7.toList != s8.toList) = true := by simp only [bne, e2]; rfl
              have HD2 := Lib.hid h2
              clear h2
              go_upto_region 14 with (fail)
              apply wp_region_lit
              (with_reducible refine wl_k ?_ ?_); exact rfl; intro K hK; go_simp; refine hK _ ?_; clear hK K
              (first | ((with_reducible apply wl_oneG); exact rfl; exact rfl; first | exact f0 (by with_reducible assumption) | exact f1 (by with_reducible assumption) | exact f2 (by with_reducible assumption) | exact f3 (by with_reducible assumption) | with_reducible assumption | exact g22 (by with_reducible assumption) | exact g25 (by with_reducible assumption)) | ((with_reducible apply wl_rowG); exact rfl; exact rfl; first | with_reducible assumption | exact RowK.now (by with_reducible assumption) | exact f4 (by with_reducible assumption)))
              (with_reducible refine wl_k ?_ ?_); exact rfl; intro K hK; go_simp; refine hK _ ?_; clear hK K
              (first | ((with_reducible apply wl_oneG); exact rfl; exact rfl; first | exact f0 (by with_reducible assumption) | exact f1 (by with_reducible assumption) | exact f2 (by with_reducible assumption) | exact f3 (by with_reducible assumption) | with_reducible assumption | exact g22 (by with_reducible assumption) | exact g25 (by with_reducible assumption)) | ((with_reducible apply wl_rowG); exact rfl; exact rfl; first | with_reducible assumption | exact RowK.now (by with_reducible assumption) | exact f4 (by with_reducible assumption)))
              (with_reducible refine wl_k ?_ ?_); exact rfl; intro K hK; go_simp; refine hK _ ?_; clear hK K
              (with_reducible refine wl_k ?_ ?_); exact rfl; intro K hK; go_simp; refine hK _ ?_; clear hK K
              (with_reducible refine wl_k ?_ ?_); exact rfl; intro K hK; go_simp; refine hK _ ?_; clear hK K
              (first | ((with_reducible apply wl_oneG); exact rfl; exact rfl; first | exact f0 (by with_reducible assumption) | exact f1 (by with_reducible assumption) | exact f2 (by with_reducible assumption) | exact f3 (by with_reducible assumption) | with_reducible assumption | exact g22 (by with_reducible assumption) | exact g25 (by with_reducible assumption)) | ((with_reducible apply wl_rowG); exact rfl; exact rfl; first | with_reducible assumption | exact RowK.now (by with_reducible assumption) | exact f4 (by with_reducible assumption)))
              (with_reducible refine wl_k ?_ ?_); exact rfl; intro K hK; go_simp; refine hK _ ?_; clear hK K
              (first | ((with_reducible apply wl_oneG); exact rfl; exact rfl; first | exact f0 (by with_reducible assumption) | exact f1 (by with_reducible assumption) | exact f2 (by with_reducible assumption) | exact f3 (by with_reducible assumption) | with_reducible assumption | exact g22 (by with_reducible assumption) | exact g25 (by with_reducible assumption)) | ((with_reducible apply wl_rowG); exact rfl; exact rfl; first | with_reducible assumption | exact RowK.now (by with_reducible assumption) | exact f4 (by with_reducible assumption)))
              (with_reducible refine wl_k ?_ ?_); exact rfl; intro K hK; go_simp; refine hK _ ?_; clear hK K
              (with_reducible refine wl_k ?_ ?_); exact rfl; intro K hK; go_simp; refine hK _ ?_; clear hK K
              (with_reducible refine wl_k ?_ ?_); exact rfl; intro K hK; go_simp; refine hK _ ?_; clear hK K
              (first | ((with_reducible refine wl_skipU ?_ ?_ ?_); exact rfl; exact rfl) | ((with_reducible refine wl_skip ?_ ?_); exact rfl; simp only [Zq]))
              (first | ((with_reducible refine wl_skipU ?_ ?_ ?_); exact rfl; exact rfl) | ((with_reducible refine wl_skip ?_ ?_); exact rfl; simp only [Zq]))
              (first | ((with_reducible refine wl_skipU ?_ ?_ ?_); exact rfl; exact rfl) | ((with_reducible refine wl_skip ?_ ?_); exact rfl; simp only [Zq]))
              (first | ((with_reducible refine wl_skipU ?_ ?_ ?_); exact rfl; exact rfl) | ((with_reducible refine wl_skip ?_ ?_); exact rfl; simp only [Zq]))
              (first | ((with_reducible refine wl_skipU ?_ ?_ ?_); exact rfl; exact rfl) | ((with_reducible refine wl_skip ?_ ?_); exact rfl; simp only [Zq]))
              (with_reducible refine wl_k ?_ ?_); exact rfl; intro K hK; go_simp; refine hK _ ?_; clear hK K
              (with_reducible refine wl_k ?_ ?_); exact rfl; intro K hK; go_simp; refine hK _ ?_; clear hK K
              (first | ((with_reducible refine wl_skipU ?_ ?_ ?_); exact rfl; exact rfl) | ((with_reducible refine wl_skip ?_ ?_); exact rfl; simp only [Zq]))
              (first | ((with_reducible refine wl_skipU ?_ ?_ ?_); exact rfl; exact rfl) | ((with_reducible refine wl_skip ?_ ?_); exact rfl; simp only [Zq]))
              (first | ((with_reducible refine wl_skipU ?_ ?_ ?_); exact rfl; exact rfl) | ((with_reducible refine wl_skip ?_ ?_); exact rfl; simp only [Zq]))
              (first | ((with_reducible refine wl_skipU ?_ ?_ ?_); exact rfl; exact rfl) | ((with_reducible refine wl_skip ?_ ?_); exact rfl; simp only [Zq]))
              (first | ((with_reducible refine wl_skipU ?_ ?_ ?_); exact rfl; exact rfl) | ((with_reducible refine wl_skip ?_ ?_); exact rfl; simp only [Zq]))
              (first | ((with_reducible refine wl_skipU ?_ ?_ ?_); exact rfl; exact rfl) | ((with_reducible refine wl_skip ?_ ?_); exact rfl; simp only [Zq]))
              (first | ((with_reducible refine wl_skipU ?_ ?_ ?_); exact rfl; exact rfl) | ((with_reducible refine wl_skip ?_ ?_); exact rfl; simp only [Zq]))
              (with_reducible refine wl_k ?_ ?_); exact rfl; intro K hK; go_simp; refine hK _ ?_; clear hK K
              clear e2 e2b hp hq
              go_upto_region 15 with (fail)
              apply wp_region_lit
              (with_reducible refine wl_k ?_ ?_); exact rfl; intro K hK; go_simp; refine hK _ ?_; clear hK K
              (with_reducible refine wl_k ?_ ?_); exact rfl; intro K hK; go_simp; refine hK _ ?_; clear hK K
              (with_reducible refine wl_k ?_ ?_); exact rfl; intro K hK; go_simp; refine hK _ ?_; clear hK K
              go_wp2_with fail
              go_ret3
              exact ⟨hb, _, _, _, _, _, _, _, rfl, .inl (step1_far (HX.out ▸ HXN.out) (HY.out ▸ HYN.out) HK7.out HK8.out ((fun h => HD2.out h.2.1)))⟩
          · have e1 : (k7 != k8) = true := by simp [h1]
            have HD1 := Lib.hid h1
            clear h1
            go_upto_region 14 with (fail)
            apply wp_region_lit
            (with_reducible refine wl_k ?_ ?_); exact rfl; intro K hK; go_simp; refine hK _ ?_; clear hK K
            (first | ((with_reducible apply wl_oneG); exact rfl; exact rfl; first | exact f0 (by with_reducible assumption) | exact f1 (by with_reducible assumption) | exact f2 (by with_reducible assumption) | exact f3 (by with_reducible assumption) | with_reducible assumption | exact g22 (by with_reducible assumption) | exact g25 (by with_reducible assumption)) | ((with_reducible apply wl_rowG); exact rfl; exact rfl; first | with_reducible assumption | exact RowK.now (by with_reducible assumption) | exact f4 (by with_reducible assumption)))
            (with_reducible refine wl_k ?_ ?_); exact rfl; intro K hK; go_simp; refine hK _ ?_; clear hK K
            (first | ((with_reducible apply wl_oneG); exact rfl; exact rfl; first | exact f0 (by with_reducible assumption) | exact f1 (by with_reducible assumption) | exact f2 (by with_reducible assumption) | exact f3 (by with_reducible assumption) | with_reducible assumption | exact g22 (by with_reducible assumption) | exact g25 (by with_reducible assumption)) | ((with_reducible apply wl_rowG); exact rfl; exact rfl; first | with_reducible assumption | exact RowK.now (by with_reducible assumption) | exact f4 (by with_reducible assumption)))
            (with_reducible refine wl_k ?_ ?_); exact rfl; intro K hK; go_simp; refine hK _ ?_; clear hK K
            (with_reducible refine wl_k ?_ ?_); exact rfl; intro K hK; go_simp; refine hK _ ?_; clear hK K
            (first | ((with_reducible refine wl_skipU ?_ ?_ ?_); exact rfl; exact rfl) | ((with_reducible refine wl_skip ?_ ?_); exact rfl; simp only [Zq]))
            (first | ((with_reducible refine wl_skipU ?_ ?_ ?_); exact rfl; exact rfl) | ((with_reducible refine wl_skip ?_ ?_); exact rfl; simp only [Zq]))
            (first | ((with_reducible refine wl_skipU ?_ ?_ ?_); exact rfl; exact rfl) | ((with_reducible refine wl_skip ?_ ?_); exact rfl; simp only [Zq]))
            (first | ((with_reducible refine wl_skipU ?_ ?_ ?_); exact rfl; exact rfl) | ((with_reducible refine wl_skip ?_ ?_); exact rfl; simp only [Zq]))
            (first | ((with_reducible refine wl_skipU ?_ ?_ ?_); exact rfl; exact rfl) | ((with_reducible refine wl_skip ?_ ?_); exact rfl; simp only [Zq]))
            (with_reducible refine wl_k ?_ ?_); exact rfl; intro K hK; go_simp; refine hK _ ?_; clear hK K
            (with_reducible refine wl_k ?_ ?_); exact rfl; intro K hK; go_simp; refine hK _ ?_; clear hK K
            (first | ((with_reducible refine wl_skipU ?_ ?_ ?_); exact rfl; exact rfl) | ((with_reducible refine wl_skip ?_ ?_); exact rfl; simp only [Zq]))
            (first | ((with_reducible refine wl_skipU ?_ ?_ ?_); exact rfl; exact rfl) | ((with_reducible refine wl_skip ?_ ?_); exact rfl; simp only [Zq]))
            (first | ((with_reducible refine wl_skipU ?_ ?_ ?_); exact rfl; exact rfl) | ((with_reducible refine wl_skip ?_ ?_); exact rfl; simp only [Zq]))
            (first | ((with_reducible refine wl_skipU ?_ ?_ ?_); exact rfl; exact rfl) | ((with_reducible refine wl_skip ?_ ?_); exact rfl; simp only [Zq]))
            (first | ((with_reducible refine wl_skipU ?_ ?_ ?_); exact rfl; exact rfl) | ((with_reducible refine wl_skip ?_ ?_); exact rfl; simp only [Zq]))
            (with_reducible refine wl_k ?_ ?_); exact rfl; intro K hK; go_simp; refine hK _ ?_; clear hK K
            (with_reducible refine wl_k ?_ ?_); exact rfl; intro K hK; go_simp; refine hK _ ?_; clear hK K
            (first | ((with_reducible refine wl_skipU ?_ ?_ ?_); exact rfl; exact rfl) | ((with_reducible refine wl_skip ?_ ?_); exact rfl; simp only [Zq]))
            (first | ((with_reducible refine wl_skipU ?_ ?_ ?_); exact rfl; exact rfl) | ((with_reducible refine wl_skip ?_ ?_); exact rfl; simp only [Zq]))
            (first | ((with_reducible refine wl_skipU ?_ ?_ ?_); exact rfl; exact rfl) | ((with_reducible refine wl_skip ?_ ?_); exact rfl; simp only [Zq]))
            (first | ((with_reducible refine wl_skipU ?_ ?_ ?_); exact rfl; exact rfl) | ((with_reducible refine wl_skip ?_ ?_); exact rfl; simp only [Zq]))
            (first | ((with_reducible refine wl_skipU ?_ ?_ ?_); exact rfl; exact rfl) | ((with_reducible refine wl_skip ?_ ?_); exact rfl; simp only [Zq]))
            (first | ((with_reducible refine wl_skipU ?_ ?_ ?_); exact rfl; exact rfl) | ((with_reducible refine wl_skip ?_ ?_); exact rfl; simp only [Zq]))
            (first | ((with_reducible refine wl_skipU ?_ ?_ ?_); exact rfl; exact rfl) | ((with_reducible refine wl_skip ?_ ?_); exact rfl; simp only [Zq]))
            (with_reducible refine wl_k ?_ ?_); exact rfl; intro K hK; go_simp; refine hK _ ?_; clear hK K
            clear e1 hp hq
            go_upto_region 15 with (fail)
            apply wp_region_lit
            (with_reducible refine wl_k ?_ ?_); exact rfl; intro K hK; go_simp; refine hK _ ?_; clear hK K
            (with_reducible refine wl_k ?_ ?_); exact rfl; intro K hK; go_simp; refine hK _ ?_; clear hK K
            (with_reducible refine wl_k ?_ ?_); exact rfl; intro K hK; go_simp; refine hK _ ?_; clear hK K
            go_wp2_with fail
            go_ret3
            exact ⟨hb, _, _, _, _, _, _, _, rfl, .inl (step1_far (HX.out ▸ HXN.out) (HY.out ▸ HYN.out) HK7.out HK8.out ((fun h => HD1.out h.1)))⟩
end Go.Proofs.YtokmaehefenpmaaDoor
