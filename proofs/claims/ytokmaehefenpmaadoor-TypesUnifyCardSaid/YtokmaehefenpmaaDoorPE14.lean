/- Unify: plain: the greatest variable; the steps of its walk. -/
import Derived.Test.YtokmaehefenpmaaDoorPE8
import Derived.Test.YtokmaehefenpmaaDoorPE13
namespace Go.Proofs.YtokmaehefenpmaaDoor
open Go.RowKit Go.ChangeMaps Go.Proofs.YtokmaehefenpmaaDoor.Nm
def OpenE (es : Eqs) : Prop := ∀ p, p ∈ es → validB true p.1 = true ∧ validB true p.2 = true
def most1 (a : Int) (t : Ty) : Int := (distinctI (varsOf t)).foldl max a
def mostE (es : Eqs) : Int := es.foldl (fun a p => most1 (most1 a p.1) p.2) (-1)
theorem foldl_max : ∀ (l : List Int) (a : Int), a ≤ l.foldl max a ∧ (∀ x, x ∈ l → x ≤ l.foldl max a) ∧ ∀ b, a ≤ b → (∀ x, x ∈ l → x ≤ b) → l.foldl max a ≤ b
  | [], a => ⟨Int.le_refl _, fun x h => by simp at h, fun b h _ => h⟩
  | y :: l, a => by
    obtain ⟨h1, h2, h3⟩ := foldl_max l (max a y)
    simp only [List.foldl_cons]
    refine ⟨by omega, fun x hx => ?_, fun b h h' => h3 b (by have := h' y (by simp); omega) fun x hx => h' x (by simp [hx])⟩
    rcases List.mem_cons.1 hx with rfl | hx
    · omega
    · exact h2 x hx
theorem vars_all (Q : Int → Prop) : ∀ (t : Ty) (ns : List Int), (t.all fun u => decide (u.kind = 12 → u.num < 0 ∨ 40 ≤ u.num) == false || decide (u.kind ≠ 12)) = true → (∀ n : Int, 0 ≤ n → n < 40 → Q n) → (∀ x, x ∈ ns → Q x) → ∀ x, x ∈ (visit stepV t ns).2 → Q x := Ty.ind fun k s n l ih ns ha hQ hns => by
  have hl : ∀ (l : List Ty), (∀ t, t ∈ l → ∀ (ns : List Int), (t.all fun u => decide (u.kind = 12 → u.num < 0 ∨ 40 ≤ u.num) == false || decide (u.kind ≠ 12)) = true → (∀ n : Int, 0 ≤ n → n < 40 → Q n) → (∀ x, x ∈ ns → Q x) → ∀ x, x ∈ (visit stepV t ns).2 → Q x) → (∀ t, t ∈ l → (t.all fun u => decide (u.kind = 12 → u.num < 0 ∨ 40 ≤ u.num) == false || decide (u.kind ≠ 12)) = true) → ∀ ns : List Int, (∀ x, x ∈ ns → Q x) → ∀ x, x ∈ (visits stepV l ns).2 → Q x := by
    intro l
    induction l with
    | nil => intro _ _ ns h; simpa [visits] using h
    | cons t l ihl =>
      intro h ha ns hns
      simp only [visits]
      have h1 := (visit_lenV t ns).1
      have h2 := h t (by simp) ns (ha t (by simp)) hQ hns
      cases hv : visit stepV t ns with
      | mk b x =>
        rw [hv] at h1 h2
        cases h1
        exact ihl (fun t ht => h t (by simp [ht])) (fun t ht => ha t (by simp [ht])) x h2
  rw [Ty.all, Bool.and_eq_true, alls_iff] at ha
  have hs : stepV (.node k s n l) ns = (true, (stepV (.node k s n l) ns).2) := rfl
  simp only [visit]
  rw [hs]
  refine hl l ih ha.2 _ fun x hx => ?_
  have hx : x ∈ (if k = 12 then ns ++ [n] else ns) := hx
  have h0 : (decide (k = 12 → n < 0 ∨ 40 ≤ n) == false || decide (k ≠ 12)) = true := ha.1
  by_cases hk : k = 12
  · rw [if_pos hk] at hx
    rcases List.mem_append.1 hx with hx | hx
    · exact hns x hx
    · simp at hx; subst hx
      simp [hk] at h0
      exact hQ _ (by omega) (by omega)
  · rw [if_neg hk] at hx
    exact hns x hx
theorem all_weak {f g : Ty → Bool} (h : ∀ t, f t = true → g t = true) : ∀ t : Ty, t.all f = true → t.all g = true := Ty.ind fun k s n l ih ha => by
  rw [Ty.all, Bool.and_eq_true, alls_iff] at *
  exact ⟨h _ ha.1, fun u hu => ih u hu (ha.2 u hu)⟩
theorem open_vars {t : Ty} (h : validB true t = true) : ∀ x, x ∈ distinctI (varsOf t) → 0 ≤ x ∧ x < 40 := fun x hx => by
  rw [mem_distinctI] at hx
  unfold validB at h
  rw [Bool.and_eq_true] at h
  refine vars_all (fun x => 0 ≤ x ∧ x < 40) t [] (all_weak (fun t ht => ?_) t h.2) (fun n h1 h2 => ⟨h1, h2⟩) (fun x h => by simp at h) x hx
  cases t with | node k s n l => ?_
  simp only [Ty.kind, Ty.num]
  by_cases hk : k = 12
  · subst hk
    simp [nodeB, nodeK] at ht
    simp
    omega
  · simp [hk]
theorem open_fine {m : Nat} : ∀ t : Ty, t.all (nodeB true) = true → (∀ v, t.occ v = true → v < m) → FineV m t := Ty.ind fun k s n l ih ha ho => by
  rw [Ty.all, Bool.and_eq_true, alls_iff] at ha
  obtain ⟨h1, h2⟩ := ha
  rw [fine_node]
  by_cases hk : k = 12
  · subst hk
    simp [nodeB, nodeK] at h1
    obtain ⟨h3, h4, h5, h6⟩ := h1
    have hn : n.toNat < m := ho n.toNat (by simp [Ty.occ]; omega)
    subst h3
    refine ⟨?_, fun u hu => by simp at hu⟩
    simp only [fineB, Ty.kind, Ty.name, Ty.num, Ty.args]
    have hs : s = ⟨#[]⟩ := bytes_inj (by rw [h4, ByteArray.toList_eq])
    have h7 : n < (m : Int) := by omega
    subst hs
    simp [h5, h7]
  · refine ⟨?_, fun u hu => ih u hu (h2 u hu) fun v hv => ho v ?_⟩
    · have h0 : k ≠ 0 := fun e => by subst e; simp [nodeB, nodeK] at h1
      simp [fineB, Ty.kind, hk, h0]
    · simp only [Ty.occ, Bool.or_eq_true]
      exact .inr (occs_iff.2 ⟨u, hu, hv⟩)
theorem most1_ge (a : Int) (t : Ty) : a ≤ most1 a t := (foldl_max _ _).1
theorem most1_le {a : Int} {t : Ty} (h : validB true t = true) (ha : a ≤ 39) : most1 a t ≤ 39 := (foldl_max _ _).2.2 39 ha fun x hx => by have := open_vars h x hx; omega
theorem most1_var {a : Int} {t : Ty} {v : Nat} (h : t.occ v = true) : (v : Int) ≤ most1 a t := (foldl_max _ _).2.1 _ (by rw [← List.contains_iff_mem, vars_has]; exact h)
theorem most_run : ∀ (es : Eqs) (a : Int), OpenE es → a ≤ 39 → a ≤ es.foldl (fun a p => most1 (most1 a p.1) p.2) a ∧ es.foldl (fun a p => most1 (most1 a p.1) p.2) a ≤ 39 ∧ ∀ p, p ∈ es → ∀ v : Nat, p.1.occ v = true ∨ p.2.occ v = true → (v : Int) ≤ es.foldl (fun a p => most1 (most1 a p.1) p.2) a
  | [], a, _, ha => ⟨Int.le_refl _, ha, fun p h => by simp at h⟩
  | (t, u) :: es, a, ho, ha => by
    have h1 := ho (t, u) (by simp)
    have h2 := most1_le h1.1 ha
    have h3 := most1_le h1.2 h2
    obtain ⟨g1, g2, g3⟩ := most_run es (most1 (most1 a t) u) (fun p hp => ho p (by simp [hp])) h3
    simp only [List.foldl_cons]
    have h4 := most1_ge a t
    have h5 := most1_ge (most1 a t) u
    refine ⟨by omega, g2, fun p hp v hv => ?_⟩
    rcases List.mem_cons.1 hp with rfl | hp
    · rcases hv with hv | hv
      · have : (v : Int) ≤ most1 a t := most1_var hv; omega
      · have : (v : Int) ≤ most1 (most1 a t) u := most1_var hv; omega
    · exact g3 p hp v hv
/-- How many variables a solution has. -/
def mOf (es : Eqs) : Nat := (mostE es + 1).toNat
theorem mOf_eq {es : Eqs} (h : OpenE es) : mostE es + 1 = (mOf es : Int) ∧ mOf es ≤ 40 := by
  obtain ⟨h1, h2, -⟩ := most_run es (-1) h (by omega)
  have h1 : -1 ≤ mostE es := h1
  have h2 : mostE es ≤ 39 := h2
  unfold mOf
  omega
theorem fine_open {es : Eqs} (h : OpenE es) : FineE (mOf es) es := fun p hp => by
  obtain ⟨-, -, h3⟩ := most_run es (-1) h (by omega)
  have h4 := (mOf_eq h).1
  obtain ⟨g1, g2⟩ := h p hp
  unfold validB at g1 g2
  rw [Bool.and_eq_true] at g1 g2
  exact ⟨open_fine _ g1.2 fun v hv => by have := h3 p hp v (.inl hv); have h5 : (v : Int) ≤ mostE es := this; omega, open_fine _ g2.2 fun v hv => by have := h3 p hp v (.inr hv); have h5 : (v : Int) ≤ mostE es := this; omega⟩
theorem open_small {t : Ty} (h : validB true t = true) : t.nodes ≤ 40 := by
  unfold validB at h
  rw [Bool.and_eq_true] at h
  exact of_decide_eq_true h.1
theorem most_next {es : Eqs} {j : Nat} {t u : Ty} (h : es[j]? = some (t, u)) : mostE (es.take (j + 1)) = most1 (most1 (mostE (es.take j)) t) u := by
  unfold mostE
  rw [List.take_add_one, h, List.foldl_append]
  rfl
theorem open_next {es : Eqs} {j : Nat} {t u : Ty} (h : es[j]? = some (t, u)) (ho : OpenE (es.take j)) (ht : validB true t = true) (hu : validB true u = true) : OpenE (es.take (j + 1)) := fun p hp => by
  rw [List.take_add_one, h] at hp
  rcases List.mem_append.1 hp with hp | hp
  · exact ho p hp
  · simp at hp; subst hp; exact ⟨ht, hu⟩
theorem Open_all (t : Ty) (w : World) (D : Nat → Prop) (row : Array Value) (h : TyAt w D t row) :
    Calls Tryd.prog 59 #[.agg row] w fun e w' => e = .returned (.bool (validB true t)) ∧ Below w.heap.size w w' := by
  have := Open_any (nodeB true) (fun _ => True) (fun t _ => shaped_any true t) (fun _ _ _ _ _ _ _ => trivial) t trivial w D row h
  rw [openB_law] at this
  exact this
end Go.Proofs.YtokmaehefenpmaaDoor
