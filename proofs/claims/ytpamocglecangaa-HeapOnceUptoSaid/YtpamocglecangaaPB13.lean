/- States never fall: plainly. Values of a heap stay values of it: plainly. What is left to be ended falls with each task: plainly. Next, plainly: tasks of the topmost level till one is due. -/
import Derived.Test.YtpamocglecangaaPB12
import Derived.Test.YtpamocglecangaaPB8
import Derived.Test.YtpamocglecangaaPB3
import Derived.Test.YtpamocglecangaaPB1
namespace Go.Proofs.Ytpamocglecangaa
def OkS (l : List Ob) : Prop := ∀ o, o ∈ l → 1 ≤ o.state ∧ o.state ≤ 3
/-- Objects behind an operation: none is gone, none of their states has fallen. -/
def Up (l l' : List Ob) : Prop := OkS l → (∀ (i : Nat) (o : Ob), l[i]? = some o → ∃ o', l'[i]? = some o' ∧ o.state ≤ o'.state) ∧ OkS l'
theorem Up.refl (l : List Ob) : Up l l := fun h => ⟨fun _ o h => ⟨o, h, Int.le_refl _⟩, h⟩
theorem Up.trans {l m n : List Ob} (h : Up l m) (h2 : Up m n) : Up l n := fun ok => by
  obtain ⟨a1, a2⟩ := h ok
  obtain ⟨b1, b2⟩ := h2 a2
  refine ⟨fun i o ho => ?_, b2⟩
  obtain ⟨o', h3, h4⟩ := a1 i o ho
  obtain ⟨o2, h5, h6⟩ := b1 i o' h3
  exact ⟨o2, h5, Int.le_trans h4 h6⟩
theorem Up.modify {l : List Ob} {n : Nat} {f : Ob → Ob} (hf : ∀ o, l[n]? = some o → 1 ≤ o.state → o.state ≤ 3 → o.state ≤ (f o).state ∧ (f o).state ≤ 3) : Up l (l.modify n f) := fun ok => by
  have hg : ∀ i : Nat, (l.modify n f)[i]? = (if n = i then l[i]?.map f else l[i]?) := fun i => by
    rw [List.getElem?_modify]
    by_cases e : n = i
    · simp [e]
    · simp [e]
  refine ⟨fun i o ho => ?_, fun o ho => ?_⟩
  · rw [hg]
    split
    · rename_i e
      subst e
      rw [ho]
      have h2 := ok o (List.mem_of_getElem? ho)
      exact ⟨f o, rfl, (hf o ho h2.1 h2.2).1⟩
    · exact ⟨o, ho, Int.le_refl _⟩
  · obtain ⟨i, hi⟩ := List.mem_iff_getElem?.1 ho
    rw [hg] at hi
    split at hi
    · rename_i e
      subst e
      cases h1 : l[n]? with
      | none => rw [h1] at hi; cases hi
      | some x =>
        rw [h1] at hi
        cases hi
        have h2 := ok x (List.mem_of_getElem? h1)
        have h3 := hf x h1 h2.1 h2.2
        exact ⟨by omega, h3.2⟩
    · exact ok o (List.mem_of_getElem? hi)
theorem Up.set {l : List Ob} {n : Nat} {o o' : Ob} (ho : l[n]? = some o) (h1 : 1 ≤ o.state → o.state ≤ 3 → o.state ≤ o'.state ∧ o'.state ≤ 3) : Up l (l.set n o') := by
  have : l.set n o' = l.modify n fun _ => o' := (modify_eq (fun _ => o') ho).symm
  rw [this]
  exact Up.modify fun x hx => by rw [ho] at hx; cases hx; exact h1
theorem Up.add (l : List Ob) {o : Ob} (h : o.state = 1) : Up l (l ++ [o]) := fun ok => ⟨fun i x hx => ⟨x, by rw [List.getElem?_append_left (List.getElem?_eq_some_iff.1 hx).1]; exact hx, Int.le_refl _⟩, fun x hx => by
  rcases List.mem_append.1 hx with hx | hx
  · exact ok x hx
  · rw [List.mem_singleton.1 hx, h]; omega⟩
theorem cntV_up (x : Int) : ∀ (v : Va) (h : Hp), Up h.obs (cntV x v h).obs := Va.ind fun v ih h => by
  have hl : ∀ (l : List Va), (∀ u, u ∈ l → u ∈ v.parts) → ∀ h, Up h.obs (cntVs x l h).obs := by
    intro l
    induction l with
    | nil => intro _ h; rw [cntVs]; exact Up.refl _
    | cons u l ihl =>
      intro hm h
      rw [cntVs]
      exact (ih u (hm u (by simp)) h).trans (ihl (fun u hu => hm u (by simp [hu])) (cntV x u h))
  rw [cntV_eq]
  split
  · exact Up.modify fun o _ _ h => ⟨Int.le_refl _, h⟩
  · split
    · exact Up.modify fun o _ _ h => ⟨Int.le_refl _, h⟩
    · split
      · exact Up.refl _
      · split
        · exact hl v.parts (fun _ h => h) h
        · exact Up.refl _
theorem cntVs_up (x : Int) : ∀ (l : List Va) (h : Hp), Up h.obs (cntVs x l h).obs
  | [], h => by rw [cntVs]; exact Up.refl _
  | u :: l, h => by rw [cntVs]; exact (cntV_up x u h).trans (cntVs_up x l _)
theorem step_up (h : Hp) (l : List Tk) (t : Tk) : Up h.obs (stepV' h l t).1.obs := by
  cases t with
  | flds o i =>
    cases ho : h.obs[o]? with
    | none => simp only [stepV', ho]; exact Up.refl _
    | some ob =>
      cases hf : ob.fields[i]? with
      | some v => simp only [stepV', ho, hf]; exact Up.refl _
      | none =>
        simp only [stepV', ho, hf]
        exact Up.modify fun o _ _ h => ⟨h, Int.le_refl _⟩
  | val v =>
    by_cases c7 : v.kind = 7
    · cases ho : h.obs[v.num.toNat]? with
      | none => simp only [stepV', c7, if_true, ho]; exact Up.refl _
      | some ob =>
        by_cases hc : w64 (ob.count + -1) ≠ 0 ∨ ob.state ≠ 1
        · simp only [stepV', c7, if_true, ho, if_pos hc]
          exact Up.modify fun o _ _ h => ⟨Int.le_refl _, h⟩
        · have hs : ob.state = 1 := Classical.not_not.1 fun e => hc (.inr e)
          simp only [stepV', c7, if_true, ho, if_neg hc]
          exact Up.modify fun x hx => by
            rw [ho] at hx; cases hx
            simp only [addC, hs]
            intros
            constructor <;> omega
    · by_cases c11 : v.kind = 11
      · simp only [stepV', if_neg c7, if_pos c11]
        exact Up.modify fun o _ _ h => ⟨Int.le_refl _, h⟩
      · by_cases c8 : v.kind = 8
        · cases hb : h.bus[v.num.toNat]? with
          | none => simp only [stepV', if_neg c7, if_neg c11, if_pos c8, hb]; exact Up.refl _
          | some b =>
            by_cases hc : w64 (b.count + -1) = 0
            · simp only [stepV', if_neg c7, if_neg c11, if_pos c8, hb, if_pos hc]; exact Up.refl _
            · simp only [stepV', if_neg c7, if_neg c11, if_pos c8, hb, if_neg hc]; exact Up.refl _
        · by_cases c5 : v.kind = 5
          · simp only [stepV', if_neg c7, if_neg c11, if_neg c8, if_pos c5]; exact Up.refl _
          · by_cases ck : hasK v.kind = true
            · simp only [stepV', if_neg c7, if_neg c11, if_neg c8, if_neg c5, if_pos ck]; exact Up.refl _
            · simp only [stepV', if_neg c7, if_neg c11, if_neg c8, if_neg c5, if_neg ck]; exact Up.refl _
theorem copy_up (h : Hp) (v : Va) : Up h.obs (copyP h v).1.obs := by
  unfold copyP
  split
  · split
    · exact Up.refl _
    · exact cntV_up 1 v h
  · exact Up.refl _
theorem end_up (h : Hp) (v : Va) : Up h.obs (endP h v).1.obs := by
  unfold endP
  split
  · split <;> exact Up.refl _
  · exact Up.refl _
theorem array_up (h : Hp) (t : Ty) (l : List Va) : Up h.obs (arrayP h t l).1.obs := Up.refl _
theorem make_up (h : Hp) (t : Ty) (l : List Va) : Up h.obs (makeP h t l).1.obs := Up.add _ rfl
theorem weak_up (h : Hp) (v : Va) : Up h.obs (weakP h v).1.obs := by
  unfold weakP
  split
  · split
    · rename_i o ho
      split
      · exact Up.refl _
      · exact Up.set ho fun _ h => ⟨Int.le_refl _, h⟩
    · exact Up.refl _
  · exact Up.refl _
theorem load_up (h : Hp) (v : Va) : Up h.obs (loadP h v).1.obs := by
  unfold loadP
  split
  · split
    · rename_i o ho
      split
      · exact Up.set ho fun _ h => ⟨Int.le_refl _, h⟩
      · exact Up.refl _
    · exact Up.refl _
  · exact Up.refl _
theorem set_up (h : Hp) (x f : Int) (v : Va) : Up h.obs (setP h x f v).1.obs := by
  unfold setP
  split
  · split
    · split
      · rename_i o ho
        split
        · exact Up.set ho fun _ h => ⟨Int.le_refl _, h⟩
        · exact Up.refl _
      · exact Up.refl _
    · exact Up.refl _
  · exact Up.refl _
theorem put_up (h : Hp) (v : Va) (f : Int) (x : Va) : Up h.obs (putP h v f x).1.obs := by
  unfold putP
  split
  · split
    · split
      · split <;> exact Up.refl _
      · exact Up.refl _
    · exact Up.refl _
  · exact Up.refl _
theorem append_up (h : Hp) (v x : Va) : Up h.obs (appendP h v x).1.obs := by
  unfold appendP
  split
  · split <;> exact Up.refl _
  · exact Up.refl _
theorem own_up (h : Hp) (v : Va) : Up h.obs (ownP h v).1.obs := by
  unfold ownP
  split
  · split
    · split
      · exact Up.refl _
      · split
        · exact Up.refl _
        · split
          · exact cntVs_up 1 _ h
          · exact Up.refl _
    · exact Up.refl _
  · exact Up.refl _
end Go.Proofs.Ytpamocglecangaa
namespace Go.Proofs.Ytpamocglecangaa
/-- All values in a heap are of it. -/
structure Wf (h : Hp) : Prop where
  fld : ∀ o, o ∈ h.obs → ∀ u, u ∈ o.fields → ofV h.obs.length h.bus.length u = true
  elm : ∀ b, b ∈ h.bus → ∀ u, u ∈ b.elems → ofV h.obs.length h.bus.length u = true
  tsk : ∀ ts, ts ∈ h.lev → ∀ t, t ∈ ts → (∀ v, t = .val v → ofV h.obs.length h.bus.length v = true) ∧ ∀ o i, t = .flds o i → o < h.obs.length
/-- The same but for numbers. -/
structure SameF (h h' : Hp) : Prop where
  obs : h'.obs.map (·.fields) = h.obs.map (·.fields)
  bus : h'.bus.map (·.elems) = h.bus.map (·.elems)
  lev : h'.lev = h.lev
theorem SameF.refl (h : Hp) : SameF h h := ⟨rfl, rfl, rfl⟩
theorem SameF.trans {a b c : Hp} (h : SameF a b) (h2 : SameF b c) : SameF a c := ⟨h2.obs.trans h.obs, h2.bus.trans h.bus, h2.lev.trans h.lev⟩
theorem map_modify {α β : Type} {f : α → β} {g : α → α} (hg : ∀ x, f (g x) = f x) : ∀ (l : List α) (n : Nat), (l.modify n g).map f = l.map f
  | [], n => by simp
  | a :: l, 0 => by simp [hg]
  | a :: l, n + 1 => by simp [map_modify hg l n]
theorem cntV_sameF (x : Int) : ∀ (v : Va) (h : Hp), SameF h (cntV x v h) := Va.ind fun v ih h => by
  have hl : ∀ (l : List Va), (∀ u, u ∈ l → u ∈ v.parts) → ∀ h, SameF h (cntVs x l h) := by
    intro l
    induction l with
    | nil => intro _ h; rw [cntVs]; exact SameF.refl _
    | cons u l ihl =>
      intro hm h
      rw [cntVs]
      exact (ih u (hm u (by simp)) h).trans (ihl (fun u hu => hm u (by simp [hu])) (cntV x u h))
  rw [cntV_eq]
  split
  · exact ⟨map_modify (f := fun o : Ob => o.fields) (g := addC x) (fun _ => rfl) _ _, rfl, rfl⟩
  · split
    · exact ⟨map_modify (f := fun o : Ob => o.fields) (g := addW x) (fun _ => rfl) _ _, rfl, rfl⟩
    · split
      · exact ⟨rfl, map_modify (f := fun o : Bu => o.elems) (g := addB x) (fun _ => rfl) _ _, rfl⟩
      · split
        · exact hl v.parts (fun _ h => h) h
        · exact SameF.refl _
theorem cntVs_sameF (x : Int) : ∀ (l : List Va) (h : Hp), SameF h (cntVs x l h)
  | [], h => by rw [cntVs]; exact SameF.refl _
  | u :: l, h => by rw [cntVs]; exact (cntV_sameF x u h).trans (cntVs_sameF x l _)
theorem Wf.same {h h' : Hp} (hw : Wf h) (hs : SameF h h') : Wf h' := by
  have h1 : h'.obs.length = h.obs.length := by have := congrArg List.length hs.obs; simpa using this
  have h2 : h'.bus.length = h.bus.length := by have := congrArg List.length hs.bus; simpa using this
  refine ⟨fun o ho u hu => ?_, fun b hb u hu => ?_, fun ts hts t ht => ?_⟩
  · rw [h1, h2]
    have : o.fields ∈ h.obs.map (·.fields) := by rw [← hs.obs]; exact List.mem_map_of_mem ho
    obtain ⟨o', ho', e⟩ := List.mem_map.1 this
    exact hw.fld o' ho' u (by rw [e]; exact hu)
  · rw [h1, h2]
    have : b.elems ∈ h.bus.map (·.elems) := by rw [← hs.bus]; exact List.mem_map_of_mem hb
    obtain ⟨b', hb', e⟩ := List.mem_map.1 this
    exact hw.elm b' hb' u (by rw [e]; exact hu)
  · rw [hs.lev] at hts
    rw [h1, h2]
    exact hw.tsk ts hts t ht
theorem Wf.mono {h : Hp} (hw : Wf h) {obs : List Ob} {bus : List Bu} (h1 : h.obs.length ≤ obs.length) (h2 : h.bus.length ≤ bus.length) (ho : ∀ o, o ∈ obs → (∃ o', o' ∈ h.obs ∧ ∀ u, u ∈ o.fields → u ∈ o'.fields) ∨ ∀ u, u ∈ o.fields → ofV obs.length bus.length u = true) (hb : ∀ b, b ∈ bus → (∃ b', b' ∈ h.bus ∧ ∀ u, u ∈ b.elems → u ∈ b'.elems) ∨ ∀ u, u ∈ b.elems → ofV obs.length bus.length u = true) : Wf { h with obs := obs, bus := bus } where
  fld := fun o hmem u hu => by
    rcases ho o hmem with ⟨o', h3, h4⟩ | h3
    · exact ofV_mono h1 h2 u (hw.fld o' h3 u (h4 u hu))
    · exact h3 u hu
  elm := fun b hmem u hu => by
    rcases hb b hmem with ⟨b', h3, h4⟩ | h3
    · exact ofV_mono h1 h2 u (hw.elm b' h3 u (h4 u hu))
    · exact h3 u hu
  tsk := fun ts hts t ht => by
    obtain ⟨h3, h4⟩ := hw.tsk ts hts t ht
    exact ⟨fun v e => ofV_mono h1 h2 v (h3 v e), fun o i e => Nat.lt_of_lt_of_le (h4 o i e) h1⟩
theorem ofV_zero (no nb : Nat) : ofV no nb va0 = true := by rw [ofV_eq]; rfl
theorem taken_of (h : Hp) (l : List Va) : ∀ u, u ∈ takenV h l → ofV h.obs.length h.bus.length u = true := fun u hu => by
  obtain ⟨v, -, rfl⟩ := List.mem_map.1 hu
  split
  · assumption
  · exact ofV_zero _ _
theorem copy_wf {h : Hp} (hw : Wf h) (v : Va) : Wf (copyP h v).1 := by
  unfold copyP
  split
  · split
    · exact hw
    · exact hw.same (cntV_sameF 1 v h)
  · exact hw
theorem make_wf {h : Hp} (hw : Wf h) (t : Ty) (l : List Va) : Wf (makeP h t l).1 := by
  unfold makeP
  exact hw.mono (obs := h.obs ++ [(⟨t, 1, 1, 0, takenV h l⟩ : Ob)]) (bus := h.bus) (by simp) (Nat.le_refl _) (fun o ho => by
    rcases List.mem_append.1 ho with ho | ho
    · exact .inl ⟨o, ho, fun _ h => h⟩
    · rw [List.mem_singleton.1 ho]
      exact .inr fun u hu => ofV_mono (by simp) (Nat.le_refl _) u (taken_of h l u hu)) (fun b hb => .inl ⟨b, hb, fun _ h => h⟩)
theorem array_wf {h : Hp} (hw : Wf h) (t : Ty) (l : List Va) : Wf (arrayP h t l).1 := by
  unfold arrayP
  exact hw.mono (obs := h.obs) (bus := h.bus ++ [(⟨1, takenV h l⟩ : Bu)]) (Nat.le_refl _) (by simp) (fun o ho => .inl ⟨o, ho, fun _ h => h⟩) (fun b hb => by
    rcases List.mem_append.1 hb with hb | hb
    · exact .inl ⟨b, hb, fun _ h => h⟩
    · rw [List.mem_singleton.1 hb]
      exact .inr fun u hu => ofV_mono (Nat.le_refl _) (by simp) u (taken_of h l u hu))
theorem set_mem {α : Type} {l : List α} {n : Nat} {a x : α} (h : x ∈ l.set n a) : x ∈ l ∨ x = a := by
  obtain ⟨i, hi⟩ := List.mem_iff_getElem?.1 h
  by_cases e : n = i
  · subst e
    have hl : n < l.length := by have := (List.getElem?_eq_some_iff.1 hi).1; rwa [List.length_set] at this
    rw [List.getElem?_set_self hl] at hi
    cases hi; exact .inr rfl
  · rw [List.getElem?_set_ne e] at hi
    exact .inl (List.mem_of_getElem? hi)
theorem Wf.setO {h : Hp} (hw : Wf h) {n : Nat} {o o' : Ob} (ho : h.obs[n]? = some o) (hf : ∀ u, u ∈ o'.fields → u ∈ o.fields ∨ ofV h.obs.length h.bus.length u = true) : Wf { h with obs := h.obs.set n o' } := by
  refine hw.mono (by simp) (Nat.le_refl _) (fun x hx => ?_) (fun b hb => .inl ⟨b, hb, fun _ h => h⟩)
  rcases set_mem hx with hx | rfl
  · exact .inl ⟨x, hx, fun _ h => h⟩
  · refine .inr fun u hu => ?_
    rw [List.length_set]
    rcases hf u hu with h1 | h1
    · exact hw.fld o (List.mem_of_getElem? ho) u h1
    · exact h1
theorem Wf.setB {h : Hp} (hw : Wf h) {n : Nat} {b b' : Bu} (hb : h.bus[n]? = some b) (hf : ∀ u, u ∈ b'.elems → u ∈ b.elems ∨ ofV h.obs.length h.bus.length u = true) : Wf { h with bus := h.bus.set n b' } := by
  refine hw.mono (Nat.le_refl _) (by simp) (fun o ho => .inl ⟨o, ho, fun _ h => h⟩) (fun x hx => ?_)
  rcases set_mem hx with hx | rfl
  · exact .inl ⟨x, hx, fun _ h => h⟩
  · refine .inr fun u hu => ?_
    rw [List.length_set]
    rcases hf u hu with h1 | h1
    · exact hw.elm b (List.mem_of_getElem? hb) u h1
    · exact h1
theorem weak_wf {h : Hp} (hw : Wf h) (v : Va) : Wf (weakP h v).1 := by
  unfold weakP
  split
  · split
    · rename_i o ho
      split
      · exact hw
      · exact hw.setO ho fun u hu => .inl hu
    · exact hw
  · exact hw
theorem load_wf {h : Hp} (hw : Wf h) (v : Va) : Wf (loadP h v).1 := by
  unfold loadP
  split
  · split
    · rename_i o ho
      split
      · exact hw.setO ho fun u hu => .inl hu
      · exact hw
    · exact hw
  · exact hw
theorem set_wf {h : Hp} (hw : Wf h) (x f : Int) (v : Va) : Wf (setP h x f v).1 := by
  unfold setP
  split
  · rename_i hv
    split
    · split
      · rename_i o ho
        split
        · exact hw.setO ho fun u hu => by
            rcases set_mem hu with h1 | rfl
            · exact .inl h1
            · exact .inr hv
        · exact hw
      · exact hw
    · exact hw
  · exact hw
theorem put_wf {h : Hp} (hw : Wf h) (v : Va) (f : Int) (x : Va) : Wf (putP h v f x).1 := by
  unfold putP
  split
  · rename_i h0
    obtain ⟨-, -, -, -, hx⟩ := alone0 h0
    split
    · rename_i b hb
      split
      · split
        · exact hw.setB hb fun u hu => by
            rcases set_mem hu with h1 | rfl
            · exact .inl h1
            · exact .inr hx
        · exact hw
      · exact hw
    · exact hw
  · exact hw
theorem append_wf {h : Hp} (hw : Wf h) (v x : Va) : Wf (appendP h v x).1 := by
  unfold appendP
  split
  · rename_i h0
    obtain ⟨-, -, -, -, hx⟩ := alone0 h0
    split
    · rename_i b hb
      exact hw.setB hb fun u hu => by
        rcases List.mem_append.1 hu with h1 | h1
        · exact .inl h1
        · rw [List.mem_singleton.1 h1]; exact .inr hx
    · exact hw
  · exact hw
theorem end_wf {h : Hp} (hw : Wf h) (v : Va) : Wf (endP h v).1 := by
  unfold endP
  split
  · rename_i hv
    split
    · exact hw
    · refine ⟨hw.fld, hw.elm, fun ts hts t ht => ?_⟩
      rcases List.mem_append.1 hts with h1 | h1
      · exact hw.tsk ts h1 t ht
      · rw [List.mem_singleton.1 h1] at ht
        rw [List.mem_singleton.1 ht]
        exact ⟨fun u e => by cases e; exact hv, fun o i e => by cases e⟩
  · exact hw
theorem own_wf {h : Hp} (hw : Wf h) (v : Va) : Wf (ownP h v).1 := by
  unfold ownP
  split
  · split
    · rename_i b hb
      split
      · exact hw
      · split
        · exact hw
        · split
          · rename_i b1 hb1
            have hs := cntVs_sameF 1 b.elems h
            have h1 := (cntVs_same 1 b.elems h).1
            have h2 := (cntVs_same 1 b.elems h).2.1
            refine (hw.same hs).mono (obs := (cntVs 1 b.elems h).obs) (bus := (cntVs 1 b.elems h).bus.set v.num.toNat (addB (-1) b1) ++ [(⟨1, b.elems⟩ : Bu)]) (Nat.le_refl _) (by simp) (fun o ho => .inl ⟨o, ho, fun _ h => h⟩) (fun x hx => ?_)
            rcases List.mem_append.1 hx with hx | hx
            · rcases set_mem hx with hx | rfl
              · exact .inl ⟨x, hx, fun _ h => h⟩
              · exact .inl ⟨b1, List.mem_of_getElem? hb1, fun _ h => h⟩
            · rw [List.mem_singleton.1 hx]
              refine .inr fun u hu => ofV_mono (by omega) (by simp; omega) u (hw.elm b (List.mem_of_getElem? hb) u hu)
          · exact hw
    · exact hw
  · exact hw
theorem later_mem {l : List Va} {t : Tk} (h : t ∈ laterV l) : ∃ v, v ∈ l ∧ t = .val v := by
  unfold laterV at h
  obtain ⟨v, hv, e⟩ := List.mem_map.1 h
  exact ⟨v, List.mem_reverse.1 hv, e.symm⟩
/-- A list of tasks of a heap. -/
def WfT (h : Hp) (l : List Tk) : Prop := ∀ t, t ∈ l → (∀ v, t = .val v → ofV h.obs.length h.bus.length v = true) ∧ ∀ o i, t = .flds o i → o < h.obs.length
theorem parts_of {no nb : Nat} {v : Va} (h : ofV no nb v = true) (hk : hasK v.kind = true) : ∀ u, u ∈ v.parts → ofV no nb u = true := by
  rw [hasK_eq] at hk
  simp at hk
  rw [ofV_eq, if_neg (by omega), if_neg (by omega), if_pos (by rw [hasK_eq]; simpa using hk)] at h
  exact ofVs_iff.1 h
theorem WfT.len {h h' : Hp} {l : List Tk} (hl : WfT h l) (h1 : h'.obs.length = h.obs.length) (h2 : h'.bus.length = h.bus.length) : WfT h' l := fun t ht => by rw [h1, h2]; exact hl t ht
theorem WfT.cat {h : Hp} {l m : List Tk} (hl : WfT h l) (hm : WfT h m) : WfT h (l ++ m) := fun t ht => by
  rcases List.mem_append.1 ht with ht | ht
  · exact hl t ht
  · exact hm t ht
theorem WfT.later {h : Hp} {l : List Va} (hl : ∀ u, u ∈ l → ofV h.obs.length h.bus.length u = true) : WfT h (laterV l) := fun t ht => by
  obtain ⟨v, hv, rfl⟩ := later_mem ht
  exact ⟨fun u e => by cases e; exact hl v hv, fun o i e => by cases e⟩
theorem modify_same {α : Type} {l : List α} {n : Nat} {f : α → α} (h : l[n]? = none) : l.modify n f = l := by
  apply List.ext_getElem?
  intro j
  rw [List.getElem?_modify]
  by_cases e : n = j
  · rw [← e, h]; rfl
  · simp [e]
theorem Wf.modO {h : Hp} (hw : Wf h) {n : Nat} {f : Ob → Ob} (hf : ∀ o, h.obs[n]? = some o → ∀ u, u ∈ (f o).fields → u ∈ o.fields ∨ u = va0) : Wf { h with obs := h.obs.modify n f } := by
  cases ho : h.obs[n]? with
  | none => rw [modify_same ho]; exact hw
  | some o =>
    rw [modify_eq f ho]
    exact hw.setO ho fun u hu => (hf o ho u hu).imp id fun e => by rw [e]; exact ofV_zero _ _
theorem Wf.modB {h : Hp} (hw : Wf h) {n : Nat} {f : Bu → Bu} (hf : ∀ b, h.bus[n]? = some b → ∀ u, u ∈ (f b).elems → u ∈ b.elems) : Wf { h with bus := h.bus.modify n f } := by
  cases hb : h.bus[n]? with
  | none => rw [modify_same hb]; exact hw
  | some b =>
    rw [modify_eq f hb]
    exact hw.setB hb fun u hu => .inl (hf b hb u hu)
/-- A task done keeps all values of the heap. -/
theorem step_wf {h : Hp} (hw : Wf h) {l : List Tk} {t : Tk} (hl : WfT h (l ++ [t])) : Wf (stepV' h l t).1 ∧ WfT (stepV' h l t).1 (stepV' h l t).2.1 := by
  have hll : WfT h l := fun x hx => hl x (List.mem_append.2 (.inl hx))
  have ht := hl t (by simp)
  cases t with
  | flds o i =>
    have hol : o < h.obs.length := ht.2 o i rfl
    cases ho : h.obs[o]? with
    | none => simp only [stepV', ho]; exact ⟨hw, hll⟩
    | some ob =>
      cases hf : ob.fields[i]? with
      | some v =>
        simp only [stepV', ho, hf]
        refine ⟨hw, hll.cat fun x hx => ?_⟩
        simp only [List.mem_cons, List.not_mem_nil, or_false] at hx
        rcases hx with rfl | rfl
        · exact ⟨fun v e => (by cases e), fun o i e => by cases e; exact hol⟩
        · exact ⟨fun u e => by cases e; exact hw.fld ob (List.mem_of_getElem? ho) v (List.mem_of_getElem? hf), fun o i e => by cases e⟩
      | none =>
        simp only [stepV', ho, hf]
        exact ⟨hw.modO fun x _ u hu => .inr (List.mem_replicate.1 hu).2, hll.len (by simp) rfl⟩
  | val v =>
    have hv := ht.1 v rfl
    by_cases c7 : v.kind = 7
    · have hn : v.num.toNat < h.obs.length := by
        rw [ofV_eq, if_pos (.inl c7)] at hv
        have := of_decide_eq_true hv
        omega
      cases ho : h.obs[v.num.toNat]? with
      | none => simp only [stepV', c7, if_true, ho]; exact ⟨hw, hll⟩
      | some ob =>
        by_cases hc : w64 (ob.count + -1) ≠ 0 ∨ ob.state ≠ 1
        · simp only [stepV', c7, if_true, ho, if_pos hc]
          exact ⟨hw.modO fun x _ u hu => .inl hu, hll.len (by simp) rfl⟩
        · simp only [stepV', c7, if_true, ho, if_neg hc]
          refine ⟨hw.modO fun x _ u hu => .inl hu, WfT.cat (hll.len (by simp) rfl) fun x hx => ?_⟩
          rw [List.mem_singleton.1 hx]
          exact ⟨fun u e => (by cases e), fun o i e => by cases e; simpa using hn⟩
    · by_cases c11 : v.kind = 11
      · simp only [stepV', if_neg c7, if_pos c11]
        exact ⟨hw.modO fun x _ u hu => .inl hu, hll.len (by simp) rfl⟩
      · by_cases c8 : v.kind = 8
        · cases hb : h.bus[v.num.toNat]? with
          | none => simp only [stepV', if_neg c7, if_neg c11, if_pos c8, hb]; exact ⟨hw, hll⟩
          | some b =>
            by_cases hc : w64 (b.count + -1) = 0
            · simp only [stepV', if_neg c7, if_neg c11, if_pos c8, hb, if_pos hc]
              exact ⟨hw.modB fun x _ u hu => (by cases hu), (hll.cat (WfT.later fun u hu => hw.elm b (List.mem_of_getElem? hb) u hu)).len rfl (by simp)⟩
            · simp only [stepV', if_neg c7, if_neg c11, if_pos c8, hb, if_neg hc]
              exact ⟨hw.modB fun x _ u hu => hu, hll.len rfl (by simp)⟩
        · by_cases c5 : v.kind = 5
          · simp only [stepV', if_neg c7, if_neg c11, if_neg c8, if_pos c5]
            exact ⟨hw, hll.cat (WfT.later (parts_of hv (by rw [hasK_eq, c5]; rfl)))⟩
          · by_cases ck : hasK v.kind = true
            · simp only [stepV', if_neg c7, if_neg c11, if_neg c8, if_neg c5, if_pos ck]
              exact ⟨hw, hll.cat (WfT.later (parts_of hv ck))⟩
            · simp only [stepV', if_neg c7, if_neg c11, if_neg c8, if_neg c5, if_neg ck]
              exact ⟨hw, hll⟩
end Go.Proofs.Ytpamocglecangaa
namespace Go.Proofs.Ytpamocglecangaa
mutual
def wV : Va → Nat
  | .node _ _ _ _ _ l => 1 + wVs l
def wVs : List Va → Nat
  | [] => 0
  | v :: l => wV v + wVs l
end
theorem wV_eq (v : Va) : wV v = 1 + wVs v.parts := by cases v; rw [wV]; rfl
theorem wV_pos (v : Va) : 1 ≤ wV v := by rw [wV_eq]; omega
theorem wVs_len : ∀ l : List Va, l.length ≤ wVs l
  | [] => Nat.zero_le _
  | v :: l => by
    have := wVs_len l
    have := wV_pos v
    rw [wVs, List.length_cons]; omega
theorem wVs_drop {l : List Va} {i : Nat} {v : Va} (h : l[i]? = some v) : wVs (l.drop i) = wV v + wVs (l.drop (i + 1)) := by
  obtain ⟨h1, e⟩ := List.getElem?_eq_some_iff.1 h
  rw [List.drop_eq_getElem_cons h1, e, wVs]
theorem wVs_rep (n : Nat) : wVs (List.replicate n va0) = n := by
  induction n with
  | zero => rfl
  | succ n ih =>
    have h0 : wV va0 = 1 := by rw [wV_eq]; rfl
    rw [List.replicate_succ, wVs, ih, h0]; omega
def wO (o : Ob) : Nat := if o.state = 1 then 2 + o.fields.length + wVs o.fields else 0
def wT (h : Hp) : Tk → Nat
  | .val v => wV v
  | .flds o i => match h.obs[o]? with
    | some ob => 1 + (ob.fields.drop i).length + wVs (ob.fields.drop i)
    | none => 1
def sumN : List Nat → Nat
  | [] => 0
  | n :: l => n + sumN l
theorem sumN_cat : ∀ l m : List Nat, sumN (l ++ m) = sumN l + sumN m
  | [], m => by simp [sumN]
  | n :: l, m => by simp only [List.cons_append, sumN, sumN_cat l m]; omega
theorem sumN_le {α : Type} {f g : α → Nat} : ∀ {l : List α}, (∀ x, x ∈ l → f x ≤ g x) → sumN (l.map f) ≤ sumN (l.map g)
  | [], _ => Nat.le_refl _
  | a :: l, h => by
    have h1 := h a (by simp)
    have h2 := sumN_le (l := l) fun x hx => h x (by simp [hx])
    simp only [List.map_cons, sumN]; omega
theorem sumN_mod {α : Type} {f : α → Nat} {g : α → α} : ∀ {l : List α} {i : Nat} {x : α}, l[i]? = some x → sumN ((l.modify i g).map f) + f x = sumN (l.map f) + f (g x)
  | [], i, x, h => by simp at h
  | a :: l, 0, x, h => by
    simp at h; subst h
    simp only [List.modify_zero_cons, List.map_cons, sumN]; omega
  | a :: l, i + 1, x, h => by
    have := sumN_mod (f := f) (g := g) (l := l) (i := i) (x := x) (by simpa using h)
    simp only [List.modify_succ_cons, List.map_cons, sumN]; omega
def weight (h : Hp) (l : List Tk) : Nat := sumN (l.map (wT h)) + sumN (h.obs.map wO) + sumN (h.bus.map fun b => wVs b.elems)
theorem wT_pos (h : Hp) (t : Tk) : 1 ≤ wT h t := by
  cases t with
  | val v => exact wV_pos v
  | flds o i =>
    simp only [wT]
    split <;> omega
theorem sum_later (h : Hp) (l : List Va) : sumN ((laterV l).map (wT h)) = wVs l := by
  have hrev : ∀ l : List Nat, sumN l.reverse = sumN l := by
    intro l
    induction l with
    | nil => rfl
    | cons n l ih => rw [List.reverse_cons, sumN_cat, ih]; simp only [sumN]; omega
  have hm : ∀ l : List Va, sumN (l.map (wT h ∘ Tk.val)) = wVs l := by
    intro l
    induction l with
    | nil => rfl
    | cons v l ih => simp only [List.map_cons, sumN, ih, wVs, Function.comp, wT]
  unfold laterV
  rw [List.map_map, List.map_reverse, hrev, hm]
/-- Objects changed so that fields are as many, and weigh no more. -/
theorem wT_le {h : Hp} {obs : List Ob} (hl : obs.length = h.obs.length) (hf : ∀ (i : Nat) (o o' : Ob), h.obs[i]? = some o → obs[i]? = some o' → o'.fields.length = o.fields.length ∧ ∀ j, wVs (o'.fields.drop j) ≤ wVs (o.fields.drop j)) (t : Tk) : wT { h with obs := obs } t ≤ wT h t := by
  cases t with
  | val v => exact Nat.le_refl _
  | flds o i =>
    simp only [wT]
    cases h1 : h.obs[o]? with
    | none =>
      have : obs[o]? = none := by
        rw [List.getElem?_eq_none_iff] at h1 ⊢; omega
      simp only [this]; exact Nat.le_refl _
    | some ob =>
      have h2 : o < obs.length := by have := (List.getElem?_eq_some_iff.1 h1).1; omega
      simp only [List.getElem?_eq_getElem h2]
      obtain ⟨e1, e2⟩ := hf o ob _ h1 (List.getElem?_eq_getElem h2)
      have := e2 i
      simp only [List.length_drop, e1]
      omega
theorem mod_get {α : Type} {l : List α} {n i : Nat} {f : α → α} {a b : α} (h1 : l[i]? = some a) (h2 : (l.modify n f)[i]? = some b) : (i = n ∧ b = f a) ∨ (i ≠ n ∧ b = a) := by
  rw [List.getElem?_modify, h1] at h2
  by_cases e : n = i
  · simp [e] at h2
    exact .inl ⟨e.symm, h2.symm⟩
  · simp [e] at h2
    exact .inr ⟨fun e2 => e e2.symm, h2.symm⟩
theorem weight_obs {h : Hp} {l l' : List Tk} {n : Nat} {o : Ob} {f : Ob → Ob} (ho : h.obs[n]? = some o) (hlen : (f o).fields.length = o.fields.length) (hw : ∀ j, wVs ((f o).fields.drop j) ≤ wVs (o.fields.drop j)) {t : Tk} (hd : sumN (l'.map (wT { h with obs := h.obs.modify n f })) + wO (f o) < wT h t + wO o + sumN (l.map (wT { h with obs := h.obs.modify n f }))) : weight { h with obs := h.obs.modify n f } l' < weight h (l ++ [t]) := by
  have h1 := sumN_mod (f := wO) (g := f) ho
  have h2 : sumN (l.map (wT { h with obs := h.obs.modify n f })) ≤ sumN (l.map (wT h)) := sumN_le fun x _ => wT_le (by simp) (fun i a b e1 e2 => by
    rcases mod_get e1 e2 with ⟨rfl, rfl⟩ | ⟨_, rfl⟩
    · rw [ho] at e1; cases e1; exact ⟨hlen, hw⟩
    · exact ⟨rfl, fun _ => Nat.le_refl _⟩) x
  unfold weight
  rw [List.map_append, sumN_cat]
  simp only [List.map_cons, List.map_nil, sumN]
  show _ + sumN ((h.obs.modify n f).map wO) + _ < _
  omega
theorem weight_pop {h : Hp} {l : List Tk} {t : Tk} : weight h l < weight h (l ++ [t]) := by
  have := wT_pos h t
  unfold weight
  rw [List.map_append, sumN_cat]
  simp only [List.map_cons, List.map_nil, sumN]
  omega
/-- A task done: what is left weighs less. -/
theorem step_falls (h : Hp) (l : List Tk) (t : Tk) : weight (stepV' h l t).1 (stepV' h l t).2.1 < weight h (l ++ [t]) := by
  cases t with
  | flds o i =>
    cases ho : h.obs[o]? with
    | none =>
      simp only [stepV', ho]
      exact weight_pop
    | some ob =>
      cases hf : ob.fields[i]? with
      | some v =>
        simp only [stepV', ho, hf]
        have h1 := wVs_drop hf
        have hil := (List.getElem?_eq_some_iff.1 hf).1
        unfold weight
        rw [List.map_append, List.map_append, sumN_cat, sumN_cat]
        simp only [List.map_cons, List.map_nil, sumN, wT, ho, List.length_drop]
        omega
      | none =>
        simp only [stepV', ho, hf]
        refine weight_obs (f := fun ob => { ob with fields := List.replicate ob.fields.length va0, state := 3 }) ho (by simp) (fun j => ?_) ?_
        · simp only [List.drop_replicate, wVs_rep]
          have := wVs_len (ob.fields.drop j)
          rwa [List.length_drop] at this
        · have := wT_pos h (.flds o i)
          simp only [wO]
          simp
          omega
  | val v =>
    have hp := wV_pos v
    have hpop : weight h l < weight h (l ++ [.val v]) := weight_pop
    have hl : weight h (l ++ laterV v.parts) < weight h (l ++ [.val v]) := by
      have := wV_eq v
      unfold weight
      simp only [List.map_append, sumN_cat, List.map_cons, List.map_nil, sumN, sum_later, wT]
      omega
    by_cases c7 : v.kind = 7
    · cases ho : h.obs[v.num.toNat]? with
      | none => simp only [stepV', c7, if_true, ho]; exact hpop
      | some ob =>
        by_cases hc : w64 (ob.count + -1) ≠ 0 ∨ ob.state ≠ 1
        · simp only [stepV', c7, if_true, ho, if_pos hc]
          exact weight_obs (f := addC (-1)) ho rfl (fun _ => Nat.le_refl _) (by rw [show wO (addC (-1) ob) = wO ob from rfl]; simp only [wT]; omega)
        · have hs : ob.state = 1 := Classical.not_not.1 fun e => hc (.inr e)
          simp only [stepV', c7, if_true, ho, if_neg hc]
          refine weight_obs (f := fun ob => { addC (-1) ob with state := 2 }) ho rfl (fun _ => Nat.le_refl _) ?_
          rw [List.map_append, sumN_cat]
          simp only [List.map_cons, List.map_nil, sumN, wT, wO, addC, hs, List.drop_zero, if_true]
          simp [ho]
          omega
    · by_cases c11 : v.kind = 11
      · simp only [stepV', if_neg c7, if_pos c11]
        cases ho : h.obs[v.num.toNat]? with
        | none =>
          have : h.obs.modify v.num.toNat (addW (-1)) = h.obs := by
            apply List.ext_getElem?
            intro j
            rw [List.getElem?_modify]
            by_cases e : v.num.toNat = j
            · rw [← e, ho]; rfl
            · simp [e]
          rw [this]; exact hpop
        | some ob => exact weight_obs (f := addW (-1)) ho rfl (fun _ => Nat.le_refl _) (by rw [show wO (addW (-1) ob) = wO ob from rfl]; simp only [wT]; omega)
      · by_cases c8 : v.kind = 8
        · cases hb : h.bus[v.num.toNat]? with
          | none => simp only [stepV', if_neg c7, if_neg c11, if_pos c8, hb]; exact hpop
          | some b =>
            by_cases hc : w64 (b.count + -1) = 0
            · simp only [stepV', if_neg c7, if_neg c11, if_pos c8, hb, if_pos hc]
              have h1 := sumN_mod (f := fun b : Bu => wVs b.elems) (g := fun b => { addB (-1) b with elems := [] }) hb
              have h2 : wT { h with bus := h.bus.modify v.num.toNat fun b => { addB (-1) b with elems := [] } } = wT h := funext fun t => by cases t <;> rfl
              unfold weight
              simp only [List.map_append, sumN_cat, List.map_cons, List.map_nil, sumN, sum_later, h2]
              simp only [addB, wVs, wT] at h1 ⊢
              omega
            · simp only [stepV', if_neg c7, if_neg c11, if_pos c8, hb, if_neg hc]
              have h1 := sumN_mod (f := fun b : Bu => wVs b.elems) (g := addB (-1)) hb
              have h2 : wT { h with bus := h.bus.modify v.num.toNat (addB (-1)) } = wT h := funext fun t => by cases t <;> rfl
              unfold weight
              simp only [List.map_append, sumN_cat, List.map_cons, List.map_nil, sumN, h2]
              simp only [addB, wT] at h1 ⊢
              omega
        · by_cases c5 : v.kind = 5
          · simp only [stepV', if_neg c7, if_neg c11, if_neg c8, if_pos c5]; exact hl
          · by_cases ck : hasK v.kind = true
            · simp only [stepV', if_neg c7, if_neg c11, if_neg c8, if_neg c5, if_pos ck]; exact hl
            · simp only [stepV', if_neg c7, if_neg c11, if_neg c8, if_neg c5, if_neg ck]; exact hpop
end Go.Proofs.Ytpamocglecangaa
namespace Go.Proofs.Ytpamocglecangaa
def runN : Nat → Hp → List Tk → Hp × List Tk × Option Va
  | 0, h, l => (h, l, none)
  | n + 1, h, l => match l.getLast? with
    | none => (h, l, none)
    | some t => match (stepV' h l.dropLast t).2.2 with
      | some v => ((stepV' h l.dropLast t).1, (stepV' h l.dropLast t).2.1, some v)
      | none => runN n (stepV' h l.dropLast t).1 (stepV' h l.dropLast t).2.1
theorem last_split {l : List Tk} {t : Tk} (h : l.getLast? = some t) : l = l.dropLast ++ [t] := by
  rw [List.getLast?_eq_some_iff] at h
  obtain ⟨m, rfl⟩ := h
  simp
theorem run_keeps : ∀ (n : Nat) (h : Hp) (l : List Tk), Wf h → WfT h l → Up h.obs (runN n h l).1.obs ∧ Wf (runN n h l).1 ∧ WfT (runN n h l).1 (runN n h l).2.1
  | 0, h, l, hw, hl => ⟨Up.refl _, hw, hl⟩
  | n + 1, h, l, hw, hl => by
    simp only [runN]
    cases ht : l.getLast? with
    | none => exact ⟨Up.refl _, hw, hl⟩
    | some t =>
      simp only
      have hu := step_up h l.dropLast t
      rw [last_split ht] at hl
      obtain ⟨w1, w2⟩ := step_wf hw hl
      cases hd : (stepV' h l.dropLast t).2.2 with
      | some v => exact ⟨hu, w1, w2⟩
      | none =>
        obtain ⟨a, b, c⟩ := run_keeps n _ _ w1 w2
        exact ⟨hu.trans a, b, c⟩
def nextP (h : Hp) : Hp × Va × Bool := match h.lev.getLast? with
  | none => (h, va0, false)
  | some l => match (runN (weight h l) h l).2.2 with
    | some v => ({ (runN (weight h l) h l).1 with lev := h.lev.dropLast ++ [(runN (weight h l) h l).2.1] }, v, true)
    | none => ({ (runN (weight h l) h l).1 with lev := h.lev.dropLast }, va0, false)
theorem Up.len {l l' : List Ob} (h : Up l l') (ok : OkS l) : l.length ≤ l'.length := by
  rcases Nat.lt_or_ge l'.length l.length with h1 | h1
  · obtain ⟨o', h2, -⟩ := (h ok).1 l'.length _ (List.getElem?_eq_getElem h1)
    rw [List.getElem?_eq_none (Nat.le_refl _)] at h2
    cases h2
  · exact h1
theorem next_up {h : Hp} (hw : Wf h) : Up h.obs (nextP h).1.obs := by
  unfold nextP
  cases hl : h.lev.getLast? with
  | none => exact Up.refl _
  | some l =>
    have hm : l ∈ h.lev := List.mem_of_getLast? hl
    obtain ⟨a, -, -⟩ := run_keeps (weight h l) h l hw (fun t ht => hw.tsk l hm t ht)
    simp only
    split <;> exact a
theorem step_lev (h : Hp) (l : List Tk) (t : Tk) : (stepV' h l t).1.lev = h.lev := by
  unfold stepV'
  repeat' split
  all_goals rfl
theorem run_lev : ∀ (n : Nat) (h : Hp) (l : List Tk), (runN n h l).1.lev = h.lev
  | 0, h, l => rfl
  | n + 1, h, l => by
    simp only [runN]
    cases l.getLast? with
    | none => rfl
    | some t =>
      simp only
      cases (stepV' h l.dropLast t).2.2 with
      | some v => exact step_lev h _ t
      | none => exact (run_lev n _ _).trans (step_lev h _ t)
theorem next_wf {h : Hp} (hw : Wf h) : Wf (nextP h).1 := by
  unfold nextP
  cases hl : h.lev.getLast? with
  | none => exact hw
  | some l =>
    have hm : l ∈ h.lev := List.mem_of_getLast? hl
    obtain ⟨-, b, c⟩ := run_keeps (weight h l) h l hw (fun t ht => hw.tsk l hm t ht)
    have hlev := run_lev (weight h l) h l
    have hd : ∀ ts, ts ∈ h.lev.dropLast → ts ∈ (runN (weight h l) h l).1.lev := fun ts hts => by
      rw [hlev]; exact List.dropLast_subset _ hts
    simp only
    split
    · refine ⟨b.fld, b.elm, fun ts hts => ?_⟩
      rcases List.mem_append.1 hts with h1 | h1
      · exact b.tsk ts (hd ts h1)
      · rw [List.mem_singleton.1 h1]; exact c
    · exact ⟨b.fld, b.elm, fun ts hts => b.tsk ts (hd ts hts)⟩
end Go.Proofs.Ytpamocglecangaa
