/- States never fall: plainly. Values of a heap stay values of it: plainly. Next, plainly: tasks of the topmost level till one is due. Scripts in memory: calls of the heap; the law's big. Operations one after another: how great a heap can grow. Plainly. Next leaves no more than there was; the operations together. Plainly. The program's end, at an object. The program's end, at what is no object. -/
import Derived.Test.YtpamocglecangaaPD7
import Derived.Test.YtpamocglecangaaPD2
import Derived.Test.YtpamocglecangaaPD5
import Derived.Test.YtpamocglecangaaPD1
import Derived.Test.YtpamocglecangaaPD4
set_option maxHeartbeats 16000000
set_option maxRecDepth 100000
namespace Go.Proofs.Ytpamocglecangaa
def OkS (l : List Ob) : Prop := ∀ o, o ∈ l -> 1 <= o.state /\ o.state <= 3
def Up (l l' : List Ob) : Prop := OkS l -> (∀ (i : Nat) (o : Ob), l[i]? = some o -> ∃ o', l'[i]? = some o' /\ o.state <= o'.state) /\ OkS l'
theorem Up.refl (l : List Ob) : Up l l := fun h => ⟨fun _ o h => ⟨o, h, Int.le_refl _⟩, h⟩
theorem Up.trans {l m n : List Ob} (h : Up l m) (h2 : Up m n) : Up l n := fun ok => by
 obtain ⟨a1, a2⟩ := h ok
 obtain ⟨b1, b2⟩ := h2 a2
 refine ⟨fun i o ho => ?_, b2⟩
 obtain ⟨o', h3, h4⟩ := a1 i o ho
 obtain ⟨o2, h5, h6⟩ := b1 i o' h3
 exact ⟨o2, h5, Int.le_trans h4 h6⟩
theorem Up.modify {l : List Ob} {n : Nat} {f : Ob -> Ob} (hf : ∀ o, l[n]? = some o -> 1 <= o.state -> o.state <= 3 -> o.state <= (f o).state /\ (f o).state <= 3) : Up l (l.modify n f) := fun ok => by
 have hg : ∀ i : Nat, (l.modify n f)[i]? = (if n = i then l[i]?.map f else l[i]?) := fun i => by
  rw [List.getElem?_modify]
  by_cases e : n = i
  ·simp [e]
  ·simp [e]
 refine ⟨fun i o ho => ?_, fun o ho => ?_⟩
 ·rw [hg]
  split
  ·rename_i e
   subst e
   rw [ho]
   have h2 := ok o (List.mem_of_getElem? ho)
   exact ⟨f o, rfl, (hf o ho h2.1 h2.2).1⟩
  ·exact ⟨o, ho, Int.le_refl _⟩
 ·obtain ⟨i, hi⟩ := List.mem_iff_getElem?.1 ho
  rw [hg] at hi
  split at hi
  ·rename_i e
   subst e
   cases h1 : l[n]? with
   | none => rw [h1] at hi; cases hi
   | some x =>
    rw [h1] at hi
    cases hi
    have h2 := ok x (List.mem_of_getElem? h1)
    have h3 := hf x h1 h2.1 h2.2
    exact ⟨by omega, h3.2⟩
  ·exact ok o (List.mem_of_getElem? hi)
theorem Up.set {l : List Ob} {n : Nat} {o o' : Ob} (ho : l[n]? = some o) (h1 : 1 <= o.state -> o.state <= 3 -> o.state <= o'.state /\ o'.state <= 3) : Up l (l.set n o') := by
 have : l.set n o' = l.modify n fun _ => o' := (modify_eq (fun _ => o') ho).symm
 rw [this]
 exact Up.modify fun x hx => by rw [ho] at hx; cases hx; exact h1
theorem Up.add (l : List Ob) {o : Ob} (h : o.state = 1) : Up l (l ++ [o]) := fun ok => ⟨fun i x hx => ⟨x, by rw [List.getElem?_append_left (List.getElem?_eq_some_iff.1 hx).1]; exact hx, Int.le_refl _⟩, fun x hx => by
 rcases List.mem_append.1 hx with hx | hx
 ·exact ok x hx
 ·rw [List.mem_singleton.1 hx, h]; omega⟩
theorem step_up (h : Hp) (l : List Tk) (t : Tk) : Up h.obs (stepV' h l t).1.obs := by
 cases t with
 | flds o i =>
  cases ho : h.obs[o]? with
  | none => simp only [stepV', ho]; exact Up.refl _
  | some ob =>
   cases hf : ob.fields[i]? with
   | some v => simp only [stepV', ho, hf]; exact Up.refl _
   | none =>
    simp only [stepV', ho, hf]
    exact Up.modify fun o _ _ h => ⟨h, Int.le_refl _⟩
 | val v =>
  by_cases c7 : v.kind = 7
  ·cases ho : h.obs[v.num.toNat]? with
   | none => simp only [stepV', c7, if_true, ho]; exact Up.refl _
   | some ob =>
    by_cases hc : w64 (ob.count + -1) ≠ 0 ∨ ob.state ≠ 1
    ·simp only [stepV', c7, if_true, ho, if_pos hc]
     exact Up.modify fun o _ _ h => ⟨Int.le_refl _, h⟩
    ·have hs : ob.state = 1 := Classical.not_not.1 fun e => hc (.inr e)
     simp only [stepV', c7, if_true, ho, if_neg hc]
     exact Up.modify fun x hx => by
      rw [ho] at hx; cases hx
      simp only [addC, hs]
      intros
      constructor <;> omega
  ·by_cases c11 : v.kind = 11
   ·simp only [stepV', if_neg c7, if_pos c11]
    exact Up.modify fun o _ _ h => ⟨Int.le_refl _, h⟩
   ·by_cases c8 : v.kind = 8
    ·cases hb : h.bus[v.num.toNat]? with
     | none => simp only [stepV', if_neg c7, if_neg c11, if_pos c8, hb]; exact Up.refl _
     | some b =>
      by_cases hc : w64 (b.count + -1) = 0
      ·simp only [stepV', if_neg c7, if_neg c11, if_pos c8, hb, if_pos hc]; exact Up.refl _
      ·simp only [stepV', if_neg c7, if_neg c11, if_pos c8, hb, if_neg hc]; exact Up.refl _
    ·by_cases c5 : v.kind = 5
     ·simp only [stepV', if_neg c7, if_neg c11, if_neg c8, if_pos c5]; exact Up.refl _
     ·by_cases ck : hasK v.kind = true
      ·simp only [stepV', if_neg c7, if_neg c11, if_neg c8, if_neg c5, if_pos ck]; exact Up.refl _
      ·simp only [stepV', if_neg c7, if_neg c11, if_neg c8, if_neg c5, if_neg ck]; exact Up.refl _
end Go.Proofs.Ytpamocglecangaa
namespace Go.Proofs.Ytpamocglecangaa
structure Wf (h : Hp) : Prop where
 fld : ∀ o, o ∈ h.obs -> ∀ u, u ∈ o.fields -> ofV h.obs.length h.bus.length u = true
 elm : ∀ b, b ∈ h.bus -> ∀ u, u ∈ b.elems -> ofV h.obs.length h.bus.length u = true
 tsk : ∀ ts, ts ∈ h.lev -> ∀ t, t ∈ ts -> (∀ v, t = .val v -> ofV h.obs.length h.bus.length v = true) /\ ∀ o i, t = .flds o i -> o < h.obs.length
structure SameF (h h' : Hp) : Prop where
 obs : h'.obs.map (·.fields) = h.obs.map (·.fields)
 bus : h'.bus.map (·.elems) = h.bus.map (·.elems)
 lev : h'.lev = h.lev
theorem SameF.refl (h : Hp) : SameF h h := ⟨rfl, rfl, rfl⟩
theorem SameF.trans {a b c : Hp} (h : SameF a b) (h2 : SameF b c) : SameF a c := ⟨h2.obs.trans h.obs, h2.bus.trans h.bus, h2.lev.trans h.lev⟩
theorem map_modify {α β : Type} {f : α -> β} {g : α -> α} (hg : ∀ x, f (g x) = f x) : ∀ (l : List α) (n : Nat), (l.modify n g).map f = l.map f
 | [], n => by simp
 | a :: l, 0 => by simp [hg]
 | a :: l, n + 1 => by simp [map_modify hg l n]
theorem cntV_sameF (x : Int) : ∀ (v : Va) (h : Hp), SameF h (cntV x v h) := Va.ind fun v ih h => by
 have hl : ∀ (l : List Va), (∀ u, u ∈ l -> u ∈ v.parts) -> ∀ h, SameF h (cntVs x l h) := by
  intro l
  induction l with
  | nil => intro _ h; rw [cntVs]; exact SameF.refl _
  | cons u l ihl =>
   intro hm h
   rw [cntVs]
   exact (ih u (hm u (by simp)) h).trans (ihl (fun u hu => hm u (by simp [hu])) (cntV x u h))
 rw [cntV_eq]
 split
 ·exact ⟨map_modify (f := fun o : Ob => o.fields) (g := addC x) (fun _ => rfl) _ _, rfl, rfl⟩
 ·split
  ·exact ⟨map_modify (f := fun o : Ob => o.fields) (g := addW x) (fun _ => rfl) _ _, rfl, rfl⟩
  ·split
   ·exact ⟨rfl, map_modify (f := fun o : Bu => o.elems) (g := addB x) (fun _ => rfl) _ _, rfl⟩
   ·split
    ·exact hl v.parts (fun _ h => h) h
    ·exact SameF.refl _
theorem cntVs_sameF (x : Int) : ∀ (l : List Va) (h : Hp), SameF h (cntVs x l h)
 | [], h => by rw [cntVs]; exact SameF.refl _
 | u :: l, h => by rw [cntVs]; exact (cntV_sameF x u h).trans (cntVs_sameF x l _)
theorem Wf.same {h h' : Hp} (hw : Wf h) (hs : SameF h h') : Wf h' := by
 have h1 : h'.obs.length = h.obs.length := by have := congrArg List.length hs.obs; simpa using this
 have h2 : h'.bus.length = h.bus.length := by have := congrArg List.length hs.bus; simpa using this
 refine ⟨fun o ho u hu => ?_, fun b hb u hu => ?_, fun ts hts t ht => ?_⟩
 ·rw [h1, h2]
  have : o.fields ∈ h.obs.map (·.fields) := by rw [<- hs.obs]; exact List.mem_map_of_mem ho
  obtain ⟨o', ho', e⟩ := List.mem_map.1 this
  exact hw.fld o' ho' u (by rw [e]; exact hu)
 ·rw [h1, h2]
  have : b.elems ∈ h.bus.map (·.elems) := by rw [<- hs.bus]; exact List.mem_map_of_mem hb
  obtain ⟨b', hb', e⟩ := List.mem_map.1 this
  exact hw.elm b' hb' u (by rw [e]; exact hu)
 ·rw [hs.lev] at hts
  rw [h1, h2]
  exact hw.tsk ts hts t ht
theorem Wf.mono {h : Hp} (hw : Wf h) {obs : List Ob} {bus : List Bu} (h1 : h.obs.length <= obs.length) (h2 : h.bus.length <= bus.length) (ho : ∀ o, o ∈ obs -> (∃ o', o' ∈ h.obs /\ ∀ u, u ∈ o.fields -> u ∈ o'.fields) ∨ ∀ u, u ∈ o.fields -> ofV obs.length bus.length u = true) (hb : ∀ b, b ∈ bus -> (∃ b', b' ∈ h.bus /\ ∀ u, u ∈ b.elems -> u ∈ b'.elems) ∨ ∀ u, u ∈ b.elems -> ofV obs.length bus.length u = true) : Wf { h with obs := obs, bus := bus } where
 fld := fun o hmem u hu => by
  rcases ho o hmem with ⟨o', h3, h4⟩ | h3
  ·exact ofV_mono h1 h2 u (hw.fld o' h3 u (h4 u hu))
  ·exact h3 u hu
 elm := fun b hmem u hu => by
  rcases hb b hmem with ⟨b', h3, h4⟩ | h3
  ·exact ofV_mono h1 h2 u (hw.elm b' h3 u (h4 u hu))
  ·exact h3 u hu
 tsk := fun ts hts t ht => by
  obtain ⟨h3, h4⟩ := hw.tsk ts hts t ht
  exact ⟨fun v e => ofV_mono h1 h2 v (h3 v e), fun o i e => Nat.lt_of_lt_of_le (h4 o i e) h1⟩
theorem ofV_zero (no nb : Nat) : ofV no nb va0 = true := by rw [ofV_eq]; rfl
theorem taken_of (h : Hp) (l : List Va) : ∀ u, u ∈ takenV h l -> ofV h.obs.length h.bus.length u = true := fun u hu => by
 obtain ⟨v, -, rfl⟩ := List.mem_map.1 hu
 split
 ·assumption
 ·exact ofV_zero _ _
theorem copy_wf {h : Hp} (hw : Wf h) (v : Va) : Wf (copyP h v).1 := by
 unfold copyP
 split
 ·split
  ·exact hw
  ·exact hw.same (cntV_sameF 1 v h)
 ·exact hw
theorem make_wf {h : Hp} (hw : Wf h) (t : Ty) (l : List Va) : Wf (makeP h t l).1 := by
 unfold makeP
 exact hw.mono (obs := h.obs ++ [(⟨t, 1, 1, 0, takenV h l⟩ : Ob)]) (bus := h.bus) (by simp) (Nat.le_refl _) (fun o ho => by
  rcases List.mem_append.1 ho with ho | ho
  ·exact .inl ⟨o, ho, fun _ h => h⟩
  ·rw [List.mem_singleton.1 ho]
   exact .inr fun u hu => ofV_mono (by simp) (Nat.le_refl _) u (taken_of h l u hu)) (fun b hb => .inl ⟨b, hb, fun _ h => h⟩)
theorem array_wf {h : Hp} (hw : Wf h) (t : Ty) (l : List Va) : Wf (arrayP h t l).1 := by
 unfold arrayP
 exact hw.mono (obs := h.obs) (bus := h.bus ++ [(⟨1, takenV h l⟩ : Bu)]) (Nat.le_refl _) (by simp) (fun o ho => .inl ⟨o, ho, fun _ h => h⟩) (fun b hb => by
  rcases List.mem_append.1 hb with hb | hb
  ·exact .inl ⟨b, hb, fun _ h => h⟩
  ·rw [List.mem_singleton.1 hb]
   exact .inr fun u hu => ofV_mono (Nat.le_refl _) (by simp) u (taken_of h l u hu))
theorem set_mem {α : Type} {l : List α} {n : Nat} {a x : α} (h : x ∈ l.set n a) : x ∈ l ∨ x = a := by
 obtain ⟨i, hi⟩ := List.mem_iff_getElem?.1 h
 by_cases e : n = i
 ·subst e
  have hl : n < l.length := by have := (List.getElem?_eq_some_iff.1 hi).1; rwa [List.length_set] at this
  rw [List.getElem?_set_self hl] at hi
  cases hi; exact .inr rfl
 ·rw [List.getElem?_set_ne e] at hi
  exact .inl (List.mem_of_getElem? hi)
theorem Wf.setO {h : Hp} (hw : Wf h) {n : Nat} {o o' : Ob} (ho : h.obs[n]? = some o) (hf : ∀ u, u ∈ o'.fields -> u ∈ o.fields ∨ ofV h.obs.length h.bus.length u = true) : Wf { h with obs := h.obs.set n o' } := by
 refine hw.mono (by simp) (Nat.le_refl _) (fun x hx => ?_) (fun b hb => .inl ⟨b, hb, fun _ h => h⟩)
 rcases set_mem hx with hx | rfl
 ·exact .inl ⟨x, hx, fun _ h => h⟩
 ·refine .inr fun u hu => ?_
  rw [List.length_set]
  rcases hf u hu with h1 | h1
  ·exact hw.fld o (List.mem_of_getElem? ho) u h1
  ·exact h1
theorem Wf.setB {h : Hp} (hw : Wf h) {n : Nat} {b b' : Bu} (hb : h.bus[n]? = some b) (hf : ∀ u, u ∈ b'.elems -> u ∈ b.elems ∨ ofV h.obs.length h.bus.length u = true) : Wf { h with bus := h.bus.set n b' } := by
 refine hw.mono (Nat.le_refl _) (by simp) (fun o ho => .inl ⟨o, ho, fun _ h => h⟩) (fun x hx => ?_)
 rcases set_mem hx with hx | rfl
 ·exact .inl ⟨x, hx, fun _ h => h⟩
 ·refine .inr fun u hu => ?_
  rw [List.length_set]
  rcases hf u hu with h1 | h1
  ·exact hw.elm b (List.mem_of_getElem? hb) u h1
  ·exact h1
theorem weak_wf {h : Hp} (hw : Wf h) (v : Va) : Wf (weakP h v).1 := by
 unfold weakP
 split
 ·split
  ·rename_i o ho
   split
   ·exact hw
   ·exact hw.setO ho fun u hu => .inl hu
  ·exact hw
 ·exact hw
theorem load_wf {h : Hp} (hw : Wf h) (v : Va) : Wf (loadP h v).1 := by
 unfold loadP
 split
 ·split
  ·rename_i o ho
   split
   ·exact hw.setO ho fun u hu => .inl hu
   ·exact hw
  ·exact hw
 ·exact hw
theorem set_wf {h : Hp} (hw : Wf h) (x f : Int) (v : Va) : Wf (setP h x f v).1 := by
 unfold setP
 split
 ·rename_i hv
  split
  ·split
   ·rename_i o ho
    split
    ·exact hw.setO ho fun u hu => by
      rcases set_mem hu with h1 | rfl
      ·exact .inl h1
      ·exact .inr hv
    ·exact hw
   ·exact hw
  ·exact hw
 ·exact hw
theorem put_wf {h : Hp} (hw : Wf h) (v : Va) (f : Int) (x : Va) : Wf (putP h v f x).1 := by
 unfold putP
 split
 ·rename_i h0
  obtain ⟨-, -, -, -, hx⟩ := alone0 h0
  split
  ·rename_i b hb
   split
   ·split
    ·exact hw.setB hb fun u hu => by
      rcases set_mem hu with h1 | rfl
      ·exact .inl h1
      ·exact .inr hx
    ·exact hw
   ·exact hw
  ·exact hw
 ·exact hw
theorem append_wf {h : Hp} (hw : Wf h) (v x : Va) : Wf (appendP h v x).1 := by
 unfold appendP
 split
 ·rename_i h0
  obtain ⟨-, -, -, -, hx⟩ := alone0 h0
  split
  ·rename_i b hb
   exact hw.setB hb fun u hu => by
    rcases List.mem_append.1 hu with h1 | h1
    ·exact .inl h1
    ·rw [List.mem_singleton.1 h1]; exact .inr hx
  ·exact hw
 ·exact hw
theorem end_wf {h : Hp} (hw : Wf h) (v : Va) : Wf (endP h v).1 := by
 unfold endP
 split
 ·rename_i hv
  split
  ·exact hw
  ·refine ⟨hw.fld, hw.elm, fun ts hts t ht => ?_⟩
   rcases List.mem_append.1 hts with h1 | h1
   ·exact hw.tsk ts h1 t ht
   ·rw [List.mem_singleton.1 h1] at ht
    rw [List.mem_singleton.1 ht]
    exact ⟨fun u e => by cases e; exact hv, fun o i e => by cases e⟩
 ·exact hw
theorem own_wf {h : Hp} (hw : Wf h) (v : Va) : Wf (ownP h v).1 := by
 unfold ownP
 split
 ·split
  ·rename_i b hb
   split
   ·exact hw
   ·split
    ·exact hw
    ·split
     ·rename_i b1 hb1
      have hs := cntVs_sameF 1 b.elems h
      have h1 := (cntVs_same 1 b.elems h).1
      have h2 := (cntVs_same 1 b.elems h).2.1
      refine (hw.same hs).mono (obs := (cntVs 1 b.elems h).obs) (bus := (cntVs 1 b.elems h).bus.set v.num.toNat (addB (-1) b1) ++ [(⟨1, b.elems⟩ : Bu)]) (Nat.le_refl _) (by simp) (fun o ho => .inl ⟨o, ho, fun _ h => h⟩) (fun x hx => ?_)
      rcases List.mem_append.1 hx with hx | hx
      ·rcases set_mem hx with hx | rfl
       ·exact .inl ⟨x, hx, fun _ h => h⟩
       ·exact .inl ⟨b1, List.mem_of_getElem? hb1, fun _ h => h⟩
      ·rw [List.mem_singleton.1 hx]
       refine .inr fun u hu => ofV_mono (by omega) (by simp; omega) u (hw.elm b (List.mem_of_getElem? hb) u hu)
     ·exact hw
  ·exact hw
 ·exact hw
theorem later_mem {l : List Va} {t : Tk} (h : t ∈ laterV l) : ∃ v, v ∈ l /\ t = .val v := by
 unfold laterV at h
 obtain ⟨v, hv, e⟩ := List.mem_map.1 h
 exact ⟨v, List.mem_reverse.1 hv, e.symm⟩
def WfT (h : Hp) (l : List Tk) : Prop := ∀ t, t ∈ l -> (∀ v, t = .val v -> ofV h.obs.length h.bus.length v = true) /\ ∀ o i, t = .flds o i -> o < h.obs.length
theorem parts_of {no nb : Nat} {v : Va} (h : ofV no nb v = true) (hk : hasK v.kind = true) : ∀ u, u ∈ v.parts -> ofV no nb u = true := by
 rw [hasK_eq] at hk
 simp at hk
 rw [ofV_eq, if_neg (by omega), if_neg (by omega), if_pos (by rw [hasK_eq]; simpa using hk)] at h
 exact ofVs_iff.1 h
theorem WfT.len {h h' : Hp} {l : List Tk} (hl : WfT h l) (h1 : h'.obs.length = h.obs.length) (h2 : h'.bus.length = h.bus.length) : WfT h' l := fun t ht => by rw [h1, h2]; exact hl t ht
theorem WfT.cat {h : Hp} {l m : List Tk} (hl : WfT h l) (hm : WfT h m) : WfT h (l ++ m) := fun t ht => by
 rcases List.mem_append.1 ht with ht | ht
 ·exact hl t ht
 ·exact hm t ht
theorem WfT.later {h : Hp} {l : List Va} (hl : ∀ u, u ∈ l -> ofV h.obs.length h.bus.length u = true) : WfT h (laterV l) := fun t ht => by
 obtain ⟨v, hv, rfl⟩ := later_mem ht
 exact ⟨fun u e => by cases e; exact hl v hv, fun o i e => by cases e⟩
theorem modify_same {α : Type} {l : List α} {n : Nat} {f : α -> α} (h : l[n]? = none) : l.modify n f = l := by
 apply List.ext_getElem?
 intro j
 rw [List.getElem?_modify]
 by_cases e : n = j
 ·rw [<- e, h]; rfl
 ·simp [e]
theorem Wf.modO {h : Hp} (hw : Wf h) {n : Nat} {f : Ob -> Ob} (hf : ∀ o, h.obs[n]? = some o -> ∀ u, u ∈ (f o).fields -> u ∈ o.fields ∨ u = va0) : Wf { h with obs := h.obs.modify n f } := by
 cases ho : h.obs[n]? with
 | none => rw [modify_same ho]; exact hw
 | some o =>
  rw [modify_eq f ho]
  exact hw.setO ho fun u hu => (hf o ho u hu).imp id fun e => by rw [e]; exact ofV_zero _ _
theorem Wf.modB {h : Hp} (hw : Wf h) {n : Nat} {f : Bu -> Bu} (hf : ∀ b, h.bus[n]? = some b -> ∀ u, u ∈ (f b).elems -> u ∈ b.elems) : Wf { h with bus := h.bus.modify n f } := by
 cases hb : h.bus[n]? with
 | none => rw [modify_same hb]; exact hw
 | some b =>
  rw [modify_eq f hb]
  exact hw.setB hb fun u hu => .inl (hf b hb u hu)
theorem step_wf {h : Hp} (hw : Wf h) {l : List Tk} {t : Tk} (hl : WfT h (l ++ [t])) : Wf (stepV' h l t).1 /\ WfT (stepV' h l t).1 (stepV' h l t).2.1 := by
 have hll : WfT h l := fun x hx => hl x (List.mem_append.2 (.inl hx))
 have ht := hl t (by simp)
 cases t with
 | flds o i =>
  have hol : o < h.obs.length := ht.2 o i rfl
  cases ho : h.obs[o]? with
  | none => simp only [stepV', ho]; exact ⟨hw, hll⟩
  | some ob =>
   cases hf : ob.fields[i]? with
   | some v =>
    simp only [stepV', ho, hf]
    refine ⟨hw, hll.cat fun x hx => ?_⟩
    simp only [List.mem_cons, List.not_mem_nil, or_false] at hx
    rcases hx with rfl | rfl
    ·exact ⟨fun v e => (by cases e), fun o i e => by cases e; exact hol⟩
    ·exact ⟨fun u e => by cases e; exact hw.fld ob (List.mem_of_getElem? ho) v (List.mem_of_getElem? hf), fun o i e => by cases e⟩
   | none =>
    simp only [stepV', ho, hf]
    exact ⟨hw.modO fun x _ u hu => .inr (List.mem_replicate.1 hu).2, hll.len (by simp) rfl⟩
 | val v =>
  have hv := ht.1 v rfl
  by_cases c7 : v.kind = 7
  ·have hn : v.num.toNat < h.obs.length := by
    rw [ofV_eq, if_pos (.inl c7)] at hv
    have := of_decide_eq_true hv
    omega
   cases ho : h.obs[v.num.toNat]? with
   | none => simp only [stepV', c7, if_true, ho]; exact ⟨hw, hll⟩
   | some ob =>
    by_cases hc : w64 (ob.count + -1) ≠ 0 ∨ ob.state ≠ 1
    ·simp only [stepV', c7, if_true, ho, if_pos hc]
     exact ⟨hw.modO fun x _ u hu => .inl hu, hll.len (by simp) rfl⟩
    ·simp only [stepV', c7, if_true, ho, if_neg hc]
     refine ⟨hw.modO fun x _ u hu => .inl hu, WfT.cat (hll.len (by simp) rfl) fun x hx => ?_⟩
     rw [List.mem_singleton.1 hx]
     exact ⟨fun u e => (by cases e), fun o i e => by cases e; simpa using hn⟩
  ·by_cases c11 : v.kind = 11
   ·simp only [stepV', if_neg c7, if_pos c11]
    exact ⟨hw.modO fun x _ u hu => .inl hu, hll.len (by simp) rfl⟩
   ·by_cases c8 : v.kind = 8
    ·cases hb : h.bus[v.num.toNat]? with
     | none => simp only [stepV', if_neg c7, if_neg c11, if_pos c8, hb]; exact ⟨hw, hll⟩
     | some b =>
      by_cases hc : w64 (b.count + -1) = 0
      ·simp only [stepV', if_neg c7, if_neg c11, if_pos c8, hb, if_pos hc]
       exact ⟨hw.modB fun x _ u hu => (by cases hu), (hll.cat (WfT.later fun u hu => hw.elm b (List.mem_of_getElem? hb) u hu)).len rfl (by simp)⟩
      ·simp only [stepV', if_neg c7, if_neg c11, if_pos c8, hb, if_neg hc]
       exact ⟨hw.modB fun x _ u hu => hu, hll.len rfl (by simp)⟩
    ·by_cases c5 : v.kind = 5
     ·simp only [stepV', if_neg c7, if_neg c11, if_neg c8, if_pos c5]
      exact ⟨hw, hll.cat (WfT.later (parts_of hv (by rw [hasK_eq, c5]; rfl)))⟩
     ·by_cases ck : hasK v.kind = true
      ·simp only [stepV', if_neg c7, if_neg c11, if_neg c8, if_neg c5, if_pos ck]
       exact ⟨hw, hll.cat (WfT.later (parts_of hv ck))⟩
      ·simp only [stepV', if_neg c7, if_neg c11, if_neg c8, if_neg c5, if_neg ck]
       exact ⟨hw, hll⟩
end Go.Proofs.Ytpamocglecangaa
namespace Go.Proofs.Ytpamocglecangaa
def runN : Nat -> Hp -> List Tk -> Hp × List Tk × Option Va
 | 0, h, l => (h, l, none)
 | n + 1, h, l => match l.getLast? with
  | none => (h, l, none)
  | some t => match (stepV' h l.dropLast t).2.2 with
   | some v => ((stepV' h l.dropLast t).1, (stepV' h l.dropLast t).2.1, some v)
   | none => runN n (stepV' h l.dropLast t).1 (stepV' h l.dropLast t).2.1
theorem last_split {l : List Tk} {t : Tk} (h : l.getLast? = some t) : l = l.dropLast ++ [t] := by
 rw [List.getLast?_eq_some_iff] at h
 obtain ⟨m, rfl⟩ := h
 simp
theorem tasks_len (h : Hp) : ∀ l : List Tk, l.length <= sumN (l.map (wT h))
 | [] => Nat.zero_le _
 | t :: l => by
  have h1 := wT_pos h t
  have h2 := tasks_len h l
  simp only [List.length_cons, List.map_cons, sumN]; omega
theorem run_keeps : ∀ (n : Nat) (h : Hp) (l : List Tk), Wf h -> WfT h l -> Up h.obs (runN n h l).1.obs /\ Wf (runN n h l).1 /\ WfT (runN n h l).1 (runN n h l).2.1
 | 0, h, l, hw, hl => ⟨Up.refl _, hw, hl⟩
 | n + 1, h, l, hw, hl => by
  simp only [runN]
  cases ht : l.getLast? with
  | none => exact ⟨Up.refl _, hw, hl⟩
  | some t =>
   simp only
   have hu := step_up h l.dropLast t
   rw [last_split ht] at hl
   obtain ⟨w1, w2⟩ := step_wf hw hl
   cases hd : (stepV' h l.dropLast t).2.2 with
   | some v => exact ⟨hu, w1, w2⟩
   | none =>
    obtain ⟨a, b, c⟩ := run_keeps n _ _ w1 w2
    exact ⟨hu.trans a, b, c⟩
def nextP (h : Hp) : Hp × Va × Bool := match h.lev.getLast? with
 | none => (h, va0, false)
 | some l => match (runN (weight h l) h l).2.2 with
  | some v => ({ (runN (weight h l) h l).1 with lev := h.lev.dropLast ++ [(runN (weight h l) h l).2.1] }, v, true)
  | none => ({ (runN (weight h l) h l).1 with lev := h.lev.dropLast }, va0, false)
theorem Up.len {l l' : List Ob} (h : Up l l') (ok : OkS l) : l.length <= l'.length := by
 rcases Nat.lt_or_ge l'.length l.length with h1 | h1
 ·obtain ⟨o', h2, -⟩ := (h ok).1 l'.length _ (List.getElem?_eq_getElem h1)
  rw [List.getElem?_eq_none (Nat.le_refl _)] at h2
  cases h2
 ·exact h1
theorem step_lev (h : Hp) (l : List Tk) (t : Tk) : (stepV' h l t).1.lev = h.lev := by
 unfold stepV'
 repeat' split
 all_goals rfl
theorem run_lev : ∀ (n : Nat) (h : Hp) (l : List Tk), (runN n h l).1.lev = h.lev
 | 0, h, l => rfl
 | n + 1, h, l => by
  simp only [runN]
  cases l.getLast? with
  | none => rfl
  | some t =>
   simp only
   cases (stepV' h l.dropLast t).2.2 with
   | some v => exact step_lev h _ t
   | none => exact (run_lev n _ _).trans (step_lev h _ t)
theorem next_wf {h : Hp} (hw : Wf h) : Wf (nextP h).1 := by
 unfold nextP
 cases hl : h.lev.getLast? with
 | none => exact hw
 | some l =>
  have hm : l ∈ h.lev := List.mem_of_getLast? hl
  obtain ⟨-, b, c⟩ := run_keeps (weight h l) h l hw (fun t ht => hw.tsk l hm t ht)
  have hlev := run_lev (weight h l) h l
  have hd : ∀ ts, ts ∈ h.lev.dropLast -> ts ∈ (runN (weight h l) h l).1.lev := fun ts hts => by
   rw [hlev]; exact List.dropLast_subset _ hts
  simp only
  split
  ·refine ⟨b.fld, b.elm, fun ts hts => ?_⟩
   rcases List.mem_append.1 hts with h1 | h1
   ·exact b.tsk ts (hd ts h1)
   ·rw [List.mem_singleton.1 h1]; exact c
  ·exact ⟨b.fld, b.elm, fun ts hts => b.tsk ts (hd ts hts)⟩
open Go.RowKit Go.Proofs.Ytpamocglecangaa.Nm
set_option linter.unusedSimpArgs false
structure Cl where
 k : Int
 a : Int
 b : Int
 v : Va
 x : Va
 t : Ty
 l : List Va
def cell26 (k a b : Int) (rv rx tr : Array Value) (A : Option Addr) (l c : Nat) : Array Value := #[.int .i64 k, .int .i64 a, .int .i64 b] ++ rv ++ rx ++ tr ++ #[.slice A l c]
structure ClAt (w : World) (D : Nat -> Prop) (q : Cl) (row rv rx tr : Array Value) (A : Option Addr) (l c : Nat) : Prop where
 eq : row = cell26 q.k q.a q.b rv rx tr A l c
 v : VAt w D q.v rv
 x : VAt w D q.x rx
 t : TyAt w D q.t tr
 l : VsAt w D q.l A l c
 wk : (Lit.int .i64 q.k).wf = true
 wa : (Lit.int .i64 q.a).wf = true
 wb : (Lit.int .i64 q.b).wf = true
structure ClsAt (w : World) (D : Nat -> Prop) (qs : List Cl) (A : Option Addr) (n c : Nat) : Prop where
 len : qs.length = n
 cap : n <= c
 max : c <= maxLen
 el : ∀ i q, qs[i]? = some q -> ∃ b off Cs t fr row rv rx tr A' l' c', A = some ⟨b, off, none⟩ /\ D b /\ w.heap[b]? = some (.cells Cs t fr) /\ Cs.extract (off + i * 26) (off + i * 26 + 26) = row /\ ClAt w D q row rv rx tr A' l' c'
theorem ClAt.mono {w w' : World} {D D' : Nat -> Prop} {q : Cl} {row rv rx tr : Array Value} {A : Option Addr} {l c : Nat} (h : ClAt w D q row rv rx tr A l c) (hD : ∀ b, D b -> D' b) (hw : ∀ b, D b -> b < w.heap.size -> w'.heap[b]? = w.heap[b]?) : ClAt w' D' q row rv rx tr A l c :=
 ⟨h.eq, h.v.mono hD hw, h.x.mono hD hw, (h.t.low.mono (fun _ h => h) fun b hb => hw b hb.1 hb.2).weak fun b hb => hD b hb.1, h.l.mono hD hw, h.wk, h.wa, h.wb⟩
theorem ClAt.low {w : World} {D : Nat -> Prop} {q : Cl} {row rv rx tr : Array Value} {A : Option Addr} {l c : Nat} (h : ClAt w D q row rv rx tr A l c) : ClAt w (fun b => D b /\ b < w.heap.size) q row rv rx tr A l c := ⟨h.eq, h.v.low, h.x.low, h.t.low, h.l.low, h.wk, h.wa, h.wb⟩
theorem ClsAt.mono {w w' : World} {D D' : Nat -> Prop} {qs : List Cl} {A : Option Addr} {n c : Nat} (h : ClsAt w D qs A n c) (hD : ∀ b, D b -> D' b) (hw : ∀ b, D b -> b < w.heap.size -> w'.heap[b]? = w.heap[b]?) : ClsAt w' D' qs A n c :=
 ⟨h.len, h.cap, h.max, fun i q hi => by
  obtain ⟨b, off, Cs, t, fr, row, rv, rx, tr, A', l', c', h1, h2, h3, h4, h5⟩ := h.el i q hi
  exact ⟨b, off, Cs, t, fr, row, rv, rx, tr, A', l', c', h1, hD b h2, by rw [hw b h2 (heap_lt h3), h3], h4, h5.mono hD hw⟩⟩
theorem ClsAt.old {w w' : World} {D : Nat -> Prop} {qs : List Cl} {A : Option Addr} {n c : Nat} (h : ClsAt w D qs A n c) (hb : Below w.heap.size w w') : ClsAt w' D qs A n c := h.mono (fun _ h => h) fun b _ hl => hb.block b hl
theorem ClsAt.keep {C : Nat -> Prop} {w w' : World} {D : Nat -> Prop} {qs : List Cl} {A : Option Addr} {n c : Nat} (h : ClsAt w D qs A n c) (hk : Keep C w w') (hD : ∀ b, D b -> ¬ C b) : ClsAt w' D qs A n c := h.mono (fun _ h => h) fun b hb hl => hk.block b hl (hD b hb)
theorem ClsAt.low {w : World} {D : Nat -> Prop} {qs : List Cl} {A : Option Addr} {n c : Nat} (h : ClsAt w D qs A n c) : ClsAt w (fun b => D b /\ b < w.heap.size) qs A n c :=
 ⟨h.len, h.cap, h.max, fun i q hi => by
  obtain ⟨b, off, Cs, t, fr, row, rv, rx, tr, A', l', c', h1, h2, h3, h4, h5⟩ := h.el i q hi
  exact ⟨b, off, Cs, t, fr, row, rv, rx, tr, A', l', c', h1, ⟨h2, heap_lt h3⟩, h3, h4, h5.low⟩⟩
theorem u37 : Try.prog.underlying 37 = some (.struct (Try.prog.fieldsOf 37)) := by kernel_rfl
theorem info37 : (Try.prog.info? 37).map (·.size) = some 26 := by kernel_rfl
theorem cell26_size {k a b : Int} {rv rx tr : Array Value} {A : Option Addr} {l c : Nat} (h1 : rv.size = 9) (h2 : rx.size = 9) (h3 : tr.size = 4) : (cell26 k a b rv rx tr A l c).size = 26 := by simp [cell26, h1, h2, h3]
theorem ClAt.size {w : World} {D : Nat -> Prop} {q : Cl} {row rv rx tr : Array Value} {A : Option Addr} {l c : Nat} (h : ClAt w D q row rv rx tr A l c) : row.size = 26 := by rw [h.eq]; exact cell26_size h.v.size h.x.size h.t.size
theorem ClAt.cells {w : World} {D : Nat -> Prop} {q : Cl} {row rv rx tr : Array Value} {A : Option Addr} {l c : Nat} (h : ClAt w D q row rv rx tr A l c) :
  row[0]? = some (.int .i64 q.k) /\ row[1]? = some (.int .i64 q.a) /\ row[2]? = some (.int .i64 q.b) /\ row.extract 3 12 = rv /\ row.extract 12 21 = rx /\ row.extract 21 25 = tr /\ row[25]? = some (.slice A l c) := by
 have h1 := h.v.size
 have h2 := h.x.size
 have h3 := h.t.size
 have key : ∀ a b c : Array Value, (a ++ b ++ c).extract a.size (a.size + b.size) = b := fun a b c => by simp
 have e1 : row = #[.int .i64 q.k, .int .i64 q.a, .int .i64 q.b] ++ rv ++ (rx ++ (tr ++ #[.slice A l c])) := by rw [h.eq]; simp only [cell26, Array.append_assoc]
 have e2 : row = (#[.int .i64 q.k, .int .i64 q.a, .int .i64 q.b] ++ rv) ++ rx ++ (tr ++ #[.slice A l c]) := by rw [h.eq]; simp only [cell26, Array.append_assoc]
 have e3 : row = (#[.int .i64 q.k, .int .i64 q.a, .int .i64 q.b] ++ rv ++ rx) ++ tr ++ #[.slice A l c] := by rw [h.eq]; simp only [cell26]
 have s2 : (#[Value.int .i64 q.k, .int .i64 q.a, .int .i64 q.b] ++ rv).size = 12 := by rw [Array.size_append, h1]; rfl
 have s3 : (#[Value.int .i64 q.k, .int .i64 q.a, .int .i64 q.b] ++ rv ++ rx).size = 21 := by rw [Array.size_append, s2, h2]
 have s4 : (#[Value.int .i64 q.k, .int .i64 q.a, .int .i64 q.b] ++ rv ++ rx ++ tr).size = 25 := by rw [Array.size_append, s3, h3]
 have left : ∀ i, i < 3 -> row[i]? = #[Value.int .i64 q.k, .int .i64 q.a, .int .i64 q.b][i]? := fun i hi => by
  rw [e1, Array.append_assoc, Array.getElem?_append_left hi]
 refine ⟨left 0 (by omega), left 1 (by omega), left 2 (by omega), ?_, ?_, ?_, ?_⟩
 ·rw [e1]
  have := key #[.int .i64 q.k, .int .i64 q.a, .int .i64 q.b] rv (rx ++ (tr ++ #[.slice A l c]))
  rw [h1] at this
  exact this
 ·rw [e2]
  have := key (#[.int .i64 q.k, .int .i64 q.a, .int .i64 q.b] ++ rv) rx (tr ++ #[.slice A l c])
  rw [s2, h2] at this
  exact this
 ·rw [e3]
  have := key (#[.int .i64 q.k, .int .i64 q.a, .int .i64 q.b] ++ rv ++ rx) tr #[.slice A l c]
  rw [s3, h3] at this
  exact this
 ·rw [e3, Array.getElem?_append_right (by rw [s4]; exact Nat.le_refl _), s4]
  rfl
theorem ext_ext {Cs row : Array Value} {o n i j : Nat} (h : Cs.extract o (o + n) = row) (hj : j <= n) : Cs.extract (o + i) (o + j) = row.extract i j := by
 rw [<- h, Array.extract_extract]
 congr 1
 omega
theorem get_ext {Cs row : Array Value} {o n i : Nat} (h : Cs.extract o (o + n) = row) {x : Value} (hx : row[i]? = some x) : Cs[o + i]? = some x := by
 rw [<- h, Array.getElem?_extract] at hx
 split at hx
 ·exact hx
 ·cases hx
theorem ClsAt.get {w : World} {D : Nat -> Prop} {qs : List Cl} {A : Option Addr} {n c : Nat} (h : ClsAt w D qs A n c) {i : Nat} (hi : i < n) {C : Nat -> Prop} (hD : ∀ b, D b -> ¬ C b) :
  ∃ b off q row rv rx tr A' l' c', A = some ⟨b, off, none⟩ /\ qs[i]? = some q /\ ClAt w D q row rv rx tr A' l' c' /\ (∀ w', Keep C w w' -> RowAt w' 37 ⟨b, off + i * 26, none⟩ row /\ RowAt w' 35 ⟨b, off + i * 26 + 3, none⟩ rv /\ RowAt w' 35 ⟨b, off + i * 26 + 12, none⟩ rx /\ RowAt w' 32 ⟨b, off + i * 26 + 21, none⟩ tr /\ OneAt w' 33 ⟨b, off + i * 26 + 25, none⟩ (.slice A' l' c')) := by
 have hln : i < qs.length := by rw [h.len]; exact hi
 have hq : qs[i]? = some qs[i] := List.getElem?_eq_getElem hln
 obtain ⟨b, off, Cs, t, fr, row, rv, rx, tr, A', l', c', h1, h2, h3, h4, h5⟩ := h.el i _ hq
 obtain ⟨-, -, -, g3, g4, g5, g6⟩ := h5.cells
 refine ⟨b, off, _, row, rv, rx, tr, A', l', c', h1, hq, h5, fun w' hk => ?_⟩
 have hh := hk.look h3 (hD _ h2)
 exact ⟨row_mid (n := 26) hh h4 u37 rfl h5.size info37,
  row_mid (n := 9) hh ((ext_ext (i := 3) (j := 12) h4 (by omega)).trans g3) u35 rfl h5.v.size info35,
  row_mid (n := 9) hh ((ext_ext (i := 12) (j := 21) h4 (by omega)).trans g4) u35 rfl h5.x.size info35,
  row_mid (n := 4) hh ((ext_ext (i := 21) (j := 25) h4 (by omega)).trans g5) u24 rfl h5.t.size info24,
  one_of u33 rfl (by rw [cell_of_row _ _ _ _ _ _ hh]; exact get_ext h4 g6)⟩
def FitB (l0 : Nat) (qs : List Cl) : Prop := l0 <= 20 /\ qs.length <= 60 /\ ∀ q, q ∈ qs -> q.l.length <= 1000
def BigPost (w : World) (l0 : Nat) (qs : List Cl) (e : Ending) (w' : World) : Prop := (∃ b : Bool, e = .returned (.bool b) /\ (b = false -> FitB l0 qs)) /\ Below w.heap.size w w'
theorem big_any (A0 : Option Addr) (l0 c0 : Nat) (hl0 : l0 <= maxLen) (qs : List Cl) (A : Option Addr) (l c : Nat) (w : World) (D : Nat -> Prop) (h : ClsAt w D qs A l c) :
  Calls Try.prog 9 #[.slice A0 l0 c0, .slice A l c] w (BigPost w l0 qs) := by
 unfold maxLen at hl0
 have HT := Zi h
 have HL := Zi h.len
 have hcm := h.cap
 have hmx := h.max
 unfold maxLen at hmx
 clear h
 have hb := Below.refl w.heap.size w
 go_enter Try.func9, Try.ntmps9
 go_upto_region 0 with fail
 apply Zl
 refine Zm ?_
 go_upto_region 1 with fail
 by_cases h1 : 20 < l0
 ·have h1I : (l0 : Int) > 20 := by omega
  apply Zl
  iterate 4 refine Zm ?_
  iterate 3 ((first | ((with_reducible refine wl_skipU ?_ ?_ ?_); exact rfl; exact rfl) | ((with_reducible refine wl_skip ?_ ?_); exact rfl; simp only [Zq])))
  refine Zm ?_
  go_upto_region 2 with fail
  apply Zl
  refine Zm ?_
  go_wp2_with fail
  go_ret
  exact ⟨⟨true, rfl, fun h => by cases h⟩, hb⟩
 ·have h1I : ¬ (l0 : Int) > 20 := by omega
  by_cases h2 : 60 < l
  ·have h2I : (l : Int) > 60 := by omega
   apply Zl
   iterate 8 refine Zm ?_
   go_upto_region 2 with fail
   apply Zl
   refine Zm ?_
   go_wp2_with fail
   go_ret
   exact ⟨⟨true, rfl, fun h => by cases h⟩, hb⟩
  ·have h2I : ¬ (l : Int) > 60 := by omega
   apply Zl
   iterate 8 refine Zm ?_
   have HLL : Hid (l0 <= 20 /\ l <= 60) := Zi ⟨by omega, by omega⟩
   clear h1 h1I h2 h2I
   go_upto_region 3 with fail
   apply Zl
   refine Zm ?_
   obtain ⟨z0, hz0⟩ : ∃ z : Nat, z = 0 := ⟨_, rfl⟩
   rw [show (0 : Int) = (z0 : Int) by rw [hz0]; rfl]
   have HZ : Hid (z0 <= 1000) := Zi (by omega)
   clear hz0
   go_upto_region 4 with fail
   apply Zl
   refine Zm ?_
   go_wp2_with fail
   go_loopw [5, 6] (fun s i wr => ∃ j n : Nat, j <= l /\ i = .int .i64 (j : Int) /\ s = .int .i64 (n : Int) /\ Hid (n <= 1000) /\ Hid (∀ q, q ∈ qs.take j -> q.l.length <= 1000) /\ Below w.heap.size w wr) (fun _ i _ => l - (intOf i).toNat)
   case atStart => exact ⟨0, z0, by omega, rfl, rfl, HZ, Zi (fun q hq => by simp at hq), hb⟩
   case round =>
    clear hb HZ
    obtain ⟨j, n, hj, rfl, rfl, HN, HQ, hb⟩ := hrel
    go_upto_region 5 with fail
    by_cases hlt : j < l
    ·have hltI : (j : Int) < (l : Int) := by omega
     obtain ⟨b, off, q, row, rv, rx, tr, A', l', c', rfl, hq, hcl, hrows⟩ := (HT.out.old hb).low.get hlt (C := fun b => wr.heap.size <= b) (fun b h1 h2 => by have := h1.2; omega)
     have HR : Hid (∀ w', Below wr.heap.size wr w' -> RowAt w' 35 ⟨b, off + j * 26 + 3, none⟩ rv /\ RowAt w' 35 ⟨b, off + j * 26 + 12, none⟩ rx /\ RowAt w' 32 ⟨b, off + j * 26 + 21, none⟩ tr /\ OneAt w' 33 ⟨b, off + j * 26 + 25, none⟩ (.slice A' l' c')) := Zi fun w' hw => (hrows w' (Keep.of hw)).2
     have HCL := Zi hcl
     have hl'c := hcl.l.cap
     have hl'm := hcl.l.max
     unfold maxLen at hl'm
     have HL' := Zi hcl.l.len
     obtain ⟨q1, hq1⟩ : ∃ x, x = nodesV q.v 401 := ⟨_, rfl⟩
     obtain ⟨q2, hq2⟩ : ∃ x, x = nodesV q.x 401 := ⟨_, rfl⟩
     obtain ⟨q3, hq3⟩ : ∃ x, x = min q.t.nodes (401 + 1) := ⟨_, rfl⟩
     have C1 : Hid (∀ w', Below wr.heap.size wr w' -> Calls Try.prog 40 #[.agg rv, .int .i64 401] w' fun e w2 => e = .returned (.int .i64 (q1 : Int)) /\ Below w'.heap.size w' w2) := Zi fun w' hw => by rw [hq1]; exact Nodes_any q.v 401 (by omega) w' _ _ (hcl.v.old hw)
     have C2 : Hid (∀ w', Below wr.heap.size wr w' -> Calls Try.prog 40 #[.agg rx, .int .i64 401] w' fun e w2 => e = .returned (.int .i64 (q2 : Int)) /\ Below w'.heap.size w' w2) := Zi fun w' hw => by rw [hq2]; exact Nodes_any q.x 401 (by omega) w' _ _ (hcl.x.old hw)
     have C3 : Hid (∀ w', Below wr.heap.size wr w' -> Calls Try.prog 41 #[.agg tr, .int .i64 401] w' fun e w2 => e = .returned (.int .i64 (q3 : Int)) /\ Below w'.heap.size w' w2) := Zi fun w' hw => by rw [hq3]; exact TypeNodes_any 401 (by omega) q.t w' _ _ (hcl.t.old hw)
     have hb1 := nodesV_le q.v 401
     have hb2 := nodesV_le q.x 401
     rw [<- hq1] at hb1
     rw [<- hq2] at hb2
     have hn3 : q3 <= 402 := by omega
     obtain ⟨n1, hn1⟩ : ∃ x, x = n + q1 := ⟨_, rfl⟩
     obtain ⟨n2, hn2⟩ : ∃ x, x = n1 + q2 := ⟨_, rfl⟩
     obtain ⟨n4, hn4⟩ : ∃ x, x = n2 + q3 := ⟨_, rfl⟩
     have e1 : (n : Int) + (q1 : Int) = (n1 : Int) := by omega
     have e2 : (n1 : Int) + (q2 : Int) = (n2 : Int) := by omega
     have e3 : (n2 : Int) + (q3 : Int) = (n4 : Int) := by omega
     have hnn := HN.out
     have e4 : IntKind.i64.wrap (n1 : Int) = (n1 : Int) := IntWalk.i64_in _ (by omega)
     have e5 : IntKind.i64.wrap (n2 : Int) = (n2 : Int) := IntWalk.i64_in _ (by omega)
     have e6 : IntKind.i64.wrap (n4 : Int) = (n4 : Int) := IntWalk.i64_in _ (by omega)
     have HN4 : Hid (n4 <= 3000) := Zi (by omega)
     have HTK : Hid (qs.take (j + 1) = qs.take j ++ [q]) := Zi (by rw [List.take_add_one, hq]; rfl)
     clear hq1 hq2 hq3 hn1 hn2 hn4 hcl hrows hq hb1 hb2 hn3 hnn
     apply Zl
     iterate 4 refine Zm ?_
     go_upto_region 7 with fail
     refine wp_region_belowAll mixed (by kernel_rfl) ?_
     iterate 5 refine Zt ?_
     ((with_reducible apply wq_row); exact rfl; exact rfl; exact fun w' hw' => (HR.out w' hw').1)
     refine wq_ck rfl (fun K hK => ?_); go_simp; refine ⟨_, _, ⟨rfl, rfl⟩, hK _ _ ⟨_, fun w' hw' => calls_class hw' (C1.out w' hw'), ?_⟩⟩; clear hK K; simp only [Zq]
     iterate 5 refine Zt ?_
     ((with_reducible apply wq_row); exact rfl; exact rfl; exact fun w' hw' => (HR.out w' hw').2.1)
     refine wq_ck rfl (fun K hK => ?_); go_simp; refine ⟨_, _, ⟨rfl, rfl⟩, hK _ _ ⟨_, fun w' hw' => calls_class hw' (C2.out w' hw'), ?_⟩⟩; clear hK K; simp only [Zq]
     iterate 5 refine Zt ?_
     ((with_reducible apply wq_row); exact rfl; exact rfl; exact fun w' hw' => (HR.out w' hw').2.2.1)
     refine wq_ck rfl (fun K hK => ?_); go_simp; refine ⟨_, _, ⟨rfl, rfl⟩, hK _ _ ⟨_, fun w' hw' => calls_class hw' (C3.out w' hw'), ?_⟩⟩; clear hK K; simp only [Zq]
     iterate 2 refine Zt ?_
     intro w7 hb7
     have hz := hb7
     clear hb7 C1 C2 C3 e1 e2 e3 e4 e5 e6 HN
     go_upto_region 8 with fail
     apply Zl
     refine Zm ?_
     go_wp2_with fail
     go_loopw [5, 7] (fun s i wr2 => ∃ k m : Nat, k <= l' /\ i = .int .i64 (k : Int) /\ s = .int .i64 (m : Int) /\ Hid (m <= 3000 /\ k <= m) /\ Below wr.heap.size wr wr2) (fun _ i _ => l' - (intOf i).toNat)
     case atStart => exact ⟨0, n4, by omega, rfl, rfl, Zi ⟨HN4.out, by omega⟩, hz⟩
     case round =>
      clear hz HN4
      obtain ⟨k, m, hk, rfl, rfl, HM, hz⟩ := hrel
      obtain ⟨wr2, rfl⟩ : ∃ wr2, wr2 = wr := ⟨_, rfl⟩
      go_upto_region 9 with fail
      by_cases hgo : k < l' /\ m <= 1000
      ·obtain ⟨hlk, hmm⟩ := hgo
       have hlkI : (k : Int) < (l' : Int) := by omega
       have hmmI : (m : Int) <= 1000 := by omega
       obtain ⟨b2, off2, u, rowu, rfl, -, hu, hua, hrow⟩ := (HCL.out.l.old hz).getB hlk
       obtain ⟨q5, hq5⟩ : ∃ x, x = nodesV u 401 := ⟨_, rfl⟩
       have hb5 := nodesV_le u 401
       rw [<- hq5] at hb5
       have hc := Nodes_any u 401 (by omega) wr2 _ _ hua
       rw [<- hq5] at hc
       have HC := Zi hc
       obtain ⟨m2, hm2⟩ : ∃ x, x = m + q5 := ⟨_, rfl⟩
       have e1 : (m : Int) + (q5 : Int) = (m2 : Int) := by omega
       have e2 : IntKind.i64.wrap (m2 : Int) = (m2 : Int) := IntWalk.i64_in _ (by omega)
       have HM2 : Hid (m2 <= 3000 /\ k + 1 <= m2) := Zi (by have := HM.out; omega)
       have HR3 : Hid (OneAt wr2 33 ⟨b, off + j * 26 + 25, none⟩ (.slice (some ⟨b2, off2, none⟩) l' c')) := Zi (HR.out wr2 hz).2.2.2
       have HRU := Zi (hrow wr2 (Below.refl _ _))
       clear hm2 hc hq5 hb5 hu hua hrow
       apply Zl
       iterate 5 refine Zm ?_
       refine Zo rfl (HR3.out) ?_
       iterate 6 refine Zm ?_
       go_upto_region 11 with fail
       apply Zl
       iterate 5 refine Zm ?_
       refine Zo rfl (HR3.out) ?_
       iterate 2 refine Zm ?_
       refine Zw rfl (HRU.out) ?_
       refine Zn HC.out ?_; rintro e w8 ⟨rfl, hb8⟩; refine ⟨_, rfl, ?_⟩; simp only [Zq]
       replace hz := hz.trans (hb8.mono hz.size); clear hb8
       iterate 2 refine Zm ?_
       clear HC HR3 HRU e1 e2 HM
       go_wp2_with fail
       go_roundw
       case rel => exact ⟨k + 1, m2, by omega, by go_num, rfl, HM2, hz⟩
       case measure => simp [intOf]; omega
      ·have HR3 : Hid (OneAt wr2 33 ⟨b, off + j * 26 + 25, none⟩ (.slice A' l' c')) := Zi (HR.out wr2 hz).2.2.2
       go_cut [55] (fun s55 wx => s55 = .bool false /\ Below wr.heap.size wr wx)
       case first =>
        by_cases hlk : k < l'
        ·have hlkI : (k : Int) < (l' : Int) := by omega
         have hmmI : ¬ (m : Int) <= 1000 := by omega
         apply Zl
         iterate 5 refine Zm ?_
         refine Zo rfl (HR3.out) ?_
         iterate 6 refine Zm ?_
         go_wp2_with fail
         go_meet
         exact ⟨rfl, hz⟩
        ·have hlkI : ¬ (k : Int) < (l' : Int) := by omega
         apply Zl
         iterate 5 refine Zm ?_
         refine Zo rfl (HR3.out) ?_
         iterate 3 refine Zm ?_
         iterate 2 ((first | ((with_reducible refine wl_skipU ?_ ?_ ?_); exact rfl; exact rfl) | ((with_reducible refine wl_skip ?_ ?_); exact rfl; simp only [Zq])))
         refine Zm ?_
         go_wp2_with fail
         go_meet
         exact ⟨rfl, hz⟩
       case rest =>
        clear hz HR3
        obtain ⟨rfl, hz⟩ := hcut
        replace hb := hb.trans (hz.mono hb.size)
        go_upto_region 12 with fail
        by_cases hmm : 1000 < m
        ·have hmmI : (m : Int) > 1000 := by omega
         apply Zl
         iterate 2 refine Zm ?_
         go_upto_region 13 with fail
         apply Zl
         refine Zm ?_
         go_wp2_with fail
         go_ret
         exact ⟨⟨true, rfl, fun h => by cases h⟩, hb⟩
        ·have hmmI : ¬ (m : Int) > 1000 := by omega
         have HMN : Hid (m <= 1000) := Zi (by omega)
         have HQ2 : Hid (∀ q, q ∈ qs.take (j + 1) -> q.l.length <= 1000) := Zi (fun q' hq' => by
          rw [HTK.out] at hq'
          rcases List.mem_append.1 hq' with hq' | hq'
          ·exact HQ.out q' hq'
          ·simp at hq'; subst hq'
           have := HL'.out
           have := HM.out
           omega)
         clear hgo hmm
         apply Zl
         iterate 2 refine Zm ?_
         clear hz HQ HTK HM HR HCL
         go_wp2_with fail
         go_roundw
         case rel => exact ⟨j + 1, m, by omega, by go_num, rfl, HMN, HQ2, hb⟩
         case measure => simp [intOf]; omega
    ·have hltI : ¬ (j : Int) < (l : Int) := by omega
     have HFB : Hid (FitB l0 qs) := Zi ⟨HLL.out.1, by rw [HL.out]; exact HLL.out.2, by have := HQ.out; rwa [List.take_of_length_le (by rw [HL.out]; omega)] at this⟩
     apply Zl
     iterate 4 refine Zm ?_
     go_upto_region 14 with fail
     apply Zl
     refine Zm ?_
     go_wp2_with fail
     go_ret
     exact ⟨⟨false, rfl, fun _ => HFB.out⟩, hb⟩
end Go.Proofs.Ytpamocglecangaa
namespace Go.Proofs.Ytpamocglecangaa
def isF : Tk -> Nat
 | .flds _ _ => 1
 | .val _ => 0
def cntF (l : List Tk) : Nat := sumN (l.map isF)
def stO (o : Ob) : Nat := if o.state = 1 then 1 else 0
def wB (b : Bu) : Nat := wVs b.elems
def tsum (h : Hp) (l : List Tk) : Nat := sumN (l.map (wT h))
def tot (h : Hp) : Nat := sumN (h.lev.map (tsum h)) + sumN (h.obs.map wO) + sumN (h.bus.map wB)
def fcnt (h : Hp) : Nat := sumN (h.lev.map cntF) + sumN (h.obs.map stO)
structure SameW (h h' : Hp) : Prop where
 obs : h'.obs.map (fun o => (o.state, o.fields)) = h.obs.map (fun o => (o.state, o.fields))
 bus : h'.bus.map (·.elems) = h.bus.map (·.elems)
 lev : h'.lev = h.lev
theorem SameW.refl (h : Hp) : SameW h h := ⟨rfl, rfl, rfl⟩
theorem SameW.trans {a b c : Hp} (h : SameW a b) (h2 : SameW b c) : SameW a c := ⟨h2.obs.trans h.obs, h2.bus.trans h.bus, h2.lev.trans h.lev⟩
theorem cntV_sameW (x : Int) : ∀ (v : Va) (h : Hp), SameW h (cntV x v h) := Va.ind fun v ih h => by
 have hl : ∀ (l : List Va), (∀ u, u ∈ l -> u ∈ v.parts) -> ∀ h, SameW h (cntVs x l h) := by
  intro l
  induction l with
  | nil => intro _ h; rw [cntVs]; exact SameW.refl _
  | cons u l ihl =>
   intro hm h
   rw [cntVs]
   exact (ih u (hm u (by simp)) h).trans (ihl (fun u hu => hm u (by simp [hu])) (cntV x u h))
 rw [cntV_eq]
 split
 ·exact ⟨map_modify (f := fun o : Ob => (o.state, o.fields)) (g := addC x) (fun _ => rfl) _ _, rfl, rfl⟩
 ·split
  ·exact ⟨map_modify (f := fun o : Ob => (o.state, o.fields)) (g := addW x) (fun _ => rfl) _ _, rfl, rfl⟩
  ·split
   ·exact ⟨rfl, map_modify (f := fun o : Bu => o.elems) (g := addB x) (fun _ => rfl) _ _, rfl⟩
   ·split
    ·exact hl v.parts (fun _ h => h) h
    ·exact SameW.refl _
theorem cntVs_sameW (x : Int) : ∀ (l : List Va) (h : Hp), SameW h (cntVs x l h)
 | [], h => by rw [cntVs]; exact SameW.refl _
 | u :: l, h => by rw [cntVs]; exact (cntV_sameW x u h).trans (cntVs_sameW x l _)
theorem set_map {α β : Type} {f : α -> β} {l : List α} {n : Nat} {o o' : α} (ho : l[n]? = some o) (hf : f o' = f o) : (l.set n o').map f = l.map f := by
 apply List.ext_getElem?
 intro j
 simp only [List.getElem?_map, List.getElem?_set]
 split
 ·rename_i e
  subst e
  have := (List.getElem?_eq_some_iff.1 ho).1
  rw [if_pos this, ho]; simp [hf]
 ·rfl
structure Inv (i S : Nat) (h : Hp) : Prop where
 obs : h.obs.length <= i
 bus : h.bus.length <= i
 lev : h.lev.length <= i
 fld : ∀ o, o ∈ h.obs -> o.fields.length <= 1000
 elm : ∀ b, b ∈ h.bus -> b.elems.length <= 1000 + i /\ wVs b.elems <= i * S
 fc : fcnt h <= i
 tot : tot h <= i * (200 * S)
theorem wT_same {h h' : Hp} (hs : h'.obs.map (·.fields) = h.obs.map (·.fields)) : wT h' = wT h := by
 funext t
 cases t with
 | val v => rfl
 | flds o i =>
  have := congrArg (fun l => l[o]?) hs
  simp only [List.getElem?_map] at this
  simp only [wT]
  cases h1 : h.obs[o]? with
  | none => rw [h1] at this; cases h2 : h'.obs[o]? with
   | none => rfl
   | some _ => rw [h2] at this; cases this
  | some a => rw [h1] at this; cases h2 : h'.obs[o]? with
   | none => rw [h2] at this; cases this
   | some b => rw [h2] at this; simp at this; simp [this]
theorem SameW.fields {h h' : Hp} (hs : SameW h h') : h'.obs.map (·.fields) = h.obs.map (·.fields) := by
 have := congrArg (List.map Prod.snd) hs.obs
 simpa [List.map_map, Function.comp_def] using this
theorem SameW.states {h h' : Hp} (hs : SameW h h') {f : Ob -> Nat} (g : Int × List Va -> Nat) (hf : ∀ o, f o = g (o.state, o.fields)) : h'.obs.map f = h.obs.map f := by
 have := congrArg (List.map g) hs.obs
 simp only [List.map_map] at this
 have e : f = g ∘ fun o => (o.state, o.fields) := funext hf
 rw [e]; exact this
theorem Inv.same {i S : Nat} {h h' : Hp} (hi : Inv i S h) (hs : SameW h h') : Inv i S h' := by
 have hT : wT h' = wT h := wT_same hs.fields
 have hTs : tsum h' = tsum h := by funext l; unfold tsum; rw [hT]
 have hO : h'.obs.map wO = h.obs.map wO := hs.states (fun p => if p.1 = 1 then 2 + p.2.length + wVs p.2 else 0) fun _ => rfl
 have hS : h'.obs.map stO = h.obs.map stO := hs.states (fun p => if p.1 = 1 then 1 else 0) fun _ => rfl
 have hB : h'.bus.map wB = h.bus.map wB := by
  have := congrArg (List.map wVs) hs.bus
  simp only [List.map_map] at this
  exact this
 refine ⟨?_, ?_, ?_, ?_, ?_, ?_, ?_⟩
 ·have := congrArg List.length hs.obs; simp at this; rw [this]; exact hi.obs
 ·have := congrArg List.length hs.bus; simp at this; rw [this]; exact hi.bus
 ·rw [hs.lev]; exact hi.lev
 ·intro o ho
  have : o.fields ∈ h.obs.map (·.fields) := by rw [<- hs.fields]; exact List.mem_map_of_mem ho
  obtain ⟨o', ho', e⟩ := List.mem_map.1 this
  rw [<- e]; exact hi.fld o' ho'
 ·intro b hb
  have : b.elems ∈ h.bus.map (·.elems) := by rw [<- hs.bus]; exact List.mem_map_of_mem hb
  obtain ⟨b', hb', e⟩ := List.mem_map.1 this
  rw [<- e]; exact hi.elm b' hb'
 ·unfold fcnt; rw [hs.lev, hS]; exact hi.fc
 ·unfold Go.Proofs.Ytpamocglecangaa.tot; rw [hs.lev, hTs, hO, hB]; exact hi.tot
theorem Inv.up {i S : Nat} {h : Hp} (hi : Inv i S h) : Inv (i + 1) S h := by
 have e1 : (i + 1) * S = i * S + S := Nat.succ_mul i S
 have e2 : (i + 1) * (200 * S) = i * (200 * S) + 200 * S := Nat.succ_mul i _
 refine ⟨?_, ?_, ?_, hi.fld, fun b hb => ?_, ?_, ?_⟩
 ·have := hi.obs; omega
 ·have := hi.bus; omega
 ·have := hi.lev; omega
 ·have := hi.elm b hb; rw [e1]; omega
 ·have := hi.fc; omega
 ·have := hi.tot; rw [e2]; omega
theorem wVs_taken (h : Hp) (l : List Va) : wVs (takenV h l) <= wVs l := by
 unfold takenV
 induction l with
 | nil => exact Nat.le_refl _
 | cons v l ih =>
  simp only [List.map_cons, wVs]
  have h0 : wV va0 = 1 := by rw [wV_eq]; rfl
  have := wV_pos v
  split <;> omega
theorem len_taken (h : Hp) (l : List Va) : (takenV h l).length = l.length := by simp [takenV]
theorem tsum_obs {h h' : Hp} (ht : ∀ t, (∀ o i, t = .flds o i -> o < h.obs.length) -> wT h' t = wT h t) {L : List (List Tk)} (hw : ∀ ts, ts ∈ L -> ∀ t, t ∈ ts -> ∀ o i, t = .flds o i -> o < h.obs.length) : L.map (tsum h') = L.map (tsum h) := by
 apply List.map_congr_left
 intro ts hts
 unfold tsum
 congr 1
 apply List.map_congr_left
 intro t hm
 exact ht t (hw ts hts t hm)
theorem inv_make {i S : Nat} {h : Hp} (hi : Inv i S h) (hw : Wf h) (hS : 1 <= S) (t : Ty) {l : List Va} (hl : l.length <= 1000) (hv : wVs l <= S) : Inv (i + 1) S (makeP h t l).1 := by
 have e1 : (i + 1) * S = i * S + S := Nat.succ_mul i S
 have e2 : (i + 1) * (200 * S) = i * (200 * S) + 200 * S := Nat.succ_mul i _
 have h1 := wVs_taken h l
 have h2 := len_taken h l
 have hlen := wVs_len l
 have hT : h.lev.map (tsum (makeP h t l).1) = h.lev.map (tsum h) := tsum_obs (fun tk htk => by
  cases tk with
  | val v => rfl
  | flds o j =>
   have := htk o j rfl
   simp only [wT, makeP]
   rw [List.getElem?_append_left this]) fun ts hts tk hm => (hw.tsk ts hts tk hm).2
 refine ⟨?_, ?_, ?_, fun o ho => ?_, fun b hb => ?_, ?_, ?_⟩
 ·have := hi.obs; simp only [makeP, List.length_append, List.length_singleton]; omega
 ·have := hi.bus; simp only [makeP]; omega
 ·have := hi.lev; simp only [makeP]; omega
 ·rcases List.mem_append.1 ho with h3 | h3
  ·exact hi.fld o h3
  ·rw [List.mem_singleton.1 h3]; simp only []; omega
 ·have := hi.elm b hb; rw [e1]; omega
 ·have := hi.fc
  unfold fcnt at this ⊢
  simp only [makeP, List.map_append, sumN_cat, List.map_cons, List.map_nil, sumN, stO] at this ⊢
  simp only [if_true]; omega
 ·have := hi.tot
  have hT' := congrArg sumN hT
  unfold Go.Proofs.Ytpamocglecangaa.tot at this ⊢
  rw [show (makeP h t l).1.lev = h.lev from rfl, hT', show (makeP h t l).1.bus = h.bus from rfl, show (makeP h t l).1.obs = h.obs ++ [⟨t, 1, 1, 0, takenV h l⟩] from rfl, e2, List.map_append, sumN_cat]
  simp only [List.map_cons, List.map_nil, sumN, wO, if_true]
  omega
theorem inv_addB {i S : Nat} {h : Hp} (hi : Inv i S h) (hi6 : i <= 130) (c : Int) {e : List Va} (hl : e.length <= 1000 + (i + 1)) (hv : wVs e <= (i + 1) * S) : Inv (i + 1) S { h with bus := h.bus ++ [⟨c, e⟩] } := by
 have e1 : (i + 1) * S = i * S + S := Nat.succ_mul i S
 have e2 : (i + 1) * (200 * S) = i * (200 * S) + 200 * S := Nat.succ_mul i _
 have e3 : (i + 1) * S <= 200 * S := Nat.mul_le_mul_right S (by omega)
 have hT : wT { h with bus := h.bus ++ [⟨c, e⟩] } = wT h := wT_same rfl
 have hTs : tsum { h with bus := h.bus ++ [⟨c, e⟩] } = tsum h := by funext l; unfold tsum; rw [hT]
 refine ⟨?_, ?_, ?_, fun o ho => hi.fld o ho, fun b hb => ?_, ?_, ?_⟩
 ·have := hi.obs; simp only []; omega
 ·have := hi.bus; simp only [List.length_append, List.length_singleton]; omega
 ·have := hi.lev; simp only []; omega
 ·rcases List.mem_append.1 hb with h3 | h3
  ·have := hi.elm b h3; rw [e1]; omega
  ·rw [List.mem_singleton.1 h3]; exact ⟨hl, hv⟩
 ·have := hi.fc; unfold fcnt at this ⊢; simp only []; omega
 ·have := hi.tot
  unfold Go.Proofs.Ytpamocglecangaa.tot at this ⊢
  rw [hTs, e2]
  simp only [List.map_append, sumN_cat, List.map_cons, List.map_nil, sumN, wB] at this ⊢
  omega
theorem inv_array {i S : Nat} {h : Hp} (hi : Inv i S h) (hi6 : i <= 130) (t : Ty) {l : List Va} (hl : l.length <= 1000) (hv : wVs l <= S) : Inv (i + 1) S (arrayP h t l).1 :=
 inv_addB hi hi6 1 (by rw [len_taken]; omega) (by have := wVs_taken h l; rw [Nat.succ_mul]; omega)
theorem inv_copy {i S : Nat} {h : Hp} (hi : Inv i S h) (v : Va) : Inv (i + 1) S (copyP h v).1 := by
 unfold copyP
 split
 ·split
  ·exact hi.up
  ·exact (hi.same (cntV_sameW 1 v h)).up
 ·exact hi.up
theorem inv_end {i S : Nat} {h : Hp} (hi : Inv i S h) {v : Va} (hv : wV v <= S) : Inv (i + 1) S (endP h v).1 := by
 have e1 : (i + 1) * S = i * S + S := Nat.succ_mul i S
 have e2 : (i + 1) * (200 * S) = i * (200 * S) + 200 * S := Nat.succ_mul i _
 unfold endP
 split
 ·split
  ·exact hi.up
  ·have hTs : tsum { h with lev := h.lev ++ [[.val v]] } = tsum h := by funext l; unfold tsum; rw [wT_same (h := h) (h' := { h with lev := h.lev ++ [[.val v]] }) rfl]
   refine ⟨?_, ?_, ?_, fun o ho => hi.fld o ho, fun b hb => ?_, ?_, ?_⟩
   ·have := hi.obs; simp only []; omega
   ·have := hi.bus; simp only []; omega
   ·have := hi.lev; simp only [List.length_append, List.length_singleton]; omega
   ·have := hi.elm b hb; rw [e1]; omega
   ·have := hi.fc
    unfold fcnt at this ⊢
    simp only [List.map_append, sumN_cat, List.map_cons, List.map_nil, sumN]
    rw [show cntF [.val v] = 0 from rfl]
    omega
   ·have := hi.tot
    unfold Go.Proofs.Ytpamocglecangaa.tot at this ⊢
    rw [hTs, e2]
    simp only [List.map_append, sumN_cat, List.map_cons, List.map_nil, sumN]
    rw [show tsum h [.val v] = wV v + 0 from rfl]
    omega
 ·exact hi.up
theorem inv_weak {i S : Nat} {h : Hp} (hi : Inv i S h) (v : Va) : Inv (i + 1) S (weakP h v).1 := by
 unfold weakP
 split
 ·split
  ·rename_i o ho
   split
   ·exact hi.up
   ·refine (hi.same ?_).up; exact ⟨set_map (f := fun o : Ob => (o.state, o.fields)) (o' := addW 1 o) ho rfl, rfl, rfl⟩
  ·exact hi.up
 ·exact hi.up
theorem inv_load {i S : Nat} {h : Hp} (hi : Inv i S h) (v : Va) : Inv (i + 1) S (loadP h v).1 := by
 unfold loadP
 split
 ·split
  ·rename_i o ho
   split
   ·refine (hi.same ?_).up; exact ⟨set_map (f := fun o : Ob => (o.state, o.fields)) (o' := addC 1 o) ho rfl, rfl, rfl⟩
   ·exact hi.up
  ·exact hi.up
 ·exact hi.up
theorem sumN_set {α : Type} {f : α -> Nat} {l : List α} {n : Nat} {x y : α} (h : l[n]? = some x) : sumN ((l.set n y).map f) + f x = sumN (l.map f) + f y := by
 induction l generalizing n with
 | nil => simp at h
 | cons a l ih =>
  cases n with
  | zero => simp at h; subst h; simp only [List.set_cons_zero, List.map_cons, sumN]; omega
  | succ n => have := ih (n := n) (by simpa using h); simp only [List.set_cons_succ, List.map_cons, sumN]; omega
theorem wVs_set {l : List Va} {v : Va} : ∀ (j : Nat), wVs (l.set j v) <= wVs l + wV v := by
 induction l with
 | nil => intro j; simp [wVs]
 | cons a l ih =>
  intro j
  cases j with
  | zero => simp only [List.set_cons_zero, wVs]; omega
  | succ j => have := ih j; simp only [List.set_cons_succ, wVs]; omega
theorem wVs_setd {v : Va} : ∀ (l : List Va) (j k : Nat), wVs ((l.set j v).drop k) <= wVs (l.drop k) + wV v
 | [], j, k => by simp [wVs]
 | a :: l, j, 0 => by simpa using wVs_set (l := a :: l) (v := v) j
 | a :: l, 0, k + 1 => by simp
 | a :: l, j + 1, k + 1 => by simpa using wVs_setd l j k
theorem wVs_add (l m : List Va) : wVs (l ++ m) = wVs l + wVs m := by
 induction l with
 | nil => simp [wVs]
 | cons a l ih => simp only [List.cons_append, wVs, ih]; omega
theorem inv_set {i S : Nat} {h : Hp} (hi : Inv i S h) (hi6 : i <= 130) (x f : Int) {v : Va} (hv : wV v <= S) : Inv (i + 1) S (setP h x f v).1 := by
 have e1 : (i + 1) * S = i * S + S := Nat.succ_mul i S
 have e2 : (i + 1) * (200 * S) = i * (200 * S) + 200 * S := Nat.succ_mul i _
 unfold setP
 split
 ·split
  ·split
   ·rename_i ob ho
    split
    ·rename_i old hold
     have hT : ∀ t, wT { h with obs := h.obs.set x.toNat { ob with fields := ob.fields.set f.toNat v } } t <= wT h t + isF t * wV v := by
      intro t
      cases t with
      | val u => simp [wT]
      | flds o j =>
       simp only [wT, isF, List.getElem?_set]
       have hlt := (List.getElem?_eq_some_iff.1 ho).1
       by_cases e : x.toNat = o
       ·subst e
        simp only [if_true, if_pos hlt, ho]
        have := wVs_setd (v := v) ob.fields f.toNat j
        simp only [List.length_drop, List.length_set]; omega
       ·simp only [if_neg e]; split <;> omega
     have hTs : ∀ l, tsum { h with obs := h.obs.set x.toNat { ob with fields := ob.fields.set f.toNat v } } l <= tsum h l + cntF l * wV v := by
      intro l
      unfold tsum cntF
      induction l with
      | nil => simp [sumN]
      | cons t l ih =>
       have := hT t
       simp only [List.map_cons, sumN, Nat.add_mul]; omega
     have hL : ∀ L : List (List Tk), sumN (L.map (tsum { h with obs := h.obs.set x.toNat { ob with fields := ob.fields.set f.toNat v } })) <= sumN (L.map (tsum h)) + sumN (L.map cntF) * wV v := by
      intro L
      induction L with
      | nil => simp [sumN]
      | cons l L ih =>
       have := hTs l
       simp only [List.map_cons, sumN, Nat.add_mul]; omega
     have hst := sumN_set (f := stO) (y := { ob with fields := ob.fields.set f.toNat v }) ho
     have hwo := sumN_set (f := wO) (y := { ob with fields := ob.fields.set f.toNat v }) ho
     have hs1 : stO { ob with fields := ob.fields.set f.toNat v } = stO ob := rfl
     have hw1 : wO { ob with fields := ob.fields.set f.toNat v } <= wO ob + stO ob * wV v := by
      have := wVs_set (l := ob.fields) (v := v) f.toNat
      unfold wO stO
      simp only [List.length_set]
      split <;> omega
     have hsx : stO ob <= sumN (h.obs.map stO) := by
      have hsz := sumN_set (f := stO) (y := { ob with state := 3 }) ho
      rw [show stO { ob with state := 3 } = 0 from rfl] at hsz
      omega
     have hfc := hi.fc
     have hprod : (sumN (h.lev.map cntF) + stO ob) * wV v <= 200 * S := Nat.mul_le_mul (by unfold fcnt at hfc; omega) hv
     rw [Nat.add_mul] at hprod
     refine ⟨?_, ?_, ?_, fun o hm => ?_, fun b hb => ?_, ?_, ?_⟩
     ·have := hi.obs; simp only [List.length_set]; omega
     ·have := hi.bus; simp only []; omega
     ·have := hi.lev; simp only []; omega
     ·rcases set_mem hm with h3 | h3
      ·exact hi.fld o h3
      ·rw [h3]; simp only [List.length_set]; exact hi.fld ob (List.mem_of_getElem? ho)
     ·have := hi.elm b hb; rw [e1]; omega
     ·unfold fcnt at hfc ⊢
      simp only [] at hfc ⊢
      omega
     ·have := hi.tot
      have hl0 := hL h.lev
      unfold Go.Proofs.Ytpamocglecangaa.tot at this ⊢
      rw [e2]
      simp only [] at this hl0 ⊢
      omega
    ·exact hi.up
   ·exact hi.up
  ·exact hi.up
 ·exact hi.up
theorem inv_setB {i S : Nat} {h : Hp} (hi : Inv i S h) {n : Nat} {b b' : Bu} (hb : h.bus[n]? = some b) (hl : b'.elems.length <= b.elems.length + 1) (hw : wVs b'.elems <= wVs b.elems + S) : Inv (i + 1) S { h with bus := h.bus.set n b' } := by
 have e1 : (i + 1) * S = i * S + S := Nat.succ_mul i S
 have e2 : (i + 1) * (200 * S) = i * (200 * S) + 200 * S := Nat.succ_mul i _
 have hTs : tsum { h with bus := h.bus.set n b' } = tsum h := by funext l; unfold tsum; rw [wT_same (h := h) (h' := { h with bus := h.bus.set n b' }) rfl]
 have hwb := sumN_set (f := wB) (y := b') hb
 have hb0 := hi.elm b (List.mem_of_getElem? hb)
 refine ⟨?_, ?_, ?_, fun o ho => hi.fld o ho, fun c hc => ?_, ?_, ?_⟩
 ·have := hi.obs; simp only []; omega
 ·have := hi.bus; simp only [List.length_set]; omega
 ·have := hi.lev; simp only []; omega
 ·rcases set_mem hc with h3 | h3
  ·have := hi.elm c h3; rw [e1]; omega
  ·rw [h3, e1]; omega
 ·have := hi.fc; unfold fcnt at this ⊢; simp only []; omega
 ·have := hi.tot
  unfold Go.Proofs.Ytpamocglecangaa.tot at this ⊢
  rw [hTs, e2]
  unfold wB at hwb this ⊢
  simp only [] at this hwb ⊢
  omega
theorem inv_put {i S : Nat} {h : Hp} (hi : Inv i S h) (v : Va) (f : Int) {x : Va} (hx : wV x <= S) : Inv (i + 1) S (putP h v f x).1 := by
 unfold putP
 split
 ·split
  ·rename_i b hb
   split
   ·split
    ·exact inv_setB hi hb (by simp) (by have := wVs_set (l := b.elems) (v := x) f.toNat; simp only []; omega)
    ·exact hi.up
   ·exact hi.up
  ·exact hi.up
 ·exact hi.up
theorem inv_append {i S : Nat} {h : Hp} (hi : Inv i S h) (v : Va) {x : Va} (hx : wV x <= S) : Inv (i + 1) S (appendP h v x).1 := by
 unfold appendP
 split
 ·split
  ·rename_i b hb
   exact inv_setB hi hb (by simp) (by simp only [wVs_add, wVs]; omega)
  ·exact hi.up
 ·exact hi.up
theorem inv_own {i S : Nat} {h : Hp} (hi : Inv i S h) (hi6 : i <= 130) (v : Va) : Inv (i + 1) S (ownP h v).1 := by
 unfold ownP
 split
 ·split
  ·rename_i b hb
   split
   ·exact hi.up
   ·split
    ·exact hi.up
    ·split
     ·rename_i b1 hb1
      have hs := cntVs_sameW 1 b.elems h
      have hb0 := hi.elm b (List.mem_of_getElem? hb)
      refine (inv_addB hi hi6 1 (e := b.elems) (by omega) (by rw [Nat.succ_mul]; omega)).same ⟨hs.obs, ?_, hs.lev⟩
      simp only [List.map_append]
      rw [set_map (f := fun b : Bu => b.elems) (o' := addB (-1) b1) hb1 rfl, hs.bus]
     ·exact hi.up
  ·exact hi.up
 ·exact hi.up
end Go.Proofs.Ytpamocglecangaa
namespace Go.Proofs.Ytpamocglecangaa
structure Less (h : Hp) (l : List Tk) (h' : Hp) (l' : List Tk) : Prop where
 w : weight h' l' <= weight h l
 t : ∀ t, wT h' t <= wT h t
 c : cntF l' + sumN (h'.obs.map stO) <= cntF l + sumN (h.obs.map stO)
 on : h'.obs.length = h.obs.length
 bn : h'.bus.length = h.bus.length
 f : ∀ o, o ∈ h'.obs -> ∃ o', o' ∈ h.obs /\ o.fields.length = o'.fields.length
 e : ∀ b, b ∈ h'.bus -> ∃ b', b' ∈ h.bus /\ (b.elems = b'.elems ∨ b.elems = [])
theorem Less.refl (h : Hp) (l : List Tk) : Less h l h l := ⟨Nat.le_refl _, fun _ => Nat.le_refl _, Nat.le_refl _, rfl, rfl, fun o ho => ⟨o, ho, rfl⟩, fun b hb => ⟨b, hb, .inl rfl⟩⟩
theorem Less.trans {h0 h1 h2 : Hp} {l0 l1 l2 : List Tk} (a : Less h0 l0 h1 l1) (b : Less h1 l1 h2 l2) : Less h0 l0 h2 l2 := ⟨Nat.le_trans b.w a.w, fun t => Nat.le_trans (b.t t) (a.t t), Nat.le_trans b.c a.c, b.on.trans a.on, b.bn.trans a.bn, fun o ho => by
  obtain ⟨o1, h1, e1⟩ := b.f o ho
  obtain ⟨o2, h2, e2⟩ := a.f o1 h1
  exact ⟨o2, h2, e1.trans e2⟩, fun x hx => by
  obtain ⟨x1, h1, e1⟩ := b.e x hx
  obtain ⟨x2, h2, e2⟩ := a.e x1 h1
  rcases e1 with e1 | e1
  ·rcases e2 with e2 | e2
   ·exact ⟨x2, h2, .inl (e1.trans e2)⟩
   ·exact ⟨x2, h2, .inr (e1.trans e2)⟩
  ·exact ⟨x2, h2, .inr e1⟩⟩
theorem cntF_cat (l m : List Tk) : cntF (l ++ m) = cntF l + cntF m := by unfold cntF; rw [List.map_append, sumN_cat]
theorem cntF_later (l : List Va) : cntF (laterV l) = 0 := by
 unfold laterV cntF
 rw [List.map_map]
 induction l.reverse with
 | nil => rfl
 | cons a m ih => simp only [List.map_cons, sumN, Function.comp, isF, ih]
theorem mod_mem {α : Type} {l : List α} {n : Nat} {f : α -> α} {x : α} (h : x ∈ l.modify n f) : x ∈ l ∨ ∃ a, l[n]? = some a /\ x = f a := by
 obtain ⟨i, hi⟩ := List.mem_iff_getElem?.1 h
 rw [List.getElem?_modify] at hi
 cases hl : l[i]? with
 | none => simp [hl] at hi
 | some a =>
  by_cases e : n = i
  ·simp [hl, e] at hi; subst e; exact .inr ⟨a, hl, hi.symm⟩
  ·simp [hl, e] at hi; subst hi; exact .inl (List.mem_of_getElem? hl)
theorem less_obs {h : Hp} {l l' : List Tk} {n : Nat} {f : Ob -> Ob} (hw : weight { h with obs := h.obs.modify n f } l' <= weight h l) (hf : ∀ o, h.obs[n]? = some o -> (f o).fields.length = o.fields.length /\ ∀ j, wVs ((f o).fields.drop j) <= wVs (o.fields.drop j)) (hc : ∀ o, h.obs[n]? = some o -> cntF l' + stO (f o) <= cntF l + stO o) (hc0 : h.obs[n]? = none -> cntF l' <= cntF l) : Less h l { h with obs := h.obs.modify n f } l' where
 w := hw
 t := wT_le (by simp) fun i a b e1 e2 => by
  rcases mod_get e1 e2 with ⟨rfl, rfl⟩ | ⟨_, rfl⟩
  ·exact hf a e1
  ·exact ⟨rfl, fun _ => Nat.le_refl _⟩
 c := by
  cases ho : h.obs[n]? with
  | none => have := hc0 ho; simp only [modify_same ho]; omega
  | some o =>
   have := sumN_mod (f := stO) (g := f) ho
   have := hc o ho
   simp only []; omega
 on := by simp
 bn := rfl
 f := fun o ho => by
  rcases mod_mem ho with h1 | ⟨a, h1, rfl⟩
  ·exact ⟨o, h1, rfl⟩
  ·exact ⟨a, List.mem_of_getElem? h1, (hf a h1).1⟩
 e := fun b hb => ⟨b, hb, .inl rfl⟩
theorem less_bus {h : Hp} {l l' : List Tk} {n : Nat} {f : Bu -> Bu} (hw : weight { h with bus := h.bus.modify n f } l' <= weight h l) (hf : ∀ b, h.bus[n]? = some b -> (f b).elems = b.elems ∨ (f b).elems = []) (hc : cntF l' <= cntF l) : Less h l { h with bus := h.bus.modify n f } l' where
 w := hw
 t := fun t => by rw [wT_same (h := h) (h' := { h with bus := h.bus.modify n f }) rfl]; exact Nat.le_refl _
 c := by simp only []; omega
 on := rfl
 bn := by simp
 f := fun o ho => ⟨o, ho, rfl⟩
 e := fun b hb => by
  rcases mod_mem hb with h1 | ⟨a, h1, rfl⟩
  ·exact ⟨b, h1, .inl rfl⟩
  ·exact ⟨a, List.mem_of_getElem? h1, hf a h1⟩
theorem less_self {h : Hp} {l l' : List Tk} (hw : weight h l' <= weight h l) (hc : cntF l' <= cntF l) : Less h l h l' := ⟨hw, fun _ => Nat.le_refl _, by omega, rfl, rfl, fun o ho => ⟨o, ho, rfl⟩, fun b hb => ⟨b, hb, .inl rfl⟩⟩
theorem step_less (h : Hp) (l : List Tk) (t : Tk) : Less h (l ++ [t]) (stepV' h l t).1 (stepV' h l t).2.1 := by
 have hwt := Nat.le_of_lt (step_falls h l t)
 cases t with
 | flds o i =>
  cases ho : h.obs[o]? with
  | none =>
   simp only [stepV', ho] at hwt ⊢
   exact less_self hwt (by rw [cntF_cat]; omega)
  | some ob =>
   cases hf : ob.fields[i]? with
   | some v =>
    simp only [stepV', ho, hf] at hwt ⊢
    exact less_self hwt (by rw [cntF_cat, cntF_cat]; exact Nat.le_refl _)
   | none =>
    simp only [stepV', ho, hf] at hwt ⊢
    refine less_obs hwt (fun a ha => ⟨by simp, fun j => ?_⟩) (fun a ha => ?_) (fun e => by rw [ho] at e; cases e)
    ·simp only [List.drop_replicate, wVs_rep]
     have := wVs_len (a.fields.drop j)
     rwa [List.length_drop] at this
    ·rw [cntF_cat]
     rw [show stO { a with fields := List.replicate a.fields.length va0, state := 3 } = 0 from rfl, show cntF [Tk.flds o i] = 1 from rfl]
     omega
 | val v =>
  have hone : cntF [Tk.val v] = 0 := rfl
  by_cases c7 : v.kind = 7
  ·cases ho : h.obs[v.num.toNat]? with
   | none => simp only [stepV', c7, if_true, ho] at hwt ⊢; exact less_self hwt (by rw [cntF_cat]; omega)
   | some ob =>
    by_cases hc : w64 (ob.count + -1) ≠ 0 ∨ ob.state ≠ 1
    ·simp only [stepV', c7, if_true, ho, if_pos hc] at hwt ⊢
     exact less_obs hwt (fun a ha => ⟨rfl, fun _ => Nat.le_refl _⟩) (fun a ha => by rw [cntF_cat, show stO (addC (-1) a) = stO a from rfl]; omega) (fun e => by rw [ho] at e; cases e)
    ·have hs : ob.state = 1 := Classical.not_not.1 fun e => hc (.inr e)
     simp only [stepV', c7, if_true, ho, if_neg hc] at hwt ⊢
     refine less_obs hwt (fun a ha => ⟨rfl, fun _ => Nat.le_refl _⟩) (fun a ha => ?_) (fun e => by rw [ho] at e; cases e)
     rw [ho] at ha; cases ha
     rw [cntF_cat, cntF_cat, show stO { addC (-1) ob with state := 2 } = 0 from rfl, show cntF [Tk.flds v.num.toNat 0] = 1 from rfl]
     unfold stO
     rw [if_pos hs]; omega
  ·by_cases c11 : v.kind = 11
   ·simp only [stepV', if_neg c7, if_pos c11] at hwt ⊢
    exact less_obs hwt (fun a ha => ⟨rfl, fun _ => Nat.le_refl _⟩) (fun a ha => by rw [cntF_cat, show stO (addW (-1) a) = stO a from rfl]; omega) (fun _ => by rw [cntF_cat]; omega)
   ·by_cases c8 : v.kind = 8
    ·cases hb : h.bus[v.num.toNat]? with
     | none => simp only [stepV', if_neg c7, if_neg c11, if_pos c8, hb] at hwt ⊢; exact less_self hwt (by rw [cntF_cat]; omega)
     | some b =>
      by_cases hc : w64 (b.count + -1) = 0
      ·simp only [stepV', if_neg c7, if_neg c11, if_pos c8, hb, if_pos hc] at hwt ⊢
       exact less_bus hwt (fun a ha => .inr rfl) (by rw [cntF_cat, cntF_cat, cntF_later]; omega)
      ·simp only [stepV', if_neg c7, if_neg c11, if_pos c8, hb, if_neg hc] at hwt ⊢
       exact less_bus hwt (fun a ha => .inl rfl) (by rw [cntF_cat]; omega)
    ·by_cases c5 : v.kind = 5
     ·simp only [stepV', if_neg c7, if_neg c11, if_neg c8, if_pos c5] at hwt ⊢; exact less_self hwt (by rw [cntF_cat, cntF_cat, cntF_later]; omega)
     ·by_cases ck : hasK v.kind = true
      ·simp only [stepV', if_neg c7, if_neg c11, if_neg c8, if_neg c5, if_pos ck] at hwt ⊢; exact less_self hwt (by rw [cntF_cat, cntF_cat, cntF_later]; omega)
      ·simp only [stepV', if_neg c7, if_neg c11, if_neg c8, if_neg c5, if_neg ck] at hwt ⊢; exact less_self hwt (by rw [cntF_cat]; omega)
theorem run_less : ∀ (n : Nat) (h : Hp) (l : List Tk), Less h l (runN n h l).1 (runN n h l).2.1
 | 0, h, l => Less.refl h l
 | n + 1, h, l => by
  simp only [runN]
  cases ht : l.getLast? with
  | none => exact Less.refl h l
  | some t =>
   simp only
   have hs := step_less h l.dropLast t
   rw [<- last_split ht] at hs
   cases hd : (stepV' h l.dropLast t).2.2 with
   | some v => exact hs
   | none => exact hs.trans (run_less n _ _)
theorem lev_split {L : List (List Tk)} {l : List Tk} (h : L.getLast? = some l) : L = L.dropLast ++ [l] := by
 rw [List.getLast?_eq_some_iff] at h
 obtain ⟨m, rfl⟩ := h
 simp
theorem inv_next {i S : Nat} {h : Hp} (hi : Inv i S h) : Inv i S (nextP h).1 := by
 unfold nextP
 cases hl : h.lev.getLast? with
 | none => exact hi
 | some l =>
  have hL := run_less (weight h l) h l
  have hsp := lev_split hl
  have htot := hi.tot
  have hfc := hi.fc
  have hlev := hi.lev
  have hln := congrArg List.length hsp
  simp only [List.length_append, List.length_singleton] at hln
  have hlow : ∀ L : List (List Tk), sumN (L.map (tsum (runN (weight h l) h l).1)) <= sumN (L.map (tsum h)) := fun L => sumN_le fun ts _ => sumN_le fun t _ => hL.t t
  have hd := hlow h.lev.dropLast
  have hw := hL.w
  have hc := hL.c
  have hlvT := congrArg (fun L => sumN (L.map (tsum h))) hsp
  have hlvF := congrArg (fun L => sumN (L.map cntF)) hsp
  simp only [List.map_append, sumN_cat, List.map_cons, List.map_nil, sumN] at hlvT hlvF
  unfold Go.Proofs.Ytpamocglecangaa.tot at htot
  unfold fcnt at hfc
  have e0 : weight h l = tsum h l + sumN (h.obs.map wO) + sumN (h.bus.map wB) := rfl
  have e1 : weight (runN (weight h l) h l).1 (runN (weight h l) h l).2.1 = tsum (runN (weight h l) h l).1 (runN (weight h l) h l).2.1 + sumN ((runN (weight h l) h l).1.obs.map wO) + sumN ((runN (weight h l) h l).1.bus.map wB) := rfl
  have hob : (runN (weight h l) h l).1.obs.length <= i := by rw [hL.on]; exact hi.obs
  have hbu : (runN (weight h l) h l).1.bus.length <= i := by rw [hL.bn]; exact hi.bus
  have hfl : ∀ o, o ∈ (runN (weight h l) h l).1.obs -> o.fields.length <= 1000 := fun o ho => by
   obtain ⟨o', h1, h2⟩ := hL.f o ho
   rw [h2]; exact hi.fld o' h1
  have hel : ∀ b, b ∈ (runN (weight h l) h l).1.bus -> b.elems.length <= 1000 + i /\ wVs b.elems <= i * S := fun b hb => by
   obtain ⟨b', h1, h2⟩ := hL.e b hb
   rcases h2 with h2 | h2
   ·rw [h2]; exact hi.elm b' h1
   ·rw [h2]; exact ⟨Nat.zero_le _, Nat.zero_le _⟩
  have hTs : ∀ L', tsum { (runN (weight h l) h l).1 with lev := L' } = tsum (runN (weight h l) h l).1 := fun L' => by
   funext ts; unfold tsum; rw [wT_same (h := (runN (weight h l) h l).1) (h' := { (runN (weight h l) h l).1 with lev := L' }) rfl]
  simp only
  have hw2 := Nat.le_trans (Nat.le_of_eq e1.symm) (Nat.le_trans hw (Nat.le_of_eq e0))
  clear hw e0 e1
  generalize hgr : runN (weight h l) h l = R at *
  split
  ·refine ⟨hob, hbu, ?_, hfl, hel, ?_, ?_⟩
   ·simp only [List.length_append, List.length_singleton]; omega
   ·unfold fcnt
    simp only [List.map_append, sumN_cat, List.map_cons, List.map_nil, sumN]
    omega
   ·unfold Go.Proofs.Ytpamocglecangaa.tot
    rw [hTs]
    simp only [List.map_append, sumN_cat, List.map_cons, List.map_nil, sumN]
    omega
  ·refine ⟨hob, hbu, ?_, hfl, hel, ?_, ?_⟩
   ·simp only []; omega
   ·unfold fcnt
    simp only []
    omega
   ·unfold Go.Proofs.Ytpamocglecangaa.tot
    rw [hTs]
    simp only []
    omega
def stepP (h : Hp) (q : Cl) : Hp :=
 if q.k = 0 then (makeP h q.t q.l).1 else if q.k = 1 then (arrayP h q.t q.l).1 else if q.k = 2 then (copyP h q.v).1 else if q.k = 3 then (endP h q.v).1
 else if q.k = 4 then (nextP h).1 else if q.k = 6 then (setP h q.a q.b q.v).1 else if q.k = 7 then (weakP h q.v).1 else if q.k = 8 then (loadP h q.v).1
 else if q.k = 10 then (ownP h q.v).1 else if q.k = 11 then (putP h q.v q.a q.x).1 else if q.k = 12 then (appendP h q.v q.x).1 else h
def ClOk (S : Nat) (q : Cl) : Prop := q.l.length <= 1000 /\ wVs q.l <= S /\ wV q.v <= S /\ wV q.x <= S
theorem inv_step {i S : Nat} {h : Hp} {q : Cl} (hi : Inv i S h) (hw : Wf h) (hi6 : i <= 130) (hq : ClOk S q) : Inv (i + 1) S (stepP h q) := by
 obtain ⟨h1, h2, h3, h4⟩ := hq
 have hS : 1 <= S := Nat.le_trans (wV_pos q.v) h3
 unfold stepP
 repeat' split
 ·exact inv_make hi hw hS _ h1 h2
 ·exact inv_array hi hi6 _ h1 h2
 ·exact inv_copy hi _
 ·exact inv_end hi h3
 ·exact (inv_next hi).up
 ·exact inv_set hi hi6 _ _ h3
 ·exact inv_weak hi _
 ·exact inv_load hi _
 ·exact inv_own hi hi6 _
 ·exact inv_put hi _ _ h4
 ·exact inv_append hi _ h4
 ·exact hi.up
theorem wf_step {h : Hp} (q : Cl) (hw : Wf h) : Wf (stepP h q) := by
 unfold stepP
 repeat' split
 ·exact make_wf hw _ _
 ·exact array_wf hw _ _
 ·exact copy_wf hw _
 ·exact end_wf hw _
 ·exact next_wf hw
 ·exact set_wf hw _ _ _
 ·exact weak_wf hw _
 ·exact load_wf hw _
 ·exact own_wf hw _
 ·exact put_wf hw _ _ _
 ·exact append_wf hw _ _
 ·exact hw
theorem inv_zero (S : Nat) (l : List ByteArray) : Inv 0 S ⟨l, [], [], []⟩ := ⟨Nat.le_refl _, Nat.le_refl _, Nat.le_refl _, fun o ho => (by cases ho), fun b hb => (by cases hb), Nat.le_refl _, Nat.zero_le _⟩
theorem wf_zero (l : List ByteArray) : Wf ⟨l, [], [], []⟩ := ⟨fun o ho => (by cases ho), fun b hb => (by cases hb), fun t ht => (by cases ht)⟩
theorem Inv.weight {i S : Nat} {h : Hp} (hi : Inv i S h) {l : List Tk} (hl : h.lev.getLast? = some l) : Go.Proofs.Ytpamocglecangaa.weight h l <= i * (200 * S) := by
 have hsp := lev_split hl
 have hlvT := congrArg (fun L => sumN (L.map (tsum h))) hsp
 simp only [List.map_append, sumN_cat, List.map_cons, List.map_nil, sumN] at hlvT
 have htot := hi.tot
 unfold Go.Proofs.Ytpamocglecangaa.tot at htot
 have e0 : Go.Proofs.Ytpamocglecangaa.weight h l = tsum h l + sumN (h.obs.map wO) + sumN (h.bus.map wB) := rfl
 omega
open Go.RowKit Go.Proofs.Ytpamocglecangaa.Nm
set_option linter.unusedSimpArgs false
theorem built101f (n : Int) : Try.prog.built 101 [(1, .int .i64 n), (3, .int .i64 1)] = some (zrow ++ #[.int .i64 n, .int .i64 0, .int .i64 1]) := by kernel_rfl
theorem ex_build101f {ev : Operand -> Value} {o : Oper} {w : World} (x y : Operand) (ho : o.op = .build 101 #[(1, x), (3, y)]) {n : Int} (hx : ev x = .int .i64 n) (hy : ev y = .int .i64 1) :
  (execOp ev o).run Try.prog w = .ok (.value (.agg (zrow ++ #[.int .i64 n, .int .i64 0, .int .i64 1]))) w := ex_build 101 _ ho (by simp only [List.map_cons, List.map_nil, hx, hy]) (built101f n)
theorem End_obj {w0 : World} {G0 : Gh} {k p : Nat} {h : Hp} {last : Array Value} {ts : List Tk} {A : Option Addr} {c : Nat} {w : World} {G : Gh} (d : TopD w0 G0 k p h last ts A c w G) {v : Va} {rv x : Array Value} (hv : VAt w (Imm G) v rv) {q : Nat}
  (hq : w.heap[q]? = some (.cells (rv ++ x) 101 (0, 0))) (hqG : G q = some (k, .tmp)) (hq0 : w0.heap.size <= q) (ho : ofV h.obs.length h.bus.length v = true) (hroom : weight h (ts ++ [.val v]) <= 700000000000) (hk : v.kind = 7) :
  Calls Try.prog 76 #[.pointer (some ⟨p, 0, none⟩), .slice A ts.length c, .pointer (some ⟨q, 0, none⟩)] w (EndT w0 G0 k p q last x (stepV' h ts (.val v))) := by
 have HD := Zi d
 have HV := Zi hv
 have HQ := Zi hqG
 have HQ0 := Zi hq0
 have HO := Zi ho
 have HRM := Zi hroom
 have HK := Zi hk
 obtain ⟨trv, A2v, l2v, c2v, A3v, l3v, c3v, hrv⟩ := hv.row
 have HRV := Zi hrv
 have hvs := hv.size
 have HNW := Zi (wf_num hv)
 clear d hv hqG hq0 ho hroom hrv hk
 go_enter Try.func76, Try.ntmps76
 go_upto_region 0 with fail
 apply Zl
 iterate 2 refine Zm ?_
 go_upto_region 1 with fail
 apply Zl
 iterate 3 refine Zm ?_
 refine Zo rfl (tkK hq HRV HK) ?_
 go_upto_region 2 with fail
 apply Zl
 iterate 2 refine Zm ?_
 have h9 : 0 <= v.num /\ v.num < (h.obs.length : Int) := by
  have := HO.out
  rw [ofV_eq, if_pos (by have := HK.out; omega)] at this
  exact of_decide_eq_true this
 obtain ⟨n, hn⟩ : ∃ n : Nat, v.num = (n : Int) := ⟨v.num.toNat, by omega⟩
 have hnl : n < h.obs.length := by omega
 have hnlI : (n : Int) < (h.obs.length : Int) := by omega
 have ho := List.getElem?_eq_getElem hnl
 obtain ⟨o, hoe⟩ : ∃ o, o = h.obs[n] := ⟨_, rfl⟩
 rw [<- hoe] at ho
 obtain ⟨oA, oc, bA, bc, m, lA, lc, hh⟩ := HD.out.heap
 obtain ⟨g, tr0, fA, fc, rfl, hgr, hL, -, -, -⟩ := hh.obj ho
 have HL := Zi hL
 have HOO := Zi ho
 have HH := Zi hh
 have HN := Zi hn
 have HGR := Zi hgr
 have hp := hh.blk
 clear hL hgr hoe ho hh h9 hn
 have HST : Hid (stepV' h ts (.val v) = if w64 (o.count + -1) ≠ 0 ∨ o.state ≠ 1 then ({ h with obs := h.obs.set n (addC (-1) o) }, ts, none)
   else ({ h with obs := h.obs.set n { addC (-1) o with state := 2 } }, ts ++ [.flds n 0], if h.dei.contains o.t.name then some (.node 7 (n : Int) ⟨#[]⟩ o.t [] []) else none)) := Zi (by
  simp only [stepV', HK.out, HN.out, if_true, Int.toNat_natCast, HOO.out, modify_at _ HOO.out])
 go_upto_region 3 with fail
 refine wp_region_belowAll mixed (by kernel_rfl) ?_
 iterate 3 refine Zt ?_
 refine Zv rfl (fun w' hw' => h0 (below_look hw' hp)) ?_
 iterate 3 refine Zt ?_
 refine Zv rfl (fun w' hw' => tkN (below_look hw' hq) HRV HN) ?_
 iterate 2 refine Zt ?_
 intro w3 hb3
 have HL3 := Zi (HL.out w3 hb3)
 replace HD := Zi (HD.out.quiet hb3)
 replace HH := Zi (HH.out.old hb3)
 replace HV := Zi (HV.out.old hb3)
 replace hq := below_look hb3 hq
 clear hb3
 clear HL hp
 go_upto_region 4 with fail
 obtain ⟨hs1, hs2, hrl, hset⟩ := HH.out.stO HOO.out 5 (by omega)
 have hst := hset (w64 (o.count + -1)) (addC (-1) o) rfl rfl (by simp [addC])
 clear hset
 apply Zl
 iterate 3 refine Zm ?_
 refine Zo rfl (HL3.out.c) ?_
 iterate 3 refine Zm ?_
 refine wl_storeC rfl 3 _ _ rfl g _ (.int .i64 (w64 (o.count + -1))) rfl rfl info3 rfl hs1 hs2 ?_; rw [put_noneA]
 clear HL3 hs1 hs2
 obtain ⟨o1, ho1⟩ : ∃ o1, o1 = addC (-1) o := ⟨_, rfl⟩
 have hc1 : o1.count = w64 (o.count + -1) := by rw [ho1]; rfl
 have hs1 : o1.state = o.state := by rw [ho1]; rfl
 have ht1 : o1.t = o.t := by rw [ho1]; rfl
 obtain ⟨y1, hy1⟩ : ∃ y1 : Hp, y1 = { h with obs := h.obs.set n o1 } := ⟨_, rfl⟩
 rw [<- ho1, <- hy1] at hst
 have hd1 := HD.out.step (h' := y1) HGR.out (by simp) (by simp) (by rw [hy1]) (Keep.cellOne _ g (n * 8 + 5) (.int .i64 (w64 (o.count + -1)))) ⟨_, _, _, _, _, _, _, hst⟩
 have hqg : q ≠ g := fun e => by have := HQ.out; rw [e, HGR.out] at this; cases this
 replace hq := (heap_setCell_other w3 ⟨g, n * 8 + 5, none⟩ q (.int .i64 (w64 (o.count + -1))) hqg).trans hq
 have hnl1 : y1.obs[n]? = some o1 := by rw [hy1]; exact List.getElem?_set_self (List.getElem?_eq_some_iff.1 HOO.out).1
 obtain ⟨W4, hW⟩ : ∃ W, W = w3.setCell ⟨g, n * 8 + 5, none⟩ (.int .i64 (w64 (o.count + -1))) := ⟨_, rfl⟩
 rw [<- hW] at hst hd1 hq ⊢
 obtain ⟨g', tr1, fA1, fc1, e, -, hL1, hT1, -, -⟩ := hst.obj hnl1
 cases e
 have HL := Zi (hL1 W4 (Below.refl _ _))
 replace HD := Zi hd1
 replace HH := Zi hst
 have HO1 := Zi hnl1
 have HH1 := Zi hy1
 have HS1 := Zi hs1
 have HC1 := Zi hc1
 have HT1 := Zi ht1
 have HP1 := Zi ho1
 clear hL1 hT1 hd1 hst hW hnl1 hy1 hs1 hc1 ht1 ho1 HV hrl
 go_upto_region 5 with fail
 by_cases c0 : o1.count = 0
 ·have e0 : (o1.count != 0) = false := by simp [c0]
  by_cases c1 : o1.state = 1
  ·have e1 : (o1.state != 1) = false := by simp [c1]
   have HST2 : Hid (stepV' h ts (.val v) = ({ h with obs := h.obs.set n { o1 with state := 2 } }, ts ++ [.flds n 0], if h.dei.contains o.t.name then some (.node 7 (n : Int) ⟨#[]⟩ o.t [] []) else none)) := Zi (by
    rw [HST.out, if_neg (by rw [<- HC1.out, <- HS1.out]; simp [c0, c1]), HP1.out])
   apply Zl
   iterate 3 refine Zm ?_
   refine Zo rfl (HL.out.c) ?_
   iterate 5 refine Zm ?_
   refine Zo rfl (HL.out.s) ?_
   iterate 2 refine Zm ?_
   clear c0 c1 e0 e1 HL
   go_upto_region 7 with fail
   obtain ⟨hs1, hs2, hrl, hset⟩ := HH.out.stO HO1.out 4 (by omega)
   have hst := hset 2 { o1 with state := 2 } rfl rfl (by simp)
   clear hset hrl
   apply Zl
   iterate 3 refine Zm ?_
   refine wl_storeC rfl 3 _ _ rfl g _ (.int .i64 2) rfl rfl info3 rfl hs1 hs2 ?_; rw [put_noneA]
   obtain ⟨o2, ho2⟩ : ∃ o2 : Ob, o2 = { o1 with state := 2 } := ⟨_, rfl⟩
   have ht2 : o2.t = o.t := by rw [ho2]; exact HT1.out
   rw [<- ho2] at hst HST2
   obtain ⟨y2, hy2⟩ : ∃ y2 : Hp, y2 = { h with obs := h.obs.set n o2 } := ⟨_, rfl⟩
   have hh12 : ({ y1 with obs := y1.obs.set n o2 } : Hp) = y2 := by rw [hy2, HH1.out]; simp only [List.set_set]
   rw [hh12] at hst
   rw [<- hy2] at HST2
   have hlv : y2.lev = y1.lev := by rw [<- hh12]
   have hlv0 : y2.lev = h.lev := by rw [hy2]
   have hdv0 : y2.dei = h.dei := by rw [hy2]
   have hd1 := HD.out.step (h' := y2) HGR.out (by simp) (by simp) hlv (Keep.cellOne _ g (n * 8 + 4) (.int .i64 2)) ⟨_, _, _, _, _, _, _, hst⟩
   replace hq := (heap_setCell_other W4 ⟨g, n * 8 + 4, none⟩ q (.int .i64 2) hqg).trans hq
   have hnl1 : y2.obs[n]? = some o2 := by rw [hy2]; exact List.getElem?_set_self (List.getElem?_eq_some_iff.1 HOO.out).1
   obtain ⟨W7, hW⟩ : ∃ W, W = W4.setCell ⟨g, n * 8 + 4, none⟩ (.int .i64 2) := ⟨_, rfl⟩
   rw [<- hW] at hst hd1 hq ⊢
   obtain ⟨g', tr2, fA2, fc2, e, -, hL1, hT1, -, -⟩ := hst.obj hnl1
   cases e
   have htr4 : tr2.size = 4 := hT1.size
   have HL := Zi hL1
   have HT2 := Zi hT1
   replace HD := Zi hd1
   replace HH := Zi hst
   have HO2 := Zi hnl1
   have HE2 := Zi ht2
   have HLV0 := Zi hlv0
   have HDV0 := Zi hdv0
   clear hL1 hT1 hd1 hst hW hnl1 hy2 hh12 hlv hlv0 hdv0 ht2 ho2 hs1 hs2
   go_upto_region 8 with fail
   refine wp_region_below 10 mixed (by kernel_rfl) ?_; simp only [List.take_succ_cons, List.take_zero, List.drop_succ_cons, List.drop_zero]
   iterate 4 refine Zt ?_
   refine Zv rfl (fun w' hw' => tkN (below_look hw' hq) HRV HN) ?_
   iterate 3 refine Zt ?_
   ((with_reducible apply wq_row); exact rfl; exact rfl; intro w' hw'; exact (HL.out w' hw').t)
   refine wq_val rfl (fun w' hw' => ex_build35t _ _ _ rfl htr4 rfl rfl rfl) ?_; simp only [Zq]
   intro w8 hb8
   replace HD := Zi (HD.out.quiet hb8)
   replace HH := Zi (HH.out.old hb8)
   replace HT2 := Zi (HT2.out.moved (G' := G) (Keep.of (C := fun _ => False) hb8) (fun b e => e.elim) (fun _ _ => rfl))
   replace hq := below_look hb8 hq
   clear hb8 HL
   refine Zm ?_
   have hr2 : (cell9 7 (n : Int) ⟨#[]⟩ tr2 none 0 0 none 0 0).size = 9 := cell9_size htr4
   obtain ⟨rv2, hrv2⟩ : ∃ r, r = cell9 7 (n : Int) ⟨#[]⟩ tr2 none 0 0 none 0 0 := ⟨_, rfl⟩
   have hnw : (Lit.int .i64 (n : Int)).wf = true := by rw [<- HN.out]; exact HNW.out
   have hva2 : VAt w8 (Imm G) (.node 7 (n : Int) ⟨#[]⟩ o2.t [] []) rv2 := by rw [hrv2]; exact trow_at (by rfl) hnw HT2.out
   rw [<- hrv2] at hr2 ⊢
   have h1v := hva2.one
   refine wl_storeN rfl 35 _ _ rfl info35 rfl rfl hr2 h1v hq (by rw [Array.size_append]; omega) ?_
   rw [put_noneA]
   have hkq := Keep.rowOne w8 q (putN (rv ++ x) 0 rv2)
   have hq2 : (w8.setRow q (putN (rv ++ x) 0 rv2)).heap[q]? = some (.cells (rv2 ++ x) 101 (0, 0)) := by rw [hr_new hq, putN_task hvs hr2]
   have hnq : ∀ b, b = q -> (¬ Mine G k b ∨ G b = some (k, .lvl y2.lev.length)) /\ G b ≠ none := fun b e => by
    subst e
    exact ⟨.inl (by rintro ⟨z, e2, h3⟩; rw [HQ.out] at e2; cases e2; exact h3 rfl), by rw [HQ.out]; simp⟩
   have hd9 := HD.out.put HQ.out HQ0.out hkq
   have hh9 := HH.out.keep hkq hnq
   have hv9 := hva2.put HQ.out hkq
   obtain ⟨W9, hW⟩ : ∃ W, W = w8.setRow q (putN (rv ++ x) 0 rv2) := ⟨_, rfl⟩
   rw [<- hW] at hq2 hd9 hh9 hv9 ⊢
   obtain ⟨trw, A2w, l2w, c2w, A3w, l3w, c3w, hrw⟩ := hv9.row
   have HRW := Zi hrw
   have HN2 : Hid ((Va.node 7 (n : Int) ⟨#[]⟩ o2.t [] []).num = (n : Int)) := Zi rfl
   replace HD := Zi hd9
   replace HH := Zi hh9
   have HV9 := Zi hv9
   have hq := hq2
   have hp := hh9.blk
   have hmap := hh9.map
   have HMP := Zi hmap
   clear hW hkq hq2 hd9 hh9 hv9 hrw hnq hnw hva2 h1v hrv2 HT2 hmap
   obtain ⟨rows, hor, hlr, hrr, hvr⟩ := HD.out.tks
   have HOR := Zi hor
   have HLR := Zi hlr
   have HRR := Zi hrr
   have HVR := Zi hvr
   have hlen : rows.length <= 700000000000 := by
    have h3 := HRM.out
    have h4 := weight_len (h := h) (ts := ts) (t := .val v)
    omega
   have hCA : ∀ b, A = some ⟨b, 0, none⟩ -> (¬ Mine G k b ∨ G b = some (k, .lvl y2.lev.length)) /\ G b ≠ none := fun b e => by rw [HRR.out b e]; exact ⟨.inr rfl, by simp⟩
   have hnA : ∀ b y, G b = y -> y ≠ some (k, .lvl y2.lev.length) -> ¬ A = some ⟨b, 0, none⟩ := fun b y hy h3 e => h3 (hy.symm.trans (HRR.out b e))
   have HNQ := Zi (hnA q _ HQ.out (by simp))
   have HNP := Zi (hnA p _ HH.out.rp (by simp))
   have HCA := Zi hCA
   clear hor hlr hrr hvr hCA hnA
   go_upto_region 9 with fail
   refine wp_region_Z (S := fun w' => Keep (fun b => A = some ⟨b, 0, none⟩) W9 w') 19 mixed (Keep.of ((Below.refl _ _).drew)) (fun hS => ?_)
   have hbz : Below W9.heap.size W9 W9.drew := (Below.refl _ _).drew
   refine zm 0 hS ?_; try simp only [Zq]
   refine zm 1 hS ?_; try simp only [Zq]
   refine zm 2 hS ?_; try simp only [Zq]
   refine zm 3 hS ?_; try simp only [Zq]
   refine zv4 (i := 4) rfl (by kernel_rfl) Zg hS rfl (fun w' hw' => ex_one rfl (tkN (hw'.look hq HNQ.out) HRW HN2)) ?_; try simp only [Zq]
   refine zv4 (i := 5) rfl (by kernel_rfl) Zg hS rfl (fun w' hw' => ex_build101f _ _ rfl rfl rfl) ?_; try simp only [Zq]
   refine zm 8 hS ?_; try simp only [Zq]
   refine zm 9 hS ?_; try simp only [Zq]
   refine zm 10 hS ?_; try simp only [Zq]
   refine zv4 (i := 11) rfl (by kernel_rfl) Zg hS rfl (fun w' hw' => ex_one rfl (h2 (hw'.look hp HNP.out))) ?_; try simp only [Zq]
   refine zm 12 hS ?_; try simp only [Zq]
   refine zm 13 hS ?_; try simp only [Zq]
   refine zm 14 hS ?_; try simp only [Zq]
   refine zm 15 hS ?_; try simp only [Zq]
   refine zv4 (i := 16) rfl (by kernel_rfl) Zg hS rfl (fun w' hw' => ex_one rfl (HH.out.nameK HO2.out hw' HCA.out)) ?_; try simp only [Zq]
   refine zv4 (i := 17) rfl (by kernel_rfl) Zg hS rfl (fun w' hw' => ex_look84 _ _ rfl rfl rfl (HH.out.keep hw' HCA.out).map) ?_; try simp only [Zq]
   refine za_new (i := 6) (v := fun q => .slice (some ⟨q, 0, none⟩) 1 1) (by kernel_rfl) rfl rfl (ex_bs98 _ rfl rfl rfl) (fun W hW => hS.trans (C' := fun _ => False) (fun b e => e.elim) (Keep.of hW)) ?_
   clear hS
   intro W10 q8 hbn hlq8 hq8 hS
   try simp only [Zq]
   replace hbn := hbz.trans (hbn.mono hbz.size)
   replace HD := Zi (HD.out.quiet hbn)
   replace HOR := Zi (HOR.out.old hbn)
   replace HV9 := Zi (HV9.out.old hbn)
   replace HVR := Zi (fun (j : Nat) (t : Tk) (row : Array Value) (e1 : ts[j]? = some t) (e2 : rows[j]? = some row) => (HVR.out j t row e1 e2).same (fun b hl _ => hbn.block b hl))
   replace hq := below_look hbn hq
   clear hbn hbz hp
   refine za_pushL (i := 7) elt98 (by kernel_rfl) rfl rfl _ _ rfl (show _ = Value.slice A rows.length c by rw [HLR.out]; rfl) rfl HOR.out hq8 rfl (by simp [Value.oneCell', zrow]) (by omega) (by unfold maxLen; omega) (fun w' hk => hS.trans (C' := fun b => A = some ⟨b, 0, none⟩) (fun b e => .inl e) hk) ?_
   clear hS
   intro A9 c9 W11 hown hk9 hA9 hS
   rw [HLR.out]
   try simp only [Zq]
   replace hq := hk9.look hq HNQ.out
   have hql : q < W10.heap.size := by
    have h5 := HV9.out
    rcases Nat.lt_or_ge q W10.heap.size with h6 | h6
    ·exact h6
    ·have := HD.out.fr q h6
     rw [HQ.out] at this; cases this
   have hG9 := own_again HRR.out hA9
   have mv : ∀ {u : Va} {row : Array Value}, VAt W10 (Imm G) u row -> VAt W11 (Imm (own G A9 (k, .lvl y2.lev.length))) u row := fun hv => hv.moved hk9 (fun b e => by rw [HRR.out b e]; simp) hG9
   obtain ⟨hd11, -⟩ := HD.out.push (ts' := ts ++ [.flds n 0]) hk9 hA9 hown (by simp [HLR.out]) (fun j t row hj hrow => by
    by_cases e : j < ts.length
    ·rw [List.getElem?_append_left e] at hj
     rw [List.getElem?_append_left (by rw [HLR.out]; exact e)] at hrow
     have h5 := HVR.out j t row hj hrow
     cases t with
     | val u => obtain ⟨rv0, h6, h7⟩ := h5; exact ⟨rv0, mv h6, h7⟩
     | flds o i => obtain ⟨rv0, u, h6, h7⟩ := h5; exact ⟨rv0, u, mv h6, h7⟩
    ·rw [List.getElem?_append_right (by omega)] at hj
     rw [List.getElem?_append_right (by rw [HLR.out]; omega), HLR.out] at hrow
     match hz : j - ts.length, hj, hrow with
     | 0, hj, hrow => cases hj; cases hrow; exact ⟨zrow, va0, zero_va _ _, rfl⟩)
   have HD11 := Zi hd11
   have HV11 := Zi (mv HV9.out)
   have HQ11 : Hid (own G A9 (k, .lvl y2.lev.length) q = some (k, .tmp)) := Zi ((hG9 q hql).trans HQ.out)
   clear hown hk9 hA9 hd11 mv hG9 hql hq8 HD HOR HVR HV9 hlen
   refine zn 18 hS ?_; try simp only [Zq]
   refine zn 19 hS ?_; try simp only [Zq]
   clear hS
   refine za_done (by kernel_rfl) ?_ _
   go_wp2_with fail
   go_ret2
   rw [HST2.out]
   refine ⟨A9, c9, _, rv2, ?_, HD11.out, HQ11.out, hq, hr2, fun u e => ?_⟩
   ·rw [HE2.out, HDV0.out]
    simp only [List.length_append, List.length_singleton]
    cases h.dei.contains o.t.name <;> rfl
   ·split at e
    ·cases e; rw [<- HE2.out]; exact HV11.out
    ·cases e
  ·have e1 : (o1.state != 1) = true := by simp [c1]
   have HST2 : Hid (stepV' h ts (.val v) = (y1, ts, none)) := Zi (by
    rw [HST.out, if_pos (by rw [<- HS1.out]; exact .inr c1), HH1.out, HP1.out])
   apply Zl
   iterate 3 refine Zm ?_
   refine Zo rfl (HL.out.c) ?_
   iterate 5 refine Zm ?_
   refine Zo rfl (HL.out.s) ?_
   iterate 2 refine Zm ?_
   clear c0 c1 e0 e1
   go_upto_region 6 with fail
   apply Zl
   iterate 3 refine Zm ?_
   go_wp2_with fail
   go_ret2
   rw [HST2.out]
   exact ⟨A, c, G, rv, rfl, HD.out, HQ.out, hq, hvs, fun u e => by cases e⟩
 ·have e0 : (o1.count != 0) = true := by simp [c0]
  have HST2 : Hid (stepV' h ts (.val v) = (y1, ts, none)) := Zi (by
   rw [HST.out, if_pos (by rw [<- HC1.out]; exact .inl c0), HH1.out, HP1.out])
  apply Zl
  iterate 3 refine Zm ?_
  refine Zo rfl (HL.out.c) ?_
  iterate 2 refine Zm ?_
  iterate 5 ((first | ((with_reducible refine wl_skipU ?_ ?_ ?_); exact rfl; exact rfl) | ((with_reducible refine wl_skip ?_ ?_); exact rfl; simp only [Zq])))
  refine Zm ?_
  clear c0 e0
  go_upto_region 6 with fail
  apply Zl
  iterate 3 refine Zm ?_
  go_wp2_with fail
  go_ret2
  rw [HST2.out]
  exact ⟨A, c, G, rv, rfl, HD.out, HQ.out, hq, hvs, fun u e => by cases e⟩
theorem End_weak {w0 : World} {G0 : Gh} {k p : Nat} {h : Hp} {last : Array Value} {ts : List Tk} {A : Option Addr} {c : Nat} {w : World} {G : Gh} (d : TopD w0 G0 k p h last ts A c w G) {v : Va} {rv x : Array Value} (hv : VAt w (Imm G) v rv) {q : Nat}
  (hq : w.heap[q]? = some (.cells (rv ++ x) 101 (0, 0))) (hqG : G q = some (k, .tmp)) (hq0 : w0.heap.size <= q) (ho : ofV h.obs.length h.bus.length v = true) (hroom : weight h (ts ++ [.val v]) <= 700000000000) (hk : v.kind = 11) :
  Calls Try.prog 76 #[.pointer (some ⟨p, 0, none⟩), .slice A ts.length c, .pointer (some ⟨q, 0, none⟩)] w (EndT w0 G0 k p q last x (stepV' h ts (.val v))) := by
 have HD := Zi d
 have HV := Zi hv
 have HQ := Zi hqG
 have HQ0 := Zi hq0
 have HO := Zi ho
 have HRM := Zi hroom
 have HK := Zi hk
 obtain ⟨trv, A2v, l2v, c2v, A3v, l3v, c3v, hrv⟩ := hv.row
 have HRV := Zi hrv
 have hvs := hv.size
 have HNW := Zi (wf_num hv)
 clear d hv hqG hq0 ho hroom hrv hk
 go_enter Try.func76, Try.ntmps76
 go_upto_region 0 with fail
 apply Zl
 iterate 2 refine Zm ?_
 go_upto_region 1 with fail
 apply Zl
 iterate 3 refine Zm ?_
 refine Zo rfl (tkK hq HRV HK) ?_
 go_upto_region 2 with fail
 apply Zl
 iterate 2 refine Zm ?_
 have h9 : 0 <= v.num /\ v.num < (h.obs.length : Int) := by
  have := HO.out
  rw [ofV_eq, if_pos (by have := HK.out; omega)] at this
  exact of_decide_eq_true this
 obtain ⟨n, hn⟩ : ∃ n : Nat, v.num = (n : Int) := ⟨v.num.toNat, by omega⟩
 have hnl : n < h.obs.length := by omega
 have hnlI : (n : Int) < (h.obs.length : Int) := by omega
 have ho := List.getElem?_eq_getElem hnl
 obtain ⟨o, hoe⟩ : ∃ o, o = h.obs[n] := ⟨_, rfl⟩
 rw [<- hoe] at ho
 obtain ⟨oA, oc, bA, bc, m, lA, lc, hh⟩ := HD.out.heap
 obtain ⟨g, tr0, fA, fc, rfl, hgr, hL, -, -, -⟩ := hh.obj ho
 have HL := Zi hL
 have HOO := Zi ho
 have HH := Zi hh
 have HN := Zi hn
 have HGR := Zi hgr
 have hp := hh.blk
 clear hL hgr hoe ho hh h9 hn
 have HST : Hid (stepV' h ts (.val v) = ({ h with obs := h.obs.set n (addW (-1) o) }, ts, none)) := Zi (by
  simp only [stepV', HK.out, HN.out, if_true, Int.toNat_natCast, modify_at _ HOO.out]
  rfl)
 go_upto_region 10 with fail
 apply Zl
 iterate 2 refine Zm ?_
 go_upto_region 11 with fail
 refine wp_region_below 14 mixed (by kernel_rfl) ?_; simp only [List.take_succ_cons, List.take_zero, List.drop_succ_cons, List.drop_zero]
 iterate 3 refine Zt ?_
 refine Zv rfl (fun w' hw' => h0 (below_look hw' hp)) ?_
 iterate 3 refine Zt ?_
 refine Zv rfl (fun w' hw' => tkN (below_look hw' hq) HRV HN) ?_
 iterate 2 refine Zt ?_
 refine Zv rfl (fun w' hw' => (HL.out w' hw').k) ?_
 iterate 3 refine Zt ?_
 intro w3 hb3
 replace HD := Zi (HD.out.quiet hb3)
 replace HH := Zi (HH.out.old hb3)
 replace HV := Zi (HV.out.old hb3)
 replace hq := below_look hb3 hq
 clear hb3
 clear HL hp
 obtain ⟨hs1, hs2, hrl, hset⟩ := HH.out.stO HOO.out 6 (by omega)
 have hst := hset (w64 (o.weak + -1)) (addW (-1) o) rfl rfl (by simp [addW])
 clear hset hrl
 refine wl_storeC rfl 3 _ _ rfl g _ (.int .i64 (w64 (o.weak + -1))) rfl rfl info3 rfl hs1 hs2 ?_
 rw [put_noneA]
 have hd1 := HD.out.step (h' := { h with obs := h.obs.set n (addW (-1) o) }) HGR.out (by simp) (by simp) rfl (Keep.cellOne _ g (n * 8 + 6) (.int .i64 (w64 (o.weak + -1)))) ⟨_, _, _, _, _, _, _, hst⟩
 have hqg : q ≠ g := fun e => by have := HQ.out; rw [e, HGR.out] at this; cases this
 replace hq := (heap_setCell_other w3 ⟨g, n * 8 + 6, none⟩ q (.int .i64 (w64 (o.weak + -1))) hqg).trans hq
 have HD1 := Zi hd1
 clear hd1 hst hs1 hs2 HD HH
 go_upto_region 24 with fail
 apply Zl
 iterate 3 refine Zm ?_
 go_wp2_with fail
 go_ret2
 rw [HST.out]
 exact ⟨A, c, G, rv, rfl, HD1.out, HQ.out, hq, hvs, fun u e => by cases e⟩
theorem End_plain {w0 : World} {G0 : Gh} {k p : Nat} {h : Hp} {last : Array Value} {ts : List Tk} {A : Option Addr} {c : Nat} {w : World} {G : Gh} (d : TopD w0 G0 k p h last ts A c w G) {v : Va} {rv x : Array Value} (hv : VAt w (Imm G) v rv) {q : Nat}
  (hq : w.heap[q]? = some (.cells (rv ++ x) 101 (0, 0))) (hqG : G q = some (k, .tmp)) (hk : 0 <= v.kind /\ v.kind <= 4) :
  Calls Try.prog 76 #[.pointer (some ⟨p, 0, none⟩), .slice A ts.length c, .pointer (some ⟨q, 0, none⟩)] w (EndT w0 G0 k p q last x (stepV' h ts (.val v))) := by
 have HST : Hid (stepV' h ts (.val v) = (h, ts, none)) := Zi (by
  have e7 : ¬ v.kind = 7 := by omega
  have e11 : ¬ v.kind = 11 := by omega
  have e8 : ¬ v.kind = 8 := by omega
  have e5 : ¬ v.kind = 5 := by omega
  have ek : ¬ hasK v.kind = true := by
   unfold hasK
   simp; omega
  simp only [stepV', if_neg e7, if_neg e11, if_neg e8, if_neg e5, if_neg ek])
 obtain ⟨kk, hkk⟩ : ∃ kk, v.kind = kk := ⟨_, rfl⟩
 have HK := Zi hkk
 have b7 : (kk == 7) = false := by rw [beq_eq_false_iff_ne]; omega
 have b11 : (kk == 11) = false := by rw [beq_eq_false_iff_ne]; omega
 have b8 : (kk == 8) = false := by rw [beq_eq_false_iff_ne]; omega
 have b5 : (kk == 5) = false := by rw [beq_eq_false_iff_ne]; omega
 have b6 : (kk == 6) = false := by rw [beq_eq_false_iff_ne]; omega
 have b9 : (kk == 9) = false := by rw [beq_eq_false_iff_ne]; omega
 have b10 : (kk == 10) = false := by rw [beq_eq_false_iff_ne]; omega
 have HD := Zi d
 have HQ := Zi hqG
 obtain ⟨trv, A2v, l2v, c2v, A3v, l3v, c3v, hrv⟩ := hv.row
 have HRV := Zi hrv
 have hvs := hv.size
 clear d hv hqG hrv hk hkk
 go_enter Try.func76, Try.ntmps76
 go_upto_region 0 with fail
 apply Zl
 iterate 2 refine Zm ?_
 go_upto_region 1 with fail
 apply Zl
 iterate 3 refine Zm ?_
 refine Zo rfl (tkK hq HRV HK) ?_
 go_upto_region 2 with fail
 apply Zl
 iterate 2 refine Zm ?_
 go_upto_region 10 with fail
 apply Zl
 iterate 2 refine Zm ?_
 go_upto_region 12 with fail
 apply Zl
 iterate 2 refine Zm ?_
 go_upto_region 18 with fail
 apply Zl
 iterate 2 refine Zm ?_
 go_upto_region 20 with fail
 apply Zl
 iterate 2 refine Zm ?_
 go_upto_region 21 with fail
 apply Zl
 iterate 2 refine Zm ?_
 go_upto_region 22 with fail
 apply Zl
 iterate 2 refine Zm ?_
 go_upto_region 24 with fail
 apply Zl
 iterate 3 refine Zm ?_
 go_wp2_with fail
 go_ret2
 rw [HST.out]
 exact ⟨A, c, G, rv, rfl, HD.out, HQ.out, hq, hvs, fun u e => by cases e⟩
end Go.Proofs.Ytpamocglecangaa
