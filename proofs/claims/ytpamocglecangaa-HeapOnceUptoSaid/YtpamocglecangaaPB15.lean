/- Operations one after another: how great a heap can grow. Plainly. Next leaves no more than there was; the operations together. Plainly. slices.Backward: its closure hands the elements of a slice over, the last one first, to any round that leaves the slice's block. The program's backwards: tasks that end values, the first one on top. A heap whose topmost level is being worked on: what its row of levels holds last is told apart. The program's New. The topmost level under way: what a walk through it carries; backwards there; a text asked of the map of deinits. What loads see of a task's variable; buffers without elements and objects with new fields while the topmost level is worked on. -/
import Derived.Test.YtpamocglecangaaPB13
import Derived.Test.YtpamocglecangaaPB14
import Derived.Test.YtpamocglecangaaPB7
import Derived.Test.YtpamocglecangaaPB8
import Derived.Test.YtpamocglecangaaPB9
import Derived.Test.YtpamocglecangaaPB10
import Derived.Test.YtpamocglecangaaPB12
import Derived.RangeFuncNested
import Derived.RangeFuncLeaves
import Derived.Shelf.Abstract
import Derived.WalkKit
import Derived.OwnWalkIn
import Derived.TacticsInMore
import Derived.LoopNIn
import Derived.LoopIn
import Derived.Test.YtpamocglecangaaPB6
namespace Go.Proofs.Ytpamocglecangaa
def isF : Tk → Nat
  | .flds _ _ => 1
  | .val _ => 0
def cntF (l : List Tk) : Nat := sumN (l.map isF)
def stO (o : Ob) : Nat := if o.state = 1 then 1 else 0
def wB (b : Bu) : Nat := wVs b.elems
def tsum (h : Hp) (l : List Tk) : Nat := sumN (l.map (wT h))
def tot (h : Hp) : Nat := sumN (h.lev.map (tsum h)) + sumN (h.obs.map wO) + sumN (h.bus.map wB)
def fcnt (h : Hp) : Nat := sumN (h.lev.map cntF) + sumN (h.obs.map stO)
/-- The same but for counts. -/
structure SameW (h h' : Hp) : Prop where
  obs : h'.obs.map (fun o => (o.state, o.fields)) = h.obs.map (fun o => (o.state, o.fields))
  bus : h'.bus.map (·.elems) = h.bus.map (·.elems)
  lev : h'.lev = h.lev
theorem SameW.refl (h : Hp) : SameW h h := ⟨rfl, rfl, rfl⟩
theorem SameW.trans {a b c : Hp} (h : SameW a b) (h2 : SameW b c) : SameW a c := ⟨h2.obs.trans h.obs, h2.bus.trans h.bus, h2.lev.trans h.lev⟩
theorem cntV_sameW (x : Int) : ∀ (v : Va) (h : Hp), SameW h (cntV x v h) := Va.ind fun v ih h => by
  have hl : ∀ (l : List Va), (∀ u, u ∈ l → u ∈ v.parts) → ∀ h, SameW h (cntVs x l h) := by
    intro l
    induction l with
    | nil => intro _ h; rw [cntVs]; exact SameW.refl _
    | cons u l ihl =>
      intro hm h
      rw [cntVs]
      exact (ih u (hm u (by simp)) h).trans (ihl (fun u hu => hm u (by simp [hu])) (cntV x u h))
  rw [cntV_eq]
  split
  · exact ⟨map_modify (f := fun o : Ob => (o.state, o.fields)) (g := addC x) (fun _ => rfl) _ _, rfl, rfl⟩
  · split
    · exact ⟨map_modify (f := fun o : Ob => (o.state, o.fields)) (g := addW x) (fun _ => rfl) _ _, rfl, rfl⟩
    · split
      · exact ⟨rfl, map_modify (f := fun o : Bu => o.elems) (g := addB x) (fun _ => rfl) _ _, rfl⟩
      · split
        · exact hl v.parts (fun _ h => h) h
        · exact SameW.refl _
theorem cntVs_sameW (x : Int) : ∀ (l : List Va) (h : Hp), SameW h (cntVs x l h)
  | [], h => by rw [cntVs]; exact SameW.refl _
  | u :: l, h => by rw [cntVs]; exact (cntV_sameW x u h).trans (cntVs_sameW x l _)
theorem set_map {α β : Type} {f : α → β} {l : List α} {n : Nat} {o o' : α} (ho : l[n]? = some o) (hf : f o' = f o) : (l.set n o').map f = l.map f := by
  apply List.ext_getElem?
  intro j
  simp only [List.getElem?_map, List.getElem?_set]
  split
  · rename_i e
    subst e
    have := (List.getElem?_eq_some_iff.1 ho).1
    rw [if_pos this, ho]; simp [hf]
  · rfl
/-- What an invariant holds after so many operations. -/
structure Inv (i S : Nat) (h : Hp) : Prop where
  obs : h.obs.length ≤ i
  bus : h.bus.length ≤ i
  lev : h.lev.length ≤ i
  fld : ∀ o, o ∈ h.obs → o.fields.length ≤ 1000
  elm : ∀ b, b ∈ h.bus → b.elems.length ≤ 1000 + i ∧ wVs b.elems ≤ i * S
  fc : fcnt h ≤ i
  tot : tot h ≤ i * (100 * S)
theorem wT_same {h h' : Hp} (hs : h'.obs.map (·.fields) = h.obs.map (·.fields)) : wT h' = wT h := by
  funext t
  cases t with
  | val v => rfl
  | flds o i =>
    have := congrArg (fun l => l[o]?) hs
    simp only [List.getElem?_map] at this
    simp only [wT]
    cases h1 : h.obs[o]? with
    | none => rw [h1] at this; cases h2 : h'.obs[o]? with
      | none => rfl
      | some _ => rw [h2] at this; cases this
    | some a => rw [h1] at this; cases h2 : h'.obs[o]? with
      | none => rw [h2] at this; cases this
      | some b => rw [h2] at this; simp at this; simp [this]
theorem SameW.fields {h h' : Hp} (hs : SameW h h') : h'.obs.map (·.fields) = h.obs.map (·.fields) := by
  have := congrArg (List.map Prod.snd) hs.obs
  simpa [List.map_map, Function.comp_def] using this
theorem SameW.states {h h' : Hp} (hs : SameW h h') {f : Ob → Nat} (g : Int × List Va → Nat) (hf : ∀ o, f o = g (o.state, o.fields)) : h'.obs.map f = h.obs.map f := by
  have := congrArg (List.map g) hs.obs
  simp only [List.map_map] at this
  have e : f = g ∘ fun o => (o.state, o.fields) := funext hf
  rw [e]; exact this
theorem Inv.same {i S : Nat} {h h' : Hp} (hi : Inv i S h) (hs : SameW h h') : Inv i S h' := by
  have hT : wT h' = wT h := wT_same hs.fields
  have hTs : tsum h' = tsum h := by funext l; unfold tsum; rw [hT]
  have hO : h'.obs.map wO = h.obs.map wO := hs.states (fun p => if p.1 = 1 then 2 + p.2.length + wVs p.2 else 0) fun _ => rfl
  have hS : h'.obs.map stO = h.obs.map stO := hs.states (fun p => if p.1 = 1 then 1 else 0) fun _ => rfl
  have hB : h'.bus.map wB = h.bus.map wB := by
    have := congrArg (List.map wVs) hs.bus
    simp only [List.map_map] at this
    exact this
  refine ⟨?_, ?_, ?_, ?_, ?_, ?_, ?_⟩
  · have := congrArg List.length hs.obs; simp at this; rw [this]; exact hi.obs
  · have := congrArg List.length hs.bus; simp at this; rw [this]; exact hi.bus
  · rw [hs.lev]; exact hi.lev
  · intro o ho
    have : o.fields ∈ h.obs.map (·.fields) := by rw [← hs.fields]; exact List.mem_map_of_mem ho
    obtain ⟨o', ho', e⟩ := List.mem_map.1 this
    rw [← e]; exact hi.fld o' ho'
  · intro b hb
    have : b.elems ∈ h.bus.map (·.elems) := by rw [← hs.bus]; exact List.mem_map_of_mem hb
    obtain ⟨b', hb', e⟩ := List.mem_map.1 this
    rw [← e]; exact hi.elm b' hb'
  · unfold fcnt; rw [hs.lev, hS]; exact hi.fc
  · unfold Go.Proofs.Ytpamocglecangaa.tot; rw [hs.lev, hTs, hO, hB]; exact hi.tot
theorem Inv.up {i S : Nat} {h : Hp} (hi : Inv i S h) : Inv (i + 1) S h := by
  have e1 : (i + 1) * S = i * S + S := Nat.succ_mul i S
  have e2 : (i + 1) * (100 * S) = i * (100 * S) + 100 * S := Nat.succ_mul i _
  refine ⟨?_, ?_, ?_, hi.fld, fun b hb => ?_, ?_, ?_⟩
  · have := hi.obs; omega
  · have := hi.bus; omega
  · have := hi.lev; omega
  · have := hi.elm b hb; rw [e1]; omega
  · have := hi.fc; omega
  · have := hi.tot; rw [e2]; omega
theorem wVs_taken (h : Hp) (l : List Va) : wVs (takenV h l) ≤ wVs l := by
  unfold takenV
  induction l with
  | nil => exact Nat.le_refl _
  | cons v l ih =>
    simp only [List.map_cons, wVs]
    have h0 : wV va0 = 1 := by rw [wV_eq]; rfl
    have := wV_pos v
    split <;> omega
theorem len_taken (h : Hp) (l : List Va) : (takenV h l).length = l.length := by simp [takenV]
theorem tsum_obs {h h' : Hp} (ht : ∀ t, (∀ o i, t = .flds o i → o < h.obs.length) → wT h' t = wT h t) {L : List (List Tk)} (hw : ∀ ts, ts ∈ L → ∀ t, t ∈ ts → ∀ o i, t = .flds o i → o < h.obs.length) : L.map (tsum h') = L.map (tsum h) := by
  apply List.map_congr_left
  intro ts hts
  unfold tsum
  congr 1
  apply List.map_congr_left
  intro t hm
  exact ht t (hw ts hts t hm)
theorem inv_make {i S : Nat} {h : Hp} (hi : Inv i S h) (hw : Wf h) (hS : 1 ≤ S) (t : Ty) {l : List Va} (hl : l.length ≤ 1000) (hv : wVs l ≤ S) : Inv (i + 1) S (makeP h t l).1 := by
  have e1 : (i + 1) * S = i * S + S := Nat.succ_mul i S
  have e2 : (i + 1) * (100 * S) = i * (100 * S) + 100 * S := Nat.succ_mul i _
  have h1 := wVs_taken h l
  have h2 := len_taken h l
  have hlen := wVs_len l
  have hT : h.lev.map (tsum (makeP h t l).1) = h.lev.map (tsum h) := tsum_obs (fun tk htk => by
    cases tk with
    | val v => rfl
    | flds o j =>
      have := htk o j rfl
      simp only [wT, makeP]
      rw [List.getElem?_append_left this]) fun ts hts tk hm => (hw.tsk ts hts tk hm).2
  refine ⟨?_, ?_, ?_, fun o ho => ?_, fun b hb => ?_, ?_, ?_⟩
  · have := hi.obs; simp only [makeP, List.length_append, List.length_singleton]; omega
  · have := hi.bus; simp only [makeP]; omega
  · have := hi.lev; simp only [makeP]; omega
  · rcases List.mem_append.1 ho with h3 | h3
    · exact hi.fld o h3
    · rw [List.mem_singleton.1 h3]; simp only []; omega
  · have := hi.elm b hb; rw [e1]; omega
  · have := hi.fc
    unfold fcnt at this ⊢
    simp only [makeP, List.map_append, sumN_cat, List.map_cons, List.map_nil, sumN, stO] at this ⊢
    simp only [if_true]; omega
  · have := hi.tot
    have hT' := congrArg sumN hT
    unfold Go.Proofs.Ytpamocglecangaa.tot at this ⊢
    rw [show (makeP h t l).1.lev = h.lev from rfl, hT', show (makeP h t l).1.bus = h.bus from rfl, show (makeP h t l).1.obs = h.obs ++ [⟨t, 1, 1, 0, takenV h l⟩] from rfl, e2, List.map_append, sumN_cat]
    simp only [List.map_cons, List.map_nil, sumN, wO, if_true]
    omega
theorem inv_addB {i S : Nat} {h : Hp} (hi : Inv i S h) (hi6 : i ≤ 60) (c : Int) {e : List Va} (hl : e.length ≤ 1000 + (i + 1)) (hv : wVs e ≤ (i + 1) * S) : Inv (i + 1) S { h with bus := h.bus ++ [⟨c, e⟩] } := by
  have e1 : (i + 1) * S = i * S + S := Nat.succ_mul i S
  have e2 : (i + 1) * (100 * S) = i * (100 * S) + 100 * S := Nat.succ_mul i _
  have e3 : (i + 1) * S ≤ 100 * S := Nat.mul_le_mul_right S (by omega)
  have hT : wT { h with bus := h.bus ++ [⟨c, e⟩] } = wT h := wT_same rfl
  have hTs : tsum { h with bus := h.bus ++ [⟨c, e⟩] } = tsum h := by funext l; unfold tsum; rw [hT]
  refine ⟨?_, ?_, ?_, fun o ho => hi.fld o ho, fun b hb => ?_, ?_, ?_⟩
  · have := hi.obs; simp only []; omega
  · have := hi.bus; simp only [List.length_append, List.length_singleton]; omega
  · have := hi.lev; simp only []; omega
  · rcases List.mem_append.1 hb with h3 | h3
    · have := hi.elm b h3; rw [e1]; omega
    · rw [List.mem_singleton.1 h3]; exact ⟨hl, hv⟩
  · have := hi.fc; unfold fcnt at this ⊢; simp only []; omega
  · have := hi.tot
    unfold Go.Proofs.Ytpamocglecangaa.tot at this ⊢
    rw [hTs, e2]
    simp only [List.map_append, sumN_cat, List.map_cons, List.map_nil, sumN, wB] at this ⊢
    omega
theorem inv_array {i S : Nat} {h : Hp} (hi : Inv i S h) (hi6 : i ≤ 60) (t : Ty) {l : List Va} (hl : l.length ≤ 1000) (hv : wVs l ≤ S) : Inv (i + 1) S (arrayP h t l).1 :=
  inv_addB hi hi6 1 (by rw [len_taken]; omega) (by have := wVs_taken h l; rw [Nat.succ_mul]; omega)
theorem inv_copy {i S : Nat} {h : Hp} (hi : Inv i S h) (v : Va) : Inv (i + 1) S (copyP h v).1 := by
  unfold copyP
  split
  · split
    · exact hi.up
    · exact (hi.same (cntV_sameW 1 v h)).up
  · exact hi.up
theorem inv_end {i S : Nat} {h : Hp} (hi : Inv i S h) {v : Va} (hv : wV v ≤ S) : Inv (i + 1) S (endP h v).1 := by
  have e1 : (i + 1) * S = i * S + S := Nat.succ_mul i S
  have e2 : (i + 1) * (100 * S) = i * (100 * S) + 100 * S := Nat.succ_mul i _
  unfold endP
  split
  · split
    · exact hi.up
    · have hTs : tsum { h with lev := h.lev ++ [[.val v]] } = tsum h := by funext l; unfold tsum; rw [wT_same (h := h) (h' := { h with lev := h.lev ++ [[.val v]] }) rfl]
      refine ⟨?_, ?_, ?_, fun o ho => hi.fld o ho, fun b hb => ?_, ?_, ?_⟩
      · have := hi.obs; simp only []; omega
      · have := hi.bus; simp only []; omega
      · have := hi.lev; simp only [List.length_append, List.length_singleton]; omega
      · have := hi.elm b hb; rw [e1]; omega
      · have := hi.fc
        unfold fcnt at this ⊢
        simp only [List.map_append, sumN_cat, List.map_cons, List.map_nil, sumN]
        rw [show cntF [.val v] = 0 from rfl]
        omega
      · have := hi.tot
        unfold Go.Proofs.Ytpamocglecangaa.tot at this ⊢
        rw [hTs, e2]
        simp only [List.map_append, sumN_cat, List.map_cons, List.map_nil, sumN]
        rw [show tsum h [.val v] = wV v + 0 from rfl]
        omega
  · exact hi.up
theorem inv_weak {i S : Nat} {h : Hp} (hi : Inv i S h) (v : Va) : Inv (i + 1) S (weakP h v).1 := by
  unfold weakP
  split
  · split
    · rename_i o ho
      split
      · exact hi.up
      · refine (hi.same ?_).up; exact ⟨set_map (f := fun o : Ob => (o.state, o.fields)) (o' := addW 1 o) ho rfl, rfl, rfl⟩
    · exact hi.up
  · exact hi.up
theorem inv_load {i S : Nat} {h : Hp} (hi : Inv i S h) (v : Va) : Inv (i + 1) S (loadP h v).1 := by
  unfold loadP
  split
  · split
    · rename_i o ho
      split
      · refine (hi.same ?_).up; exact ⟨set_map (f := fun o : Ob => (o.state, o.fields)) (o' := addC 1 o) ho rfl, rfl, rfl⟩
      · exact hi.up
    · exact hi.up
  · exact hi.up
theorem sumN_set {α : Type} {f : α → Nat} {l : List α} {n : Nat} {x y : α} (h : l[n]? = some x) : sumN ((l.set n y).map f) + f x = sumN (l.map f) + f y := by
  induction l generalizing n with
  | nil => simp at h
  | cons a l ih =>
    cases n with
    | zero => simp at h; subst h; simp only [List.set_cons_zero, List.map_cons, sumN]; omega
    | succ n => have := ih (n := n) (by simpa using h); simp only [List.set_cons_succ, List.map_cons, sumN]; omega
theorem wVs_set {l : List Va} {v : Va} : ∀ (j : Nat), wVs (l.set j v) ≤ wVs l + wV v := by
  induction l with
  | nil => intro j; simp [wVs]
  | cons a l ih =>
    intro j
    cases j with
    | zero => simp only [List.set_cons_zero, wVs]; omega
    | succ j => have := ih j; simp only [List.set_cons_succ, wVs]; omega
theorem wVs_setd {v : Va} : ∀ (l : List Va) (j k : Nat), wVs ((l.set j v).drop k) ≤ wVs (l.drop k) + wV v
  | [], j, k => by simp [wVs]
  | a :: l, j, 0 => by simpa using wVs_set (l := a :: l) (v := v) j
  | a :: l, 0, k + 1 => by simp
  | a :: l, j + 1, k + 1 => by simpa using wVs_setd l j k
theorem wVs_add (l m : List Va) : wVs (l ++ m) = wVs l + wVs m := by
  induction l with
  | nil => simp [wVs]
  | cons a l ih => simp only [List.cons_append, wVs, ih]; omega
theorem inv_set {i S : Nat} {h : Hp} (hi : Inv i S h) (hi6 : i ≤ 60) (x f : Int) {v : Va} (hv : wV v ≤ S) : Inv (i + 1) S (setP h x f v).1 := by
  have e1 : (i + 1) * S = i * S + S := Nat.succ_mul i S
  have e2 : (i + 1) * (100 * S) = i * (100 * S) + 100 * S := Nat.succ_mul i _
  unfold setP
  split
  · split
    · split
      · rename_i ob ho
        split
        · rename_i old hold
          have hT : ∀ t, wT { h with obs := h.obs.set x.toNat { ob with fields := ob.fields.set f.toNat v } } t ≤ wT h t + isF t * wV v := by
            intro t
            cases t with
            | val u => simp [wT]
            | flds o j =>
              simp only [wT, isF, List.getElem?_set]
              have hlt := (List.getElem?_eq_some_iff.1 ho).1
              by_cases e : x.toNat = o
              · subst e
                simp only [if_true, if_pos hlt, ho]
                have := wVs_setd (v := v) ob.fields f.toNat j
                simp only [List.length_drop, List.length_set]; omega
              · simp only [if_neg e]; split <;> omega
          have hTs : ∀ l, tsum { h with obs := h.obs.set x.toNat { ob with fields := ob.fields.set f.toNat v } } l ≤ tsum h l + cntF l * wV v := by
            intro l
            unfold tsum cntF
            induction l with
            | nil => simp [sumN]
            | cons t l ih =>
              have := hT t
              simp only [List.map_cons, sumN, Nat.add_mul]; omega
          have hL : ∀ L : List (List Tk), sumN (L.map (tsum { h with obs := h.obs.set x.toNat { ob with fields := ob.fields.set f.toNat v } })) ≤ sumN (L.map (tsum h)) + sumN (L.map cntF) * wV v := by
            intro L
            induction L with
            | nil => simp [sumN]
            | cons l L ih =>
              have := hTs l
              simp only [List.map_cons, sumN, Nat.add_mul]; omega
          have hst := sumN_set (f := stO) (y := { ob with fields := ob.fields.set f.toNat v }) ho
          have hwo := sumN_set (f := wO) (y := { ob with fields := ob.fields.set f.toNat v }) ho
          have hs1 : stO { ob with fields := ob.fields.set f.toNat v } = stO ob := rfl
          have hw1 : wO { ob with fields := ob.fields.set f.toNat v } ≤ wO ob + stO ob * wV v := by
            have := wVs_set (l := ob.fields) (v := v) f.toNat
            unfold wO stO
            simp only [List.length_set]
            split <;> omega
          have hsx : stO ob ≤ sumN (h.obs.map stO) := by
            have hsz := sumN_set (f := stO) (y := { ob with state := 3 }) ho
            rw [show stO { ob with state := 3 } = 0 from rfl] at hsz
            omega
          have hfc := hi.fc
          have hprod : (sumN (h.lev.map cntF) + stO ob) * wV v ≤ 100 * S := Nat.mul_le_mul (by unfold fcnt at hfc; omega) hv
          rw [Nat.add_mul] at hprod
          refine ⟨?_, ?_, ?_, fun o hm => ?_, fun b hb => ?_, ?_, ?_⟩
          · have := hi.obs; simp only [List.length_set]; omega
          · have := hi.bus; simp only []; omega
          · have := hi.lev; simp only []; omega
          · rcases set_mem hm with h3 | h3
            · exact hi.fld o h3
            · rw [h3]; simp only [List.length_set]; exact hi.fld ob (List.mem_of_getElem? ho)
          · have := hi.elm b hb; rw [e1]; omega
          · unfold fcnt at hfc ⊢
            simp only [] at hfc ⊢
            omega
          · have := hi.tot
            have hl0 := hL h.lev
            unfold Go.Proofs.Ytpamocglecangaa.tot at this ⊢
            rw [e2]
            simp only [] at this hl0 ⊢
            omega
        · exact hi.up
      · exact hi.up
    · exact hi.up
  · exact hi.up
theorem inv_setB {i S : Nat} {h : Hp} (hi : Inv i S h) {n : Nat} {b b' : Bu} (hb : h.bus[n]? = some b) (hl : b'.elems.length ≤ b.elems.length + 1) (hw : wVs b'.elems ≤ wVs b.elems + S) : Inv (i + 1) S { h with bus := h.bus.set n b' } := by
  have e1 : (i + 1) * S = i * S + S := Nat.succ_mul i S
  have e2 : (i + 1) * (100 * S) = i * (100 * S) + 100 * S := Nat.succ_mul i _
  have hTs : tsum { h with bus := h.bus.set n b' } = tsum h := by funext l; unfold tsum; rw [wT_same (h := h) (h' := { h with bus := h.bus.set n b' }) rfl]
  have hwb := sumN_set (f := wB) (y := b') hb
  have hb0 := hi.elm b (List.mem_of_getElem? hb)
  refine ⟨?_, ?_, ?_, fun o ho => hi.fld o ho, fun c hc => ?_, ?_, ?_⟩
  · have := hi.obs; simp only []; omega
  · have := hi.bus; simp only [List.length_set]; omega
  · have := hi.lev; simp only []; omega
  · rcases set_mem hc with h3 | h3
    · have := hi.elm c h3; rw [e1]; omega
    · rw [h3, e1]; omega
  · have := hi.fc; unfold fcnt at this ⊢; simp only []; omega
  · have := hi.tot
    unfold Go.Proofs.Ytpamocglecangaa.tot at this ⊢
    rw [hTs, e2]
    unfold wB at hwb this ⊢
    simp only [] at this hwb ⊢
    omega
theorem inv_put {i S : Nat} {h : Hp} (hi : Inv i S h) (v : Va) (f : Int) {x : Va} (hx : wV x ≤ S) : Inv (i + 1) S (putP h v f x).1 := by
  unfold putP
  split
  · split
    · rename_i b hb
      split
      · split
        · exact inv_setB hi hb (by simp) (by have := wVs_set (l := b.elems) (v := x) f.toNat; simp only []; omega)
        · exact hi.up
      · exact hi.up
    · exact hi.up
  · exact hi.up
theorem inv_append {i S : Nat} {h : Hp} (hi : Inv i S h) (v : Va) {x : Va} (hx : wV x ≤ S) : Inv (i + 1) S (appendP h v x).1 := by
  unfold appendP
  split
  · split
    · rename_i b hb
      exact inv_setB hi hb (by simp) (by simp only [wVs_add, wVs]; omega)
    · exact hi.up
  · exact hi.up
theorem inv_own {i S : Nat} {h : Hp} (hi : Inv i S h) (hi6 : i ≤ 60) (v : Va) : Inv (i + 1) S (ownP h v).1 := by
  unfold ownP
  split
  · split
    · rename_i b hb
      split
      · exact hi.up
      · split
        · exact hi.up
        · split
          · rename_i b1 hb1
            have hs := cntVs_sameW 1 b.elems h
            have hb0 := hi.elm b (List.mem_of_getElem? hb)
            refine (inv_addB hi hi6 1 (e := b.elems) (by omega) (by rw [Nat.succ_mul]; omega)).same ⟨hs.obs, ?_, hs.lev⟩
            simp only [List.map_append]
            rw [set_map (f := fun b : Bu => b.elems) (o' := addB (-1) b1) hb1 rfl, hs.bus]
          · exact hi.up
    · exact hi.up
  · exact hi.up
end Go.Proofs.Ytpamocglecangaa
namespace Go.Proofs.Ytpamocglecangaa
/-- No more than before. -/
structure Less (h : Hp) (l : List Tk) (h' : Hp) (l' : List Tk) : Prop where
  w : weight h' l' ≤ weight h l
  t : ∀ t, wT h' t ≤ wT h t
  c : cntF l' + sumN (h'.obs.map stO) ≤ cntF l + sumN (h.obs.map stO)
  on : h'.obs.length = h.obs.length
  bn : h'.bus.length = h.bus.length
  f : ∀ o, o ∈ h'.obs → ∃ o', o' ∈ h.obs ∧ o.fields.length = o'.fields.length
  e : ∀ b, b ∈ h'.bus → ∃ b', b' ∈ h.bus ∧ (b.elems = b'.elems ∨ b.elems = [])
theorem Less.refl (h : Hp) (l : List Tk) : Less h l h l := ⟨Nat.le_refl _, fun _ => Nat.le_refl _, Nat.le_refl _, rfl, rfl, fun o ho => ⟨o, ho, rfl⟩, fun b hb => ⟨b, hb, .inl rfl⟩⟩
theorem Less.trans {h0 h1 h2 : Hp} {l0 l1 l2 : List Tk} (a : Less h0 l0 h1 l1) (b : Less h1 l1 h2 l2) : Less h0 l0 h2 l2 := ⟨Nat.le_trans b.w a.w, fun t => Nat.le_trans (b.t t) (a.t t), Nat.le_trans b.c a.c, b.on.trans a.on, b.bn.trans a.bn, fun o ho => by
    obtain ⟨o1, h1, e1⟩ := b.f o ho
    obtain ⟨o2, h2, e2⟩ := a.f o1 h1
    exact ⟨o2, h2, e1.trans e2⟩, fun x hx => by
    obtain ⟨x1, h1, e1⟩ := b.e x hx
    obtain ⟨x2, h2, e2⟩ := a.e x1 h1
    rcases e1 with e1 | e1
    · rcases e2 with e2 | e2
      · exact ⟨x2, h2, .inl (e1.trans e2)⟩
      · exact ⟨x2, h2, .inr (e1.trans e2)⟩
    · exact ⟨x2, h2, .inr e1⟩⟩
theorem cntF_cat (l m : List Tk) : cntF (l ++ m) = cntF l + cntF m := by unfold cntF; rw [List.map_append, sumN_cat]
theorem cntF_later (l : List Va) : cntF (laterV l) = 0 := by
  unfold laterV cntF
  rw [List.map_map]
  induction l.reverse with
  | nil => rfl
  | cons a m ih => simp only [List.map_cons, sumN, Function.comp, isF, ih]
theorem mod_mem {α : Type} {l : List α} {n : Nat} {f : α → α} {x : α} (h : x ∈ l.modify n f) : x ∈ l ∨ ∃ a, l[n]? = some a ∧ x = f a := by
  obtain ⟨i, hi⟩ := List.mem_iff_getElem?.1 h
  rw [List.getElem?_modify] at hi
  cases hl : l[i]? with
  | none => simp [hl] at hi
  | some a =>
    by_cases e : n = i
    · simp [hl, e] at hi; subst e; exact .inr ⟨a, hl, hi.symm⟩
    · simp [hl, e] at hi; subst hi; exact .inl (List.mem_of_getElem? hl)
theorem less_obs {h : Hp} {l l' : List Tk} {n : Nat} {f : Ob → Ob} (hw : weight { h with obs := h.obs.modify n f } l' ≤ weight h l) (hf : ∀ o, h.obs[n]? = some o → (f o).fields.length = o.fields.length ∧ ∀ j, wVs ((f o).fields.drop j) ≤ wVs (o.fields.drop j)) (hc : ∀ o, h.obs[n]? = some o → cntF l' + stO (f o) ≤ cntF l + stO o) (hc0 : h.obs[n]? = none → cntF l' ≤ cntF l) : Less h l { h with obs := h.obs.modify n f } l' where
  w := hw
  t := wT_le (by simp) fun i a b e1 e2 => by
    rcases mod_get e1 e2 with ⟨rfl, rfl⟩ | ⟨_, rfl⟩
    · exact hf a e1
    · exact ⟨rfl, fun _ => Nat.le_refl _⟩
  c := by
    cases ho : h.obs[n]? with
    | none => have := hc0 ho; simp only [modify_same ho]; omega
    | some o =>
      have := sumN_mod (f := stO) (g := f) ho
      have := hc o ho
      simp only []; omega
  on := by simp
  bn := rfl
  f := fun o ho => by
    rcases mod_mem ho with h1 | ⟨a, h1, rfl⟩
    · exact ⟨o, h1, rfl⟩
    · exact ⟨a, List.mem_of_getElem? h1, (hf a h1).1⟩
  e := fun b hb => ⟨b, hb, .inl rfl⟩
theorem less_bus {h : Hp} {l l' : List Tk} {n : Nat} {f : Bu → Bu} (hw : weight { h with bus := h.bus.modify n f } l' ≤ weight h l) (hf : ∀ b, h.bus[n]? = some b → (f b).elems = b.elems ∨ (f b).elems = []) (hc : cntF l' ≤ cntF l) : Less h l { h with bus := h.bus.modify n f } l' where
  w := hw
  t := fun t => by rw [wT_same (h := h) (h' := { h with bus := h.bus.modify n f }) rfl]; exact Nat.le_refl _
  c := by simp only []; omega
  on := rfl
  bn := by simp
  f := fun o ho => ⟨o, ho, rfl⟩
  e := fun b hb => by
    rcases mod_mem hb with h1 | ⟨a, h1, rfl⟩
    · exact ⟨b, h1, .inl rfl⟩
    · exact ⟨a, List.mem_of_getElem? h1, hf a h1⟩
theorem less_self {h : Hp} {l l' : List Tk} (hw : weight h l' ≤ weight h l) (hc : cntF l' ≤ cntF l) : Less h l h l' := ⟨hw, fun _ => Nat.le_refl _, by omega, rfl, rfl, fun o ho => ⟨o, ho, rfl⟩, fun b hb => ⟨b, hb, .inl rfl⟩⟩
theorem step_less (h : Hp) (l : List Tk) (t : Tk) : Less h (l ++ [t]) (stepV' h l t).1 (stepV' h l t).2.1 := by
  have hwt := Nat.le_of_lt (step_falls h l t)
  cases t with
  | flds o i =>
    cases ho : h.obs[o]? with
    | none =>
      simp only [stepV', ho] at hwt ⊢
      exact less_self hwt (by rw [cntF_cat]; omega)
    | some ob =>
      cases hf : ob.fields[i]? with
      | some v =>
        simp only [stepV', ho, hf] at hwt ⊢
        exact less_self hwt (by rw [cntF_cat, cntF_cat]; exact Nat.le_refl _)
      | none =>
        simp only [stepV', ho, hf] at hwt ⊢
        refine less_obs hwt (fun a ha => ⟨by simp, fun j => ?_⟩) (fun a ha => ?_) (fun e => by rw [ho] at e; cases e)
        · simp only [List.drop_replicate, wVs_rep]
          have := wVs_len (a.fields.drop j)
          rwa [List.length_drop] at this
        · rw [cntF_cat]
          rw [show stO { a with fields := List.replicate a.fields.length va0, state := 3 } = 0 from rfl, show cntF [Tk.flds o i] = 1 from rfl]
          omega
  | val v =>
    have hone : cntF [Tk.val v] = 0 := rfl
    by_cases c7 : v.kind = 7
    · cases ho : h.obs[v.num.toNat]? with
      | none => simp only [stepV', c7, if_true, ho] at hwt ⊢; exact less_self hwt (by rw [cntF_cat]; omega)
      | some ob =>
        by_cases hc : w64 (ob.count + -1) ≠ 0 ∨ ob.state ≠ 1
        · simp only [stepV', c7, if_true, ho, if_pos hc] at hwt ⊢
          exact less_obs hwt (fun a ha => ⟨rfl, fun _ => Nat.le_refl _⟩) (fun a ha => by rw [cntF_cat, show stO (addC (-1) a) = stO a from rfl]; omega) (fun e => by rw [ho] at e; cases e)
        · have hs : ob.state = 1 := Classical.not_not.1 fun e => hc (.inr e)
          simp only [stepV', c7, if_true, ho, if_neg hc] at hwt ⊢
          refine less_obs hwt (fun a ha => ⟨rfl, fun _ => Nat.le_refl _⟩) (fun a ha => ?_) (fun e => by rw [ho] at e; cases e)
          rw [ho] at ha; cases ha
          rw [cntF_cat, cntF_cat, show stO { addC (-1) ob with state := 2 } = 0 from rfl, show cntF [Tk.flds v.num.toNat 0] = 1 from rfl]
          unfold stO
          rw [if_pos hs]; omega
    · by_cases c11 : v.kind = 11
      · simp only [stepV', if_neg c7, if_pos c11] at hwt ⊢
        exact less_obs hwt (fun a ha => ⟨rfl, fun _ => Nat.le_refl _⟩) (fun a ha => by rw [cntF_cat, show stO (addW (-1) a) = stO a from rfl]; omega) (fun _ => by rw [cntF_cat]; omega)
      · by_cases c8 : v.kind = 8
        · cases hb : h.bus[v.num.toNat]? with
          | none => simp only [stepV', if_neg c7, if_neg c11, if_pos c8, hb] at hwt ⊢; exact less_self hwt (by rw [cntF_cat]; omega)
          | some b =>
            by_cases hc : w64 (b.count + -1) = 0
            · simp only [stepV', if_neg c7, if_neg c11, if_pos c8, hb, if_pos hc] at hwt ⊢
              exact less_bus hwt (fun a ha => .inr rfl) (by rw [cntF_cat, cntF_cat, cntF_later]; omega)
            · simp only [stepV', if_neg c7, if_neg c11, if_pos c8, hb, if_neg hc] at hwt ⊢
              exact less_bus hwt (fun a ha => .inl rfl) (by rw [cntF_cat]; omega)
        · by_cases c5 : v.kind = 5
          · simp only [stepV', if_neg c7, if_neg c11, if_neg c8, if_pos c5] at hwt ⊢; exact less_self hwt (by rw [cntF_cat, cntF_cat, cntF_later]; omega)
          · by_cases ck : hasK v.kind = true
            · simp only [stepV', if_neg c7, if_neg c11, if_neg c8, if_neg c5, if_pos ck] at hwt ⊢; exact less_self hwt (by rw [cntF_cat, cntF_cat, cntF_later]; omega)
            · simp only [stepV', if_neg c7, if_neg c11, if_neg c8, if_neg c5, if_neg ck] at hwt ⊢; exact less_self hwt (by rw [cntF_cat]; omega)
theorem run_less : ∀ (n : Nat) (h : Hp) (l : List Tk), Less h l (runN n h l).1 (runN n h l).2.1
  | 0, h, l => Less.refl h l
  | n + 1, h, l => by
    simp only [runN]
    cases ht : l.getLast? with
    | none => exact Less.refl h l
    | some t =>
      simp only
      have hs := step_less h l.dropLast t
      rw [← last_split ht] at hs
      cases hd : (stepV' h l.dropLast t).2.2 with
      | some v => exact hs
      | none => exact hs.trans (run_less n _ _)
theorem lev_split {L : List (List Tk)} {l : List Tk} (h : L.getLast? = some l) : L = L.dropLast ++ [l] := by
  rw [List.getLast?_eq_some_iff] at h
  obtain ⟨m, rfl⟩ := h
  simp
theorem inv_next {i S : Nat} {h : Hp} (hi : Inv i S h) : Inv i S (nextP h).1 := by
  unfold nextP
  cases hl : h.lev.getLast? with
  | none => exact hi
  | some l =>
    have hL := run_less (weight h l) h l
    have hsp := lev_split hl
    have htot := hi.tot
    have hfc := hi.fc
    have hlev := hi.lev
    have hln := congrArg List.length hsp
    simp only [List.length_append, List.length_singleton] at hln
    have hlow : ∀ L : List (List Tk), sumN (L.map (tsum (runN (weight h l) h l).1)) ≤ sumN (L.map (tsum h)) := fun L => sumN_le fun ts _ => sumN_le fun t _ => hL.t t
    have hd := hlow h.lev.dropLast
    have hw := hL.w
    have hc := hL.c
    have hlvT := congrArg (fun L => sumN (L.map (tsum h))) hsp
    have hlvF := congrArg (fun L => sumN (L.map cntF)) hsp
    simp only [List.map_append, sumN_cat, List.map_cons, List.map_nil, sumN] at hlvT hlvF
    unfold Go.Proofs.Ytpamocglecangaa.tot at htot
    unfold fcnt at hfc
    have e0 : weight h l = tsum h l + sumN (h.obs.map wO) + sumN (h.bus.map wB) := rfl
    have e1 : weight (runN (weight h l) h l).1 (runN (weight h l) h l).2.1 = tsum (runN (weight h l) h l).1 (runN (weight h l) h l).2.1 + sumN ((runN (weight h l) h l).1.obs.map wO) + sumN ((runN (weight h l) h l).1.bus.map wB) := rfl
    have hob : (runN (weight h l) h l).1.obs.length ≤ i := by rw [hL.on]; exact hi.obs
    have hbu : (runN (weight h l) h l).1.bus.length ≤ i := by rw [hL.bn]; exact hi.bus
    have hfl : ∀ o, o ∈ (runN (weight h l) h l).1.obs → o.fields.length ≤ 1000 := fun o ho => by
      obtain ⟨o', h1, h2⟩ := hL.f o ho
      rw [h2]; exact hi.fld o' h1
    have hel : ∀ b, b ∈ (runN (weight h l) h l).1.bus → b.elems.length ≤ 1000 + i ∧ wVs b.elems ≤ i * S := fun b hb => by
      obtain ⟨b', h1, h2⟩ := hL.e b hb
      rcases h2 with h2 | h2
      · rw [h2]; exact hi.elm b' h1
      · rw [h2]; exact ⟨Nat.zero_le _, Nat.zero_le _⟩
    have hTs : ∀ L', tsum { (runN (weight h l) h l).1 with lev := L' } = tsum (runN (weight h l) h l).1 := fun L' => by
      funext ts; unfold tsum; rw [wT_same (h := (runN (weight h l) h l).1) (h' := { (runN (weight h l) h l).1 with lev := L' }) rfl]
    simp only
    have hw2 := Nat.le_trans (Nat.le_of_eq e1.symm) (Nat.le_trans hw (Nat.le_of_eq e0))
    clear hw e0 e1
    generalize hgr : runN (weight h l) h l = R at *
    split
    · refine ⟨hob, hbu, ?_, hfl, hel, ?_, ?_⟩
      · simp only [List.length_append, List.length_singleton]; omega
      · unfold fcnt
        simp only [List.map_append, sumN_cat, List.map_cons, List.map_nil, sumN]
        omega
      · unfold Go.Proofs.Ytpamocglecangaa.tot
        rw [hTs]
        simp only [List.map_append, sumN_cat, List.map_cons, List.map_nil, sumN]
        omega
    · refine ⟨hob, hbu, ?_, hfl, hel, ?_, ?_⟩
      · simp only []; omega
      · unfold fcnt
        simp only []
        omega
      · unfold Go.Proofs.Ytpamocglecangaa.tot
        rw [hTs]
        simp only []
        omega
/-- One call played. -/
def stepP (h : Hp) (q : Cl) : Hp :=
  if q.k = 0 then (makeP h q.t q.l).1 else if q.k = 1 then (arrayP h q.t q.l).1 else if q.k = 2 then (copyP h q.v).1 else if q.k = 3 then (endP h q.v).1
  else if q.k = 4 then (nextP h).1 else if q.k = 6 then (setP h q.a q.b q.v).1 else if q.k = 7 then (weakP h q.v).1 else if q.k = 8 then (loadP h q.v).1
  else if q.k = 10 then (ownP h q.v).1 else if q.k = 11 then (putP h q.v q.a q.x).1 else if q.k = 12 then (appendP h q.v q.x).1 else h
def ClOk (S : Nat) (q : Cl) : Prop := q.l.length ≤ 1000 ∧ wVs q.l ≤ S ∧ wV q.v ≤ S ∧ wV q.x ≤ S
theorem inv_step {i S : Nat} {h : Hp} {q : Cl} (hi : Inv i S h) (hw : Wf h) (hi6 : i ≤ 60) (hq : ClOk S q) : Inv (i + 1) S (stepP h q) := by
  obtain ⟨h1, h2, h3, h4⟩ := hq
  have hS : 1 ≤ S := Nat.le_trans (wV_pos q.v) h3
  unfold stepP
  repeat' split
  · exact inv_make hi hw hS _ h1 h2
  · exact inv_array hi hi6 _ h1 h2
  · exact inv_copy hi _
  · exact inv_end hi h3
  · exact (inv_next hi).up
  · exact inv_set hi hi6 _ _ h3
  · exact inv_weak hi _
  · exact inv_load hi _
  · exact inv_own hi hi6 _
  · exact inv_put hi _ _ h4
  · exact inv_append hi _ h4
  · exact hi.up
theorem wf_step {h : Hp} (q : Cl) (hw : Wf h) : Wf (stepP h q) := by
  unfold stepP
  repeat' split
  · exact make_wf hw _ _
  · exact array_wf hw _ _
  · exact copy_wf hw _
  · exact end_wf hw _
  · exact next_wf hw
  · exact set_wf hw _ _ _
  · exact weak_wf hw _
  · exact load_wf hw _
  · exact own_wf hw _
  · exact put_wf hw _ _ _
  · exact append_wf hw _ _
  · exact hw
theorem up_step {h : Hp} (q : Cl) (hw : Wf h) : Up h.obs (stepP h q).obs := by
  unfold stepP
  repeat' split
  · exact make_up h _ _
  · exact array_up h _ _
  · exact copy_up h _
  · exact end_up h _
  · exact next_up hw
  · exact set_up h _ _ _
  · exact weak_up h _
  · exact load_up h _
  · exact own_up h _
  · exact put_up h _ _ _
  · exact append_up h _ _
  · exact Up.refl _
theorem inv_zero (S : Nat) (l : List ByteArray) : Inv 0 S ⟨l, [], [], []⟩ := ⟨Nat.le_refl _, Nat.le_refl _, Nat.le_refl _, fun o ho => (by cases ho), fun b hb => (by cases hb), Nat.le_refl _, Nat.zero_le _⟩
theorem wf_zero (l : List ByteArray) : Wf ⟨l, [], [], []⟩ := ⟨fun o ho => (by cases ho), fun b hb => (by cases hb), fun t ht => (by cases ht)⟩
/-- The topmost level's weight. -/
theorem Inv.weight {i S : Nat} {h : Hp} (hi : Inv i S h) {l : List Tk} (hl : h.lev.getLast? = some l) : Go.Proofs.Ytpamocglecangaa.weight h l ≤ i * (100 * S) := by
  have hsp := lev_split hl
  have hlvT := congrArg (fun L => sumN (L.map (tsum h))) hsp
  simp only [List.map_append, sumN_cat, List.map_cons, List.map_nil, sumN] at hlvT
  have htot := hi.tot
  unfold Go.Proofs.Ytpamocglecangaa.tot at htot
  have e0 : Go.Proofs.Ytpamocglecangaa.weight h l = tsum h l + sumN (h.obs.map wO) + sumN (h.bus.map wB) := rfl
  omega
end Go.Proofs.Ytpamocglecangaa
namespace Go.Proofs.Ytpamocglecangaa
open Go.RowKit Go.Proofs.Ytpamocglecangaa.Nm
section
variable {F : Fence} {n : Nat} {P : Program} {ops : Array Oper} {Q : Exit → Act → World → Prop} {rest : List Oper} {o : Oper} {a : Act} {w w2 : World} {v : Value}
/-- One operation within a fence. -/
theorem wlIn_op (hg : o.guard = none) (hd : ∀ c, o.op ≠ .defer c) (hab : ∀ f, o.about P w a.eval = some f → F.fn f) (h : o.uponIn F n P a (wpListIn F n P ops Q rest) Q ((execOp a.eval o).run P w)) : wpListIn F n P ops Q (o :: rest) a w := by
  refine wpListIn_plain hg fun K hK => ⟨hab, ?_⟩
  have he : Oper.semAt F.round a.eval o = execOp a.eval o := by
    cases hr : F.round with
    | none => rfl
    | some l => exact Oper.semAt_some l _ o hd
  rw [he]
  revert h
  have key : ∀ r : Result Next, o.uponIn F n P a (wpListIn F n P ops Q rest) Q r → o.uponIn F n P a K Q r := by
    intro r hr
    unfold Oper.uponIn at hr ⊢
    split at hr
    · exact hK _ _ hr
    · exact hK _ _ hr
    · exact hK _ _ hr
    · exact ⟨hr.1, hr.2.mono fun e w' h => by
        cases e with
        | returned v => exact hK _ _ h
        | panicked c => exact h
        | outgrown => exact h⟩
    · exact ⟨hr.1, hr.2.mono fun _ _ h => hK _ _ h⟩
    · exact ⟨hr.1, hr.2.mono fun e w' h => by
        cases e with
        | returned v => exact hK _ _ h
        | panicked c => exact h
        | outgrown => exact h⟩
    · exact hr
    · exact hr.elim
  exact key _
theorem wlIn_val (hg : o.guard = none) (hd : ∀ c, o.op ≠ .defer c) (hab : ∀ f, o.about P w a.eval = some f → F.fn f) (hr : (execOp a.eval o).run P w = .ok (.value v) w2) (h : wpListIn F n P ops Q rest (a.put o.dst v) w2) : wpListIn F n P ops Q (o :: rest) a w :=
  wlIn_op hg hd hab (by rw [hr]; exact h)
end
section
variable {F : Fence} {n : Nat} {ops : Array Oper} {Q : Exit → Act → World → Prop} {rest : List Oper} {dst : Option Tmp} {ty ty' : TypeId} {x : Operand} {pos : String} {after : Array Edge} {a : Act} {w : World} {ad : Addr} {D : Array Value} {v : Value}
theorem wlIn_rowG (hx : a.eval x = .pointer (some ad)) (hr : RowAt w ty ad D) (h : wpListIn F n Try.prog ops Q rest (a.put dst (.agg D)) w) : wpListIn F n Try.prog ops Q (⟨dst, .load ty x, ty', pos, after, none⟩ :: rest) a w :=
  wlIn_val rfl (fun c h => by cases h) (fun f h => by cases (show none = some f from h)) (ex_row hx hr) h
theorem wlIn_oneG (hx : a.eval x = .pointer (some ad)) (hr : OneAt w ty ad v) (h : wpListIn F n Try.prog ops Q rest (a.put dst v) w) : wpListIn F n Try.prog ops Q (⟨dst, .load ty x, ty', pos, after, none⟩ :: rest) a w :=
  wlIn_val rfl (fun c h => by cases h) (fun f h => by cases (show none = some f from h)) (ex_one hx hr) h
end
/-- The places that have come when k rounds are over: n - 1, n - 2, .. -/
def downN (n k : Nat) : List Nat := (List.range k).map fun j => n - 1 - j
theorem downN_succ (n k : Nat) : downN n (k + 1) = downN n k ++ [n - 1 - k] := by simp [downN, List.range_succ]
theorem downN_len (n k : Nat) : (downN n k).length = k := by simp [downN]
/-- What lay below n0 and is not of C stands. -/
def KpB (n0 : Nat) (C : Nat → Prop) (W W' : World) : Prop := ∀ g, g < n0 → ¬ C g → W'.heap[g]? = W.heap[g]?
theorem KpB.t {n0 : Nat} {C : Nat → Prop} {W1 W2 W3 : World} (h1 : KpB n0 C W1 W2) (h2 : KpB n0 C W2 W3) : KpB n0 C W1 W3 := fun g hg hc => (h2 g hg hc).trans (h1 g hg hc)
theorem KpB.b {n0 : Nat} {C : Nat → Prop} {w : World} (hn : n0 ≤ w.heap.size) (W : World) (l : Nat) (o o' : Obj) (hl : w.heap.size ≤ l) (_ : W.heap[l]? = some o) (_ : o.isCells = false) (_ : o.isWalk = false) : KpB n0 C W (W.putObj l o') := fun g hg _ => World.putObj_heap_other (by omega)
set_option maxHeartbeats 4000000 in
set_option maxRecDepth 100000 in
theorem back1_in (F : Fence) (m : Nat) (h7 : F.fn 141) (hro : F.round = none) (hm : 1 ≤ m) (l Bs n0 n cap : Nat) (C : Nat → Prop) (A : Option Addr) (rv : Nat → Array Value) (hn : n ≤ maxLen) (J Jx : List Nat → World → Prop)
    (hY : ∀ (pre : List Nat) (x : Nat) (W : World), J pre W → pre.length < n → YieldAt F (m - 1) Try.prog l #[.int .i64 (x : Int), .agg (rv x)] W fun e W' =>
      (e = .returned (.bool true) ∧ J (pre ++ [x]) W' ∧ KpB n0 C W W') ∨ (e = .returned (.bool false) ∧ Jx (pre ++ [x]) W'))
    (W : World) (hBs : W.heap[Bs]? = some (.cells #[.slice A n cap] 33 (0, 0))) (hB0 : Bs < n0 ∧ ¬ C Bs) (hA : ∀ i, i < n → ∃ b off, A = some ⟨b, off, none⟩ ∧ b < n0 ∧ ¬ C b ∧ ∀ W', W'.heap[b]? = W.heap[b]? → RowAt W' 35 ⟨b, off + i * 9, none⟩ (rv i)) (h0 : J [] W) :
    CallsIn F m Try.prog 141 #[.func (.yield l) #[] #[], .pointer (some ⟨Bs, 0, none⟩)] W fun e W' => (∃ v, e = .returned v) ∧
      ((∃ ys, ys = downN n n ∧ J ys W') ∨ (∃ pre, (∃ k, k ≤ n ∧ pre = downN n k) ∧ Jx pre W')) := by
  unfold maxLen at hn
  have hB33 : ∀ W', W'.heap[Bs]? = W.heap[Bs]? → OneAt W' 33 ⟨Bs, 0, none⟩ (.slice A n cap) := fun W' h => one_of u33 rfl (by rw [cell_of_row _ _ _ _ _ _ (h.trans hBs)]; rfl)
  have HB := Lib.hid hB33
  have HA := Lib.hid hA
  have HY := Lib.hid hY
  have HB0 := Lib.hid hB0
  have h33 := hB33 W rfl
  have hnw : IntKind.i64.wrap ((n : Int) - 1) = (n : Int) - 1 := IntWalk.i64_in _ (by omega)
  clear hA hY hB33 hBs hB0
  refine callsIn_of_wp Try.func141 rfl h7 ?_ hro
  simp only [Try.ntmps141, List.size_toArray, List.length_cons, List.length_nil, Nat.reduceAdd, Nat.reduceSub, Array.replicate_succ, Array.replicate_zero, List.push_toArray, List.append_toArray, List.nil_append, List.cons_append]
  gi_wp2_with ((with_reducible apply wlIn_oneG); exact rfl; exact h33)
  clear h33 hnw
  gi_loopw [3] (fun i wr => ∃ k j : Nat, k + j = n ∧ i = .int .i64 ((j : Int) - 1) ∧ J (downN n k) wr ∧ KpB n0 C W wr)
    (fun i _ => (intOf i + 1).toNat)
  case atStart => exact ⟨0, n, by omega, rfl, h0, fun _ _ _ => rfl⟩
  case round =>
    obtain ⟨k, j, hkj, rfl, hJs, hnx⟩ := hrel
    have HN := Lib.hid hnx
    cases j with
    | zero =>
      have hj0 : ¬ ((0 : Nat) : Int) - 1 ≥ 0 := by omega
      obtain rfl : k = n := by omega
      gi_wp2
      go_end0
      exact ⟨⟨_, rfl⟩, .inl hJs⟩
    | succ j =>
      rw [show (((j + 1 : Nat) : Int) - 1) = (j : Int) by omega]
      have hjn : (j : Int) < (n : Int) := by omega
      have hj0 : (j : Int) ≥ 0 := by omega
      have hjw : IntKind.i64.wrap ((j : Int) - 1) = (j : Int) - 1 := IntWalk.i64_in _ (by omega)
      have hx : n - 1 - k = j := by omega
      obtain ⟨fn, tmps, assign, body, hy, hR⟩ := HY.out _ j wr hJs (by rw [downN_len]; omega)
      obtain ⟨b, off, rfl, hbn, hbC, hrow⟩ := HA.out j (by omega)
      have h35 := hrow wr (hnx b hbn hbC)
      have h33 := HB.out wr (hnx Bs HB0.out.1 HB0.out.2)
      gi_wp2_with (first | ((with_reducible apply wlIn_oneG); exact rfl; exact h33) | ((with_reducible apply wlIn_rowG); exact rfl; exact h35))
      refine hR.mono ?_
      rintro e W3 (⟨rfl, hJ3, hk3⟩ | ⟨rfl, hJx3⟩)
      · gi_wp2
        go_roundw
        case rel => exact ⟨k + 1, j, by omega, by go_num, by rw [downN_succ, hx]; exact hJ3, HN.out.t hk3⟩
        case measure => simp [intOf]
      · gi_wp2
        refine bodyPost_ret (results_none rfl _ _ _) rfl ?_
        exact ⟨⟨_, rfl⟩, .inr ⟨_, ⟨k + 1, by omega, by rw [downN_succ, hx]⟩, hJx3⟩⟩
set_option maxHeartbeats 1000000 in
/-- slices.Backward(s): the slice is boxed; the function captures the box. -/
theorem back_in (F : Fence) (m : Nat) (h5 : F.fn 131) (hro : F.round = none) (A : Option Addr) (n cap : Nat) (w : World) :
    CallsIn F m Try.prog 131 #[.slice A n cap] w fun e w' => e = .returned (.func (.func 141) #[] #[.pointer (some ⟨w.heap.size, 0, none⟩)]) ∧ w' = w.alloc (.cells #[.slice A n cap] 33) := by
  refine callsIn_of_wp Try.func131 rfl h5 ?_ hro
  simp only [Try.ntmps131, List.size_toArray, List.length_cons, List.length_nil, Nat.reduceAdd, Nat.reduceSub, Array.replicate_succ, Array.replicate_zero, List.push_toArray, List.append_toArray, List.nil_append, List.cons_append]
  gi_wp2
  go_ret
  exact ⟨rfl, rfl⟩
theorem back_stops (F : Fence) (m : Nat) (h7 : F.fn 141) (hro : F.round = none) (hm : 1 ≤ m) (Bs n0 n cap : Nat) (C : Nat → Prop) (A : Option Addr) (rv : Nat → Array Value) (hn : n ≤ maxLen) (w : World) (hn0 : n0 ≤ w.heap.size)
    (hBs : w.heap[Bs]? = some (.cells #[.slice A n cap] 33 (0, 0))) (hB0 : Bs < n0 ∧ ¬ C Bs) (hA : ∀ i, i < n → ∃ b off, A = some ⟨b, off, none⟩ ∧ b < n0 ∧ ¬ C b ∧ ∀ W', W'.heap[b]? = w.heap[b]? → RowAt W' 35 ⟨b, off + i * 9, none⟩ (rv i)) :
    SeqStopsK F m Try.prog 141 #[.pointer (some ⟨Bs, 0, none⟩)] (fun x : Nat => #[Value.int .i64 (x : Int), Value.agg (rv x)]) (KpB n0 C) (fun ys => ys = downN n n) (fun pre => ∃ k, k ≤ n ∧ pre = downN n k) n w := fun l J Jx W hW _ _ hY h0 => by
  have hb : ∀ b, b < n0 → W.heap[b]? = w.heap[b]? := fun b hb => hW.block b (by omega)
  exact back1_in F m h7 hro hm l Bs n0 n cap C A rv hn J Jx hY W ((hb Bs hB0.1).trans hBs) hB0 (fun i hi => by
    obtain ⟨b, off, e, h1, h2, h3⟩ := hA i hi
    exact ⟨b, off, e, h1, h2, fun W' h => h3 W' (h.trans (hb b h1))⟩) h0
end Go.Proofs.Ytpamocglecangaa
namespace Go.Proofs.Ytpamocglecangaa
open Go.RowKit Go.Proofs.Ytpamocglecangaa.Nm
set_option linter.unusedSimpArgs false
theorem info98 : (Try.prog.info? 98).map (·.size) = some 1 := by kernel_rfl
/-- A task that ends a value, as a row. -/
def tkRow (r : Array Value) : Array Value := r ++ #[.int .i64 0, .int .i64 0, .int .i64 0]
theorem tkRow_size {r : Array Value} (h : r.size = 9) : (tkRow r).size = 12 := trow_size h _ _ _
theorem tkRow_one {r : Array Value} (h : r.all (·.oneCell') = true) : (tkRow r).all (·.oneCell') = true := trow_one h
theorem KeepsFrom.of_keep {B : Nat} {C : Nat → Prop} {w w' : World} (h : Keep C w w') (hC : ∀ b o, C b → B ≤ b → w.heap[b]? = some o → o.isCells = true) : KeepsFrom B w w' :=
  ⟨h.size, fun k o hB hk ho => (h.block k (heap_lt hk) fun hc => by have := hC k o hc hB hk; rw [ho] at this; cases this).trans hk⟩
theorem Keep.of_grown {w w' : World} {row : Option Nat} (h : w.grownBy w' row) : Keep (fun b => row = some b) w w' := ⟨h.os, h.tape, h.output, h.size, fun b hb hn => h.block b hb fun e => hn e.symm⟩
theorem KpB.of_keep {n0 : Nat} {C C' : Nat → Prop} {w w' : World} (h : Keep C w w') (hn : n0 ≤ w.heap.size) (hC : ∀ b, b < n0 → C b → C' b) : KpB n0 C' w w' := fun g hg hc => h.block g (by omega) fun h2 => hc (hC g hg h2)
theorem putN_all {cs row : Array Value} (h : row.size = cs.size) : putN cs 0 row = row := by
  apply Array.ext'
  simp [putN, h]
theorem ex_storeN {ev : Operand → Value} {o : Oper} {w : World} (ty : TypeId) (x y : Operand) (ho : o.op = .store ty x y) {g of n : Nat} {cs row : Array Value} {ty2 : TypeId} (hi : (Try.prog.info? ty).map (·.size) = some n)
    (hx : ev x = .pointer (some ⟨g, of, none⟩)) (hy : ev y = .agg row) (hr : row.size = n) (h1 : row.all (·.oneCell') = true) (hg : w.heap[g]? = some (.cells cs ty2 (0, 0))) (hf : of + row.size ≤ cs.size) :
    (execOp ev o).run Try.prog w = .ok .skip (w.setRow g (putN cs of row)) := by
  unfold execOp
  simp only [ho, hx, hy, Instr.storeAt, Instr.sureAddr, Sem.run_bind, Sem.run_pure, Result.andThen_ok, run_storeN hi hr (one_list h1) hg hf]
theorem ex_storeC {ev : Operand → Value} {o : Oper} {w : World} (ty : TypeId) (x y : Operand) (ho : o.op = .store ty x y) {b of : Nat} {v : Value}
    (hx : ev x = .pointer (some ⟨b, of, none⟩)) (hy : ev y = v) (hi : (Try.prog.info? ty).map (·.size) = some 1) (h1 : v.oneCell' = true) (hc : (w.cell? ⟨b, of, none⟩).isSome = true) (hf : w.frozen? ⟨b, of, none⟩ = false) :
    (execOp ev o).run Try.prog w = .ok .skip (w.setCell ⟨b, of, none⟩ v) := by
  unfold execOp
  simp only [ho, hx, hy, Instr.storeAt, Instr.sureAddr, Sem.run_bind, Sem.run_pure, Result.andThen_ok, run_storeC b of ty v w hi h1 hc hf]
theorem ex_pushL {ev : Operand → Value} {o : Oper} {w : World} {ty sty : TypeId} {sz by0 : Nat} {A : Option Addr} {c : Nat} {rows : List (Array Value)} {z : Array Value} (he : Elt sty ty sz by0 z) (s x : Operand) (ho : o.op = .call { callee := .builtin .append, args := #[s, x], argTypes := #[sty, sty] }) {row : Array Value} {q : Nat} {tq : TypeId} {fr : Nat × Nat}
    (hs : ev s = .slice A rows.length c) (hx : ev x = .slice (some ⟨q, 0, none⟩) 1 1) (h : OwnL w ty sz A c rows) (hq : w.heap[q]? = some (.cells row tq fr)) (hsz : row.size = sz) (h1 : row.all (·.oneCell') = true) (hlen : (rows.length + 1) * by0 ≤ 140737488355328) (hm : rows.length + 1 ≤ maxLen) :
    ∃ A' c' w', (execOp ev o).run Try.prog w = .ok (.value (.slice A' (rows.length + 1) c')) w' ∧ OwnL w' ty sz A' c' (rows ++ [row]) ∧ Keep (fun b => A = some ⟨b, 0, none⟩) w w' ∧ (A' = A ∨ ∃ g, A' = some ⟨g, 0, none⟩ ∧ w.heap.size ≤ g) := by
  obtain ⟨A', c', w', hr, h2, h3, h4⟩ := run_pushL he o.type h hq hsz h1 hlen hm
  refine ⟨A', c', w', ?_, h2, h3, h4⟩
  unfold execOp
  simp only [ho, resolve, invoke, builtin, Sem.run_bind, Sem.run_pure, Result.andThen_ok, List.map_toArray, List.map_cons, List.map_nil, hs, hx, hr]
theorem wlIn_skipW {F : Fence} {n : Nat} {P : Program} {ops : Array Oper} {Q : Exit → Act → World → Prop} {rest : List Oper} {o : Oper} {a : Act} {w w2 : World} (hg : o.guard = none) (hd : ∀ c, o.op ≠ .defer c) (hab : ∀ f, o.about P w a.eval = some f → F.fn f) (hr : (execOp a.eval o).run P w = .ok .skip w2) (h : wpListIn F n P ops Q rest (a.put o.dst undef) w2) : wpListIn F n P ops Q (o :: rest) a w :=
  wlIn_op hg hd hab (by rw [hr]; exact h)
/-- What lies in the loop's box, and whose it is. -/
structure BackI (w : World) (lb : Nat) (A : Option Addr) (rows : List (Array Value)) (rv : Nat → Array Value) (pre : List Nat) (W : World) : Prop where
  box : ∃ A' c', Boxed W lb 98 (.slice A' (rows.length + pre.length) c') ∧ OwnL W 101 12 A' c' (rows ++ pre.map fun i => tkRow (rv i)) ∧ (A' = A ∨ ∃ g, A' = some ⟨g, 0, none⟩ ∧ w.heap.size + 2 ≤ g)
  keep : Keep (fun b => A = some ⟨b, 0, none⟩) w W
  sz : w.heap.size + 2 ≤ W.heap.size
theorem BackI.old {w : World} {lb : Nat} {A : Option Addr} {rows : List (Array Value)} {rv : Nat → Array Value} {pre : List Nat} {W W' : World} (h : BackI w lb A rows rv pre W) (hb : Below W.heap.size W W') : BackI w lb A rows rv pre W' := by
  obtain ⟨⟨A', c', h1, h2, h3⟩, h4, h5⟩ := h
  exact ⟨⟨A', c', below_look hb h1, h2.old hb, h3⟩, h4.trans (C' := fun _ => False) (fun b e => e.elim) (Keep.of hb), by have := hb.size; omega⟩
theorem OwnL.is_cells {w : World} {ty : TypeId} {sz : Nat} {A : Option Addr} {c : Nat} {rows : List (Array Value)} (h : OwnL w ty sz A c rows) {g : Nat} (e : A = some ⟨g, 0, none⟩) : ∃ cur, w.heap[g]? = some (.cells cur ty (0, 0)) := by
  rcases h.el with ⟨e1, -⟩ | ⟨g', cur, e1, hg, -⟩
  · rw [e1] at e; cases e
  · rw [e1] at e; cases e; exact ⟨cur, hg⟩
theorem backI_own {w : World} {lb : Nat} {A : Option Addr} {rows : List (Array Value)} {rv : Nat → Array Value} {B : Nat} (hB : w.heap.size ≤ B) : OwnFrom B (fun pre W => BackI w lb A rows rv pre W) := fun pre X Y row hs hg hr => by
  obtain ⟨⟨A', c', h1, h2, h3⟩, h4, h5⟩ := hs
  have hcell : ∀ b cur ty, X.heap[b]? = some (.cells cur ty (0, 0)) → some b ≠ row := fun b cur ty h e => by
    obtain ⟨-, o, ho, hc⟩ := hr b e.symm
    rw [h] at ho; cases ho; cases hc
  exact ⟨⟨A', c', h1.kept hg (hcell lb _ _ h1), h2.same fun g e hl => hg.block g hl (by obtain ⟨cur, hc⟩ := h2.is_cells e; exact hcell g _ _ hc), h3⟩,
    h4.trans (C' := fun b => row = some b) (fun b e => .inr (by have := (hr b e).1; omega)) (Keep.of_grown hg), by have := hg.size; omega⟩
set_option maxHeartbeats 8000000 in
set_option maxRecDepth 100000 in
theorem back_raw {w : World} {A : Option Addr} {c : Nat} {rows : List (Array Value)} (ho : OwnL w 101 12 A c rows) {vA : Option Addr} {n vc : Nat} (rv : Nat → Array Value) (hn : n ≤ maxLen) (hrv : ∀ i, (rv i).size = 9 ∧ (rv i).all (·.oneCell') = true)
    (hA : ∀ i, i < n → ∃ b off, vA = some ⟨b, off, none⟩ ∧ b < w.heap.size ∧ A ≠ some ⟨b, 0, none⟩ ∧ ∀ W', W'.heap[b]? = w.heap[b]? → RowAt W' 35 ⟨b, off + i * 9, none⟩ (rv i)) (hroom : (rows.length + n) * 160 ≤ 140737488355328) :
    Calls Try.prog 104 #[.slice A rows.length c, .slice vA n vc] w fun e w' => ∃ A' c', e = .returned (.slice A' (rows.length + n) c') ∧ OwnL w' 101 12 A' c' (rows ++ (downN n n).map fun i => tkRow (rv i)) ∧ (A' = A ∨ ∃ g, A' = some ⟨g, 0, none⟩ ∧ w.heap.size ≤ g) ∧ Keep (fun b => A = some ⟨b, 0, none⟩) w w' := by
  refine (callsIn_wide (n := 6)).1 ?_
  refine callsIn_of_wp_marks Try.func104 rfl trivial ?_ rfl
  simp only [Try.ntmps104, List.size_toArray, List.length_cons, List.length_nil, Nat.reduceAdd, Nat.reduceSub, Array.replicate_succ, Array.replicate_zero, List.push_toArray, List.append_toArray, List.nil_append, List.cons_append]
  gi_wp2
  refine ⟨trivial, ?_⟩
  refine (back_in Fence.wide _ trivial rfl _ _ _ _).mono ?_
  rintro e w' ⟨rfl, rfl⟩
  gi_wp2
  have bL := (Boxed.new w 98 (.slice A rows.length c)).alloc (.cells #[.slice vA n vc] 33)
  have bN := Boxed.new (w.alloc (.cells #[.slice A rows.length c] 98)) 33 (.slice vA n vc)
  rw [World.size_alloc] at bN
  have hB0 : Below w.heap.size w ((w.alloc (.cells #[.slice A rows.length c] 98)).alloc (.cells #[.slice vA n vc] 33)) := ((Below.refl _ w).alloc (Nat.le_refl _) _).alloc (by simp) _
  have hsz : ((w.alloc (.cells #[.slice A rows.length c] 98)).alloc (.cells #[.slice vA n vc] 33)).heap.size = w.heap.size + 2 := by simp
  obtain ⟨W0, hW0⟩ : ∃ W0, (w.alloc (.cells #[.slice A rows.length c] 98)).alloc (.cells #[.slice vA n vc] 33) = W0 := ⟨_, rfl⟩
  rw [hW0] at bL bN hB0 hsz ⊢
  clear hW0
  have hAlt : ∀ b, A = some ⟨b, 0, none⟩ → b < w.heap.size := fun b e => by obtain ⟨cur, h⟩ := ho.is_cells e; exact heap_lt h
  have hC0 : ¬ (A = some ⟨w.heap.size + 1, 0, none⟩ ∨ w.heap.size + 1 = w.heap.size) := by
    rintro (e | e)
    · have := hAlt _ e; omega
    · omega
  have hst := back_stops Fence.wide 5 trivial rfl (by omega) (w.heap.size + 1) (w.heap.size + 2) n vc (fun b => A = some ⟨b, 0, none⟩ ∨ b = w.heap.size) vA rv hn W0 (by omega) bN ⟨by omega, hC0⟩ (fun i hi => by
    obtain ⟨b, off, e, h1, h2, h3⟩ := hA i hi
    refine ⟨b, off, e, by omega, ?_, fun W' h => h3 W' (h.trans (hB0.block b h1))⟩
    rintro (e2 | e2)
    · exact h2 e2
    · omega)
  refine wpIn_rangeFunc_ownH (F := Fence.wide) (n := 6) rfl (by omega) (gf := 141) (lb := #[.pointer (some ⟨w.heap.size + 1, 0, none⟩)]) rfl trivial (enters_of Try.func141 (by kernel_rfl) rfl)
    hst KpB.t (KpB.b (by omega)) (Below.refl _ _) (fun _ => rfl)
    (BackI w w.heap.size A rows rv)
    (fun _ _ _ => False)
    (backI_own (by omega))
    (fun _ _ _ _ _ hs _ _ => hs)
    ⟨⟨A, c, bL, by simpa using ho.same fun g e hl => hB0.block g hl, .inl rfl⟩, Keep.of hB0, by omega⟩
    (fun x a' W => ∃ Bx, W.heap[Bx]? = some (Obj.cells (rv x) 35 (0, 0)) ∧ a' = { tmps := #[.slice A rows.length c, .slice vA n vc, .pointer (some ⟨w.heap.size, 0, none⟩), undef, .slice none 0 0, undef, .pointer (some ⟨Bx, 0, none⟩), .slice vA n vc, .func (.func 141) #[] #[.pointer (some ⟨w.heap.size + 1, 0, none⟩)], .int .i64 (x : Int), .agg (rv x), undef, undef, undef, undef, undef, undef], defers := [] })
    (fun x a' _ X Y row hs hg hr => by
      obtain ⟨Bx, h1, h2⟩ := hs
      refine ⟨Bx, (hg.block Bx (heap_lt h1) fun e => ?_).trans h1, h2⟩
      obtain ⟨-, o, ho, hc⟩ := hr Bx e.symm
      rw [h1] at ho; cases ho; cases hc)
    ?assign ?body ?done ?stop
  case assign =>
    rintro l pre x W K hi hK
    refine wpIn_region_lit ?_
    simp
    refine wlIn_val rfl (fun c h => by cases h) (fun _ _ => trivial) (ex_allV rfl _ W) ?_
    have hnew : (W.alloc (.cells zrow 35)).heap[W.heap.size]? = some (.cells zrow 35 (0, 0)) := ha_new rfl
    refine wlIn_skipW rfl (fun c h => by cases h) (fun _ _ => trivial) (ex_storeN 35 _ _ rfl info35 rfl rfl (hrv x).1 (hrv x).2 hnew (by rw [(hrv x).1]; exact Nat.le_refl _)) ?_
    have hb : Below W.heap.size W ((W.alloc (.cells zrow 35)).setRow W.heap.size (putN zrow 0 (rv x))) := below_setRow ((Below.refl _ W).alloc (Nat.le_refl _) _) (Nat.le_refl _) _
    have hk : Keep (fun _ => False) W _ := Keep.of hb
    refine wpListIn_nil ?_
    refine hK _ _ (KeepsFrom.of_keep hk fun b o e => e.elim) (KpB.of_keep hk hi.sz fun b _ e => e.elim) (hi.old hb) ⟨W.heap.size, ?_, rfl⟩
    rw [hr_new hnew, putN_all (by rw [(hrv x).1]; rfl)]
  case body =>
    rintro l pre x a' W hl - hi ⟨Bx, bX, rfl⟩ hlt
    obtain ⟨⟨A', c', h1, h2, h3⟩, h4, h5⟩ := hi
    have hlen : (rows ++ pre.map fun i => tkRow (rv i)).length = rows.length + pre.length := by simp
    refine wpIn_block (wpIn_region_lit ?_)
    refine wlIn_val rfl (fun c h => by cases h) (fun _ _ => trivial) (ex_one rfl (one_of u98 rfl h1.cell)) ?_
    refine wlIn_val rfl (fun c h => by cases h) (fun _ _ => trivial) (ex_row rfl (row35 bX (hrv x).1)) ?_
    refine wlIn_val rfl (fun c h => by cases h) (fun _ _ => trivial) (ex_build101v _ rfl (hrv x).1 rfl) ?_
    refine wlIn_val rfl (fun c h => by cases h) (fun _ _ => trivial) (ex_bs98 _ rfl rfl (trow_size (hrv x).1 _ _ _)) ?_
    have hb1 : Below W.heap.size W (W.alloc (.cells (rv x ++ #[.int .i64 0, .int .i64 0, .int .i64 0]) 101)) := (Below.refl _ W).alloc (Nat.le_refl _) _
    have hq : (W.alloc (.cells (rv x ++ #[.int .i64 0, .int .i64 0, .int .i64 0]) 101)).heap[W.heap.size]? = some (.cells (tkRow (rv x)) 101 (0, 0)) := ha_new rfl
    obtain ⟨W1, hW1⟩ : ∃ W1, W1 = W.alloc (.cells (rv x ++ #[.int .i64 0, .int .i64 0, .int .i64 0]) 101) := ⟨_, rfl⟩
    rw [← hW1] at hb1 hq ⊢
    clear hW1
    obtain ⟨A2, c2, w2, hr, ho2, hk2, hA2⟩ := ex_pushL (ev := Act.eval { tmps := #[.slice A rows.length c, .slice vA n vc, .pointer (some ⟨w.heap.size, 0, none⟩), undef, .slice none 0 0, undef, .pointer (some ⟨Bx, 0, none⟩), .slice vA n vc, .func (.func 141) #[] #[.pointer (some ⟨w.heap.size + 1, 0, none⟩)], .int .i64 (x : Int), .agg (rv x), .slice A' (rows.length + pre.length) c', .agg (rv x), .agg (tkRow (rv x)), .slice (some ⟨W.heap.size, 0, none⟩) 1 1, undef, undef], defers := [] })
      (o := ⟨some 15, .call { callee := .builtin .append, args := #[.tmp 11, .tmp 14], argTypes := #[98, 98] }, 98, "heap.go:148", #[{ on := 0, ground := Ground.data }, { on := 3, ground := Ground.data }], none⟩) elt98 (.tmp 11) (.tmp 14) rfl (by rw [hlen]; rfl) rfl (h2.old hb1) hq (tkRow_size (hrv x).1) (tkRow_one (hrv x).2) (by rw [hlen]; omega) (by rw [hlen]; unfold maxLen; omega)
    rw [hlen] at hr
    refine wlIn_val rfl (fun c h => by cases h) (fun _ _ => trivial) hr ?_
    have hbox1 : Boxed W1 w.heap.size 98 (.slice A' (rows.length + pre.length) c') := below_look hb1 h1
    have hnL : A' ≠ some ⟨w.heap.size, 0, none⟩ := fun e => by
      obtain ⟨cur, hc⟩ := h2.is_cells e
      rw [h1] at hc; cases hc
    have hbox2 : Boxed w2 w.heap.size 98 (.slice A' (rows.length + pre.length) c') := hk2.look hbox1 hnL
    refine wlIn_skipW rfl (fun c h => by cases h) (fun _ _ => trivial) (ex_storeC (v := .slice A2 (rows.length + pre.length + 1) c2) 98 (.tmp 2) (.tmp 15) rfl rfl rfl info98 rfl (by rw [hbox2.cell]; rfl) hbox2.frozen) ?_
    have hA2L : A2 ≠ some ⟨w.heap.size, 0, none⟩ := fun e => by
      obtain ⟨cur, hc⟩ := ho2.is_cells e
      rw [hbox2] at hc; cases hc
    have hkW : Keep (fun b => A' = some ⟨b, 0, none⟩ ∨ b = w.heap.size) W (w2.setCell ⟨w.heap.size, 0, none⟩ (.slice A2 (rows.length + pre.length + 1) c2)) :=
      (((Keep.refl _ W).trans (C' := fun _ => False) (fun b e => e.elim) (Keep.of hb1)).trans (C' := fun b => A' = some ⟨b, 0, none⟩) (fun b e => .inl (.inl e)) hk2).trans (C' := fun b => b = w.heap.size) (fun b e => .inl (.inr e)) (Keep.cellOne _ _ _ _)
    have hA'n : ∀ b, b < w.heap.size + 2 → A' = some ⟨b, 0, none⟩ → A = some ⟨b, 0, none⟩ ∨ b = w.heap.size := fun b hb e => by
      rcases h3 with h3 | ⟨g, e2, hg⟩
      · exact .inl (h3 ▸ e)
      · rw [e2] at e; cases e
        omega
    refine wpListIn_nil ?_
    show Exit.inBlock 1 _ _ _ _
    simp only [Exit.inBlock]
    refine ⟨KeepsFrom.of_keep hkW fun b o e hB hob => ?_, KpB.of_keep hkW h5 fun b hb e => ?_, ⟨A2, c2, ?_, ?_, ?_⟩, ?_, ?_⟩
    · rcases e with e | e
      · obtain ⟨cur, hc⟩ := h2.is_cells e
        rw [hc] at hob; cases hob; rfl
      · omega
    · rcases e with e | e
      · exact hA'n b hb e
      · exact .inr e
    · have := hbox2.set (.slice A2 (rows.length + pre.length + 1) c2)
      simpa [Nat.add_assoc] using this
    · rw [List.map_append, ← List.append_assoc]
      exact ho2.same fun g e hl => heap_setCell_other _ _ _ _ fun e2 => hA2L (by rw [e, show g = w.heap.size from e2])
    · rcases hA2 with e | ⟨g, e, hg⟩
      · rw [e]; exact h3
      · exact .inr ⟨g, e, by have := hb1.size; omega⟩
    · refine h4.trans (C' := fun b => A' = some ⟨b, 0, none⟩ ∨ b = w.heap.size) (fun b e => ?_) hkW
      rcases e with e | e
      · rcases h3 with h3 | ⟨g, e2, hg⟩
        · exact .inl (h3 ▸ e)
        · rw [e2] at e; cases e; exact .inr (by omega)
      · exact .inr (by omega)
    · have := hkW.size; omega
  case done =>
    rintro D ys W hD rfl ⟨⟨A', c', h1, h2, h3⟩, h4, h5⟩ hK
    have h98 : OneAt W 98 ⟨w.heap.size, 0, none⟩ (.slice A' (rows.length + n) c') := by
      have := h1
      rw [downN_len] at this
      exact one_of u98 rfl this.cell
    gi_wp2_with ((with_reducible apply wlIn_oneG); exact rfl; exact h98)
    have hnD : ∀ b cur ty, W.heap[b]? = some (.cells cur ty (0, 0)) → b ≠ D := fun b cur ty h e => by rw [e, hK] at h; cases h
    refine ⟨by simp, .inl ⟨_, _, rfl, run_takeDeferred hK, ?_⟩⟩
    refine ⟨_, results_tmp rfl _ _ _, A', c', rfl, h2.same fun g e hl => World.putObj_heap_other (by obtain ⟨cur, hc⟩ := h2.is_cells e; exact hnD g _ _ hc), ?_, ?_⟩
    · rcases h3 with e | ⟨g, e, hg⟩
      · exact .inl e
      · exact .inr ⟨g, e, by omega⟩
    · exact h4.trans (C' := fun b => b = D) (fun b e => .inr (by omega)) ⟨rfl, rfl, rfl, by simp, fun b _ hn => World.putObj_heap_other hn⟩
  case stop =>
    rintro D c pre W _ _ h _
    exact h.elim
end Go.Proofs.Ytpamocglecangaa
namespace Go.Proofs.Ytpamocglecangaa
open Go.RowKit Go.Proofs.Ytpamocglecangaa.Nm
def LevT (w : World) (G : Gh) (k : Nat) (lev : List (List Tk)) (last : Array Value) (A : Option Addr) (c : Nat) : Prop :=
  ∃ rows, OwnL w 98 1 A c (rows ++ [last]) ∧ rows.length = lev.length ∧ RoleOf G A (k, .lar) ∧ ∀ (i : Nat) (ts : List Tk) (row : Array Value), lev[i]? = some ts → rows[i]? = some row → ∃ tA tc, row = #[.slice tA ts.length tc] ∧ TksAt w G (k, .lvl i) ts tA tc
/-- The program's heap k at block p is the plain heap h, and one level more, whose row is `last`. -/
structure HTop (w : World) (G : Gh) (k p : Nat) (h : Hp) (last : Array Value) (oA : Option Addr) (oc : Nat) (bA : Option Addr) (bc : Nat) (m : Nat) (lA : Option Addr) (lc : Nat) : Prop where
  blk : w.heap[p]? = some (.cells (cellH oA h.obs.length oc bA h.bus.length bc m lA (h.lev.length + 1) lc) 87 (0, 0))
  rp : G p = some (k, .hdr)
  rm : G m = some (k, .dei)
  obs : ObsAt w G k h.obs oA oc
  bus : BusAt w G k h.bus bA bc
  lev : LevT w G k h.lev last lA lc
  map : DeiAt w m h.dei
section
variable {w w' : World} {G : Gh} {C : Nat → Prop}
theorem LevT.same {k : Nat} {lev : List (List Tk)} {last : Array Value} {A : Option Addr} {c : Nat} (h : LevT w G k lev last A c) (h1 : ∀ b, b < w.heap.size → (G b = some (k, .lar) ∨ ∃ i, i < lev.length ∧ G b = some (k, .lvl i)) → w'.heap[b]? = w.heap[b]?) (h2 : ∀ b, b < w.heap.size → G b = none → w'.heap[b]? = w.heap[b]?) : LevT w' G k lev last A c := by
  obtain ⟨rows, ho, hl, hr, hv⟩ := h
  refine ⟨rows, ho.same fun g e hg => h1 g hg (.inl (hr g e)), hl, hr, fun i ts row hi hri => ?_⟩
  obtain ⟨tA, tc, g1, g2⟩ := hv i ts row hi hri
  exact ⟨tA, tc, g1, g2.same (fun b hb e => h1 b hb (.inr ⟨i, (List.getElem?_eq_some_iff.1 hi).1, e⟩)) h2⟩
end
section
variable {w w' : World} {G G' : Gh} {k p : Nat} {h : Hp} {last : Array Value} {oA : Option Addr} {oc : Nat} {bA : Option Addr} {bc m : Nat} {lA : Option Addr} {lc : Nat}
/-- Where the blocks of a heap but those of the level that is worked on, and those that no heap writes into, stand, the heap stands. -/
theorem HTop.same (hh : HTop w G k p h last oA oc bA bc m lA lc) (h1 : ∀ b, b < w.heap.size → Mine G k b → G b ≠ some (k, .lvl h.lev.length) → w'.heap[b]? = w.heap[b]?) (h2 : ∀ b, b < w.heap.size → G b = none → w'.heap[b]? = w.heap[b]?) : HTop w' G k p h last oA oc bA bc m lA lc where
  blk := by rw [h1 p (heap_lt hh.blk) ⟨_, hh.rp, by simp⟩ (by rw [hh.rp]; simp)]; exact hh.blk
  rp := hh.rp
  rm := hh.rm
  obs := hh.obs.same (fun b hb e => by rcases e with e | ⟨i, e⟩ <;> exact h1 b hb ⟨_, e, by simp⟩ (by rw [e]; simp)) h2
  bus := hh.bus.same (fun b hb e => by rcases e with e | ⟨i, e⟩ <;> exact h1 b hb ⟨_, e, by simp⟩ (by rw [e]; simp)) h2
  lev := hh.lev.same (fun b hb e => by
    rcases e with e | ⟨i, hi, e⟩
    · exact h1 b hb ⟨_, e, by simp⟩ (by rw [e]; simp)
    · exact h1 b hb ⟨_, e, by simp⟩ (by rw [e]; simp; omega)) h2
  map := hh.map.same fun hl => h1 m hl ⟨_, hh.rm, by simp⟩ (by rw [hh.rm]; simp)
theorem HTop.old (hh : HTop w G k p h last oA oc bA bc m lA lc) (hb : Below w.heap.size w w') : HTop w' G k p h last oA oc bA bc m lA lc := hh.same (fun b hl _ _ => hb.block b hl) fun b hl _ => hb.block b hl
theorem HTop.keep {C : Nat → Prop} (hh : HTop w G k p h last oA oc bA bc m lA lc) (hk : Keep C w w') (hC : ∀ b, C b → (¬ Mine G k b ∨ G b = some (k, .lvl h.lev.length)) ∧ G b ≠ none) : HTop w' G k p h last oA oc bA bc m lA lc := hh.same (fun b hl hm hn => hk.block b hl fun hc => by
    rcases (hC b hc).1 with h | h
    · exact h hm
    · exact hn h) fun b hl hn => hk.block b hl fun hc => (hC b hc).2 hn
/-- What the ghost says of blocks that are not there yet does not matter. -/
theorem HTop.regh (hh : HTop w G k p h last oA oc bA bc m lA lc) (hG : ∀ b, b < w.heap.size → G' b = G b) : HTop w G' k p h last oA oc bA bc m lA lc where
  blk := hh.blk
  rp := by rw [hG p (heap_lt hh.blk)]; exact hh.rp
  rm := by
    obtain ⟨es, c, hm, -⟩ := hh.map
    rw [hG m (heap_lt hm)]; exact hh.rm
  obs := by
    obtain ⟨rows, ho, hl, hr, hv⟩ := hh.obs
    refine ⟨rows, ho, hl, hr.regh ho hG, fun i o row h1 h2 => ?_⟩
    obtain ⟨tr, fA, fc, g1, g2, g3⟩ := hv i o row h1 h2
    exact ⟨tr, fA, fc, g1, g2.regh hG, g3.regh hG⟩
  bus := by
    obtain ⟨rows, ho, hl, hr, hv⟩ := hh.bus
    refine ⟨rows, ho, hl, hr.regh ho hG, fun i o row h1 h2 => ?_⟩
    obtain ⟨eA, ec, g1, g2⟩ := hv i o row h1 h2
    exact ⟨eA, ec, g1, g2.regh hG⟩
  lev := by
    obtain ⟨rows, ho, hl, hr, hv⟩ := hh.lev
    refine ⟨rows, ho, hl, hr.regh ho hG, fun i o row h1 h2 => ?_⟩
    obtain ⟨tA, tc, g1, rows2, ho2, hl2, hr2, hv2⟩ := hv i o row h1 h2
    exact ⟨tA, tc, g1, rows2, ho2, hl2, hr2.regh ho2 hG, fun j t row h3 h4 => (hv2 j t row h3 h4).regh hG⟩
  map := hh.map
theorem HTop.obsC (hh : HTop w G k p h last oA oc bA bc m lA lc) {obs : List Ob} (hl : obs.length = h.obs.length) (hs : ∀ b, b < w.heap.size → (∃ r, G b = some (k, r) ∧ r ≠ .arr ∧ ∀ i, r ≠ .fld i) → w'.heap[b]? = w.heap[b]?) (h2 : ∀ b, b < w.heap.size → G b = none → w'.heap[b]? = w.heap[b]?) (ho : ObsAt w' G k obs oA oc) : HTop w' G k p { h with obs := obs } last oA oc bA bc m lA lc where
  blk := by rw [hs p (heap_lt hh.blk) ⟨_, hh.rp, by simp, by simp⟩]; show _ = some (Obj.cells (cellH oA obs.length oc bA h.bus.length bc m lA (h.lev.length + 1) lc) 87 (0, 0)); rw [hl]; exact hh.blk
  rp := hh.rp
  rm := hh.rm
  obs := ho
  bus := hh.bus.same (fun b hb e => hs b hb (by rcases e with e | ⟨i, e⟩ <;> exact ⟨_, e, by simp, by simp⟩)) h2
  lev := hh.lev.same (fun b hb e => hs b hb (by rcases e with e | ⟨i, -, e⟩ <;> exact ⟨_, e, by simp, by simp⟩)) h2
  map := hh.map.same fun hl => hs m hl ⟨_, hh.rm, by simp, by simp⟩
theorem HTop.busC (hh : HTop w G k p h last oA oc bA bc m lA lc) {bus : List Bu} (hl : bus.length = h.bus.length) (hs : ∀ b, b < w.heap.size → (∃ r, G b = some (k, r) ∧ r ≠ .bar ∧ ∀ i, r ≠ .elm i) → w'.heap[b]? = w.heap[b]?) (h2 : ∀ b, b < w.heap.size → G b = none → w'.heap[b]? = w.heap[b]?) (ho : BusAt w' G k bus bA bc) : HTop w' G k p { h with bus := bus } last oA oc bA bc m lA lc where
  blk := by rw [hs p (heap_lt hh.blk) ⟨_, hh.rp, by simp, by simp⟩]; show _ = some (Obj.cells (cellH oA h.obs.length oc bA bus.length bc m lA (h.lev.length + 1) lc) 87 (0, 0)); rw [hl]; exact hh.blk
  rp := hh.rp
  rm := hh.rm
  obs := hh.obs.same (fun b hb e => hs b hb (by rcases e with e | ⟨i, e⟩ <;> exact ⟨_, e, by simp, by simp⟩)) h2
  bus := ho
  lev := hh.lev.same (fun b hb e => hs b hb (by rcases e with e | ⟨i, -, e⟩ <;> exact ⟨_, e, by simp, by simp⟩)) h2
  map := hh.map.same fun hl => hs m hl ⟨_, hh.rm, by simp, by simp⟩
/-- A number of an object of a heap, set anew. -/
theorem HTop.setO (hh : HTop w G k p h last oA oc bA bc m lA lc) {g i j : Nat} {rows : List (Array Value)} (hA : oA = some ⟨g, 0, none⟩) (hR : ObsR w G k h.obs g oc rows) {o o' : Ob} (hi : h.obs[i]? = some o) {x : Int} (ht : o'.t = o.t) (hf : o'.fields = o.fields)
    (hj : (j = 4 ∧ o'.state = x ∧ o'.count = o.count ∧ o'.weak = o.weak) ∨ (j = 5 ∧ o'.state = o.state ∧ o'.count = x ∧ o'.weak = o.weak) ∨ (j = 6 ∧ o'.state = o.state ∧ o'.count = o.count ∧ o'.weak = x)) :
    HTop (w.setCell ⟨g, i * 8 + j, none⟩ (.int .i64 x)) G k p { h with obs := h.obs.set i o' } last oA oc bA bc m lA lc := by
  have hs1 := (Keep.cellOne w g (i * 8 + j) (.int .i64 x)).block
  refine hh.obsC (by simp) (fun b hb e => hs1 b hb fun e2 => ?_) (fun b hb e => hs1 b hb fun e2 => by rw [e2, hR.role] at e; cases e) (by rw [hA]; exact hR.num hi ht hf hj)
  obtain ⟨r, e3, e4, -⟩ := e
  rw [e2, hR.role] at e3; cases e3; exact e4 rfl
theorem HTop.setB (hh : HTop w G k p h last oA oc bA bc m lA lc) {g i : Nat} {rows : List (Array Value)} (hA : bA = some ⟨g, 0, none⟩) (hR : BusR w G k h.bus g bc rows) {b b' : Bu} (hi : h.bus[i]? = some b) {x : Int} (hf : b'.elems = b.elems) (hc : b'.count = x) :
    HTop (w.setCell ⟨g, i * 2, none⟩ (.int .i64 x)) G k p { h with bus := h.bus.set i b' } last oA oc bA bc m lA lc := by
  have hs1 := (Keep.cellOne w g (i * 2) (.int .i64 x)).block
  refine hh.busC (by simp) (fun b hb e => hs1 b hb fun e2 => ?_) (fun b hb e => hs1 b hb fun e2 => by rw [e2, hR.role] at e; cases e) (by rw [hA]; exact hR.num hi hf hc)
  obtain ⟨r, e3, e4, -⟩ := e
  rw [e2, hR.role] at e3; cases e3; exact e4 rfl
theorem HTop.stO {g i : Nat} (hh : HTop w G k p h last (some ⟨g, 0, none⟩) oc bA bc m lA lc) {o : Ob} (hi : h.obs[i]? = some o) (j : Nat) (hj : j < 8) : (w.cell? ⟨g, i * 8 + j, none⟩).isSome = true ∧ w.frozen? ⟨g, i * 8 + j, none⟩ = false ∧ G g = some (k, .arr) ∧
    ∀ (x : Int) (o' : Ob), o'.t = o.t → o'.fields = o.fields → ((j = 4 ∧ o'.state = x ∧ o'.count = o.count ∧ o'.weak = o.weak) ∨ (j = 5 ∧ o'.state = o.state ∧ o'.count = x ∧ o'.weak = o.weak) ∨ (j = 6 ∧ o'.state = o.state ∧ o'.count = o.count ∧ o'.weak = x)) → HTop (w.setCell ⟨g, i * 8 + j, none⟩ (.int .i64 x)) G k p { h with obs := h.obs.set i o' } last (some ⟨g, 0, none⟩) oc bA bc m lA lc := by
  obtain ⟨g', rows, e, hR⟩ := hh.obs.rows hi
  cases e
  obtain ⟨row, tr, fA, fc, hr, -⟩ := hR.get hi
  obtain ⟨h1, h2⟩ := hR.own.lies hr hj
  exact ⟨h1, h2, hR.role, fun x o' a b c => hh.setO rfl hR hi a b c⟩
theorem HTop.stB {g i : Nat} (hh : HTop w G k p h last oA oc (some ⟨g, 0, none⟩) bc m lA lc) {b : Bu} (hi : h.bus[i]? = some b) : (w.cell? ⟨g, i * 2, none⟩).isSome = true ∧ w.frozen? ⟨g, i * 2, none⟩ = false ∧ G g = some (k, .bar) ∧
    ∀ (x : Int) (b' : Bu), b'.elems = b.elems → b'.count = x → HTop (w.setCell ⟨g, i * 2, none⟩ (.int .i64 x)) G k p { h with bus := h.bus.set i b' } last oA oc (some ⟨g, 0, none⟩) bc m lA lc := by
  obtain ⟨g', rows, e, hR⟩ := hh.bus.rows hi
  cases e
  obtain ⟨row, eA, ec, hr, -⟩ := hR.get hi
  obtain ⟨h1, h2⟩ := hR.own.lies hr (j := 0) (by omega)
  exact ⟨h1, h2, hR.role, fun x b' a c => hh.setB rfl hR hi a c⟩
/-- All that an object's places in memory are, told once. -/
theorem HTop.obj (hh : HTop w G k p h last oA oc bA bc m lA lc) {i : Nat} {o : Ob} (hi : h.obs[i]? = some o) : ∃ g tr fA fc, oA = some ⟨g, 0, none⟩ ∧ G g = some (k, .arr) ∧ (∀ w', Below w.heap.size w w' → ObL w' g i o tr fA fc) ∧ TyAt w (Imm G) o.t tr ∧ ListV w G (k, .fld i) o.fields fA fc ∧ ∀ row tr' fA' fc', ObAt w G k i o row tr' fA' fc' → (∃ rows, ObsR w G k h.obs g oc rows ∧ rows[i]? = some row) → fA' = fA ∧ fc' = fc := by
  obtain ⟨g, rows, e, hR⟩ := hh.obs.rows hi
  obtain ⟨row, tr, fA, fc, hr, hx⟩ := hR.get hi
  refine ⟨g, tr, fA, fc, e, hR.role, fun w' hb => (hR.own.old hb).loads hr (hx.same (fun b hl _ => hb.block b hl) fun b hl _ => hb.block b hl), hx.ty, hx.fld, ?_⟩
  rintro row' tr' fA' fc' hx' ⟨rows', hR', hr'⟩
  obtain ⟨cur, hg, hs, hf, hc, -⟩ := hR.own.at hr
  obtain ⟨cur', hg', hs', hf', hc', -⟩ := hR'.own.at hr'
  rw [hg] at hg'; cases hg'
  have e2 : row' = row := hc'.symm.trans hc
  have h7 := (cell8_at hx.size o.state o.count o.weak fA o.fields.length fc).2.2.2.2
  have h7' := (cell8_at hx'.size o.state o.count o.weak fA' o.fields.length fc').2.2.2.2
  rw [← hx.eq] at h7
  rw [← hx'.eq, e2, h7] at h7'
  cases h7'
  exact ⟨rfl, rfl⟩
theorem HTop.buf (hh : HTop w G k p h last oA oc bA bc m lA lc) {i : Nat} {o : Bu} (hi : h.bus[i]? = some o) : ∃ g fA fc, bA = some ⟨g, 0, none⟩ ∧ G g = some (k, .bar) ∧ (∀ w', Below w.heap.size w w' → BuL w' g i o fA fc) ∧ ListV w G (k, .elm i) o.elems fA fc ∧ ∀ row fA' fc', BuAt w G k i o row fA' fc' → (∃ rows, BusR w G k h.bus g bc rows ∧ rows[i]? = some row) → fA' = fA ∧ fc' = fc := by
  obtain ⟨g, rows, e, hR⟩ := hh.bus.rows hi
  obtain ⟨row, fA, fc, hr, hx⟩ := hR.get hi
  refine ⟨g, fA, fc, e, hR.role, fun w' hb => (hR.own.old hb).loadsB hr (hx.same (fun b hl _ => hb.block b hl) fun b hl _ => hb.block b hl), hx.elm, ?_⟩
  rintro row' fA' fc' hx' ⟨rows', hR', hr'⟩
  obtain ⟨cur, hg, hs, hf, hc, -⟩ := hR.own.at hr
  obtain ⟨cur', hg', hs', hf', hc', -⟩ := hR'.own.at hr'
  rw [hg] at hg'; cases hg'
  have e2 : row' = row := hc'.symm.trans hc
  have h7 := hx'.eq
  rw [e2, hx.eq] at h7
  cases h7
  exact ⟨rfl, rfl⟩
end
end Go.Proofs.Ytpamocglecangaa
namespace Go.Proofs.Ytpamocglecangaa
open Go.RowKit Go.Proofs.Ytpamocglecangaa.Nm
set_option linter.unusedSimpArgs false
structure SsAt (w : World) (l : List ByteArray) (A : Option Addr) (n : Nat) : Prop where
  len : l.length = n
  max : n ≤ maxLen
  el : ∀ (j : Nat) (s : ByteArray), l[j]? = some s → ∃ b off, A = some ⟨b, off, none⟩ ∧ w.cell? ⟨b, off + j, none⟩ = some (.string s)
theorem run_mm84 (w : World) : (Instr.makeMap 84 none).run Try.prog w = .ok (.map (some w.heap.size)) (w.alloc (.map #[] 0)) := by kernel_rfl
theorem built87 (m : Nat) : Try.prog.built 87 [(2, .map (some m))] = some (cellH none 0 0 none 0 0 m none 0 0) := by kernel_rfl
theorem run_box87 (m : Nat) (w : World) : (Instr.box 87 (.agg (cellH none 0 0 none 0 0 m none 0 0))).run Try.prog w = .ok (.pointer (some ⟨w.heap.size, 0, none⟩)) (w.alloc (.cells (cellH none 0 0 none 0 0 m none 0 0) 87)) := by kernel_rfl
section
variable {ops : Array Oper} {rest : List Oper} {o : Oper} {a : Act} {w w2 : World} {Q : Exit → Act → World → Prop}
theorem wl_s (hg : o.guard = none) (hx : (execOp a.eval o).run Try.prog w = .ok .skip w2) (h : wpList Try.prog ops Q rest (a.put o.dst undef) w2) : wpList Try.prog ops Q (o :: rest) a w := by
  refine wpList_plain hg fun K hK => ?_
  unfold Oper.wp; rw [hx]; exact hK _ _ h
end
def setMap (w : World) (q : Nat) (o : Obj) : World := { w with heap := w.heap.setIfInBounds q o }
theorem setMap_new {w : World} {q : Nat} {o o' : Obj} (hb : w.heap[q]? = some o) : (setMap w q o').heap[q]? = some o' := (MapKept.heap_set hb).1
theorem setMap_old {w : World} {q : Nat} {o o' : Obj} (hb : w.heap[q]? = some o) {p : Nat} (hp : p ≠ q) : (setMap w q o').heap[p]? = w.heap[p]? := (MapKept.heap_set hb).2 p hp
theorem setMap_keep {w : World} {q : Nat} {o o' : Obj} (hb : w.heap[q]? = some o) : Keep (fun b => b = q) w (setMap w q o') := ⟨rfl, rfl, rfl, by simp [setMap], fun b _ hn => setMap_old hb hn⟩
theorem run_new84 {r : Nat} {es : Array MapEntry} {c : Nat} {s : ByteArray} {v : Value} (w : World) (hb : w.heap[r]? = some (.map es c)) (hf : Instr.findNow .string (.string s) es.toList 0 = some none) :
    (Instr.mapUpdate 84 (.map (some r)) (.string s) v).run Try.prog w = .ok () (setMap w r (.map (es.push { key := .string s, val := v, born := c }) (c + 1))) := by
  unfold Instr.mapUpdate setMap
  simp only [Sem.run_bind, run_underlying u84, Result.andThen, MapKept.run_getObj_map hb, MapKept.run_checkKey u9 (k := .string s) (by simp [MapKept.IsKey]) false 9999, MapKept.run_findKey u9 hf, MapKept.run_setObj_map _ hb]
theorem run_upd84 {r : Nat} {es : Array MapEntry} {c : Nat} {s : ByteArray} {v x : Value} {j : Nat} {e : MapEntry} (w : World) (hb : w.heap[r]? = some (.map es c)) (hf : Instr.findNow .string (.string s) es.toList 0 = some (some (j, x))) (hj : es[j]? = some e) (hk : e.key = .string s) :
    (Instr.mapUpdate 84 (.map (some r)) (.string s) v).run Try.prog w = .ok () (setMap w r (.map (es.modify j fun e => { e with key := .string s, val := v }) c)) := by
  unfold Instr.mapUpdate setMap
  simp [Sem.run_bind, run_underlying u84, Result.andThen, MapKept.run_getObj_map hb, MapKept.run_checkKey u9 (k := .string s) (by simp [MapKept.IsKey]) false 9999, MapKept.run_findKey u9 hf, hj, hk, MapKept.run_keyThatStays (d := .string) (k := .string s) (by simp [MapKept.IsKey]), MapKept.run_setObj_map _ hb]
/-- One text more in the map. -/
theorem run_put84 {w : World} {m : Nat} {dei dei' : List ByteArray} (h : DeiAt w m dei) (s : ByteArray) (hd : ∀ t, t ∈ dei' ↔ t ∈ dei ∨ t = s) : ∃ w', (Instr.mapUpdate 84 (.map (some m)) (.string s) (.bool true)).run Try.prog w = .ok () w' ∧ DeiAt w' m dei' ∧ Keep (fun b => b = m) w w' := by
  obtain ⟨es, c, hb, hf⟩ := h.find
  obtain ⟨es', c', hb', hst, he, hh⟩ := h
  rw [hb] at hb'
  cases hb'
  by_cases hs : s ∈ dei
  · obtain ⟨j, e, h1, h2, h3⟩ := (hf s).1 hs
    have hsame : (es.modify j fun e => { e with key := .string s, val := .bool true }) = es := by
      obtain ⟨s', e1, e2, -⟩ := he e (List.mem_of_getElem? (by rw [Array.getElem?_toList]; exact h2))
      apply Array.ext_getElem?
      intro i
      rw [Array.getElem?_modify]
      split
      · rename_i e4
        subst e4
        rw [h2]
        simp only [Option.map_some, Option.some.injEq]
        cases e with
        | mk key val born => simp_all
      · rfl
    refine ⟨_, run_upd84 w hb h1 h2 h3, ⟨_, _, setMap_new hb, by rw [hsame]; exact hst, ?_, ?_⟩, setMap_keep hb⟩
    · rw [hsame]
      intro x hx
      obtain ⟨s', e1, e2, e3⟩ := he x hx
      exact ⟨s', e1, e2, (hd s').2 (.inl e3)⟩
    · rw [hsame]
      intro t ht
      rcases (hd t).1 ht with ht | rfl
      · exact hh t ht
      · exact hh t hs
  · obtain ⟨h1, h2⟩ := (hf s).2 hs
    refine ⟨_, run_new84 w hb h1, ⟨_, _, setMap_new hb, MapKept.stamped_push hst h2, fun x hx => ?_, fun t ht => ?_⟩, setMap_keep hb⟩
    · simp only [Array.toList_push, List.mem_append, List.mem_singleton] at hx
      rcases hx with hx | rfl
      · obtain ⟨s', e1, e2, e3⟩ := he x hx
        exact ⟨s', e1, e2, (hd s').2 (.inl e3)⟩
      · exact ⟨s, rfl, rfl, (hd s).2 (.inr rfl)⟩
    · rcases (hd t).1 ht with ht | rfl
      · obtain ⟨x, hx, e⟩ := hh t ht
        exact ⟨x, by simp [hx], e⟩
      · exact ⟨{ key := .string t, val := .bool true, born := c }, by simp, rfl⟩
def hp0 (dei : List ByteArray) : Hp := ⟨dei, [], [], []⟩
def newG (G : Gh) (k p m : Nat) : Gh := fun b => if b = p then some (k, .hdr) else if b = m then some (k, .dei) else G b
theorem HAt.fresh {w : World} {G : Gh} {k p m : Nat} {dei : List ByteArray} (hp : w.heap[p]? = some (.cells (cellH none 0 0 none 0 0 m none 0 0) 87 (0, 0))) (hm : DeiAt w m dei) (h1 : G p = some (k, .hdr)) (h2 : G m = some (k, .dei)) : HAt w G k p (hp0 dei) none 0 none 0 m none 0 where
  blk := hp
  rp := h1
  rm := h2
  obs := ⟨[], OwnL.nil _ _ _, rfl, fun g e => (by cases e), fun i o row _ h => (by simp at h)⟩
  bus := ⟨[], OwnL.nil _ _ _, rfl, fun g e => (by cases e), fun i o row _ h => (by simp at h)⟩
  lev := ⟨[], OwnL.nil _ _ _, rfl, fun g e => (by cases e), fun i o row _ h => (by simp at h)⟩
  map := hm
/-- A new heap. -/
def NewHp (w : World) (G : Gh) (k : Nat) (dei : List ByteArray) (e : Ending) (w' : World) : Prop := ∃ p G', e = .returned (.pointer (some ⟨p, 0, none⟩)) ∧ HeapAt w' G' k p (hp0 dei) ∧ Fr w' G' ∧ (∀ b, b < w.heap.size → G' b = G b) ∧ (∀ b, w.heap.size ≤ b → G' b = none ∨ ∃ r, G' b = some (k, r)) ∧ Below w.heap.size w w'
set_option maxHeartbeats 4000000 in
set_option maxRecDepth 100000 in
theorem New_any {w : World} {G : Gh} (k : Nat) (hf : Fr w G) {l : List ByteArray} {A : Option Addr} {n c : Nat} (h : SsAt w l A n) : Calls Try.prog 11 #[.slice A n c] w (NewHp w G k l) := by
  have HS := Lib.hid h
  have HF := Lib.hid hf
  have HL := Lib.hid h.len
  have hmx := h.max
  unfold maxLen at hmx
  have hb := Below.refl w.heap.size w
  clear h hf
  go_enter Try.func11, Try.ntmps11
  go_upto_region 0 with (fail)
  apply wp_region_lit
  (with_reducible refine wl_k ?_ ?_); exact rfl; intro K hK; go_simp; refine hK _ ?_; clear hK K
  go_upto_region 1 with (fail)
  apply wp_region_lit
  refine wl_w rfl (w2 := w.alloc (.map #[] 0)) (v := .map (some w.heap.size)) (by unfold execOp; simp [run_mm84 w, Result.andThen]) ?_
  simp only [put_lit, List.set_cons_zero, List.set_cons_succ]
  refine wl_w rfl (ex_build 87 _ rfl (by simp only [List.map_cons, List.map_nil]; rfl) (built87 w.heap.size)) ?_
  simp only [put_lit, List.set_cons_zero, List.set_cons_succ]
  obtain ⟨m, hm⟩ : ∃ m, m = w.heap.size := ⟨_, rfl⟩
  rw [← hm]
  obtain ⟨W1, hW1⟩ : ∃ W, W = w.alloc (.map #[] 0) := ⟨_, rfl⟩
  have hm1 : W1.heap[m]? = some (.map #[] 0) := by rw [hW1]; exact ha_new hm
  have hb1 : Below w.heap.size w W1 := by rw [hW1]; exact hb.alloc (Nat.le_refl _) _
  rw [← hW1]
  refine wl_newv (fun q => .pointer (some ⟨q, 0, none⟩)) rfl (cs := cellH none 0 0 none 0 0 m none 0 0) (ty := 87) (by
    unfold execOp
    have := run_box87 m W1
    simp [Act.eval, this, Result.andThen]) ?_
  intro W2 p hbn hlp hp
  simp only [put_lit, List.set_cons_zero, List.set_cons_succ]
  have hm2 := below_look hbn hm1
  have hb2 := hb1.trans (hbn.mono hb1.size)
  have hpm : p ≠ m := by have := heap_lt hm1; omega
  clear hbn hm1 hW1 hb
  (with_reducible refine wl_k ?_ ?_); exact rfl; intro K hK; go_simp; refine hK _ ?_; clear hK K
  have HPM := Lib.hid hpm
  have HGp : Hid (newG G k p m p = some (k, .hdr)) := Lib.hid (if_pos rfl)
  have HGm : Hid (newG G k p m m = some (k, .dei)) := Lib.hid (by unfold newG; rw [if_neg (fun e => hpm e.symm), if_pos rfl])
  have HM := Lib.hid hm
  have hlp2 : w.heap.size ≤ p := by have := hb1.size; omega
  have hsz := hb2.size
  have hpl := heap_lt hp
  have H0 : Hid (HAt W2 (newG G k p m) k p (hp0 (l.take 0)) none 0 none 0 m none 0) := Lib.hid (HAt.fresh hp ⟨#[], 0, hm2, MapKept.stamped_empty 0, fun x hx => by simp at hx, fun s hs => by simp at hs⟩ HGp.out HGm.out)
  clear hp hm2 hb1 hpm hm
  go_upto_region 2 with (fail)
  apply wp_region_lit
  (with_reducible refine wl_k ?_ ?_); exact rfl; intro K hK; go_simp; refine hK _ ?_; clear hK K
  (with_reducible refine wl_k ?_ ?_); exact rfl; intro K hK; go_simp; refine hK _ ?_; clear hK K
  (with_reducible refine wl_k ?_ ?_); exact rfl; intro K hK; go_simp; refine hK _ ?_; clear hK K
  go_wp2_with fail
  go_loopw [11] (fun i wr => ∃ j : Nat, j ≤ n ∧ i = .int .i64 (j : Int) ∧ Hid (HAt wr (newG G k p m) k p (hp0 (l.take j)) none 0 none 0 m none 0) ∧ Hid (Below w.heap.size w wr) ∧ p < wr.heap.size) (fun i _ => n - (intOf i).toNat)
  case atStart => exact ⟨0, by omega, rfl, H0, Lib.hid hb2, hpl⟩
  case round =>
    clear H0 hb2 hpl hsz
    obtain ⟨j, hj, rfl, HA, hb, hpl⟩ := hrel
    go_upto_region 3 with (fail)
    by_cases hlt : j < n
    · have hltI : (j : Int) < (n : Int) := by omega
      have hsj := List.getElem?_eq_getElem (l := l) (i := j) (by have := HL.out; omega)
      obtain ⟨s, hse⟩ : ∃ s, s = l[j]'(by have := HL.out; omega) := ⟨_, rfl⟩
      rw [← hse] at hsj
      obtain ⟨b, off, rfl, hcell⟩ := HS.out.el j s hsj
      have HSL := Lib.hid (one_of (ty := 9) u9 rfl ((hb.out.cell (block_lt_of_cell hcell)).trans hcell))
      obtain ⟨W7, hput, hdei, hkp⟩ := run_put84 (dei' := l.take (j + 1)) HA.out.map s (fun t => by rw [List.take_add_one, hsj]; simp [hp0])
      have hp := HA.out.blk
      have HPU := Lib.hid hput
      have HDE := Lib.hid hdei
      have HKP := Lib.hid hkp
      clear hse hcell hput hdei hkp hsj
      apply wp_region_lit
      (with_reducible refine wl_k ?_ ?_); exact rfl; intro K hK; go_simp; refine hK _ ?_; clear hK K
      go_upto_region 4 with (fail)
      apply wp_region_lit
      (with_reducible refine wl_k ?_ ?_); exact rfl; intro K hK; go_simp; refine hK _ ?_; clear hK K
      ((with_reducible apply wl_oneG); exact rfl; exact rfl; exact HSL.out)
      (with_reducible refine wl_k ?_ ?_); exact rfl; intro K hK; go_simp; refine hK _ ?_; clear hK K
      go_upto_region 5 with (fail)
      apply wp_region_lit
      (with_reducible refine wl_k ?_ ?_); exact rfl; intro K hK; go_simp; refine hK _ ?_; clear hK K
      (with_reducible refine wl_k ?_ ?_); exact rfl; intro K hK; go_simp; refine hK _ ?_; clear hK K
      (with_reducible refine wl_k ?_ ?_); exact rfl; intro K hK; go_simp; refine hK _ ?_; clear hK K
      ((with_reducible apply wl_oneG); exact rfl; exact rfl; exact h2 hp)
      (with_reducible refine wl_k ?_ ?_); exact rfl; intro K hK; go_simp; refine hK _ ?_; clear hK K
      refine wl_s (w2 := W7) rfl (by
        unfold execOp
        have := HPU.out
        simp [Act.eval, this, Result.andThen]) ?_
      have HA7 : Hid (HAt W7 (newG G k p m) k p (hp0 (l.take (j + 1))) none 0 none 0 m none 0) := Lib.hid (HAt.fresh (HKP.out.look hp HPM.out) HDE.out HGp.out HGm.out)
      have HB7 : Hid (Below w.heap.size w W7) := Lib.hid (Below.keep hb.out HKP.out (fun b e => by have := HM.out; omega))
      have hpl7 : p < W7.heap.size := heap_lt (HKP.out.look hp HPM.out)
      clear hp HPU HDE HKP HA hb
      go_wp2_with fail
      go_roundw
      case rel => exact ⟨j + 1, by omega, by go_num, HA7, HB7, hpl7⟩
      case measure => simp [intOf]; omega
    · have hltI : ¬ (j : Int) < (n : Int) := by omega
      apply wp_region_lit
      (with_reducible refine wl_k ?_ ?_); exact rfl; intro K hK; go_simp; refine hK _ ?_; clear hK K
      go_upto_region 7 with (fail)
      apply wp_region_lit
      (with_reducible refine wl_k ?_ ?_); exact rfl; intro K hK; go_simp; refine hK _ ?_; clear hK K
      (with_reducible refine wl_k ?_ ?_); exact rfl; intro K hK; go_simp; refine hK _ ?_; clear hK K
      go_wp2_with fail
      go_ret
      have hfin := HA.out
      rw [List.take_of_length_le (by have := HL.out; omega)] at hfin
      refine ⟨p, newG G k p m, rfl, ⟨_, _, _, _, _, _, _, hfin⟩, fun b hb2 => ?_, fun b hb2 => ?_, fun b hb2 => ?_, hb.out⟩
      · obtain ⟨es, cc, h2m, -⟩ := hfin.map
        have h3 := heap_lt h2m
        unfold newG
        rw [if_neg (by omega), if_neg (by omega)]
        exact HF.out b (by have := hb.out.size; omega)
      · have := HM.out
        unfold newG
        rw [if_neg (by omega), if_neg (by omega)]
      · unfold newG
        split
        · exact .inr ⟨_, rfl⟩
        · split
          · exact .inr ⟨_, rfl⟩
          · exact .inl (HF.out b hb2)
end Go.Proofs.Ytpamocglecangaa
namespace Go.Proofs.Ytpamocglecangaa
open Go.RowKit Go.Proofs.Ytpamocglecangaa.Nm
theorem ba_beq (a b : ByteArray) : (a == b) = decide (a = b) := by
  cases a with | mk a => cases b with | mk b =>
  show (a == b) = _
  by_cases h : a = b
  · subst h; simp
  · simp [h]
theorem dei_in {s : ByteArray} : ∀ {l : List ByteArray}, s ∈ l → l.contains s = true
  | a :: l, h => by
    rw [List.contains_cons, ba_beq]
    rcases List.mem_cons.1 h with h | h
    · simp [h]
    · rw [dei_in h]; simp
theorem dei_out {s : ByteArray} : ∀ {l : List ByteArray}, s ∉ l → l.contains s = false
  | [], _ => rfl
  | a :: l, h => by
    rw [List.contains_cons, ba_beq, dei_out fun h2 => h (by simp [h2])]
    simp
    exact fun e => h (by simp [e])
theorem zero4 (w : World) : (zeroValue 4).run Try.prog w = .ok (.bool false) w := by kernel_rfl
theorem run_look84 {w : World} {m : Nat} {dei : List ByteArray} (h : DeiAt w m dei) (s : ByteArray) : (Instr.lookup 84 (.map (some m)) (.string s) false).run Try.prog w = .ok (.bool (dei.contains s)) w := by
  obtain ⟨es, c, hb, hf⟩ := h.find
  unfold Instr.lookup
  have hz := zero4 w
  by_cases hs : s ∈ dei
  · obtain ⟨j, e, h1, h2, h3⟩ := (hf s).1 hs
    have hc := dei_in hs
    simp [Sem.run_bind, run_underlying u84, Result.andThen, MapKept.run_getObj_map hb, MapKept.run_checkKey u9 (k := .string s) (by simp [MapKept.IsKey]) _ 9999, MapKept.run_findKey u9 h1, hc]
  · obtain ⟨h1, h2⟩ := (hf s).2 hs
    have hc := dei_out hs
    simp [Sem.run_bind, run_underlying u84, Result.andThen, MapKept.run_getObj_map hb, MapKept.run_checkKey u9 (k := .string s) (by simp [MapKept.IsKey]) _ 9999, MapKept.run_findKey u9 h1, hz, hc]
theorem ex_look84 {ev : Operand → Value} {o : Oper} {w : World} (x y : Operand) (ho : o.op = .lookup 84 x y false) {m : Nat} {dei : List ByteArray} {s : ByteArray} (hx : ev x = .map (some m)) (hy : ev y = .string s) (h : DeiAt w m dei) :
    (execOp ev o).run Try.prog w = .ok (.value (.bool (dei.contains s))) w := by
  unfold execOp
  simp only [ho, hx, hy, run_look84 h s, Sem.run_bind, Sem.run_pure, Result.andThen_ok]
def TopAt (w : World) (G : Gh) (k p : Nat) (h : Hp) (last : Array Value) : Prop := ∃ oA oc bA bc m lA lc, HTop w G k p h last oA oc bA bc m lA lc
/-- What a walk through the topmost level of heap k leaves, its tasks being ts. -/
structure TopD (w0 : World) (G0 : Gh) (k p : Nat) (h : Hp) (last : Array Value) (ts : List Tk) (A : Option Addr) (c : Nat) (w : World) (G : Gh) : Prop where
  heap : TopAt w G k p h last
  tks : TksAt w G (k, .lvl h.lev.length) ts A c
  fr : Fr w G
  old : ∀ b, b < w0.heap.size → G b = G0 b
  new : ∀ b, w0.heap.size ≤ b → G b = none ∨ ∃ r, G b = some (k, r)
  keep : Keep (Mine G0 k) w0 w
section
variable {w0 w w' : World} {G0 G G' : Gh} {k p : Nat} {h h' : Hp} {last : Array Value} {ts : List Tk} {A : Option Addr} {c : Nat}
theorem TksAt.old {r : Nat × Role} (h : TksAt w G r ts A c) (hb : Below w.heap.size w w') : TksAt w' G r ts A c := h.same (fun b hl _ => hb.block b hl) fun b hl _ => hb.block b hl
theorem TopD.quiet (d : TopD w0 G0 k p h last ts A c w G) (hb : Below w.heap.size w w') : TopD w0 G0 k p h last ts A c w' G where
  heap := by obtain ⟨oA, oc, bA, bc, m, lA, lc, hh⟩ := d.heap; exact ⟨_, _, _, _, _, _, _, hh.old hb⟩
  tks := d.tks.old hb
  fr := d.fr.on hb.size
  old := d.old
  new := d.new
  keep := d.keep.trans (C' := fun _ => False) (fun b e => e.elim) (Keep.of hb)
/-- Blocks of heap k's written. -/
theorem TopD.mine (d : TopD w0 G0 k p h last ts A c w G) {b : Nat} (hm : Mine G k b) : Mine G0 k b ∨ w0.heap.size ≤ b := by
  by_cases e : b < w0.heap.size
  · unfold Mine at hm; rw [d.old b e] at hm; exact .inl hm
  · exact .inr (by omega)
/-- A call's own variable written. -/
theorem TopD.put (d : TopD w0 G0 k p h last ts A c w G) {r : Nat} (hr : G r = some (k, .tmp)) (hr2 : w0.heap.size ≤ r) (hk : Keep (fun b => b = r) w w') : TopD w0 G0 k p h last ts A c w' G where
  heap := by
    obtain ⟨oA, oc, bA, bc, m, lA, lc, hh⟩ := d.heap
    exact ⟨_, _, _, _, _, _, _, hh.keep hk fun b e => by subst e; exact ⟨.inl (by rintro ⟨x, e2, h3⟩; rw [hr] at e2; cases e2; exact h3 rfl), by rw [hr]; simp⟩⟩
  tks := d.tks.same (fun b hb e => hk.block b hb fun e2 => by rw [e2, hr] at e; cases e) fun b hb e => hk.block b hb fun e2 => by rw [e2, hr] at e; cases e
  fr := d.fr.on hk.size
  old := d.old
  new := d.new
  keep := d.keep.trans (C' := fun b => b = r) (fun b e => .inr (by omega)) hk
/-- One block of heap k's written, not of the level's. -/
theorem TopD.step (d : TopD w0 G0 k p h last ts A c w G) {g : Nat} {r : Role} (hg : G g = some (k, r)) (h1 : r ≠ .tmp) (h2 : ∀ i, r ≠ .lvl i) (hl : h'.lev = h.lev) (hk : Keep (fun b => b = g) w w') (hh : TopAt w' G k p h' last) : TopD w0 G0 k p h' last ts A c w' G where
  heap := hh
  tks := by
    rw [hl]
    exact d.tks.same (fun b hb e => hk.block b hb fun e2 => by rw [e2, hg] at e; cases e; exact h2 _ rfl) fun b hb e => hk.block b hb fun e2 => by rw [e2, hg] at e; cases e
  fr := d.fr.on hk.size
  old := d.old
  new := d.new
  keep := d.keep.trans (C' := fun b => b = g) (fun b e => d.mine ⟨r, by rw [e]; exact hg, h1⟩) hk
/-- Tasks put on top. -/
theorem TopD.push (d : TopD w0 G0 k p h last ts A c w G) {A' : Option Addr} {c' : Nat} {ts' : List Tk} {rows : List (Array Value)} (hk : Keep (fun b => A = some ⟨b, 0, none⟩) w w') (hA : A' = A ∨ ∃ g, A' = some ⟨g, 0, none⟩ ∧ w.heap.size ≤ g) (ho : OwnL w' 101 12 A' c' rows) (hl : rows.length = ts'.length)
    (hv : ∀ (j : Nat) (t : Tk) (row : Array Value), ts'[j]? = some t → rows[j]? = some row → TkAt w' (own G A' (k, .lvl h.lev.length)) t row) : TopD w0 G0 k p h last ts' A' c' w' (own G A' (k, .lvl h.lev.length)) ∧ ∀ b, b < w.heap.size → own G A' (k, .lvl h.lev.length) b = G b := by
  obtain ⟨rows0, ho0, hl0, hr0, hv0⟩ := d.tks
  have hG := own_again hr0 hA
  have hlt : ∀ b, A' = some ⟨b, 0, none⟩ → b < w'.heap.size := fun b e => by obtain ⟨cur, hc⟩ := ho.is_cells e; exact heap_lt hc
  have hsz := d.keep.size
  refine ⟨⟨?_, ⟨rows, ho, hl, own_role _ _ _, hv⟩, fun b hb => ?_, fun b hb => ?_, fun b hb => ?_, ?_⟩, hG⟩
  · obtain ⟨oA, oc, bA, bc, m, lA, lc, hh⟩ := d.heap
    have hlt0 : ∀ b, A = some ⟨b, 0, none⟩ → b < w.heap.size := fun b e => by obtain ⟨cur, hc⟩ := ho0.is_cells e; exact heap_lt hc
    exact ⟨_, _, _, _, _, _, _, (hh.regh hG).keep hk fun b e => by rw [hG b (hlt0 b e), hr0 b e]; exact ⟨.inr rfl, by simp⟩⟩
  · unfold own
    rw [if_neg (fun e => by have := hlt b e; omega)]
    exact d.fr b (by have := hk.size; omega)
  · rw [hG b (by omega)]; exact d.old b hb
  · unfold own
    split
    · exact .inr ⟨_, rfl⟩
    · exact d.new b hb
  · exact d.keep.trans (C' := fun b => A = some ⟨b, 0, none⟩) (fun b e => d.mine ⟨_, hr0 b e, by simp⟩) hk
/-- Values as backwards reads them: rows in a block that the level does not write. -/
def Vsr (w : World) (G : Gh) (r : Nat × Role) (vs : List Va) (vA : Option Addr) : Prop := ∃ rv : Nat → Array Value, ∀ (i : Nat) (v : Va), vs[i]? = some v → VAt w (Imm G) v (rv i) ∧ ∃ b off, vA = some ⟨b, off, none⟩ ∧ b < w.heap.size ∧ G b ≠ some r ∧ ∀ W', W'.heap[b]? = w.heap[b]? → RowAt W' 35 ⟨b, off + i * 9, none⟩ (rv i)
theorem VsAt.vsr {vs : List Va} {vA : Option Addr} {n vc : Nat} (h : VsAt w (Imm G) vs vA n vc) (r : Nat × Role) : Vsr w G r vs vA := by
  obtain ⟨h1, h2, h3, rows, h4, h5⟩ := h
  refine ⟨rows, fun i v hi => ⟨h5 i v hi, ?_⟩⟩
  obtain ⟨b, off, Cs, t, fr, e1, e2, e3, e4⟩ := h4 i v hi
  exact ⟨b, off, e1, heap_lt e3, by unfold Imm at e2; rw [e2]; simp, fun W' hw => row_mid (n := 9) (hw.trans e3) e4 u35 rfl (h5 i v hi).size info35⟩
theorem ListV.vsr {vs : List Va} {vA : Option Addr} {vc : Nat} {r' : Nat × Role} (h : ListV w G r' vs vA vc) {r : Nat × Role} (hr : r' ≠ r) : Vsr w G r vs vA := by
  obtain ⟨rows, ho, hl, hro, hv⟩ := h
  refine ⟨fun i => rows[i]?.getD #[], fun i v hi => ?_⟩
  have hil := (List.getElem?_eq_some_iff.1 hi).1
  have hri : rows[i]? = some (rows[i]'(by omega)) := List.getElem?_eq_getElem _
  have hva := hv i v _ hi hri
  simp only [hri, Option.getD_some]
  refine ⟨hva, ?_⟩
  obtain ⟨g, cur, e, -⟩ := ho.addr (i := i) (by omega)
  subst e
  obtain ⟨cur, hg, -, -, hx, -⟩ := ho.at hri
  exact ⟨g, 0, rfl, heap_lt hg, by rw [hro g rfl]; intro e; cases e; exact hr rfl, fun W' hw => by
    rw [Nat.zero_add]
    exact row_mid (n := 9) (hw.trans hg) hx u35 rfl hva.size info35⟩
theorem downN_get {n j : Nat} (h : j < n) : (downN n n)[j]? = some (n - 1 - j) := by
  unfold downN
  rw [List.getElem?_map, List.getElem?_range h]
  rfl
theorem laterV_get {vs : List Va} {j : Nat} (h : j < vs.length) : (laterV vs)[j]? = (vs[vs.length - 1 - j]?).map .val := by
  unfold laterV
  rw [List.getElem?_map, List.getElem?_reverse h]
theorem laterV_len (vs : List Va) : (laterV vs).length = vs.length := by simp [laterV]
theorem back_top (d : TopD w0 G0 k p h last ts A c w G) {vs : List Va} {vA : Option Addr} {vc : Nat} (hv : Vsr w G (k, .lvl h.lev.length) vs vA) (hroom : ts.length + vs.length ≤ 800000000000) :
    Calls Try.prog 104 #[.slice A ts.length c, .slice vA vs.length vc] w fun e w' => ∃ A' c' G', e = .returned (.slice A' (ts ++ laterV vs).length c') ∧ TopD w0 G0 k p h last (ts ++ laterV vs) A' c' w' G' ∧ (∀ b, b < w.heap.size → G' b = G b) ∧ Keep (fun b => A = some ⟨b, 0, none⟩) w w' ∧ ∀ b, A = some ⟨b, 0, none⟩ → G b = some (k, .lvl h.lev.length) := by
  obtain ⟨rows, ho, hl, hr, hvr⟩ := d.tks
  obtain ⟨rv, hrv⟩ := hv
  have hrv2 : ∀ i, ((fun i => if i < vs.length then rv i else zrow) i).size = 9 ∧ ((fun i => if i < vs.length then rv i else zrow) i).all (·.oneCell') = true := fun i => by
    by_cases e : i < vs.length
    · simp only [if_pos e]
      obtain ⟨h1, -⟩ := hrv i _ (List.getElem?_eq_getElem e)
      exact ⟨h1.size, h1.one⟩
    · simp only [if_neg e]
      exact ⟨rfl, (zero_va w (Imm G)).one⟩
  have hc := back_raw ho (vA := vA) (n := vs.length) (vc := vc) (fun i => if i < vs.length then rv i else zrow) (by unfold maxLen; omega) hrv2 (fun i hi => by
    obtain ⟨h1, b, off, e1, e2, e3, e4⟩ := hrv i _ (List.getElem?_eq_getElem hi)
    exact ⟨b, off, e1, e2, fun e => e3 (hr b e), fun W' hw => by simp only [if_pos hi]; exact e4 W' hw⟩) (by omega)
  rw [hl] at hc
  refine hc.mono ?_
  rintro e w' ⟨A', c', rfl, ho', hA', hk⟩
  have hG := own_again hr hA'
  have hlt0 : ∀ b, A = some ⟨b, 0, none⟩ → b < w.heap.size := fun b e => by obtain ⟨cur, hc⟩ := ho.is_cells e; exact heap_lt hc
  have mv : ∀ {v : Va} {row : Array Value}, VAt w (Imm G) v row → VAt w' (Imm (own G A' (k, .lvl h.lev.length))) v row := fun hv => hv.moved hk (fun b e => by rw [hr b e]; simp) hG
  obtain ⟨hd, hG2⟩ := d.push (ts' := ts ++ laterV vs) hk hA' ho' (by simp [hl, downN_len, laterV_len]) (fun j t row hj hrow => by
    by_cases e : j < ts.length
    · rw [List.getElem?_append_left e] at hj
      rw [List.getElem?_append_left (by omega)] at hrow
      have h1 := hvr j t row hj hrow
      cases t with
      | val v => obtain ⟨rv0, h2, h3⟩ := h1; exact ⟨rv0, mv h2, h3⟩
      | flds o i => obtain ⟨rv0, v, h2, h3⟩ := h1; exact ⟨rv0, v, mv h2, h3⟩
    · rw [List.getElem?_append_right (by omega)] at hj
      rw [List.getElem?_append_right (by omega), hl] at hrow
      have hjl := (List.getElem?_eq_some_iff.1 hj).1
      rw [laterV_len] at hjl
      rw [laterV_get hjl] at hj
      rw [List.getElem?_map, downN_get hjl] at hrow
      have hlt : vs.length - 1 - (j - ts.length) < vs.length := by omega
      rw [List.getElem?_eq_getElem hlt] at hj
      cases hj; cases hrow
      simp only [if_pos hlt]
      exact ⟨_, mv (hrv _ _ (List.getElem?_eq_getElem hlt)).1, rfl⟩)
  exact ⟨A', c', _, by rw [List.length_append, laterV_len], hd, hG2, hk, hr⟩
end
end Go.Proofs.Ytpamocglecangaa
namespace Go.Proofs.Ytpamocglecangaa
open Go.RowKit Go.Proofs.Ytpamocglecangaa.Nm
theorem info33e : (Try.prog.info? 33).map (·.size) = some 1 := by kernel_rfl
theorem VRow.at4 {w : World} {D : Nat → Prop} {v : Va} {row tr : Array Value} {A2 : Option Addr} {l2 c2 : Nat} {A3 : Option Addr} {l3 c3 : Nat} (h : VRow w D v row tr A2 l2 c2 A3 l3 c3) : row[4]? = some (.string v.typ.name) := by
  obtain ⟨tk, ts, tn, tA, tl, tc, tt, e1, e2, -⟩ := h.ty.parts
  rw [h.eq, e2, e1]; rfl
section
variable {w w' : World} {D : Nat → Prop} {v : Va} {row tr x : Array Value} {A2 : Option Addr} {l2 c2 : Nat} {A3 : Option Addr} {l3 c3 : Nat} {q : Nat} {t : TypeId} {fr : Nat × Nat}
theorem tcell (hq : w.heap[q]? = some (.cells (row ++ x) t fr)) (hs : row.size = 9) {i : Nat} (hi : i < 9) : w.cell? ⟨q, i, none⟩ = row[i]? := by rw [cell_of_row _ _ _ _ _ _ hq, Array.getElem?_append_left (by omega)]
theorem tkK {k : Int} (hq : w.heap[q]? = some (.cells (row ++ x) t fr)) (h : Hid (VRow w' D v row tr A2 l2 c2 A3 l3 c3)) (hk : Hid (v.kind = k)) : OneAt w 3 ⟨q, 0, none⟩ (.int .i64 k) := by
  rw [← hk.out]; exact one_of u3 rfl (by rw [tcell hq h.out.size (by omega)]; exact h.out.at0)
theorem tkN {n : Nat} (hq : w.heap[q]? = some (.cells (row ++ x) t fr)) (h : Hid (VRow w' D v row tr A2 l2 c2 A3 l3 c3)) (hn : Hid (v.num = (n : Int))) : OneAt w 3 ⟨q, 1, none⟩ (.int .i64 (n : Int)) := by
  rw [← hn.out]; exact one_of u3 rfl (by rw [tcell hq h.out.size (by omega)]; exact h.out.at1)
theorem tkS (hq : w.heap[q]? = some (.cells (row ++ x) t fr)) (h : Hid (VRow w' D v row tr A2 l2 c2 A3 l3 c3)) : OneAt w 9 ⟨q, 4, none⟩ (.string v.typ.name) := one_of u9 rfl (by rw [tcell hq h.out.size (by omega)]; exact h.out.at4)
theorem tkL (hq : w.heap[q]? = some (.cells (row ++ x) t fr)) (h : Hid (VRow w' D v row tr A2 l2 c2 A3 l3 c3)) : OneAt w 33 ⟨q, 8, none⟩ (.slice A3 l3 c3) := one_of u33 rfl (by rw [tcell hq h.out.size (by omega)]; exact h.out.at8)
theorem tkRow35 (hq : w.heap[q]? = some (.cells (row ++ x) t fr)) (hs : row.size = 9) : RowAt w 35 ⟨q, 0, none⟩ row := row_mid (n := 9) hq (by
  apply Array.ext_getElem?
  intro i
  rw [Array.getElem?_extract]
  by_cases hi : i < 9
  · rw [if_pos (by simp; omega), Array.getElem?_append_left (by omega), Nat.zero_add]
  · rw [if_neg (by simp; omega), Array.getElem?_eq_none (by omega)]) u35 rfl hs info35
theorem tkI {a b e : Int} (hq : w.heap[q]? = some (.cells (row ++ #[.int .i64 a, .int .i64 b, .int .i64 e]) t fr)) (hs : row.size = 9) : OneAt w 3 ⟨q, 9, none⟩ (.int .i64 a) ∧ OneAt w 3 ⟨q, 10, none⟩ (.int .i64 b) ∧ OneAt w 3 ⟨q, 11, none⟩ (.int .i64 e) :=
  ⟨one_of u3 rfl (by rw [cell_of_row _ _ _ _ _ _ hq, Array.getElem?_append_right (by omega), hs]; rfl), one_of u3 rfl (by rw [cell_of_row _ _ _ _ _ _ hq, Array.getElem?_append_right (by omega), hs]; rfl), one_of u3 rfl (by rw [cell_of_row _ _ _ _ _ _ hq, Array.getElem?_append_right (by omega), hs]; rfl)⟩
theorem putN_task {row' : Array Value} (h1 : row.size = 9) (h2 : row'.size = 9) : putN (row ++ x) 0 row' = row' ++ x := by
  apply Array.ext'
  simp only [putN, List.take_zero, List.nil_append, Nat.zero_add, Array.toList_append]
  rw [List.drop_append_of_le_length (by simp; omega), List.drop_of_length_le (by simp; omega), List.nil_append]
end
section
variable {w w' : World} {G : Gh} {k p : Nat} {h : Hp} {last : Array Value} {oA : Option Addr} {oc : Nat} {bA : Option Addr} {bc m : Nat} {lA : Option Addr} {lc : Nat}
/-- A buffer whose elements are no more. -/
theorem HTop.nilE {g i : Nat} (hh : HTop w G k p h last oA oc (some ⟨g, 0, none⟩) bc m lA lc) {b : Bu} (hi : h.bus[i]? = some b) : (w.cell? ⟨g, i * 2 + 1, none⟩).isSome = true ∧ w.frozen? ⟨g, i * 2 + 1, none⟩ = false ∧
    HTop (w.setCell ⟨g, i * 2 + 1, none⟩ (.slice none 0 0)) G k p { h with bus := h.bus.set i { b with elems := [] } } last oA oc (some ⟨g, 0, none⟩) bc m lA lc := by
  obtain ⟨g', rows, e, hR⟩ := hh.bus.rows hi
  cases e
  obtain ⟨row, fA, fc, hr, hx⟩ := hR.get hi
  obtain ⟨h1, h2⟩ := hR.own.lies hr (j := 1) (by omega)
  refine ⟨h1, h2, ?_⟩
  have hs1 := (Keep.cellOne w g (i * 2 + 1) (.slice none 0 0)).block
  have hne : ∀ b r, G b = some (k, r) → r ≠ .bar → b ≠ g := fun b r e hr e2 => by rw [e2, hR.role] at e; cases e; exact hr rfl
  have hno : ∀ b, G b = none → b ≠ g := fun b e e2 => by rw [e2, hR.role] at e; cases e
  refine hh.busC (by simp) (fun b hb e => hs1 b hb fun e2 => ?_) (fun b hb e => hs1 b hb (hno b e)) ?_
  · obtain ⟨r, e3, e4, -⟩ := e
    exact hne b r e3 e4 e2
  · refine hR.upd hi (row' := row.setIfInBounds 1 (.slice none 0 0)) (eA' := none) (ec' := 0) (fun j b _ hb e => hs1 b hb (hne b _ e (by simp))) (fun b hb e => hs1 b hb (hno b e)) (hR.own.set hr (j := 1) (by omega) _) ⟨?_, [], OwnL.nil _ _ _, rfl, fun g e => (by cases e), fun j v row hj => (by simp at hj)⟩
    rw [hx.eq]; rfl
/-- An object with other fields, in a block of its own. -/
theorem HTop.newF {g i : Nat} (hh : HTop w G k p h last (some ⟨g, 0, none⟩) oc bA bc m lA lc) {o : Ob} (hi : h.obs[i]? = some o) {l : List Va} {A' : Option Addr} {c' : Nat} (hL : ListV w G (k, .fld i) l A' c') : (w.cell? ⟨g, i * 8 + 7, none⟩).isSome = true ∧ w.frozen? ⟨g, i * 8 + 7, none⟩ = false ∧
    HTop (w.setCell ⟨g, i * 8 + 7, none⟩ (.slice A' l.length c')) G k p { h with obs := h.obs.set i { o with fields := l } } last (some ⟨g, 0, none⟩) oc bA bc m lA lc := by
  obtain ⟨g', rows, e, hR⟩ := hh.obs.rows hi
  cases e
  obtain ⟨row, tr, fA, fc, hr, hx⟩ := hR.get hi
  obtain ⟨h1, h2⟩ := hR.own.lies hr (j := 7) (by omega)
  refine ⟨h1, h2, ?_⟩
  have hk := Keep.cellOne w g (i * 8 + 7) (.slice A' l.length c')
  have hs1 := hk.block
  have hne : ∀ b r, G b = some (k, r) → r ≠ .arr → b ≠ g := fun b r e hr e2 => by rw [e2, hR.role] at e; cases e; exact hr rfl
  have hno : ∀ b, G b = none → b ≠ g := fun b e e2 => by rw [e2, hR.role] at e; cases e
  refine hh.obsC (by simp) (fun b hb e => hs1 b hb fun e2 => ?_) (fun b hb e => hs1 b hb (hno b e)) ?_
  · obtain ⟨r, e3, e4, -⟩ := e
    exact hne b r e3 e4 e2
  · refine hR.upd hi (row' := row.setIfInBounds 7 (.slice A' l.length c')) (tr' := tr) (fA' := A') (fc' := c') (fun j b _ hb e => hs1 b hb (hne b _ e (by simp))) (fun b hb e => hs1 b hb (hno b e)) (hR.own.set hr (j := 7) (by omega) _) ⟨?_, hx.ty.keep hk (fun b hb e => hno b hb e), hL.same (fun b hb e => hs1 b hb (hne b _ e (by simp))) (fun b hb e => hs1 b hb (hno b e))⟩
    rw [hx.eq, (cell8_set hx.size o.state o.count o.weak fA o.fields.length fc 0 A' l.length c').2.2.2]
/-- An object's name, loaded while the level's block changes. -/
theorem HTop.nameK {g i : Nat} (hh : HTop w G k p h last (some ⟨g, 0, none⟩) oc bA bc m lA lc) {o : Ob} (hi : h.obs[i]? = some o) {C : Nat → Prop} (hk : Keep C w w') (hC : ∀ b, C b → (¬ Mine G k b ∨ G b = some (k, .lvl h.lev.length)) ∧ G b ≠ none) : OneAt w' 9 ⟨g, i * 8 + 1, none⟩ (.string o.t.name) := by
  obtain ⟨g', tr, fA, fc, e, -, hL, -⟩ := (hh.keep hk hC).obj hi
  cases e
  exact (hL _ (Below.refl _ _)).n
end
/-- What `end` leaves: r is the heap, the tasks and what is due. -/
def EndT (w0 : World) (G0 : Gh) (k p q : Nat) (last x : Array Value) (r : Hp × List Tk × Option Va) (e : Ending) (w' : World) : Prop :=
  ∃ A' c' G' rv', e = .returned (.tuple #[.slice A' r.2.1.length c', .bool r.2.2.isSome]) ∧ TopD w0 G0 k p r.1 last r.2.1 A' c' w' G' ∧ G' q = some (k, .tmp) ∧ w'.heap[q]? = some (.cells (rv' ++ x) 101 (0, 0)) ∧ rv'.size = 9 ∧ ∀ u, r.2.2 = some u → VAt w' (Imm G') u rv'
theorem modify_at {α : Type} {l : List α} {i : Nat} {x : α} (f : α → α) (h : l[i]? = some x) : l.modify i f = l.set i (f x) := modify_eq f h
theorem weight_len {h : Hp} {ts : List Tk} {t : Tk} : ts.length + wT h t ≤ weight h (ts ++ [t]) := by
  have : ∀ l : List Tk, l.length ≤ sumN (l.map (wT h)) := by
    intro l
    induction l with
    | nil => exact Nat.zero_le _
    | cons t l ih =>
      have := wT_pos h t
      simp only [List.length_cons, List.map_cons, sumN]; omega
  have h1 := this ts
  unfold weight
  rw [List.map_append, sumN_cat]
  simp only [List.map_cons, List.map_nil, sumN]
  omega
theorem sumN_mem {α : Type} {f : α → Nat} : ∀ {l : List α} {x : α}, x ∈ l → f x ≤ sumN (l.map f)
  | a :: l, x, h => by
    simp only [List.map_cons, sumN]
    rcases List.mem_cons.1 h with rfl | h
    · omega
    · have := sumN_mem (f := f) h; omega
theorem weight_bus {h : Hp} {ts : List Tk} {b : Bu} (hb : b ∈ h.bus) : ts.length + b.elems.length ≤ weight h ts := by
  have h1 : ∀ l : List Tk, l.length ≤ sumN (l.map (wT h)) := by
    intro l
    induction l with
    | nil => exact Nat.zero_le _
    | cons t l ih =>
      have := wT_pos h t
      simp only [List.length_cons, List.map_cons, sumN]; omega
  have h2 := h1 ts
  have h3 : wVs b.elems ≤ _ := sumN_mem (f := fun b : Bu => wVs b.elems) hb
  have h4 := wVs_len b.elems
  unfold weight
  omega
end Go.Proofs.Ytpamocglecangaa
