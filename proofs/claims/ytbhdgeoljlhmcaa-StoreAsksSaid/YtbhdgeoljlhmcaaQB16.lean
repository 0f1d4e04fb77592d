/- What a name is behind an operation: a function of what the operation's first name was (plain). Two stores whose dictionaries have other seeds: the same errors, the same arrays, the same entries (plain). T6, T7 in one text. Texts in order: merged, sorted, inserted, sought (plain). Lists of texts by the document's helpers and by the program: copied, sought, halved. A list sorted by insertion (the document's). Entries sorted by their keys, by the document's helper. The document's buffers in memory; find, count, order. The document's buffers: how many entries, the keys in order. Lists of numbers and of bools made and copied, by the document; an empty table. -/
import Derived.Test.YtbhdgeoljlhmcaaQB14
import Derived.Test.YtbhdgeoljlhmcaaQB15
import Derived.Test.YtbhdgeoljlhmcaaQB7
import Derived.Outline
import Derived.Test.YtbhdgeoljlhmcaaQB11
import Derived.Test.YtbhdgeoljlhmcaaQB9
namespace Go.Proofs.Ytbhdgeoljlhmcaa
open Go.RowKit Go.Proofs.Ytbhdgeoljlhmcaa.Nm Go.Proofs.Ytbhdgeoljlhmcaa.St
/-- what the aim of an operation is behind it -/
def newB (b : Buf) (o : OpV) : Buf :=
  if o.kind = 1 then ⟨1, [], 0, []⟩ else
  if o.kind = 2 then b else
  if o.kind = 3 then { b with l := b.l ++ [o.key] } else
  if o.kind = 4 then (if b.l.getD o.at_.toNat ByteArray.empty = o.key then b else { b with l := b.l.set o.at_.toNat o.key }) else
  if o.kind = 5 then { b with l := b.l.eraseIdx o.at_.toNat } else
  if o.kind = 6 then ⟨1, (b.l.drop o.at_.toNat).take o.n.toNat, 0, []⟩ else
  if o.kind = 7 then (if sortedB b.l then b else { b with l := sortL b.l }) else
  if o.kind = 8 then ⟨2, [], o.n, List.replicate 4 none⟩ else
  if o.kind = 9 then
    (match findT (HH b.seed) b.t o.key with
    | none => { b with t := addT (HH b.seed) b.t o.key o.n }
    | some i => if ev (pl b.t i) = o.n then b else { b with t := setT b.t i o.key o.n }) else
  if o.kind = 10 then
    (match findT (HH b.seed) b.t o.key with
    | none => b
    | some i => { b with t := removeT (HH b.seed) b.t i }) else
  ⟨1, (pairsT b.t).map (·.1), 0, []⟩
/-- the error is a function of what the operation's first name is -/
def refB (b : Buf) (o : OpV) : Int :=
  if formS o = false then 4 else
  if (useG o.kind).kind ≠ 0 ∧ b.kd ≠ (useG o.kind).kind then 141 else
  if ((useG o.kind).key = true ∧ 24 < o.key.size) ∨ (o.kind = 8 ∧ (o.n < 0 ∨ 2147483647 < o.n)) then 4 else
  if (o.kind = 4 ∨ o.kind = 5) ∧ (o.at_ < 0 ∨ (b.l.length : Int) ≤ o.at_) then 241 else
  if o.kind = 6 ∧ (o.at_ < 0 ∨ o.n < 0 ∨ (b.l.length : Int) < o.at_ ∨ (b.l.length : Int) - o.at_ < o.n) then 241 else
  if o.kind = 10 ∧ fnd b.seed b.t o.key < 0 then 250 else
  if o.kind = 3 ∧ 100 ≤ b.l.length then 2 else
  if o.kind = 9 ∧ 100 ≤ cn b.t ∧ fnd b.seed b.t o.key < 0 then 2 else 0
theorem refA_eq (A : Sto) (o : OpV) : refA A o = refB (A.buf o.fr) o := rfl
theorem buf_apt {A : Sto} (hA : Good A) (n : Int) : Apt (pairsT (A.buf n).t) := by
  cases hq : A.id n with
  | none => rw [buf_none hq]; exact List.Pairwise.nil
  | some k =>
    have hl := id_lt hA hq
    exact (hA.bufs k (A.buf n) (by rw [buf_some hq, List.getD_eq_getElem?_getD, List.getElem?_eq_getElem hl]; rfl)).apt
/-- two buffers with the same value -/
structure SimB (x y : Buf) : Prop where
  kd : x.kd = y.kd
  l : x.l = y.l
  has : ∀ k v, Has x.t k v ↔ Has y.t k v
theorem SimB.refl (x : Buf) : SimB x x := ⟨rfl, rfl, fun _ _ => Iff.rfl⟩
theorem apt_nodup {l : List (ByteArray × Int)} (h : Apt l) : l.Nodup := h.imp (fun h e => h (by rw [e]))
/-- an operation with another seed -/
def Alt (o o' : OpV) : Prop := o' = o ∨ (o.kind = 8 ∧ 0 ≤ o.n ∧ o.n ≤ 2147483647 ∧ ∃ n, o' = { o with n := n } ∧ 0 ≤ n ∧ n ≤ 2147483647)
theorem Alt.same {o o' : OpV} (h : Alt o o') : o'.kind = o.kind ∧ o'.fr = o.fr ∧ o'.to = o.to ∧ o'.at_ = o.at_ ∧ o'.key = o.key := by
  rcases h with rfl | ⟨_, _, _, n, rfl, _⟩ <;> exact ⟨rfl, rfl, rfl, rfl, rfl⟩
/-- no block of the one store is a block of the other one -/
def Dis (s : Nat) (rs : List Row) (t : Nat) (rt : List Row) : Prop := ∀ q, Foot s rs q → ¬ Foot t rt q
theorem Dis.symm {s t : Nat} {rs rt : List Row} (h : Dis s rs t rt) : Dis t rt s rs := fun q h1 h2 => h q h2 h1
theorem StoreAt.beside {w w' : World} {s t : Nat} {A : Sto} {rs rt rt' : List Row} (h : StoreAt w s A rs) (hr : Ran t rt w rt' w') (hd : Dis s rs t rt) : StoreAt w' s A rs :=
  h.same (fun q hq hf => hr.block q hq (hd q hf))
theorem Dis.ran {w w' : World} {s t : Nat} {A : Sto} {rs rt rt' : List Row} (hd : Dis s rs t rt) (h : StoreAt w s A rs) (hr : Ran t rt w rt' w') : Dis s rs t rt' := fun q h1 h2 => by
  rcases hr.foot q h2 with e | e
  · exact hd q h1 e
  · have := h.lt h1; omega
theorem Nm.Kept.ran {D : List Nat} {W w w' : World} {s : Nat} {rs rs' : List Row} (h : Kept D W w) (hr : Ran s rs w rs' w') (hd : ∀ q, Foot s rs q → q ∈ D ∨ W.heap.size ≤ q) : Kept D W w' :=
  ⟨Nat.le_trans h.size hr.size, fun k hk hn => by
    rw [hr.block k (Nat.lt_of_lt_of_le hk h.size) (fun hf => (hd k hf).elim hn (fun e => by omega))]; exact h.block k hk hn, hr.os.trans h.os, hr.tape.trans h.tape, hr.output.trans h.output⟩
theorem ltB_iff (x y : ByteArray) : ltB x y = true ↔ x.data.toList < y.data.toList := by
  unfold ltB
  rw [Proofs.bytesLess_eq, ByteArray.toList_eq, ByteArray.toList_eq]
  simp
theorem ltB_irrefl (x : ByteArray) : ltB x x = false := by
  rw [Bool.eq_false_iff]; intro h; exact List.lt_irrefl _ ((ltB_iff x x).1 h)
theorem ltB_trans {x y z : ByteArray} (h1 : ltB x y = true) (h2 : ltB y z = true) : ltB x z = true := (ltB_iff x z).2 (List.lt_trans ((ltB_iff x y).1 h1) ((ltB_iff y z).1 h2))
theorem ltB_asymm {x y : ByteArray} (h : ltB x y = true) : ltB y x = false := by
  rw [Bool.eq_false_iff]; intro h2
  have := ltB_trans h h2
  rw [ltB_irrefl] at this; cases this
theorem ltB_anti {x y : ByteArray} (h1 : ltB x y = false) (h2 : ltB y x = false) : x = y := by
  have a : ¬ x.data.toList < y.data.toList := fun h => by rw [(ltB_iff x y).2 h] at h1; cases h1
  have b : ¬ y.data.toList < x.data.toList := fun h => by rw [(ltB_iff y x).2 h] at h2; cases h2
  have := List.le_antisymm (List.not_lt.1 b) (List.not_lt.1 a)
  exact ByteArray.ext (Array.toList_inj.1 this)
/-- not greater -/
def leB (x y : ByteArray) : Prop := ltB y x = false
theorem leB_trans {x y z : ByteArray} (h1 : leB x y) (h2 : leB y z) : leB x z := by
  unfold leB at *
  rw [Bool.eq_false_iff]; intro h
  by_cases hy : ltB y x = true
  · rw [hy] at h1; cases h1
  · by_cases hzy : ltB x y = true
    · have := ltB_trans h hzy; rw [h2] at this; cases this
    · have e := ltB_anti (Bool.eq_false_iff.2 hzy) h1
      subst e
      rw [h2] at h; cases h
theorem leB_of_lt {x y : ByteArray} (h : ltB x y = true) : leB x y := ltB_asymm h
abbrev Srt (l : List ByteArray) : Prop := l.Pairwise leB
theorem srt_uniq {a b : List ByteArray} (ha : Srt a) (hb : Srt b) (h : a.Perm b) : a = b :=
  List.Perm.eq_of_pairwise (fun _ _ _ _ h1 h2 => ltB_anti h2 h1) ha hb h
theorem mergeL_perm : ∀ (n : Nat) (a b : List ByteArray), a.length + b.length ≤ n → (mergeL a b).Perm (a ++ b)
  | 0, a, b, h => by
    obtain rfl : a = [] := List.length_eq_zero_iff.1 (by omega)
    obtain rfl : b = [] := List.length_eq_zero_iff.1 (by omega)
    rw [mergeL]; simp
  | n + 1, [], b, _ => by rw [mergeL]; simp
  | n + 1, x :: a, [], _ => by rw [mergeL]; simp
  | n + 1, x :: a, y :: b, h => by
    simp only [List.length_cons] at h
    rw [mergeL]
    split
    · have ih := mergeL_perm n (x :: a) b (by simp; omega)
      exact (ih.cons y).trans (List.perm_middle.symm)
    · exact (mergeL_perm n a (y :: b) (by simp; omega)).cons x
theorem mergeL_srt : ∀ (n : Nat) (a b : List ByteArray), a.length + b.length ≤ n → Srt a → Srt b → Srt (mergeL a b)
  | 0, a, b, h, _, _ => by
    obtain rfl : a = [] := List.length_eq_zero_iff.1 (by omega)
    obtain rfl : b = [] := List.length_eq_zero_iff.1 (by omega)
    rw [mergeL]; exact List.Pairwise.nil
  | n + 1, [], b, _, _, hb => by rw [mergeL]; exact hb
  | n + 1, x :: a, [], _, ha, _ => by rw [mergeL]; exact ha
  | n + 1, x :: a, y :: b, h, ha, hb => by
    simp only [List.length_cons] at h
    have ha' := List.pairwise_cons.1 ha
    have hb' := List.pairwise_cons.1 hb
    rw [mergeL]
    split
    · rename_i hlt
      refine List.pairwise_cons.2 ⟨fun z hz => ?_, mergeL_srt n (x :: a) b (by simp; omega) ha hb'.2⟩
      have hz2 := (mergeL_perm _ (x :: a) b (Nat.le_refl _)).mem_iff.1 hz
      rcases List.mem_append.1 hz2 with hz2 | hz2
      · rcases List.mem_cons.1 hz2 with rfl | hz2
        · exact leB_of_lt hlt
        · exact leB_trans (leB_of_lt hlt) (ha'.1 z hz2)
      · exact hb'.1 z hz2
    · rename_i hlt
      have hle : leB x y := Bool.eq_false_iff.2 hlt
      refine List.pairwise_cons.2 ⟨fun z hz => ?_, mergeL_srt n a (y :: b) (by simp; omega) ha'.2 hb⟩
      have hz2 := (mergeL_perm _ a (y :: b) (Nat.le_refl _)).mem_iff.1 hz
      rcases List.mem_append.1 hz2 with hz2 | hz2
      · exact ha'.1 z hz2
      · rcases List.mem_cons.1 hz2 with rfl | hz2
        · exact hle
        · exact leB_trans hle (hb'.1 z hz2)
theorem sortL_both : ∀ (n : Nat) (l : List ByteArray), l.length ≤ n → (sortL l).Perm l ∧ Srt (sortL l)
  | 0, l, h => by
    obtain rfl : l = [] := List.length_eq_zero_iff.1 (by omega)
    rw [sortL]; simp
  | n + 1, l, h => by
    rw [sortL]
    split
    · rename_i h2
      refine ⟨List.Perm.refl _, ?_⟩
      match l, h2 with
      | [], _ => exact List.Pairwise.nil
      | [x], _ => exact List.pairwise_singleton _ _
    · have h1 := sortL_both n (l.take (l.length / 2)) (by rw [List.length_take]; omega)
      have h2 := sortL_both n (l.drop (l.length / 2)) (by rw [List.length_drop]; omega)
      refine ⟨(mergeL_perm _ _ _ (Nat.le_refl _)).trans ((h1.1.append h2.1).trans (by rw [List.take_append_drop])), mergeL_srt _ _ _ (Nat.le_refl _) h1.2 h2.2⟩
theorem sortL_perm (l : List ByteArray) : (sortL l).Perm l := (sortL_both _ l (Nat.le_refl _)).1
theorem sortL_srt (l : List ByteArray) : Srt (sortL l) := (sortL_both _ l (Nat.le_refl _)).2
theorem sortL_of {l m : List ByteArray} (hm : Srt m) (h : m.Perm l) : m = sortL l := srt_uniq hm (sortL_srt l) (h.trans (sortL_perm l).symm)
theorem srt_adj {l : List ByteArray} (h : ∀ i (h2 : i + 1 < l.length), leB l[i] l[i + 1]) : Srt l := by
  induction l with
  | nil => exact List.Pairwise.nil
  | cons x l ih =>
    have ih' := ih (fun i h2 => h (i + 1) (by simp; omega))
    refine List.pairwise_cons.2 ⟨fun z hz => ?_, ih'⟩
    cases l with
    | nil => cases hz
    | cons y l =>
      have h0 := h 0 (by simp)
      rcases List.mem_cons.1 hz with rfl | hz
      · exact h0
      · exact leB_trans h0 ((List.pairwise_cons.1 ih').1 z hz)
theorem sortedB_iff (l : List ByteArray) : sortedB l = true ↔ Srt l := by
  unfold sortedB
  rw [Lib.downOK_iff]
  have hz : l.toArray.size = l.length := by simp
  have hg : ∀ i (h : i < l.length), l.toArray[i]! = l[i] := fun i h => by simp [h]
  constructor
  · intro h
    refine srt_adj (fun i h2 => ?_)
    have h3 := h i (by omega)
    rw [hg i (by omega), hg (i + 1) h2, decide_eq_false_iff_not, ← ltB_iff] at h3
    exact Bool.eq_false_iff.2 h3
  · intro h i h1
    have h3 := List.pairwise_iff_getElem.1 h i (i + 1) (by omega) (by omega) (by omega)
    rw [hg i (by omega), hg (i + 1) (by omega), decide_eq_false_iff_not, ← ltB_iff]
    exact Bool.eq_false_iff.1 h3
theorem sortL_self {l : List ByteArray} (h : Srt l) : sortL l = l := (sortL_of h (List.Perm.refl _)).symm
/-- a list is sorted exactly if sorting does not change it -/
theorem sortedB_eq (l : List ByteArray) : sortedB l = decide (sortL l = l) := by
  rw [← Bool.coe_iff_coe, sortedB_iff, decide_eq_true_eq]
  exact ⟨sortL_self, fun h => h ▸ sortL_srt l⟩
set_option linter.unusedSimpArgs false
theorem run_mk29 {w : World} {n B : Nat} (hn : n ≤ 1000000) (hB : B ≤ w.heap.size) :
    ∃ w', (Instr.makeSlice 29 (.int .i64 0) (.int .i64 (n : Int))).run Try.prog w = .ok (.slice (some ⟨w.heap.size, 0, none⟩) 0 n) w' ∧ w'.ownsRow B 9 1 (.slice (some ⟨w.heap.size, 0, none⟩) 0 n) 0 (strs []) ∧ w.grownBy w' none := by
  obtain ⟨i0, hi, hz0, hz1, hz2⟩ := info_parts info9
  exact run_make_own (P := Try.prog) w B 29 9 i0 _ 1 u29 hi hz0 hz1 .i64 .i64 n (by rw [hz2]; omega) (by unfold maxLen; omega) hB
theorem ex_mkS {ev : Operand → Value} {o : Oper} {w w' : World} {v a b : Value} {T : TypeId} (x y : Operand) (ho : o.op = .makeSlice T x y) (hx : ev x = a) (hy : ev y = b) (hr : (Instr.makeSlice T a b).run Try.prog w = .ok v w') :
    (execOp ev o).run Try.prog w = .ok (.value v) w' := by
  unfold execOp
  simp [ho, hx, hy, hr, Result.andThen]
set_option maxHeartbeats 2000000 in
set_option maxRecDepth 100000 in
theorem CopyStrings_any (A : Option Addr) (n c : Nat) (l : List ByteArray) (hn : n ≤ 1000000) (w : World) (h : StrAt w A n c l) :
    Calls Try.prog 33 #[.slice A n c] w fun e w' => ∃ v', e = .returned v' ∧ w'.ownsRow w.heap.size 9 1 v' n (strs l) ∧ Below w.heap.size w w' := by
  have H := Lib.hid h
  clear h
  go_enter Try.func33, Try.ntmps33
  go_upto_region 1 with (fail)
  apply wp_region_lit
  iterate 2 (refine wl_k rfl (fun K hK => ?_); go_simp; refine hK _ ?_; clear hK K)
  obtain ⟨w1, hr, ho, hg⟩ := run_mk29 (w := w) hn (Nat.le_refl w.heap.size)
  refine wl_w rfl (ex_mkS _ _ rfl rfl rfl hr) ?_
  simp only [Zq]
  have hb := (Below.refl w.heap.size w).grown hg (Nat.le_refl _) (fun q hq => by cases hq)
  have HO := Lib.hid ho
  have HB := Lib.hid hb
  clear hr ho hg hb
  refine wl_k rfl (fun K hK => ?_); go_simp; refine hK _ ?_; clear hK K
  go_wp2_with fail
  go_loopw [3, 4] (fun v i wr => ∃ j : Nat, j ≤ n ∧ i = .int .i64 (j : Int) ∧ Hid (wr.ownsRow w.heap.size 9 1 v j (strs (l.take j))) ∧ Hid (Below w.heap.size w wr)) (fun _ i _ => n - (intOf i).toNat)
  case atStart => exact ⟨0, by omega, rfl, HO, HB⟩
  case round =>
    clear HO HB
    obtain ⟨j, hj, rfl, HO, HB⟩ := hrel
    by_cases hlt : j < n
    · have hltI : (j : Int) < (n : Int) := by omega
      obtain ⟨o, ho⟩ : ∃ o, l[j]? = some o := ⟨_, List.getElem?_eq_getElem (by rw [H.out.1]; exact hlt)⟩
      obtain ⟨ad, rfl, hca⟩ := H.out.cell ho
      have hkey := below_cell HB.out hca
      have HOJ := Lib.hid ho
      clear ho hca
      go_upto_region 5 with (fail)
      apply wp_region_lit
      iterate 4 (refine wl_k rfl (fun K hK => ?_); go_simp; refine hK _ ?_; clear hK K)
      ((with_reducible apply wl_oneG); exact rfl; exact rfl; exact one9 hkey)
      simp only [Zq]
      obtain ⟨v', w', hr, hown, hgr, -⟩ := run_push29 o 29 HO.out HB.out.size (show j ≤ 1000000 by omega)
      have hba := HB.out.alloc (by have := HB.out.size; omega) (.cells #[.string o] 9)
      have hbg := hba.grown hgr hba.size (fun q hq => (HO.out.lt q hq).1)
      refine wl_w rfl (ex_bs29_1 _ rfl rfl) ?_
      simp only [Zq]
      refine wl_w rfl (ex_app29 _ _ rfl rfl rfl hr) ?_
      simp only [Zq]
      have HO2 : Hid (w'.ownsRow w.heap.size 9 1 v' (j + 1) (strs (l.take (j + 1)))) := Lib.hid (by rw [List.take_add_one, HOJ.out]; exact hown)
      have HB2 := Lib.hid hbg
      clear hr hown hgr hba hbg HO HB
      go_wp2_with fail
      go_roundw
      case rel => exact ⟨j + 1, by omega, by go_num, HO2, HB2⟩
      case measure => simp [intOf]; omega
    · obtain rfl : j = n := by omega
      go_wp2_with fail
      go_ret
      refine ⟨_, rfl, ?_, HB.out⟩
      have h := HO.out
      rwa [List.take_of_length_le (by rw [H.out.1]; exact Nat.le_refl _)] at h
section
variable {α : Type} (d : α) (le : α → α → Prop)
/-- insertion under way: the element at k belongs no further right than it stands -/
def Ins (L : List α) (i k : Nat) : Prop := k ≤ i ∧ (∀ a b, a < b → b ≤ i → a ≠ k → b ≠ k → le (L.getD a d) (L.getD b d)) ∧ ∀ b, k < b → b ≤ i → le (L.getD k d) (L.getD b d)
def swp (L : List α) (k : Nat) : List α := (L.set k (L.getD (k - 1) d)).set (k - 1) (L.getD k d)
theorem swp_get {L : List α} {k : Nat} (hk : 0 < k) (hl : k < L.length) (j : Nat) : (swp d L k).getD j d = if j = k - 1 then L.getD k d else if j = k then L.getD (k - 1) d else L.getD j d := by
  unfold swp
  simp only [List.getD_eq_getElem?_getD, List.getElem?_set]
  by_cases h1 : j = k - 1
  · subst h1
    rw [if_pos rfl, if_pos rfl, if_pos (by rw [List.length_set]; omega)]; rfl
  · rw [if_neg (fun e => h1 e.symm), if_neg h1]
    by_cases h2 : j = k
    · subst h2
      rw [if_pos rfl, if_pos rfl, if_pos hl]; rfl
    · rw [if_neg (fun e => h2 e.symm), if_neg h2]
theorem swp_perm {L : List α} {k : Nat} (hk : 0 < k) (hl : k < L.length) : (swp d L k).Perm L := by
  obtain ⟨m, rfl⟩ : ∃ m, k = m + 1 := ⟨k - 1, by omega⟩
  have e1 : L.getD m d = L[m] := by rw [List.getD_eq_getElem?_getD, List.getElem?_eq_getElem (by omega)]; rfl
  have e2 : L.getD (m + 1) d = L[m + 1] := by rw [List.getD_eq_getElem?_getD, List.getElem?_eq_getElem hl]; rfl
  have hL : L = L.take m ++ L[m] :: L[m + 1] :: L.drop (m + 2) := by
    rw [← List.drop_eq_getElem_cons hl, ← List.drop_eq_getElem_cons (by omega), List.take_append_drop]
  have hs : swp d L (m + 1) = L.take m ++ L[m + 1] :: L[m] :: L.drop (m + 2) := by
    unfold swp
    rw [Nat.add_sub_cancel, e1, e2]
    apply List.ext_getElem?
    intro j
    rw [List.getElem?_set, List.getElem?_set, List.length_set]
    have ht : (L.take m).length = m := by rw [List.length_take]; omega
    by_cases h1 : m = j
    · subst h1
      rw [if_pos rfl, if_pos (by omega), List.getElem?_append_right (by omega), ht, Nat.sub_self]; rfl
    · rw [if_neg h1]
      by_cases h2 : m + 1 = j
      · subst h2
        rw [if_pos rfl, if_pos hl, List.getElem?_append_right (by omega), ht, show m + 1 - m = 1 by omega]; rfl
      · rw [if_neg h2]
        by_cases h3 : j < m
        · rw [List.getElem?_append_left (by omega), List.getElem?_take_of_lt h3]
        · rw [List.getElem?_append_right (by omega), ht, show j - m = (j - m - 2) + 2 by omega, List.getElem?_cons_succ, List.getElem?_cons_succ, List.getElem?_drop]
          congr 1; omega
  rw [hs]
  conv => rhs; rw [hL]
  exact (List.Perm.swap _ _ _).append_left _
variable {d le}
theorem ins_start {L : List α} {i : Nat} (h : ∀ a b, a < b → b < i → le (L.getD a d) (L.getD b d)) : Ins d le L i i :=
  ⟨Nat.le_refl _, fun a b h1 h2 h3 h4 => h a b h1 (by omega), fun b h1 h2 => by omega⟩
theorem ins_step {L : List α} {i k : Nat} (h : Ins d le L i k) (hk : 0 < k) (hi : i < L.length) (hle : le (L.getD k d) (L.getD (k - 1) d)) : Ins d le (swp d L k) i (k - 1) := by
  obtain ⟨h1, h2, h3⟩ := h
  have g := fun j => swp_get d (L := L) hk (by omega) j
  refine ⟨by omega, fun a b hab hb ha1 hb1 => ?_, fun b hb1 hb2 => ?_⟩
  · rw [g, g, if_neg ha1, if_neg hb1]
    by_cases ea : a = k
    · rw [if_pos ea, if_neg (by omega)]; exact h2 (k - 1) b (by omega) hb (by omega) (by omega)
    · rw [if_neg ea]
      by_cases eb : b = k
      · rw [if_pos eb]; exact h2 a (k - 1) (by omega) (by omega) ea (by omega)
      · rw [if_neg eb]; exact h2 a b hab hb ea eb
  · rw [g, g, if_pos rfl, if_neg (by omega)]
    by_cases eb : b = k
    · rw [if_pos eb]; exact hle
    · rw [if_neg eb]; exact h3 b (by omega) hb2
theorem ins_end (ht : ∀ x y z, le x y → le y z → le x z) {L : List α} {i k : Nat} (h : Ins d le L i k) (he : k = 0 ∨ le (L.getD (k - 1) d) (L.getD k d)) : ∀ a b, a < b → b < i + 1 → le (L.getD a d) (L.getD b d) := fun a b hab hb => by
  obtain ⟨h1, h2, h3⟩ := h
  by_cases ea : a = k
  · subst ea; exact h3 b hab (by omega)
  · by_cases eb : b = k
    · subst eb
      have he' := he.resolve_left (by omega)
      by_cases e : a = b - 1
      · subst e; exact he'
      · exact ht _ _ _ (h2 a (b - 1) (by omega) (by omega) ea (by omega)) he'
    · exact h2 a b hab (by omega) ea eb
theorem ins_all {L : List α} (h : ∀ a b, a < b → b < L.length → le (L.getD a d) (L.getD b d)) : L.Pairwise le :=
  List.pairwise_iff_getElem.2 fun a b ha hb hab => by
    have h1 := h a b hab hb
    rwa [List.getD_eq_getElem?_getD, List.getD_eq_getElem?_getD, List.getElem?_eq_getElem ha, List.getElem?_eq_getElem hb] at h1
end
theorem own_setN {w : World} {B p cap n : Nat} {l : List ByteArray} (h : w.ownsRow B 9 1 (.slice (some ⟨p, 0, none⟩) n cap) n (strs l)) (hl : l.length = n) (i : Nat) (k : ByteArray) :
    (w.setCell ⟨p, i, none⟩ (.string k)).ownsRow B 9 1 (.slice (some ⟨p, 0, none⟩) n cap) n (strs (l.set i k)) := by
  subst hl
  have := own_setS h i k
  rwa [List.length_set] at this
theorem own_there {w : World} {B p cap n : Nat} {l : List ByteArray} (h : w.ownsRow B 9 1 (.slice (some ⟨p, 0, none⟩) n cap) n (strs l)) (hl : l.length = n) {i : Nat} (hi : i < n) : (w.cell? ⟨p, i, none⟩).isSome = true := by
  rw [h.cellAt i (by omega)]
  unfold strs
  rw [List.getElem?_map, List.getElem?_eq_getElem (by omega)]; rfl
set_option maxHeartbeats 4000000 in
set_option maxRecDepth 100000 in
theorem SortedI_any (A : Option Addr) (n c : Nat) (l : List ByteArray) (hn : n ≤ 100000) (w : World) (h : StrAt w A n c l) :
    Calls Try.prog 28 #[.slice A n c] w fun e w' => ∃ v', e = .returned v' ∧ w'.ownsRow w.heap.size 9 1 v' n (strs (sortL l)) ∧ Below w.heap.size w w' := by
  have H := Lib.hid h
  have HN := Lib.hid h.1
  clear h
  go_enter Try.func28, Try.ntmps28
  go_upto_region 1 with (fail)
  apply wp_region_lit
  refine wl_k rfl (fun K hK => ?_); go_simp; refine hK _ ?_; clear hK K
  refine wl_ck rfl (fun K hK => ?_); go_simp; refine ⟨_, _, ⟨rfl, rfl⟩, hK _ _ ⟨_, CopyStrings_any A n c l (by omega) _ H.out, ?_⟩⟩; clear hK K; rintro e w1 ⟨v', rfl, ho, hb⟩; refine ⟨_, rfl, ?_⟩; simp only [Zq]
  have HO := Lib.hid ho
  have HB := Lib.hid hb
  obtain ⟨P, d, rfl⟩ := own_shape ho
  clear ho hb
  go_wp2_with fail
  go_loopw [4] (fun i wr => ∃ (j : Nat) (L : List ByteArray), j ≤ n ∧ i = .int .i64 (j : Int) ∧ Hid (L.Perm l) ∧ Hid (∀ a b, a < b → b < j → leB (L.getD a ByteArray.empty) (L.getD b ByteArray.empty)) ∧ Hid (wr.ownsRow w.heap.size 9 1 (.slice P n d) n (strs L)) ∧ Hid (Below w.heap.size w wr)) (fun i _ => n - (intOf i).toNat)
  case atStart => exact ⟨0, l, by omega, rfl, Lib.hid (List.Perm.refl _), Lib.hid (fun a b h1 h2 => by omega), HO, HB⟩
  case round =>
    clear HO HB
    obtain ⟨i, L0, hi, rfl, HP0, HS0, HO, HB⟩ := hrel
    by_cases hin : i < n
    · have hiI : (i : Int) < (n : Int) := by omega
      obtain ⟨p, d', e, hcap⟩ := own_s HO.out (by omega)
      simp only [Value.slice.injEq] at e
      obtain ⟨rfl, -, rfl⟩ := e
      have HI := Lib.hid (ins_start HS0.out)
      go_upto_region 5 with (fail)
      apply wp_region_lit
      iterate 2 (refine wl_k rfl (fun K hK => ?_); go_simp; refine hK _ ?_; clear hK K)
      clear HS0
      go_wp2_with fail
      go_loopw [5] (fun kv wr2 => ∃ (k : Nat) (L : List ByteArray), kv = .int .i64 (k : Int) ∧ k ≤ i ∧ Hid (L.Perm l) ∧ Hid (Ins ByteArray.empty leB L i k) ∧ Hid (wr2.ownsRow w.heap.size 9 1 (.slice (some ⟨p, 0, none⟩) n d) n (strs L)) ∧ Hid (Below w.heap.size w wr2)) (fun kv _ => (intOf kv).toNat)
      case atStart => exact ⟨i, L0, rfl, Nat.le_refl _, HP0, HI, HO, HB⟩
      case round =>
        clear HP0 HI HO HB
        obtain ⟨k, L, rfl, hki, HP, HI, HO, HB⟩ := hrel
        have hLn := HP.out.length_eq.trans HN.out
        have hzp := (HO.out.lt p rfl).1
        by_cases hk0 : k = 0
        · subst hk0
          have HE := Lib.hid (ins_end (le := leB) (fun _ _ _ h1 h2 => leB_trans h1 h2) HI.out (Or.inl rfl))
          go_upto_region 6 with (fail)
          refine wp_region_held_drew (S := Below w.heap.size w) mixed HB.out.drew (fun hS => ?_)
          refine hk3 (i := 0) rfl (by kernel_rfl) Zh hS rfl (fun K hK => ?_); go_simp; refine hK _ ?_; clear hK K; try simp only [Zq]
          refine hk3 (i := 1) rfl (by kernel_rfl) Zh hS rfl (fun K hK => ?_); go_simp; refine hK _ ?_; clear hK K; try simp only [Zq]
          refine hk3 (i := 2) rfl (by kernel_rfl) Zh hS rfl (fun K hK => ?_); go_simp; refine hK _ ?_; clear hK K; try simp only [Zq]
          refine hs3 (i := 3) rfl (by kernel_rfl) Zg hS rfl ?_; simp only [Zy]
          refine hs3 (i := 4) rfl (by kernel_rfl) Zg hS rfl ?_; simp only [Zy]
          refine hs3 (i := 5) rfl (by kernel_rfl) Zg hS rfl ?_; simp only [Zy]
          refine hs3 (i := 6) rfl (by kernel_rfl) Zg hS rfl ?_; simp only [Zy]
          refine hs3 (i := 7) rfl (by kernel_rfl) Zg hS rfl ?_; simp only [Zy]
          refine hs3 (i := 8) rfl (by kernel_rfl) Zg hS rfl ?_; simp only [Zy]
          refine hs3 (i := 9) rfl (by kernel_rfl) Zg hS rfl ?_; simp only [Zy]
          refine hs3 (i := 10) rfl (by kernel_rfl) Zg hS rfl ?_; simp only [Zy]
          refine hs3 (i := 11) rfl (by kernel_rfl) Zg hS rfl ?_; simp only [Zy]
          refine hs3 (i := 12) rfl (by kernel_rfl) Zg hS rfl ?_; simp only [Zy]
          refine hk3 (i := 13) rfl (by kernel_rfl) Zh hS rfl (fun K hK => ?_); go_simp; refine hK _ ?_; clear hK K; try simp only [Zq]
          refine wpAnyH_done (by kernel_rfl) ?_ _
          have HO2 := Lib.hid (own_below HO.out (Below.refl _ wr).drew)
          have HB2 := Lib.hid hS
          go_wp2_with fail
          go_roundw
          case rel => exact ⟨i + 1, L, by omega, by go_num, HP, HE, HO2, HB2⟩
          case measure => simp [intOf]; omega
        · have hkI : (0 : Int) < (k : Int) := by omega
          have hkN : 0 < k := by omega
          have hdN : decide (0 < k) = true := by simpa using hkN
          have hk1 : IntKind.i64.wrap ((k : Int) - 1) = ((k - 1 : Nat) : Int) := by rw [wrap_small _ (by omega) (by omega)]; omega
          have hkn : k < n := by omega
          have hkn1 : k - 1 < n := by omega
          have hxk : L[k]? = some (L.getD k ByteArray.empty) := by rw [List.getD_eq_getElem?_getD, List.getElem?_eq_getElem (by omega)]; rfl
          have hxk1 : L[k - 1]? = some (L.getD (k - 1) ByteArray.empty) := by rw [List.getD_eq_getElem?_getD, List.getElem?_eq_getElem (by omega)]; rfl
          obtain ⟨x, hx⟩ : ∃ x, x = L.getD k ByteArray.empty := ⟨_, rfl⟩
          obtain ⟨y, hy⟩ : ∃ y, y = L.getD (k - 1) ByteArray.empty := ⟨_, rfl⟩
          have HX := Lib.hid hx
          have HY := Lib.hid hy
          have hc1 : wr.cell? ⟨p, k, none⟩ = some (.string x) := by rw [HO.out.cellAt k (by omega), hx]; exact strs_get hxk
          have hc2 : wr.cell? ⟨p, k - 1, none⟩ = some (.string y) := by rw [HO.out.cellAt (k - 1) (by omega), hy]; exact strs_get hxk1
          clear hxk hxk1 hx hy
          go_upto_region 6 with (fail)
          refine wp_region_held_drew (S := Kept [] wr) mixed (Kept.drew [] wr) (fun hS => ?_)
          refine hk3 (i := 0) rfl (by kernel_rfl) Zh hS rfl (fun K hK => ?_); go_simp; refine hK _ ?_; clear hK K; try simp only [Zq]
          refine hk3 (i := 1) rfl (by kernel_rfl) Zh hS rfl (fun K hK => ?_); go_simp; refine hK _ ?_; clear hK K; try simp only [Zq]
          refine hk3 (i := 2) rfl (by kernel_rfl) Zh hS rfl (fun K hK => ?_); go_simp; refine hK _ ?_; clear hK K; try simp only [Zq]
          refine hk3 (i := 3) rfl (by kernel_rfl) Zh hS rfl (fun K hK => ?_); go_simp; refine hK _ ?_; clear hK K; try simp only [Zq]
          refine hk3 (i := 4) rfl (by kernel_rfl) Zh hS rfl (fun K hK => ?_); go_simp; refine hK _ ?_; clear hK K; try simp only [Zq]
          refine ha_val (i := 5) (v := .pointer (some ⟨p, k, none⟩)) rfl (by kernel_rfl) (by kernel_rfl) (by kernel_rfl) (fun _ _ _ h => h) hS (by kernel_rfl) (fun w' _ => (ex_ixS (j := k) _ _ rfl rfl rfl hkn).trans (by rw [Addr.add_mid, Nat.zero_add])) ?_; try simp only [Zq]
          refine hv3 (i := 6) rfl (by kernel_rfl) Zg hS (by kernel_rfl) (fun w' hw' => ex_one rfl (one9 (hw'.cell hc1 (by simp)))) ?_; try simp only [Zq]
          refine hk3 (i := 7) rfl (by kernel_rfl) Zh hS rfl (fun K hK => ?_); go_simp; refine hK _ ?_; clear hK K; try simp only [Zq]
          refine hk3 (i := 8) rfl (by kernel_rfl) Zh hS rfl (fun K hK => ?_); go_simp; refine hK _ ?_; clear hK K; try simp only [Zq]
          refine hk3 (i := 9) rfl (by kernel_rfl) Zh hS rfl (fun K hK => ?_); go_simp; refine hK _ ?_; clear hK K; try simp only [Zq]
          try rw [hk1]
          refine ha_val (i := 10) (v := .pointer (some ⟨p, k - 1, none⟩)) rfl (by kernel_rfl) (by kernel_rfl) (by kernel_rfl) (fun _ _ _ h => h) hS (by kernel_rfl) (fun w' _ => (ex_ixS (j := k - 1) _ _ rfl rfl rfl hkn1).trans (by rw [Addr.add_mid, Nat.zero_add])) ?_; try simp only [Zq]
          refine hv3 (i := 11) rfl (by kernel_rfl) Zg hS (by kernel_rfl) (fun w' hw' => ex_one rfl (one9 (hw'.cell hc2 (by simp)))) ?_; try simp only [Zq]
          refine hk3 (i := 12) rfl (by kernel_rfl) Zh hS rfl (fun K hK => ?_); go_simp; refine hK _ ?_; clear hK K; try simp only [Zq]
          rw [show Op.bytesLess x.toList y.toList = ltB x y from rfl]
          refine hk3 (i := 13) rfl (by kernel_rfl) Zh hS rfl (fun K hK => ?_); go_simp; refine hK _ ?_; clear hK K; try simp only [Zq]
          refine wpAnyH_done (by kernel_rfl) ?_ _
          have HOd := Lib.hid (own_below HO.out (Below.refl _ wr).drew)
          replace HB := Lib.hid HB.out.drew
          replace hc1 : wr.drew.cell? _ = _ := hc1
          replace hc2 : wr.drew.cell? _ = _ := hc2
          clear hS HO
          generalize wr.drew = wr at *
          obtain ⟨q, hq⟩ : ∃ q, q = ltB x y := ⟨_, rfl⟩
          have HQ := Lib.hid hq
          rw [← hq]
          clear hq
          cases q with
          | true =>
            have hth1 : (wr.cell? ⟨p, k, none⟩).isSome = true := by rw [hc1]; rfl
            have hfr1 := HOd.out.frozenAt k
            have HLE : Hid (leB (L.getD k ByteArray.empty) (L.getD (k - 1) ByteArray.empty)) := Lib.hid (leB_of_lt (by rw [← HX.out, ← HY.out]; exact HQ.out.symm))
            have HIS := Lib.hid (ins_step HI.out (by omega) (by omega) HLE.out)
            have HPS := Lib.hid ((swp_perm ByteArray.empty (L := L) (k := k) (by omega) (by omega)).trans HP.out)
            have HSW : Hid (swp ByteArray.empty L k = (L.set k y).set (k - 1) x) := Lib.hid (by unfold swp; rw [← HX.out, ← HY.out])
            clear HLE HQ HI HP
            go_upto_region 8 with (fail)
            refine wp_region_held_drew (S := Kept [p] wr) mixed (Kept.drew [p] wr) (fun hS => ?_)
            refine hk3 (i := 0) rfl (by kernel_rfl) Zh hS rfl (fun K hK => ?_); go_simp; refine hK _ ?_; clear hK K; try simp only [Zq]
            refine hk3 (i := 1) rfl (by kernel_rfl) Zh hS rfl (fun K hK => ?_); go_simp; refine hK _ ?_; clear hK K; try simp only [Zq]
            refine hk3 (i := 2) rfl (by kernel_rfl) Zh hS rfl (fun K hK => ?_); go_simp; refine hK _ ?_; clear hK K; try simp only [Zq]
            refine hk3 (i := 3) rfl (by kernel_rfl) Zh hS rfl (fun K hK => ?_); go_simp; refine hK _ ?_; clear hK K; try simp only [Zq]
            refine hk3 (i := 4) rfl (by kernel_rfl) Zh hS rfl (fun K hK => ?_); go_simp; refine hK _ ?_; clear hK K; try simp only [Zq]
            refine hk3 (i := 5) rfl (by kernel_rfl) Zh hS rfl (fun K hK => ?_); go_simp; refine hK _ ?_; clear hK K; try simp only [Zq]
            refine hk3 (i := 6) rfl (by kernel_rfl) Zh hS rfl (fun K hK => ?_); go_simp; refine hK _ ?_; clear hK K; try simp only [Zq]
            refine hk3 (i := 7) rfl (by kernel_rfl) Zh hS rfl (fun K hK => ?_); go_simp; refine hK _ ?_; clear hK K; try simp only [Zq]
            try rw [hk1]
            refine ha_val (i := 8) (v := .pointer (some ⟨p, k - 1, none⟩)) rfl (by kernel_rfl) (by kernel_rfl) (by kernel_rfl) (fun _ _ _ h => h) hS (by kernel_rfl) (fun w' _ => (ex_ixS (j := k - 1) _ _ rfl rfl rfl hkn1).trans (by rw [Addr.add_mid, Nat.zero_add])) ?_; try simp only [Zq]
            refine hk3 (i := 10) rfl (by kernel_rfl) Zh hS rfl (fun K hK => ?_); go_simp; refine hK _ ?_; clear hK K; try simp only [Zq]
            refine hk3 (i := 11) rfl (by kernel_rfl) Zh hS rfl (fun K hK => ?_); go_simp; refine hK _ ?_; clear hK K; try simp only [Zq]
            refine ha_val (i := 12) (v := .pointer (some ⟨p, k, none⟩)) rfl (by kernel_rfl) (by kernel_rfl) (by kernel_rfl) (fun _ _ _ h => h) hS (by kernel_rfl) (fun w' _ => (ex_ixS (j := k) _ _ rfl rfl rfl hkn).trans (by rw [Addr.add_mid, Nat.zero_add])) ?_; try simp only [Zq]
            have hd1 : wr.drew.cell? ⟨p, k, none⟩ = some (.string x) := hc1
            have hd2 : wr.drew.cell? ⟨p, k - 1, none⟩ = some (.string y) := hc2
            refine ha_two (i := 9) (j := 13) (by kernel_rfl) ?_ ?_
            · refine sh_val (i := 9) rfl rfl (ex_one rfl (one9 hd2)) hS ?_; try simp only [Zq]
              refine ha_do (i := 13) (by kernel_rfl) rfl rfl (ex_one rfl (one9 hd1)) hS ?_; try simp only [Zq]
              refine ha_val (i := 14) (v := .pointer (some ⟨p, k, none⟩)) rfl (by kernel_rfl) (by kernel_rfl) (by kernel_rfl) (fun _ _ _ h => h) hS (by kernel_rfl) (fun w' _ => (ex_ixS (j := k) _ _ rfl rfl rfl hkn).trans (by rw [Addr.add_mid, Nat.zero_add])) ?_; try simp only [Zq]
              have hown1 : (wr.drew.setCell ⟨p, k, none⟩ (.string y)).ownsRow w.heap.size 9 1 (.slice (some ⟨p, 0, none⟩) n d) n (strs (L.set k y)) := own_setN HOd.out hLn k y
              have hth2 : ((wr.drew.setCell ⟨p, k, none⟩ (.string y)).cell? ⟨p, k - 1, none⟩).isSome = true := own_there hown1 (by rw [List.length_set, hLn]) (by omega)
              have hfr2 := hown1.frozenAt (k - 1)
              refine ha_storeC (i := 15) (by kernel_rfl) rfl rfl 9 _ _ rfl p k (.string y) rfl rfl (by kernel_rfl) rfl hth1 hfr1 (hS.setCell (by simp) k _) (fun hS => ?_); try simp only [Zq]
              refine ha_val (i := 16) (v := .pointer (some ⟨p, k - 1, none⟩)) rfl (by kernel_rfl) (by kernel_rfl) (by kernel_rfl) (fun _ _ _ h => h) hS (by kernel_rfl) (fun w' _ => (ex_ixS (j := k - 1) _ _ rfl rfl rfl hkn1).trans (by rw [Addr.add_mid, Nat.zero_add])) ?_; try simp only [Zq]
              refine ha_storeC (i := 17) (by kernel_rfl) rfl rfl 9 _ _ rfl p (k - 1) (.string x) rfl rfl (by kernel_rfl) rfl hth2 hfr2 (hS.setCell (by simp) (k - 1) _) (fun hS => ?_); try simp only [Zq]
              refine wpAnyH_done (by kernel_rfl) ?_ _
              have HO2 : Hid (World.ownsRow _ w.heap.size 9 1 (.slice (some ⟨p, 0, none⟩) n d) n (strs (swp ByteArray.empty L k))) := Lib.hid (by rw [HSW.out]; exact own_setN hown1 (by rw [List.length_set, hLn]) (k - 1) x)
              have HB2 := Lib.hid (HB.out.trans (hS.toBelow HB.out.size (fun q hq => by simp at hq; omega)))
              clear hown1 hth2 hfr2 hS
              go_wp2_with fail
              go_roundw
              case rel => exact ⟨k - 1, swp ByteArray.empty L k, rfl, by omega, HPS, HIS, HO2, HB2⟩
              case measure => simp [intOf]; omega
            · refine sh_val (i := 13) rfl rfl (ex_one rfl (one9 hd1)) hS ?_; try simp only [Zq]
              refine ha_do (i := 9) (by kernel_rfl) rfl rfl (ex_one rfl (one9 hd2)) hS ?_; try simp only [Zq]
              refine ha_val (i := 14) (v := .pointer (some ⟨p, k, none⟩)) rfl (by kernel_rfl) (by kernel_rfl) (by kernel_rfl) (fun _ _ _ h => h) hS (by kernel_rfl) (fun w' _ => (ex_ixS (j := k) _ _ rfl rfl rfl hkn).trans (by rw [Addr.add_mid, Nat.zero_add])) ?_; try simp only [Zq]
              have hown1 : (wr.drew.setCell ⟨p, k, none⟩ (.string y)).ownsRow w.heap.size 9 1 (.slice (some ⟨p, 0, none⟩) n d) n (strs (L.set k y)) := own_setN HOd.out hLn k y
              have hth2 : ((wr.drew.setCell ⟨p, k, none⟩ (.string y)).cell? ⟨p, k - 1, none⟩).isSome = true := own_there hown1 (by rw [List.length_set, hLn]) (by omega)
              have hfr2 := hown1.frozenAt (k - 1)
              refine ha_storeC (i := 15) (by kernel_rfl) rfl rfl 9 _ _ rfl p k (.string y) rfl rfl (by kernel_rfl) rfl hth1 hfr1 (hS.setCell (by simp) k _) (fun hS => ?_); try simp only [Zq]
              refine ha_val (i := 16) (v := .pointer (some ⟨p, k - 1, none⟩)) rfl (by kernel_rfl) (by kernel_rfl) (by kernel_rfl) (fun _ _ _ h => h) hS (by kernel_rfl) (fun w' _ => (ex_ixS (j := k - 1) _ _ rfl rfl rfl hkn1).trans (by rw [Addr.add_mid, Nat.zero_add])) ?_; try simp only [Zq]
              refine ha_storeC (i := 17) (by kernel_rfl) rfl rfl 9 _ _ rfl p (k - 1) (.string x) rfl rfl (by kernel_rfl) rfl hth2 hfr2 (hS.setCell (by simp) (k - 1) _) (fun hS => ?_); try simp only [Zq]
              refine wpAnyH_done (by kernel_rfl) ?_ _
              have HO2 : Hid (World.ownsRow _ w.heap.size 9 1 (.slice (some ⟨p, 0, none⟩) n d) n (strs (swp ByteArray.empty L k))) := Lib.hid (by rw [HSW.out]; exact own_setN hown1 (by rw [List.length_set, hLn]) (k - 1) x)
              have HB2 := Lib.hid (HB.out.trans (hS.toBelow HB.out.size (fun q hq => by simp at hq; omega)))
              clear hown1 hth2 hfr2 hS
              go_wp2_with fail
              go_roundw
              case rel => exact ⟨k - 1, swp ByteArray.empty L k, rfl, by omega, HPS, HIS, HO2, HB2⟩
              case measure => simp [intOf]; omega
          | false =>
            have HE := Lib.hid (ins_end (le := leB) (fun _ _ _ h1 h2 => leB_trans h1 h2) HI.out (Or.inr (by unfold leB; rw [← HX.out, ← HY.out]; exact HQ.out.symm)))
            go_wp2_with fail
            go_roundw
            case rel => exact ⟨i + 1, L, by omega, by go_num, HP, HE, HOd, HB⟩
            case measure => simp [intOf]; omega
    · obtain rfl : i = n := by omega
      go_wp2_with fail
      go_ret
      refine ⟨_, rfl, ?_, HB.out⟩
      rw [← sortL_of (ins_all (d := ByteArray.empty) (fun a b h1 h2 => HS0.out a b h1 (by rw [HP0.out.length_eq, HN.out] at h2; exact h2))) HP0.out]
      exact HO.out
open Go.RowKit Go.Proofs.Ytbhdgeoljlhmcaa.Nm Go.Proofs.Ytbhdgeoljlhmcaa.St
set_option linter.unusedSimpArgs false
abbrev Ent := ByteArray × Int
def noE : Ent := (ByteArray.empty, 0)
def leE (a b : Ent) : Prop := leB a.1 b.1
theorem leE_trans {x y z : Ent} (h1 : leE x y) (h2 : leE y z) : leE x z := leB_trans h1 h2
/-- entries sorted by keys that are apart are the same when they are the same entries -/
theorem ent_uniq {a b : List Ent} (ha : a.Pairwise leE) (hb : b.Pairwise leE) (hd : Apt a) (h : a.Perm b) : a = b := by
  refine List.Perm.eq_of_pairwise (le := fun x y => leE x y) (fun x y hx hy h1 h2 => ?_) ha hb h
  have e : x.1 = y.1 := ltB_anti h2 h1
  have hy' := h.mem_iff.2 hy
  obtain ⟨k, v⟩ := x
  obtain ⟨k', v'⟩ := y
  simp only at e
  subst e
  rw [apt_one hd hx hy']
theorem prow_one (l : List Ent) : ∀ u ∈ prow l, u.oneCell' = true := by
  intro u hu
  simp only [prow, List.mem_flatMap] at hu
  obtain ⟨e, _, he⟩ := hu
  simp at he
  rcases he with rfl | rfl <;> rfl
theorem prow_append (l m : List Ent) : prow (l ++ m) = prow l ++ prow m := by simp [prow]
theorem own_cells {w : World} {B n e size : Nat} {v : Value} {xs : List Value} (h : w.ownsRow B e size v n xs) {p cap : Nat} (hv : v = .slice (some ⟨p, 0, none⟩) n cap) : ∀ j u, xs[j]? = some u → w.cell? ((⟨p, 0, none⟩ : Addr).add j) = some u := fun j u hj => by
  rcases h.2 with ⟨h0, _⟩ | ⟨g, cap0, cur, hv2, hB, hg, h1, h2, h3, h4⟩
  · rw [hv] at h0; cases h0
  · rw [hv] at hv2
    cases hv2
    have hjl := (List.getElem?_eq_some_iff.1 hj).1
    rw [Addr.add_mid, Nat.zero_add, cell_of_row _ _ _ _ _ _ hg, ← Array.getElem?_toList]
    rw [← h4, List.getElem?_take_of_lt (by rw [h.1] at hjl; exact hjl)] at hj
    exact hj
/-- entries appended -/
theorem run_app30 {w : World} {B B2 n m : Nat} {v v2 : Value} {l l2 : List Ent} (ty : TypeId) (ho : w.ownsRow B 91 2 v n (prow l)) (hs : w.ownsRow B2 91 2 v2 m (prow l2)) (hB : B ≤ w.heap.size) (h1 : n ≤ 1000000) (h2 : m ≤ 1000000) :
    ∃ v' w', (Builtin.append_ #[30, 30] ty #[v, v2]).run Try.prog w = .ok v' w' ∧ w'.ownsRow B 91 2 v' (n + m) (prow (l ++ l2)) ∧ w.grownBy w' v.ownBlock := by
  obtain ⟨i0, hi, hz0, hz1, hz2⟩ := info_parts infoP
  rcases hs.2 with ⟨rfl, rfl⟩ | ⟨g, cap, cur, hv, hB2, hg, g1, g2, g3, g4⟩
  · have hl : l2 = [] := by
      have h9 := hs.1
      rw [prow_length] at h9
      exact List.length_eq_zero_iff.1 (by omega)
    subst hl
    exact ⟨v, w, run_append_owned_none w B 30 ty 91 i0 2 u30 hi v n _ ho, by simpa using ho, ⟨rfl, rfl, rfl, Nat.le_refl _, fun _ _ _ => rfl⟩⟩
  · subst hv
    obtain ⟨v', w', hr, h3, h4, _, _⟩ := run_append_own_at (P := Try.prog) w B 30 ty 91 i0 _ 2 24 u30 hi hz0 hz1 hz2 rfl (by decide) v n (prow l) ho ⟨g, 0, none⟩ m cap (prow l2) hs.1 (own_cells hs rfl) (prow_one _) (by unfold maxLen; omega) (by omega) hB
    exact ⟨v', w', hr, by rw [prow_append]; exact h3, h4⟩
theorem run_bs30 (w : World) : (Instr.buildSlice 30 0 #[]).run Try.prog w = .ok (.slice (some ⟨w.heap.size, 0, none⟩) 0 0) (w.alloc (.cells #[] 91)) := by kernel_rfl
theorem ex_bs30 {ev : Operand → Value} {o : Oper} {w : World} (ho : o.op = .buildSlice 30 0 #[]) :
    (execOp ev o).run Try.prog w = .ok (.value (.slice (some ⟨w.heap.size, 0, none⟩) 0 0)) (w.alloc (.cells #[] 91)) := by
  unfold execOp
  have := run_bs30 w
  simp [ho, this, Result.andThen]
/-- a cell of a row of one's own changed -/
theorem own_setG {w : World} {B p cap n e size : Nat} {xs : List Value} (h : w.ownsRow B e size (.slice (some ⟨p, 0, none⟩) n cap) n xs) (i : Nat) (v : Value) :
    (w.setCell ⟨p, i, none⟩ v).ownsRow B e size (.slice (some ⟨p, 0, none⟩) n cap) n (xs.set i v) := by
  rcases h.2 with ⟨h0, _⟩ | ⟨p0, cap0, cur, hv, hB, hg, h1, h2, h3, h4⟩
  · cases h0
  · cases hv
    refine ⟨by rw [List.length_set]; exact h.1, Or.inr ⟨p, cap, cur.setIfInBounds i v, rfl, hB, hs_new hg, h1, h2, by simpa using h3, ?_⟩⟩
    rw [Array.toList_setIfInBounds, List.take_set, h4]
theorem prow_set : ∀ (L : List Ent) (k : Nat) (e : Ent), prow (L.set k e) = ((prow L).set (k * 2) (.string e.1)).set (k * 2 + 1) (.int .i64 e.2)
  | [], k, e => by simp [prow]
  | x :: L, 0, e => by simp [prow]
  | x :: L, k + 1, e => by
    have ih := prow_set L k e
    simp only [prow, List.set_cons_succ, List.flatMap_cons] at ih ⊢
    rw [ih]
    simp [show (k + 1) * 2 = k * 2 + 2 by omega]
theorem own_setP {w : World} {B p cap n : Nat} {L : List Ent} (h : w.ownsRow B 91 2 (.slice (some ⟨p, 0, none⟩) n cap) n (prow L)) (k : Nat) (e : Ent) :
    (w.setCells p (k * 2) (pair e.1 e.2).toList).ownsRow B 91 2 (.slice (some ⟨p, 0, none⟩) n cap) n (prow (L.set k e)) := by
  rw [prow_set]
  exact own_setG (own_setG h (k * 2) (.string e.1)) (k * 2 + 1) (.int .i64 e.2)
theorem own_thereP {w : World} {B p cap n : Nat} {L : List Ent} (h : w.ownsRow B 91 2 (.slice (some ⟨p, 0, none⟩) n cap) n (prow L)) {k : Nat} (hk : k < n) : w.there p (k * 2) 2 := by
  rcases h.2 with ⟨h0, _⟩ | ⟨p0, cap0, cur, hv, hB, hg, h1, h2, h3, h4⟩
  · cases h0
  · cases hv
    intro j hj
    rw [cell_of_row _ _ _ _ _ _ hg, frozen_of_row _ _ _ _ _ hg, Array.getElem?_eq_getElem (by omega)]
    exact ⟨rfl, rfl⟩
theorem own_rowP {w : World} {B p cap n : Nat} {L : List Ent} (h : w.ownsRow B 91 2 (.slice (some ⟨p, 0, none⟩) n cap) n (prow L)) {k : Nat} {e : Ent} (he : L[k]? = some e) : RowAt w 91 ⟨p, k * 2, none⟩ (pair e.1 e.2) ∧ w.cell? ⟨p, k * 2, none⟩ = some (.string e.1) := by
  have hlen : L.length = n := by have := h.1; rw [prow_length] at this; omega
  subst hlen
  obtain ⟨q, cap', hv, _, hr⟩ := own_pairs (k := e.1) (v := e.2) h he
  cases hv
  refine ⟨hr, ?_⟩
  have := own_cells h rfl (k * 2) _ (prow_get (k := e.1) (v := e.2) he).1
  rwa [Addr.add_mid, Nat.zero_add] at this
set_option maxHeartbeats 4000000 in
set_option maxRecDepth 100000 in
theorem Pairs_any (v : Value) (l : List Ent) (B : Nat) (hn0 : l.length ≤ 100000) (w : World) (h : w.ownsRow B 91 2 v l.length (prow l)) :
    Calls Try.prog 60 #[v] w fun e w' => ∃ v' l', e = .returned v' ∧ l'.Perm l ∧ l'.Pairwise leE ∧ w'.ownsRow w.heap.size 91 2 v' l.length (prow l') ∧ Below w.heap.size w w' := by
  have H := Lib.hid h
  obtain ⟨n, hn⟩ : ∃ n, n = l.length := ⟨_, rfl⟩
  rw [← hn] at hn0 ⊢
  have HN := Lib.hid hn.symm
  have H : Hid (w.ownsRow B 91 2 v n (prow l)) := by rw [hn]; exact Lib.hid h
  clear h hn
  go_enter Try.func60, Try.ntmps60
  go_upto_region 1 with (fail)
  apply wp_region_lit
  refine wl_w rfl (ex_bs30 rfl) ?_
  simp only [Zq]
  have hbz := (Below.refl w.heap.size w).alloc (Nat.le_refl _) (.cells #[] 91)
  obtain ⟨v', w', hr, hown, hgr⟩ := run_app30 (l := []) 30 (own_empty w 91 2) (own_below H.out hbz) (by have := hbz.size; omega) (by omega) (by omega)
  refine wl_k rfl (fun K hK => ?_); go_simp; refine hK _ ?_; clear hK K
  refine wl_w rfl (ex_app _ _ rfl rfl rfl hr) ?_
  simp only [Zq]
  refine wl_k rfl (fun K hK => ?_); go_simp; refine hK _ ?_; clear hK K
  have HB : Hid (Below w.heap.size w w') := Lib.hid (hbz.grown hgr hbz.size (fun q hq => by cases hq; exact Nat.le_refl _))
  have HO : Hid (w'.ownsRow w.heap.size 91 2 v' n (prow l)) := Lib.hid (by rw [Nat.zero_add] at hown; exact hown)
  obtain ⟨P, d, rfl⟩ := own_shape HO.out
  clear hbz hr hown hgr H
  go_wp2_with fail
  go_loopw [4] (fun i wr => ∃ (j : Nat) (L : List Ent), j ≤ n ∧ i = .int .i64 (j : Int) ∧ Hid (L.Perm l) ∧ Hid (∀ a b, a < b → b < j → leE (L.getD a noE) (L.getD b noE)) ∧ Hid (wr.ownsRow w.heap.size 91 2 (.slice P n d) n (prow L)) ∧ Hid (Below w.heap.size w wr)) (fun i _ => n - (intOf i).toNat)
  case atStart => exact ⟨0, l, by omega, rfl, Lib.hid (List.Perm.refl _), Lib.hid (fun a b h1 h2 => by omega), HO, HB⟩
  case round =>
    clear HO HB
    obtain ⟨i, L0, hi, rfl, HP0, HS0, HO, HB⟩ := hrel
    by_cases hin : i < n
    · have hiI : (i : Int) < (n : Int) := by omega
      obtain ⟨p, hp⟩ : ∃ p, P = some ⟨p, 0, none⟩ := by
        rcases HO.out.2 with ⟨h0, h9⟩ | ⟨g, cap, cur, hv, _⟩
        · omega
        · simp only [Value.slice.injEq] at hv; exact ⟨g, hv.1⟩
      subst hp
      have HI := Lib.hid (ins_start HS0.out)
      go_upto_region 5 with (fail)
      apply wp_region_lit
      iterate 2 (refine wl_k rfl (fun K hK => ?_); go_simp; refine hK _ ?_; clear hK K)
      clear HS0
      go_wp2_with fail
      go_loopw [5] (fun kv wr2 => ∃ (k : Nat) (L : List Ent), kv = .int .i64 (k : Int) ∧ k ≤ i ∧ Hid (L.Perm l) ∧ Hid (Ins noE leE L i k) ∧ Hid (wr2.ownsRow w.heap.size 91 2 (.slice (some ⟨p, 0, none⟩) n d) n (prow L)) ∧ Hid (Below w.heap.size w wr2)) (fun kv _ => (intOf kv).toNat)
      case atStart => exact ⟨i, L0, rfl, Nat.le_refl _, HP0, HI, HO, HB⟩
      case round =>
        clear HP0 HI HO HB
        obtain ⟨k, L, rfl, hki, HP, HI, HO, HB⟩ := hrel
        have hLn := HP.out.length_eq.trans HN.out
        have hzp := (HO.out.lt p rfl).1
        by_cases hk0 : k = 0
        · subst hk0
          have HE := Lib.hid (ins_end (le := leE) (fun _ _ _ h1 h2 => leE_trans h1 h2) HI.out (Or.inl rfl))
          go_upto_region 6 with (fail)
          refine wp_region_held_drew (S := Below w.heap.size w) mixed HB.out.drew (fun hS => ?_)
          refine hk3 (i := 0) rfl (by kernel_rfl) Zh hS rfl (fun K hK => ?_); go_simp; refine hK _ ?_; clear hK K; try simp only [Zq]
          refine hk3 (i := 1) rfl (by kernel_rfl) Zh hS rfl (fun K hK => ?_); go_simp; refine hK _ ?_; clear hK K; try simp only [Zq]
          refine hk3 (i := 2) rfl (by kernel_rfl) Zh hS rfl (fun K hK => ?_); go_simp; refine hK _ ?_; clear hK K; try simp only [Zq]
          refine hs3 (i := 3) rfl (by kernel_rfl) Zg hS rfl ?_; simp only [Zy]
          refine hs3 (i := 4) rfl (by kernel_rfl) Zg hS rfl ?_; simp only [Zy]
          refine hs3 (i := 5) rfl (by kernel_rfl) Zg hS rfl ?_; simp only [Zy]
          refine hs3 (i := 6) rfl (by kernel_rfl) Zg hS rfl ?_; simp only [Zy]
          refine hs3 (i := 7) rfl (by kernel_rfl) Zg hS rfl ?_; simp only [Zy]
          refine hs3 (i := 8) rfl (by kernel_rfl) Zg hS rfl ?_; simp only [Zy]
          refine hs3 (i := 9) rfl (by kernel_rfl) Zg hS rfl ?_; simp only [Zy]
          refine hs3 (i := 10) rfl (by kernel_rfl) Zg hS rfl ?_; simp only [Zy]
          refine hs3 (i := 11) rfl (by kernel_rfl) Zg hS rfl ?_; simp only [Zy]
          refine hs3 (i := 12) rfl (by kernel_rfl) Zg hS rfl ?_; simp only [Zy]
          refine hs3 (i := 13) rfl (by kernel_rfl) Zg hS rfl ?_; simp only [Zy]
          refine hs3 (i := 14) rfl (by kernel_rfl) Zg hS rfl ?_; simp only [Zy]
          refine hk3 (i := 15) rfl (by kernel_rfl) Zh hS rfl (fun K hK => ?_); go_simp; refine hK _ ?_; clear hK K; try simp only [Zq]
          refine wpAnyH_done (by kernel_rfl) ?_ _
          have HO2 := Lib.hid (own_below HO.out (Below.refl _ wr).drew)
          have HB2 := Lib.hid hS
          go_wp2_with fail
          go_roundw
          case rel => exact ⟨i + 1, L, by omega, by go_num, HP, HE, HO2, HB2⟩
          case measure => simp [intOf]; omega
        · have hkI : (0 : Int) < (k : Int) := by omega
          have hkN : 0 < k := by omega
          have hdN : decide (0 < k) = true := by simpa using hkN
          have hk1 : IntKind.i64.wrap ((k : Int) - 1) = ((k - 1 : Nat) : Int) := by rw [wrap_small _ (by omega) (by omega)]; omega
          have hkn : k < n := by omega
          have hkn1 : k - 1 < n := by omega
          have hknI : (k : Int) < (n : Int) := by omega
          have hknI1 : ((k - 1 : Nat) : Int) < (n : Int) := by omega
          have hxk : L[k]? = some (L.getD k noE) := by rw [List.getD_eq_getElem?_getD, List.getElem?_eq_getElem (by omega)]; rfl
          have hxk1 : L[k - 1]? = some (L.getD (k - 1) noE) := by rw [List.getD_eq_getElem?_getD, List.getElem?_eq_getElem (by omega)]; rfl
          obtain ⟨x, hx⟩ : ∃ x, x = L.getD k noE := ⟨_, rfl⟩
          obtain ⟨y, hy⟩ : ∃ y, y = L.getD (k - 1) noE := ⟨_, rfl⟩
          rw [← hx] at hxk
          rw [← hy] at hxk1
          have HX := Lib.hid hx
          have HY := Lib.hid hy
          obtain ⟨-, hc1⟩ := own_rowP HO.out hxk
          obtain ⟨-, hc2⟩ := own_rowP HO.out hxk1
          have HXK := Lib.hid hxk
          have HYK := Lib.hid hxk1
          clear hxk hxk1 hx hy
          go_upto_region 6 with (fail)
          refine wp_region_held_drew (S := Kept [] wr) mixed (Kept.drew [] wr) (fun hS => ?_)
          refine hk3 (i := 0) rfl (by kernel_rfl) Zh hS rfl (fun K hK => ?_); go_simp; refine hK _ ?_; clear hK K; try simp only [Zq]
          refine hk3 (i := 1) rfl (by kernel_rfl) Zh hS rfl (fun K hK => ?_); go_simp; refine hK _ ?_; clear hK K; try simp only [Zq]
          refine hk3 (i := 2) rfl (by kernel_rfl) Zh hS rfl (fun K hK => ?_); go_simp; refine hK _ ?_; clear hK K; try simp only [Zq]
          refine hk3 (i := 3) rfl (by kernel_rfl) Zh hS rfl (fun K hK => ?_); go_simp; refine hK _ ?_; clear hK K; try simp only [Zq]
          refine hk3 (i := 4) rfl (by kernel_rfl) Zh hS rfl (fun K hK => ?_); go_simp; refine hK _ ?_; clear hK K; try simp only [Zq]
          refine hk3 (i := 5) rfl (by kernel_rfl) Zh hS rfl (fun K hK => ?_); go_simp; refine hK _ ?_; clear hK K; try simp only [Zq]
          refine hk3 (i := 6) rfl (by kernel_rfl) Zh hS rfl (fun K hK => ?_); go_simp; refine hK _ ?_; clear hK K; try simp only [Zq]
          refine hv3 (i := 7) rfl (by kernel_rfl) Zg hS (by kernel_rfl) (fun w' hw' => ex_one rfl (one9 (hw'.cell hc1 (by simp)))) ?_; try simp only [Zq]
          refine hk3 (i := 8) rfl (by kernel_rfl) Zh hS rfl (fun K hK => ?_); go_simp; refine hK _ ?_; clear hK K; try simp only [Zq]
          refine hk3 (i := 9) rfl (by kernel_rfl) Zh hS rfl (fun K hK => ?_); go_simp; refine hK _ ?_; clear hK K; try simp only [Zq]
          refine hk3 (i := 10) rfl (by kernel_rfl) Zh hS rfl (fun K hK => ?_); go_simp; refine hK _ ?_; clear hK K; try simp only [Zq]
          try rw [hk1]
          refine hk3 (i := 11) rfl (by kernel_rfl) Zh hS rfl (fun K hK => ?_); go_simp; refine hK _ ?_; clear hK K; try simp only [Zq]
          refine hk3 (i := 12) rfl (by kernel_rfl) Zh hS rfl (fun K hK => ?_); go_simp; refine hK _ ?_; clear hK K; try simp only [Zq]
          refine hv3 (i := 13) rfl (by kernel_rfl) Zg hS (by kernel_rfl) (fun w' hw' => ex_one rfl (one9 (hw'.cell hc2 (by simp)))) ?_; try simp only [Zq]
          refine hk3 (i := 14) rfl (by kernel_rfl) Zh hS rfl (fun K hK => ?_); go_simp; refine hK _ ?_; clear hK K; try simp only [Zq]
          rw [show Op.bytesLess x.1.toList y.1.toList = ltB x.1 y.1 from rfl]
          refine hk3 (i := 15) rfl (by kernel_rfl) Zh hS rfl (fun K hK => ?_); go_simp; refine hK _ ?_; clear hK K; try simp only [Zq]
          refine wpAnyH_done (by kernel_rfl) ?_ _
          have HOd := Lib.hid (own_below HO.out (Below.refl _ wr).drew)
          replace HB := Lib.hid HB.out.drew
          clear hS HO hc1 hc2
          generalize wr.drew = wr at *
          obtain ⟨q, hq⟩ : ∃ q, q = ltB x.1 y.1 := ⟨_, rfl⟩
          have HQ := Lib.hid hq
          rw [← hq]
          clear hq
          cases q with
          | true =>
            have hth1 := own_thereP HOd.out hkn
            have HLE : Hid (leE (L.getD k noE) (L.getD (k - 1) noE)) := Lib.hid (leB_of_lt (by rw [← HX.out, ← HY.out]; exact HQ.out.symm))
            have HIS := Lib.hid (ins_step HI.out (by omega) (by omega) HLE.out)
            have HPS := Lib.hid ((swp_perm noE (L := L) (k := k) (by omega) (by omega)).trans HP.out)
            have HSW : Hid (swp noE L k = (L.set k y).set (k - 1) x) := Lib.hid (by unfold swp; rw [← HX.out, ← HY.out])
            have hd1 : RowAt wr.drew 91 ⟨p, k * 2, none⟩ (pair x.1 x.2) := (own_rowP (own_below HOd.out (Below.refl _ wr).drew) HXK.out).1
            have hd2 : RowAt wr.drew 91 ⟨p, (k - 1) * 2, none⟩ (pair y.1 y.2) := (own_rowP (own_below HOd.out (Below.refl _ wr).drew) HYK.out).1
            clear HLE HQ HI HP
            go_upto_region 8 with (fail)
            refine wp_region_held_drew (S := Kept [p] wr) mixed (Kept.drew [p] wr) (fun hS => ?_)
            refine hk3 (i := 0) rfl (by kernel_rfl) Zh hS rfl (fun K hK => ?_); go_simp; refine hK _ ?_; clear hK K; try simp only [Zq]
            refine hk3 (i := 1) rfl (by kernel_rfl) Zh hS rfl (fun K hK => ?_); go_simp; refine hK _ ?_; clear hK K; try simp only [Zq]
            refine hk3 (i := 2) rfl (by kernel_rfl) Zh hS rfl (fun K hK => ?_); go_simp; refine hK _ ?_; clear hK K; try simp only [Zq]
            refine hk3 (i := 3) rfl (by kernel_rfl) Zh hS rfl (fun K hK => ?_); go_simp; refine hK _ ?_; clear hK K; try simp only [Zq]
            refine hk3 (i := 4) rfl (by kernel_rfl) Zh hS rfl (fun K hK => ?_); go_simp; refine hK _ ?_; clear hK K; try simp only [Zq]
            try rw [hk1]
            refine hk3 (i := 5) rfl (by kernel_rfl) Zh hS rfl (fun K hK => ?_); go_simp; refine hK _ ?_; clear hK K; try simp only [Zq]
            refine hk3 (i := 6) rfl (by kernel_rfl) Zh hS rfl (fun K hK => ?_); go_simp; refine hK _ ?_; clear hK K; try simp only [Zq]
            refine hk3 (i := 7) rfl (by kernel_rfl) Zh hS rfl (fun K hK => ?_); go_simp; refine hK _ ?_; clear hK K; try simp only [Zq]
            try rw [hk1]
            refine hk3 (i := 8) rfl (by kernel_rfl) Zh hS rfl (fun K hK => ?_); go_simp; refine hK _ ?_; clear hK K; try simp only [Zq]
            refine hk3 (i := 10) rfl (by kernel_rfl) Zh hS rfl (fun K hK => ?_); go_simp; refine hK _ ?_; clear hK K; try simp only [Zq]
            refine hk3 (i := 11) rfl (by kernel_rfl) Zh hS rfl (fun K hK => ?_); go_simp; refine hK _ ?_; clear hK K; try simp only [Zq]
            refine hk3 (i := 12) rfl (by kernel_rfl) Zh hS rfl (fun K hK => ?_); go_simp; refine hK _ ?_; clear hK K; try simp only [Zq]
            refine ha_two (i := 9) (j := 13) (by kernel_rfl) ?_ ?_
            · refine sh_val (i := 9) rfl rfl (ex_row rfl hd2) hS ?_; try simp only [Zq]
              refine ha_do (i := 13) (by kernel_rfl) rfl rfl (ex_row rfl hd1) hS ?_; try simp only [Zq]
              have hown1 : (wr.drew.setCells p (k * 2) (pair y.1 y.2).toList).ownsRow w.heap.size 91 2 (.slice (some ⟨p, 0, none⟩) n d) n (prow (L.set k y)) := own_setP HOd.out k y
              have hth2 := own_thereP hown1 (k := k - 1) (by omega)
              refine hk3 (i := 14) rfl (by kernel_rfl) Zh hS rfl (fun K hK => ?_); go_simp; refine hK _ ?_; clear hK K; try simp only [Zq]
              refine ha_storeM (i := 15) (by kernel_rfl) rfl rfl 91 _ _ rfl p (k * 2) (pair y.1 y.2) rfl rfl hth1 info91 (pair_one _ _) (Nm.Kept.setCells (by simp) _ _ _ hS) (fun hS => ?_); try simp only [Zq]
              refine hk3 (i := 16) rfl (by kernel_rfl) Zh hS rfl (fun K hK => ?_); go_simp; refine hK _ ?_; clear hK K; try simp only [Zq]
              refine ha_storeM (i := 17) (by kernel_rfl) rfl rfl 91 _ _ rfl p ((k - 1) * 2) (pair x.1 x.2) rfl rfl hth2 info91 (pair_one _ _) (Nm.Kept.setCells (by simp) _ _ _ hS) (fun hS => ?_); try simp only [Zq]
              refine wpAnyH_done (by kernel_rfl) ?_ _
              have HO2 : Hid (World.ownsRow _ w.heap.size 91 2 (.slice (some ⟨p, 0, none⟩) n d) n (prow (swp noE L k))) := Lib.hid (by rw [HSW.out]; exact own_setP hown1 (k - 1) x)
              have HB2 := Lib.hid (HB.out.trans (hS.toBelow HB.out.size (fun q hq => by simp at hq; omega)))
              clear hown1 hth2 hS
              go_wp2_with fail
              go_roundw
              case rel => exact ⟨k - 1, swp noE L k, rfl, by omega, HPS, HIS, HO2, HB2⟩
              case measure => simp [intOf]; omega
            · refine sh_val (i := 13) rfl rfl (ex_row rfl hd1) hS ?_; try simp only [Zq]
              refine ha_do (i := 9) (by kernel_rfl) rfl rfl (ex_row rfl hd2) hS ?_; try simp only [Zq]
              have hown1 : (wr.drew.setCells p (k * 2) (pair y.1 y.2).toList).ownsRow w.heap.size 91 2 (.slice (some ⟨p, 0, none⟩) n d) n (prow (L.set k y)) := own_setP HOd.out k y
              have hth2 := own_thereP hown1 (k := k - 1) (by omega)
              refine hk3 (i := 14) rfl (by kernel_rfl) Zh hS rfl (fun K hK => ?_); go_simp; refine hK _ ?_; clear hK K; try simp only [Zq]
              refine ha_storeM (i := 15) (by kernel_rfl) rfl rfl 91 _ _ rfl p (k * 2) (pair y.1 y.2) rfl rfl hth1 info91 (pair_one _ _) (Nm.Kept.setCells (by simp) _ _ _ hS) (fun hS => ?_); try simp only [Zq]
              refine hk3 (i := 16) rfl (by kernel_rfl) Zh hS rfl (fun K hK => ?_); go_simp; refine hK _ ?_; clear hK K; try simp only [Zq]
              refine ha_storeM (i := 17) (by kernel_rfl) rfl rfl 91 _ _ rfl p ((k - 1) * 2) (pair x.1 x.2) rfl rfl hth2 info91 (pair_one _ _) (Nm.Kept.setCells (by simp) _ _ _ hS) (fun hS => ?_); try simp only [Zq]
              refine wpAnyH_done (by kernel_rfl) ?_ _
              have HO2 : Hid (World.ownsRow _ w.heap.size 91 2 (.slice (some ⟨p, 0, none⟩) n d) n (prow (swp noE L k))) := Lib.hid (by rw [HSW.out]; exact own_setP hown1 (k - 1) x)
              have HB2 := Lib.hid (HB.out.trans (hS.toBelow HB.out.size (fun q hq => by simp at hq; omega)))
              clear hown1 hth2 hS
              go_wp2_with fail
              go_roundw
              case rel => exact ⟨k - 1, swp noE L k, rfl, by omega, HPS, HIS, HO2, HB2⟩
              case measure => simp [intOf]; omega
          | false =>
            have HE := Lib.hid (ins_end (le := leE) (fun _ _ _ h1 h2 => leE_trans h1 h2) HI.out (Or.inr (by unfold leE leB; rw [← HX.out, ← HY.out]; exact HQ.out.symm)))
            go_wp2_with fail
            go_roundw
            case rel => exact ⟨i + 1, L, by omega, by go_num, HP, HE, HOd, HB⟩
            case measure => simp [intOf]; omega
    · obtain rfl : i = n := by omega
      go_wp2_with fail
      go_ret
      exact ⟨_, L0, rfl, HP0.out, ins_all (d := noE) (fun a b h1 h2 => HS0.out a b h1 (by rw [HP0.out.length_eq, HN.out] at h2; exact h2)), HO.out, HB.out⟩
def bools (l : List Bool) : List Value := l.map .bool
def isD (b : Buf) : Bool := b.kd == 2
def rcells (lv : Value) (seed : Int) (kv vv uv : Value) (d : Bool) : Array Value := #[lv, .int .i64 seed, kv, vv, uv, .bool d]
/-- the rows of a buffer of the document -/
structure RSl (w : World) (B : Nat) (lv kv vv uv : Value) (l : List ByteArray) (t : Tab) : Prop where
  l : w.ownsRow B 9 1 lv l.length (strs l)
  k : w.ownsRow B 9 1 kv t.length (strs (t.map ek))
  v : w.ownsRow B 3 1 vv t.length (ints (t.map ev))
  u : w.ownsRow B 4 1 uv t.length (bools (t.map eb))
  ne : ∀ q, lv.ownBlock = some q → kv.ownBlock ≠ some q
theorem RSl.below {w w' : World} {B : Nat} {lv kv vv uv : Value} {l : List ByteArray} {t : Tab} (h : RSl w B lv kv vv uv l t) (hb : Below w.heap.size w w') : RSl w' B lv kv vv uv l t :=
  ⟨own_below h.l hb, own_below h.k hb, own_below h.v hb, own_below h.u hb, h.ne⟩
theorem RSl.weak {w : World} {B B' : Nat} {lv kv vv uv : Value} {l : List ByteArray} {t : Tab} (h : RSl w B lv kv vv uv l t) (hb : B' ≤ B) : RSl w B' lv kv vv uv l t :=
  ⟨own_weak h.l hb, own_weak h.k hb, own_weak h.v hb, own_weak h.u hb, h.ne⟩
def RAt (w : World) (B : Nat) (v : Value) (b : Buf) : Prop := ∃ lv kv vv uv, v = .agg (rcells lv b.seed kv vv uv (isD b)) ∧ RSl w B lv kv vv uv b.l b.t
theorem RAt.below {w w' : World} {B : Nat} {v : Value} {b : Buf} (h : RAt w B v b) (hb : Below w.heap.size w w') : RAt w' B v b := by
  obtain ⟨lv, kv, vv, uv, e, h⟩ := h
  exact ⟨lv, kv, vv, uv, e, h.below hb⟩
theorem RAt.weak {w : World} {B B' : Nat} {v : Value} {b : Buf} (h : RAt w B v b) (hb : B' ≤ B) : RAt w B' v b := by
  obtain ⟨lv, kv, vv, uv, e, h⟩ := h
  exact ⟨lv, kv, vv, uv, e, h.weak hb⟩
/-- a column of cells -/
def ColAt (w : World) (A : Option Addr) (xs : List Value) : Prop := ∀ j u, xs[j]? = some u → ∃ p, A = some ⟨p, 0, none⟩ ∧ w.cell? ⟨p, j, none⟩ = some u
theorem own_col {w : World} {B e n : Nat} {v : Value} {xs : List Value} (h : w.ownsRow B e 1 v n xs) : ∃ A c, v = .slice A n c ∧ ColAt w A xs := by
  rcases h.2 with ⟨rfl, rfl⟩ | ⟨p, cap, cur, hv, hB, hg, h1, h2, h3, h4⟩
  · have := h.1
    refine ⟨none, 0, rfl, fun j u hj => ?_⟩
    have := (List.getElem?_eq_some_iff.1 hj).1
    omega
  · refine ⟨_, cap, hv, fun j u hj => ⟨p, rfl, ?_⟩⟩
    have := own_cells h hv j u hj
    rwa [Addr.add_mid, Nat.zero_add] at this
theorem ColAt.below {w w' : World} {A : Option Addr} {xs : List Value} (h : ColAt w A xs) (hb : Below w.heap.size w w') : ColAt w' A xs := fun j u hj => by
  obtain ⟨p, e, hc⟩ := h j u hj
  exact ⟨p, e, below_cell hb hc⟩
theorem RAt.cols {w : World} {B : Nat} {v : Value} {b : Buf} (h : RAt w B v b) : ∃ A1 c1 A2 c2 A3 c3 A4 c4, v = .agg (rcells (.slice A1 b.l.length c1) b.seed (.slice A2 b.t.length c2) (.slice A3 b.t.length c3) (.slice A4 b.t.length c4) (isD b)) ∧
    RSl w B (.slice A1 b.l.length c1) (.slice A2 b.t.length c2) (.slice A3 b.t.length c3) (.slice A4 b.t.length c4) b.l b.t ∧ ColAt w A1 (strs b.l) ∧ ColAt w A2 (strs (b.t.map ek)) ∧ ColAt w A3 (ints (b.t.map ev)) ∧ ColAt w A4 (bools (b.t.map eb)) := by
  obtain ⟨lv, kv, vv, uv, e, h⟩ := h
  obtain ⟨A1, c1, rfl, d1⟩ := own_col h.l
  obtain ⟨A2, c2, rfl, d2⟩ := own_col h.k
  obtain ⟨A3, c3, rfl, d3⟩ := own_col h.v
  obtain ⟨A4, c4, rfl, d4⟩ := own_col h.u
  exact ⟨A1, c1, A2, c2, A3, c3, A4, c4, e, h, d1, d2, d3, d4⟩
theorem col_k {w : World} {A : Option Addr} {t : Tab} (h : ColAt w A (strs (t.map ek))) {j : Nat} (hj : j < t.length) : ∃ p, A = some ⟨p, 0, none⟩ ∧ w.cell? ⟨p, j, none⟩ = some (.string (ek (pl t j))) := h j _ (by unfold strs; rw [List.getElem?_map, List.getElem?_map, pl_get hj]; rfl)
theorem col_v {w : World} {A : Option Addr} {t : Tab} (h : ColAt w A (ints (t.map ev))) {j : Nat} (hj : j < t.length) : ∃ p, A = some ⟨p, 0, none⟩ ∧ w.cell? ⟨p, j, none⟩ = some (.int .i64 (ev (pl t j))) := h j _ (by unfold ints; rw [List.getElem?_map, List.getElem?_map, pl_get hj]; rfl)
theorem col_u {w : World} {A : Option Addr} {t : Tab} (h : ColAt w A (bools (t.map eb))) {j : Nat} (hj : j < t.length) : ∃ p, A = some ⟨p, 0, none⟩ ∧ w.cell? ⟨p, j, none⟩ = some (.bool (eb (pl t j))) := h j _ (by unfold bools; rw [List.getElem?_map, List.getElem?_map, pl_get hj]; rfl)
theorem u105 : Try.prog.underlying 105 = some (.struct (Try.prog.fieldsOf 105)) := by kernel_rfl
theorem info105 : (Try.prog.info? 105).map (·.size) = some 6 := by kernel_rfl
theorem rc_cell {w : World} {g : Nat} {lv kv vv uv : Value} {seed : Int} {d : Bool} (h : w.heap[g]? = some (.cells (rcells lv seed kv vv uv d) 105 (0, 0))) :
    w.cell? ⟨g, 0, none⟩ = some lv ∧ w.cell? ⟨g, 1, none⟩ = some (.int .i64 seed) ∧ w.cell? ⟨g, 2, none⟩ = some kv ∧ w.cell? ⟨g, 3, none⟩ = some vv ∧ w.cell? ⟨g, 4, none⟩ = some uv ∧ w.cell? ⟨g, 5, none⟩ = some (.bool d) := by
  rw [cell_of_row _ _ _ _ _ _ h, cell_of_row _ _ _ _ _ _ h, cell_of_row _ _ _ _ _ _ h, cell_of_row _ _ _ _ _ _ h, cell_of_row _ _ _ _ _ _ h, cell_of_row _ _ _ _ _ _ h]
  exact ⟨rfl, rfl, rfl, rfl, rfl, rfl⟩
theorem rowR {w : World} {g : Nat} {lv kv vv uv : Value} {seed : Int} {d : Bool} (h : w.heap[g]? = some (.cells (rcells lv seed kv vv uv d) 105 (0, 0))) : RowAt w 105 ⟨g, 0, none⟩ (rcells lv seed kv vv uv d) := row_mid h (D := rcells lv seed kv vv uv d) (n := 6) rfl u105 rfl rfl info105
theorem eb_some {o : Option (ByteArray × Int)} (h : eb o = true) : o = some (ek o, ev o) := by
  cases o with
  | none => cases h
  | some x => rfl
theorem key_beq (a b : ByteArray) : (a.toList == b.toList) = decide (a = b) := by
  rw [← Bool.coe_iff_coe]; simp only [decide_eq_true_eq, beq_iff_eq]; rw [ByteArray.toList_eq, ByteArray.toList_eq]; exact ⟨fun e => ByteArray.ext (Array.toList_inj.1 e), fun e => by rw [e]⟩
theorem fnd_at {seed : Int} {t : Tab} (hw : t = [] ∨ Wf (HH seed) t) {j : Nat} (hj : j < t.length) {k : ByteArray} (h1 : eb (pl t j) = true) (h2 : ek (pl t j) = k) : fnd seed t k = (j : Int) := by
  have hp := eb_some h1
  rw [h2] at hp
  rcases hw with rfl | hw
  · simp at hj
  · unfold fnd; rw [find_some (HH seed) hw hj hp]
theorem fnd_no {seed : Int} {t : Tab} (hw : t = [] ∨ Wf (HH seed) t) {k : ByteArray} (h : ∀ i, i < t.length → ¬ (eb (pl t i) = true ∧ ek (pl t i) = k)) : fnd seed t k = -1 := by
  unfold fnd
  rcases hw with rfl | hw
  · rfl
  · rw [find_none (HH seed) hw.gap (fun i v hi hp => h i hi (by rw [hp]; exact ⟨rfl, rfl⟩))]
theorem GoodB.wf {b : Buf} (h : GoodB b) : b.t = [] ∨ Wf (HH b.seed) b.t := by
  rcases h with ⟨_, _, h, _⟩ | ⟨_, _, _, _, h, _⟩
  · exact Or.inl h
  · exact Or.inr h
set_option maxHeartbeats 2000000 in
set_option maxRecDepth 100000 in
theorem findI_any (v : Value) (b : Buf) (B : Nat) (key : ByteArray) (hw : b.t = [] ∨ Wf (HH b.seed) b.t) (hn : b.t.length ≤ 100000) (w : World) (h : RAt w B v b) :
    Calls Try.prog 70 #[v, .string key] w fun e w' => e = .returned (.int .i64 (fnd b.seed b.t key)) ∧ Below w.heap.size w w' := by
  obtain ⟨A1, c1, A2, c2, A3, c3, A4, c4, rfl, -, -, d2, -, d4⟩ := h.cols
  have HW := Lib.hid hw
  have D2 := Lib.hid d2
  have D4 := Lib.hid d4
  obtain ⟨G, hG⟩ : ∃ G, G = fnd b.seed b.t key := ⟨_, rfl⟩
  rw [← hG]
  have HG := Lib.hid hG
  obtain ⟨kd, l, seed, t⟩ := b
  simp only at HW D2 D4 HG hn ⊢
  obtain ⟨dd, hdd⟩ : ∃ dd, dd = isD ⟨kd, l, seed, t⟩ := ⟨_, rfl⟩
  rw [← hdd]
  obtain ⟨n, hnn⟩ : ∃ n, n = t.length := ⟨_, rfl⟩
  rw [← hnn] at hn ⊢
  have HN := Lib.hid hnn
  obtain ⟨nl, hnl⟩ : ∃ n, n = l.length := ⟨_, rfl⟩
  rw [← hnl]
  clear h hw d2 d4 hG hdd hnn hnl
  go_enter Try.func70, Try.ntmps70
  go_upto_region 1 with (fail)
  refine wp_world (fun W => Below w.heap.size w W ∧ W.heap[w.heap.size]? = some (.cells (rcells (.slice A1 nl c1) seed (.slice A2 n c2) (.slice A3 n c3) (.slice A4 n c4) dd) 105 (0, 0))) ⟨(Below.refl w.heap.size w).alloc (Nat.le_refl _) _, ha_new rfl⟩ ?_
  rintro W ⟨hb, g1⟩
  obtain ⟨x0, x1, x2, x3, x4, x5⟩ := rc_cell g1
  replace D2 := Lib.hid (D2.out.below hb)
  replace D4 := Lib.hid (D4.out.below hb)
  clear x0 x1 x3 x5 g1
  go_wp2_with fail
  go_loopw [5] (fun i wr => ∃ j : Nat, j ≤ n ∧ i = .int .i64 (j : Int) ∧ wr = W ∧ Hid (∀ i, i < j → ¬ (eb (pl t i) = true ∧ ek (pl t i) = key))) (fun i _ => n - (intOf i).toNat)
  case atStart => exact ⟨0, by omega, rfl, rfl, Lib.hid (fun i hi => by omega)⟩
  case round =>
    obtain ⟨j, hj, rfl, rfl, HI⟩ := hrel
    by_cases hlt : j < n
    · have hltI : (j : Int) < (n : Int) := by omega
      obtain ⟨p4, rfl, cu⟩ := col_u D4.out (show j < t.length by rw [← HN.out]; exact hlt)
      obtain ⟨p2, rfl, ck⟩ := col_k D2.out (show j < t.length by rw [← HN.out]; exact hlt)
      obtain ⟨U, hU⟩ : ∃ U, U = eb (pl t j) := ⟨_, rfl⟩
      obtain ⟨K, hK⟩ : ∃ K, K = ek (pl t j) := ⟨_, rfl⟩
      rw [← hU] at cu
      rw [← hK] at ck
      have HU := Lib.hid hU
      have HK := Lib.hid hK
      clear hU hK
      cases U with
      | false =>
        have HI2 : Hid (∀ i, i < j + 1 → ¬ (eb (pl t i) = true ∧ ek (pl t i) = key)) := Lib.hid (fun i hi hc => by
          by_cases e : i = j
          · subst e; rw [← HU.out] at hc; cases hc.1
          · exact HI.out i (by omega) hc)
        go_wp2_with fail
        go_roundw
        case rel => exact ⟨j + 1, by omega, by go_num, by trivial, HI2⟩
        case measure => simp [intOf]; omega
      | true =>
        have hkb := key_beq K key
        by_cases e : K = key
        · rw [decide_eq_true e] at hkb
          have HG2 : Hid (G = (j : Int)) := Lib.hid (by rw [HG.out]; exact fnd_at HW.out (by rw [← HN.out]; exact hlt) HU.out.symm (by rw [← HK.out]; exact e))
          go_wp2_with fail
          go_ret
          exact ⟨by rw [HG2.out]; rfl, hb⟩
        · rw [decide_eq_false e] at hkb
          have HI2 : Hid (∀ i, i < j + 1 → ¬ (eb (pl t i) = true ∧ ek (pl t i) = key)) := Lib.hid (fun i hi hc => by
            by_cases e2 : i = j
            · subst e2; rw [← HK.out] at hc; exact e hc.2
            · exact HI.out i (by omega) hc)
          clear e
          go_wp2_with fail
          go_roundw
          case rel => exact ⟨j + 1, by omega, by go_num, by trivial, HI2⟩
          case measure => simp [intOf]; omega
    · obtain rfl : j = n := by omega
      have HG2 : Hid (G = -1) := Lib.hid (by rw [HG.out]; exact fnd_no HW.out (fun i hi => HI.out i (by rw [HN.out]; exact hi)))
      go_wp2_with fail
      go_ret
      exact ⟨by rw [HG2.out]; rfl, hb⟩
theorem cn_take {t : Tab} {j : Nat} (hj : j < t.length) : cn (t.take (j + 1)) = cn (t.take j) + (if eb (pl t j) then 1 else 0) := by
  unfold cn
  rw [List.take_add_one, pl_get hj, List.countP_append]
  cases pl t j <;> rfl
theorem keys_takeR {t : Tab} {j : Nat} (hj : j < t.length) : (pairsT (t.take (j + 1))).map (·.1) = (pairsT (t.take j)).map (·.1) ++ (if eb (pl t j) then [ek (pl t j)] else []) := by
  rw [pairsT_take hj, List.map_append]
  cases pl t j <;> rfl
set_option maxHeartbeats 2000000 in
set_option maxRecDepth 100000 in
theorem countI_any (v : Value) (b : Buf) (B : Nat) (hn : b.t.length ≤ 100000) (w : World) (h : RAt w B v b) :
    Calls Try.prog 84 #[v] w fun e w' => e = .returned (.int .i64 (cn b.t : Int)) ∧ Below w.heap.size w w' := by
  obtain ⟨A1, c1, A2, c2, A3, c3, A4, c4, rfl, -, -, -, -, d4⟩ := h.cols
  have D4 := Lib.hid d4
  obtain ⟨G, hG⟩ : ∃ G, G = cn b.t := ⟨_, rfl⟩
  rw [← hG]
  have HG := Lib.hid hG
  obtain ⟨kd, l, seed, t⟩ := b
  simp only at D4 HG hn ⊢
  obtain ⟨dd, hdd⟩ : ∃ dd, dd = isD ⟨kd, l, seed, t⟩ := ⟨_, rfl⟩
  rw [← hdd]
  obtain ⟨n, hnn⟩ : ∃ n, n = t.length := ⟨_, rfl⟩
  rw [← hnn] at hn ⊢
  have HN := Lib.hid hnn
  obtain ⟨nl, hnl⟩ : ∃ n, n = l.length := ⟨_, rfl⟩
  rw [← hnl]
  clear h d4 hG hdd hnn hnl
  go_enter Try.func84, Try.ntmps84
  go_upto_region 1 with (fail)
  refine wp_world (fun W => Below w.heap.size w W ∧ W.heap[w.heap.size]? = some (.cells (rcells (.slice A1 nl c1) seed (.slice A2 n c2) (.slice A3 n c3) (.slice A4 n c4) dd) 105 (0, 0))) ⟨(Below.refl w.heap.size w).alloc (Nat.le_refl _) _, ha_new rfl⟩ ?_
  rintro W ⟨hb, g1⟩
  obtain ⟨x0, x1, x2, x3, x4, x5⟩ := rc_cell g1
  replace D4 := Lib.hid (D4.out.below hb)
  clear x0 x1 x2 x3 x5 g1
  go_wp2_with fail
  go_loopw [3, 4] (fun m i wr => ∃ (j k : Nat), j ≤ n ∧ k ≤ j ∧ m = .int .i64 (k : Int) ∧ i = .int .i64 (j : Int) ∧ wr = W ∧ Hid (k = cn (t.take j))) (fun _ i _ => n - (intOf i).toNat)
  case atStart => exact ⟨0, 0, by omega, by omega, rfl, rfl, rfl, Lib.hid (by simp [cn])⟩
  case round =>
    obtain ⟨j, k, hj, hk, rfl, rfl, rfl, HI⟩ := hrel
    by_cases hlt : j < n
    · have hltI : (j : Int) < (n : Int) := by omega
      obtain ⟨p4, rfl, cu⟩ := col_u D4.out (show j < t.length by rw [← HN.out]; exact hlt)
      have HT := Lib.hid (cn_take (show j < t.length by rw [← HN.out]; exact hlt))
      obtain ⟨U, hU⟩ : ∃ U, U = eb (pl t j) := ⟨_, rfl⟩
      rw [← hU] at cu
      have HU := Lib.hid hU
      clear hU
      cases U with
      | false =>
        have HI2 : Hid (k = cn (t.take (j + 1))) := Lib.hid (by rw [HT.out, ← HU.out, HI.out]; rfl)
        go_wp2_with fail
        go_roundw
        case rel => exact ⟨j + 1, k, by omega, by omega, rfl, by go_num, by trivial, HI2⟩
        case measure => simp [intOf]; omega
      | true =>
        have HI2 : Hid (k + 1 = cn (t.take (j + 1))) := Lib.hid (by rw [HT.out, ← HU.out, HI.out]; rfl)
        go_wp2_with fail
        go_roundw
        case rel => exact ⟨j + 1, k + 1, by omega, by omega, by go_num, by go_num, by trivial, HI2⟩
        case measure => simp [intOf]; omega
    · obtain rfl : j = n := by omega
      have HG2 : Hid (G = k) := Lib.hid (by rw [HG.out, HI.out, HN.out, List.take_length])
      go_wp2_with fail
      go_ret
      exact ⟨by rw [HG2.out]; rfl, hb⟩
set_option maxHeartbeats 2000000 in
set_option maxRecDepth 100000 in
theorem orderI_any (v : Value) (b : Buf) (B : Nat) (hn : b.t.length ≤ 100000) (w : World) (h : RAt w B v b) :
    Calls Try.prog 67 #[v] w fun e w' => ∃ v', e = .returned v' ∧ w'.ownsRow w.heap.size 9 1 v' ((pairsT b.t).map (·.1)).length (strs ((pairsT b.t).map (·.1))) ∧ Below w.heap.size w w' := by
  obtain ⟨A1, c1, A2, c2, A3, c3, A4, c4, rfl, -, -, d2, -, d4⟩ := h.cols
  have D2 := Lib.hid d2
  have D4 := Lib.hid d4
  obtain ⟨G, hG⟩ : ∃ G, G = (pairsT b.t).map (·.1) := ⟨_, rfl⟩
  rw [← hG]
  have HG := Lib.hid hG
  obtain ⟨kd, l, seed, t⟩ := b
  simp only at D2 D4 HG hn ⊢
  obtain ⟨dd, hdd⟩ : ∃ dd, dd = isD ⟨kd, l, seed, t⟩ := ⟨_, rfl⟩
  rw [← hdd]
  obtain ⟨n, hnn⟩ : ∃ n, n = t.length := ⟨_, rfl⟩
  rw [← hnn] at hn ⊢
  have HN := Lib.hid hnn
  obtain ⟨nl, hnl⟩ : ∃ n, n = l.length := ⟨_, rfl⟩
  rw [← hnl]
  clear h d2 d4 hG hdd hnn hnl
  go_enter Try.func67, Try.ntmps67
  go_upto_region 1 with (fail)
  refine wp_world (fun W => Below w.heap.size w W ∧ W.heap[w.heap.size]? = some (.cells (rcells (.slice A1 nl c1) seed (.slice A2 n c2) (.slice A3 n c3) (.slice A4 n c4) dd) 105 (0, 0))) ⟨(Below.refl w.heap.size w).alloc (Nat.le_refl _) _, ha_new rfl⟩ ?_
  rintro W ⟨hb, g1⟩
  obtain ⟨x0, x1, x2, x3, x4, x5⟩ := rc_cell g1
  replace D2 := Lib.hid (D2.out.below hb)
  replace D4 := Lib.hid (D4.out.below hb)
  have X2 := Lib.hid x2
  have X4 := Lib.hid x4
  have HB := Lib.hid hb
  clear x0 x1 x2 x3 x4 x5 g1 hb
  go_wp2_with fail
  go_loopw [3, 4] (fun ov i wr => ∃ (j : Nat) (m : List ByteArray), j ≤ n ∧ m.length ≤ j ∧ i = .int .i64 (j : Int) ∧ Hid (m = (pairsT (t.take j)).map (·.1)) ∧ Hid (wr.ownsRow W.heap.size 9 1 ov m.length (strs m)) ∧ Hid (Below W.heap.size W wr)) (fun _ i _ => n - (intOf i).toNat)
  case atStart => exact ⟨0, [], by omega, by simp, rfl, Lib.hid rfl, Lib.hid (own_nil W _ 9 1), Lib.hid (Below.refl _ _)⟩
  case round =>
    obtain ⟨j, m, hj, hm, rfl, HI, HO, HW⟩ := hrel
    by_cases hlt : j < n
    · have hltI : (j : Int) < (n : Int) := by omega
      have hjt : j < t.length := by rw [← HN.out]; exact hlt
      obtain ⟨p4, rfl, cu⟩ := col_u (D4.out.below HW.out) hjt
      obtain ⟨p2, rfl, ck⟩ := col_k (D2.out.below HW.out) hjt
      have y2 := below_cell HW.out X2.out
      have y4 := below_cell HW.out X4.out
      have HT := Lib.hid (keys_takeR hjt)
      obtain ⟨U, hU⟩ : ∃ U, U = eb (pl t j) := ⟨_, rfl⟩
      obtain ⟨K, hK⟩ : ∃ K, K = ek (pl t j) := ⟨_, rfl⟩
      rw [← hU] at cu
      rw [← hK] at ck
      have HU := Lib.hid hU
      have HK := Lib.hid hK
      clear hU hK hjt
      cases U with
      | false =>
        have HI2 : Hid (m = (pairsT (t.take (j + 1))).map (·.1)) := Lib.hid (by rw [HT.out, ← HU.out, HI.out]; simp)
        go_wp2_with fail
        go_roundw
        case rel => exact ⟨j + 1, m, by omega, by omega, by go_num, HI2, HO, HW⟩
        case measure => simp [intOf]; omega
      | true =>
        have HI2 : Hid (m ++ [K] = (pairsT (t.take (j + 1))).map (·.1)) := Lib.hid (by rw [HT.out, ← HU.out, HI.out, ← HK.out]; rfl)
        go_upto_region 6 with (fail)
        apply wp_region_lit
        iterate 2 (refine wl_k rfl (fun K hK => ?_); go_simp; refine hK _ ?_; clear hK K)
        ((with_reducible apply wl_oneG); exact rfl; exact rfl; exact one29 y2)
        iterate 2 (refine wl_k rfl (fun K hK => ?_); go_simp; refine hK _ ?_; clear hK K)
        ((with_reducible apply wl_oneG); exact rfl; exact rfl; exact one9 ck)
        simp only [Zq]
        obtain ⟨v', w', hr, hown, hgr, -⟩ := run_push29 K 29 HO.out HW.out.size (by omega)
        have hba := HW.out.alloc HW.out.size (.cells #[.string K] 9)
        have hbg := hba.grown hgr hba.size (fun q hq => (HO.out.lt q hq).1)
        refine wl_w rfl (ex_bs29_1 _ rfl rfl) ?_
        simp only [Zq]
        refine wl_w rfl (ex_app29 _ _ rfl rfl rfl hr) ?_
        simp only [Zq]
        have HO2 : Hid (w'.ownsRow W.heap.size 9 1 v' (m ++ [K]).length (strs (m ++ [K]))) := Lib.hid (by rw [List.length_append]; exact hown)
        have HW2 := Lib.hid hbg
        clear hr hown hgr hba hbg HO HW cu ck y2 y4
        go_wp2_with fail
        go_roundw
        case rel => exact ⟨j + 1, m ++ [K], by omega, by simp; omega, by go_num, HI2, HO2, HW2⟩
        case measure => simp [intOf]; omega
    · obtain rfl : j = n := by omega
      have HG2 : Hid (m = G) := Lib.hid (by rw [HG.out, HI.out, HN.out, List.take_length])
      rw [HG2.out] at HO
      have y2 := below_cell HW.out X2.out
      go_wp2_with fail
      go_ret
      exact ⟨_, rfl, own_weak HO.out HB.out.size, HB.out.trans (HW.out.mono HB.out.size)⟩
theorem u63 : Try.prog.underlying 63 = some (.slice 3) := by kernel_rfl
theorem u103 : Try.prog.underlying 103 = some (.slice 4) := by kernel_rfl
theorem info3b : (Try.prog.info? 3).map (fun i => (i.zero, i.size, i.bytes)) = some (some (.int .i64 0), 1, 8) := by kernel_rfl
theorem info4b : (Try.prog.info? 4).map (fun i => (i.zero, i.size, i.bytes)) = some (some (.bool false), 1, 1) := by kernel_rfl
theorem one63 {w : World} {ad : Addr} {v : Value} (h : w.cell? ad = some v) : OneAt w 63 ad v := one_of u63 rfl h
theorem one103 {w : World} {ad : Addr} {v : Value} (h : w.cell? ad = some v) : OneAt w 103 ad v := one_of u103 rfl h
theorem run_mk63 {w : World} {n B : Nat} (hn : n ≤ 1000000) (hB : B ≤ w.heap.size) :
    ∃ w', (Instr.makeSlice 63 (.int .i64 0) (.int .i64 (n : Int))).run Try.prog w = .ok (.slice (some ⟨w.heap.size, 0, none⟩) 0 n) w' ∧ w'.ownsRow B 3 1 (.slice (some ⟨w.heap.size, 0, none⟩) 0 n) 0 (ints []) ∧ w.grownBy w' none := by
  obtain ⟨i0, hi, hz0, hz1, hz2⟩ := info_parts info3b
  exact run_make_own (P := Try.prog) w B 63 3 i0 _ 1 u63 hi hz0 hz1 .i64 .i64 n (by rw [hz2]; omega) (by unfold maxLen; omega) hB
theorem run_bs63_1 (k : Int) (w : World) : (Instr.buildSlice 63 1 #[(0, .int .i64 k)]).run Try.prog w = .ok (.slice (some ⟨w.heap.size, 0, none⟩) 1 1) (w.alloc (.cells #[.int .i64 k] 3)) := by kernel_rfl
theorem ex_bs63_1 {ev : Operand → Value} {o : Oper} {w : World} (x : Operand) (ho : o.op = .buildSlice 63 1 #[(0, x)]) {k : Int} (hx : ev x = .int .i64 k) :
    (execOp ev o).run Try.prog w = .ok (.value (.slice (some ⟨w.heap.size, 0, none⟩) 1 1)) (w.alloc (.cells #[.int .i64 k] 3)) := by
  unfold execOp
  simp [ho, hx, run_bs63_1 k w, Result.andThen]
theorem run_push63 {w : World} {B n : Nat} {v : Value} {l : List Int} (k : Int) (ty : TypeId) (ho : w.ownsRow B 3 1 v n (ints l)) (hB : B ≤ w.heap.size) (h1 : n ≤ 1000000) :
    ∃ v' w', (Builtin.append_ #[63, 63] ty #[v, .slice (some ⟨w.heap.size, 0, none⟩) 1 1]).run Try.prog (w.alloc (.cells #[.int .i64 k] 3)) = .ok v' w' ∧ w'.ownsRow B 3 1 v' (n + 1) (ints (l ++ [k])) ∧ (w.alloc (.cells #[.int .i64 k] 3)).grownBy w' v.ownBlock := by
  obtain ⟨i0, hi, hz0, hz1, hz2⟩ := info_parts info3b
  have hb := (Below.refl w.heap.size w).alloc (Nat.le_refl _) (.cells #[.int .i64 k] 3)
  obtain ⟨v', w', hr, h3, h4, _, _⟩ := run_append_own_at (P := Try.prog) (w.alloc (.cells #[.int .i64 k] 3)) B 63 ty 3 i0 _ 1 8 u63 hi hz0 hz1 hz2 rfl (by decide) v n (ints l) (own_below ho hb) ⟨w.heap.size, 0, none⟩ 1 1 [.int .i64 k] rfl (cells_at (ha_new rfl)) (by intro u hu; simp at hu; subst hu; rfl) (by unfold maxLen; omega) (by omega) (by have := hb.size; omega)
  exact ⟨v', w', hr, by unfold ints at *; rw [List.map_append]; exact h3, h4⟩
set_option maxHeartbeats 2000000 in
set_option maxRecDepth 100000 in
theorem CopyInts_any (v : Value) (n : Nat) (l : List Int) (B : Nat) (hn : n ≤ 1000000) (w : World) (h : w.ownsRow B 3 1 v n (ints l)) :
    Calls Try.prog 85 #[v] w fun e w' => ∃ v', e = .returned v' ∧ w'.ownsRow w.heap.size 3 1 v' n (ints l) ∧ Below w.heap.size w w' := by
  have hl : l.length = n := by have := h.1; rw [ints_length] at this; omega
  obtain ⟨A, c, rfl, hc⟩ := own_col h
  have H := Lib.hid hc
  have HL := Lib.hid hl
  clear h hc hl
  go_enter Try.func85, Try.ntmps85
  go_upto_region 1 with (fail)
  apply wp_region_lit
  iterate 2 (refine wl_k rfl (fun K hK => ?_); go_simp; refine hK _ ?_; clear hK K)
  obtain ⟨w1, hr, ho, hg⟩ := run_mk63 (w := w) hn (Nat.le_refl w.heap.size)
  refine wl_w rfl (ex_mkS _ _ rfl rfl rfl hr) ?_
  simp only [Zq]
  have hb := (Below.refl w.heap.size w).grown hg (Nat.le_refl _) (fun q hq => by cases hq)
  have HO := Lib.hid ho
  have HB := Lib.hid hb
  clear hr ho hg hb
  refine wl_k rfl (fun K hK => ?_); go_simp; refine hK _ ?_; clear hK K
  go_wp2_with fail
  go_loopw [3, 4] (fun v i wr => ∃ j : Nat, j ≤ n ∧ i = .int .i64 (j : Int) ∧ Hid (wr.ownsRow w.heap.size 3 1 v j (ints (l.take j))) ∧ Hid (Below w.heap.size w wr)) (fun _ i _ => n - (intOf i).toNat)
  case atStart => exact ⟨0, by omega, rfl, HO, HB⟩
  case round =>
    clear HO HB
    obtain ⟨j, hj, rfl, HO, HB⟩ := hrel
    by_cases hlt : j < n
    · have hltI : (j : Int) < (n : Int) := by omega
      obtain ⟨o, ho⟩ : ∃ o, l[j]? = some o := ⟨_, List.getElem?_eq_getElem (by rw [HL.out]; exact hlt)⟩
      obtain ⟨p, rfl, hca⟩ := H.out j (.int .i64 o) (by unfold ints; rw [List.getElem?_map, ho]; rfl)
      have hkey := below_cell HB.out hca
      have HOJ := Lib.hid ho
      clear ho hca
      go_upto_region 5 with (fail)
      apply wp_region_lit
      iterate 4 (refine wl_k rfl (fun K hK => ?_); go_simp; refine hK _ ?_; clear hK K)
      ((with_reducible apply wl_oneG); exact rfl; exact rfl; exact one3 hkey)
      simp only [Zq]
      obtain ⟨v', w', hr, hown, hgr⟩ := run_push63 o 63 HO.out HB.out.size (show j ≤ 1000000 by omega)
      have hba := HB.out.alloc (by have := HB.out.size; omega) (.cells #[.int .i64 o] 3)
      have hbg := hba.grown hgr hba.size (fun q hq => (HO.out.lt q hq).1)
      refine wl_w rfl (ex_bs63_1 _ rfl rfl) ?_
      simp only [Zq]
      refine wl_w rfl (ex_app _ _ rfl rfl rfl hr) ?_
      simp only [Zq]
      have HO2 : Hid (w'.ownsRow w.heap.size 3 1 v' (j + 1) (ints (l.take (j + 1)))) := Lib.hid (by rw [List.take_add_one, HOJ.out]; exact hown)
      have HB2 := Lib.hid hbg
      clear hr hown hgr hba hbg HO HB hkey
      go_wp2_with fail
      go_roundw
      case rel => exact ⟨j + 1, by omega, by go_num, HO2, HB2⟩
      case measure => simp [intOf]; omega
    · obtain rfl : j = n := by omega
      have HO2 : Hid (wr.ownsRow w.heap.size 3 1 _ j (ints l)) := Lib.hid (by have := HO.out; rwa [List.take_of_length_le (by rw [HL.out]; exact Nat.le_refl _)] at this)
      go_wp2_with fail
      go_ret
      exact ⟨_, rfl, HO2.out, HB.out⟩
end Go.Proofs.Ytbhdgeoljlhmcaa
