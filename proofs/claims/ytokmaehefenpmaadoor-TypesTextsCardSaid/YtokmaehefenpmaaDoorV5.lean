/- A map literal whose ten entries come in whatever order. -/
import Derived.Test.YtokmaehefenpmaaDoorV3
import Derived.MapKept
import Derived.Carry
namespace Go.Proofs.YtokmaehefenpmaaDoor
open Go.RowKit Go.Proofs.YtokmaehefenpmaaDoor.Nm
set_option linter.unusedSimpArgs false
/-- The operations of a region, by its number. -/
def regionOf (n : Nat) : Code → Option (Array Oper)
  | .region id ops _ => if id = n then some ops else none
  | .seq a b => match regionOf n a with | some x => some x | none => regionOf n b
  | .cond _ a b => match regionOf n a with | some x => some x | none => regionOf n b
  | .block _ a => regionOf n a
  | .loop a => regionOf n a
  | .scope a => regionOf n a
  | _ => none
noncomputable def opsW : Array Oper := (Tryd.f60.body.bind (regionOf 1)).getD #[]
def eL : List Nat := [1, 2, 3, 4, 5, 6, 9, 13, 17, 20, 21, 22]
def qL (p : Nat → Bool) (i : Nat) : Bool := if i ∈ eL then p i else decide (i < 23)
def listedOf (p : Nat → Bool) : Array Bool := ((List.range 25).map (qL p)).toArray
def upd (p : Nat → Bool) (i : Nat) : Nat → Bool := fun j => j == i || p j
def cnt (p : Nat → Bool) : Nat := (eL.filter fun i => !p i).length
theorem listedOf_size (p : Nat → Bool) : (listedOf p).size = 25 := by simp [listedOf]
theorem listedOf_get (p : Nat → Bool) {i : Nat} (hi : i < 25) : (listedOf p)[i]? = some (qL p i) := by simp [listedOf, hi]
theorem listedOf_getD (p : Nat → Bool) {i : Nat} (hi : i < 25) (d : Bool) : (listedOf p).getD i d = qL p i := by
  simp [listedOf_get p hi]
theorem listedOf_past (p : Nat → Bool) {i : Nat} (hi : 25 ≤ i) (d : Bool) : (listedOf p).getD i d = d := by
  simp [Array.getElem?_eq_none (show (listedOf p).size ≤ i by rw [listedOf_size]; exact hi)]
theorem listedOf_upd (p : Nat → Bool) {i : Nat} (hi : i ∈ eL) : (listedOf p).setIfInBounds i true = listedOf (upd p i) := by
  apply Array.ext_getElem?
  intro j
  rw [Array.getElem?_setIfInBounds, listedOf_size]
  by_cases hj : j < 25
  · rw [listedOf_get p hj, listedOf_get _ hj]
    by_cases e : i = j
    · subst e; simp [hj, qL, hi, upd]
    · have : (j == i) = false := by simp; exact fun h => e h.symm
      simp [e, qL, upd, this]
  · rw [Array.getElem?_eq_none (by rw [listedOf_size]; omega), Array.getElem?_eq_none (by rw [listedOf_size]; omega)]
    split
    · split
      · omega
      · rfl
    · rfl
theorem cnt_list {i : Nat} {p : Nat → Bool} (hp : p i = false) : ∀ {l : List Nat}, l.Nodup → i ∈ l → (l.filter fun j => !upd p i j).length + 1 = (l.filter fun j => !p j).length
  | [], _, h => by cases h
  | a :: l, hn, h => by
    rw [List.nodup_cons] at hn
    rcases List.mem_cons.1 h with rfl | h
    · have : (l.filter fun j => !upd p i j) = l.filter fun j => !p j := List.filter_congr fun j hj => by
        have : (j == i) = false := by simp; exact fun e => hn.1 (e ▸ hj)
        simp [upd, this]
      simp only [List.filter_cons, upd, hp, beq_self_eq_true, Bool.true_or, Bool.not_true, Bool.not_false, if_true, List.length_cons]
      rw [← this]; simp [upd]
    · have ha : (a == i) = false := by simp; exact fun e => hn.1 (e ▸ h)
      have ih := cnt_list hp hn.2 h
      simp only [List.filter_cons]
      have : upd p i a = p a := by simp [upd, ha]
      rw [this]
      cases p a <;> simp <;> omega
theorem cnt_upd {p : Nat → Bool} {i : Nat} (hi : i ∈ eL) (hp : p i = false) : cnt (upd p i) + 1 = cnt p := cnt_list hp (by decide) hi
theorem cnt_zero {p : Nat → Bool} (h : cnt p = 0) : ∀ i, i ∈ eL → p i = true := fun i hi => by
  cases hp : p i with
  | true => rfl
  | false => have := cnt_upd hi hp; omega
theorem listedOf_all {p : Nat → Bool} (h : ∀ i, i ∈ eL → p i = true) : listedOf p = listedOf fun _ => true := by
  unfold listedOf
  congr 1
  exact List.map_congr_left fun i _ => by unfold qL; split <;> simp_all
def insL : List Nat := [1, 2, 3, 4, 5, 6, 9, 13, 17, 22]
def keyOf : Nat → Int | 1 => 1 | 2 => 2 | 3 => 3 | 4 => 4 | 5 => 5 | 6 => 11 | 9 => 6 | 13 => 7 | 17 => 9 | _ => 12
def cInt : ByteArray := ⟨#[73, 110, 116]⟩
def cBool : ByteArray := ⟨#[66, 111, 111, 108]⟩
def cText : ByteArray := ⟨#[84, 101, 120, 116]⟩
def cUnit : ByteArray := ⟨#[85, 110, 105, 116]⟩
def cArr : ByteArray := ⟨#[65, 114, 114, 97, 121]⟩
def cWeak : ByteArray := ⟨#[87, 101, 97, 107]⟩
def argOp : Nat → Operand | 1 => .const (.string cInt) | 2 => .const (.string cBool) | 3 => .const (.string cText) | 4 => .const (.string cUnit) | 5 => .const (.string cArr) | 6 => .const (.string cWeak) | 9 => .tmp 9 | 13 => .tmp 12 | 17 => .tmp 15 | _ => .tmp 19
def depL : Nat → List Nat | 21 => [20] | 22 => [20, 21] | _ => []
/-- What a later operation waits for. -/
def edgesIn (o : Oper) (l : List Nat) : Bool := o.after.all fun e => decide (e.on < 23 ∧ e.on ∉ eL) || l.contains e.on
def waits (o : Oper) (l : List Nat) : Bool := l.all fun j => o.after.any fun e => e.on == j && Region.binds .any e
structure LitOps (ops : Array Oper) : Prop where
  size : ops.size = 25
  ins : ∀ i, i ∈ insL → ∃ o, ops[i]? = some o ∧ o.op = .insert 104 (.tmp 7) (.const (.int .i64 (keyOf i))) (argOp i) ∧ o.guard = none ∧ o.dst = none ∧ edgesIn o (depL i) = true
  w22 : ∃ o, ops[22]? = some o ∧ waits o [21] = true
  o20 : ∃ o T, ops[20]? = some o ∧ o.op = .call { callee := .value (.func 81), args := #[.tmp 17], argTypes := T } ∧ o.guard = none ∧ o.dst = some 18 ∧ edgesIn o [] = true
  o21 : ∃ o, ops[21]? = some o ∧ o.op = .binOp .add 9 (.const (.string ⟨#[63]⟩)) (.tmp 18) 9 ∧ o.guard = none ∧ o.dst = some 19 ∧ edgesIn o [20] = true ∧ waits o [20] = true
  w23 : ∃ o, ops[23]? = some o ∧ waits o eL = true
  w24 : ∃ o, ops[24]? = some o ∧ waits o [23] = true
theorem litOps : LitOps opsW where
  size := by kernel_rfl
  ins := fun i hi => by
    simp only [insL, List.mem_cons, List.not_mem_nil, or_false] at hi
    rcases hi with rfl | rfl | rfl | rfl | rfl | rfl | rfl | rfl | rfl | rfl
    · exact ⟨opsW.getD 1 default, by kernel_rfl, by kernel_rfl, by kernel_rfl, by kernel_rfl, by kernel_rfl⟩
    · exact ⟨opsW.getD 2 default, by kernel_rfl, by kernel_rfl, by kernel_rfl, by kernel_rfl, by kernel_rfl⟩
    · exact ⟨opsW.getD 3 default, by kernel_rfl, by kernel_rfl, by kernel_rfl, by kernel_rfl, by kernel_rfl⟩
    · exact ⟨opsW.getD 4 default, by kernel_rfl, by kernel_rfl, by kernel_rfl, by kernel_rfl, by kernel_rfl⟩
    · exact ⟨opsW.getD 5 default, by kernel_rfl, by kernel_rfl, by kernel_rfl, by kernel_rfl, by kernel_rfl⟩
    · exact ⟨opsW.getD 6 default, by kernel_rfl, by kernel_rfl, by kernel_rfl, by kernel_rfl, by kernel_rfl⟩
    · exact ⟨opsW.getD 9 default, by kernel_rfl, by kernel_rfl, by kernel_rfl, by kernel_rfl, by kernel_rfl⟩
    · exact ⟨opsW.getD 13 default, by kernel_rfl, by kernel_rfl, by kernel_rfl, by kernel_rfl, by kernel_rfl⟩
    · exact ⟨opsW.getD 17 default, by kernel_rfl, by kernel_rfl, by kernel_rfl, by kernel_rfl, by kernel_rfl⟩
    · exact ⟨opsW.getD 22 default, by kernel_rfl, by kernel_rfl, by kernel_rfl, by kernel_rfl, by kernel_rfl⟩
  w22 := ⟨opsW.getD 22 default, by kernel_rfl, by kernel_rfl⟩
  o20 := ⟨opsW.getD 20 default, #[3], by kernel_rfl, by kernel_rfl, by kernel_rfl, by kernel_rfl, by kernel_rfl⟩
  o21 := ⟨opsW.getD 21 default, by kernel_rfl, by kernel_rfl, by kernel_rfl, by kernel_rfl, by kernel_rfl, by kernel_rfl⟩
  w23 := ⟨opsW.getD 23 default, by kernel_rfl, by kernel_rfl⟩
  w24 := ⟨opsW.getD 24 default, by kernel_rfl, by kernel_rfl⟩
theorem u104 : Tryd.prog.underlying 104 = some (.map 3 9) := by kernel_rfl
theorem run_ins (r : Nat) (es : Array MapEntry) (clock : Nat) (k : Int) (v : Value) (w : World) (hb : w.heap[r]? = some (.map es clock)) (hf : Instr.findNow (.int .i64) (.int .i64 k) es.toList 0 = some none) :
    (Instr.mapUpdate 104 (.map (some r)) (.int .i64 k) v).run Tryd.prog w = .ok () { w with heap := w.heap.setIfInBounds r (.map (es.push { key := .int .i64 k, val := v, born := clock }) (clock + 1)) } := by
  unfold Instr.mapUpdate
  simp only [Sem.run_bind, run_underlying u104, Result.andThen, MapKept.run_getObj_map hb, MapKept.run_checkKey u3 (k := .int .i64 k) rfl false 9999, MapKept.run_findKey u3 hf, MapKept.run_setObj_map _ hb]
def valOf (v9 v12 v15 v19 : ByteArray) : Nat → ByteArray | 1 => cInt | 2 => cBool | 3 => cText | 4 => cUnit | 5 => cArr | 6 => cWeak | 9 => v9 | 13 => v12 | 17 => v15 | _ => v19
def GoodE (val : Nat → ByteArray) (p : Nat → Bool) (es : Array MapEntry) : Prop :=
  (∀ e, e ∈ es.toList → ∃ i, i ∈ insL ∧ p i = true ∧ e.key = .int .i64 (keyOf i) ∧ e.val = .string (val i)) ∧ ∀ i, i ∈ insL → p i = true → ∃ e, e ∈ es.toList ∧ e.key = .int .i64 (keyOf i)
theorem key_inj : ∀ i, i ∈ insL → ∀ j, j ∈ insL → keyOf i = keyOf j → i = j := by decide
theorem find_none {k : Int} : ∀ {es : List MapEntry} {n : Nat}, (∀ e, e ∈ es → ∃ k', e.key = .int .i64 k' ∧ k' ≠ k) → Instr.findNow (.int .i64) (.int .i64 k) es n = some none
  | [], _, _ => rfl
  | e :: es, n, h => by
    obtain ⟨k', h1, h2⟩ := h e (by simp)
    simp only [Instr.findNow, h1, Instr.sameNow, if_true]
    rw [show (k == k') = false by simp; exact fun e => h2 e.symm]
    exact find_none fun e he => h e (by simp [he])
theorem find_key {k : Int} {P : Value → Prop} : ∀ {es : List MapEntry} {n : Nat}, (∀ e, e ∈ es → ∃ k', e.key = .int .i64 k' ∧ (k' = k → P e.val)) → (∃ e, e ∈ es ∧ e.key = .int .i64 k) → ∃ m v, Instr.findNow (.int .i64) (.int .i64 k) es n = some (some (m, v)) ∧ P v
  | [], _, _, ⟨_, h, _⟩ => by cases h
  | e :: es, n, h, ⟨e2, h2, h3⟩ => by
    obtain ⟨k', h1, hP⟩ := h e (by simp)
    simp only [Instr.findNow, h1, Instr.sameNow, if_true]
    by_cases hk : k = k'
    · subst hk
      simp only [beq_self_eq_true]
      exact ⟨n, e.val, rfl, hP rfl⟩
    · rw [show (k == k') = false by simp [hk]]
      refine find_key (fun e he => h e (by simp [he])) ⟨e2, ?_, h3⟩
      rcases List.mem_cons.1 h2 with rfl | h2
      · rw [h1] at h3; cases h3; exact absurd rfl hk
      · exact h2
theorem GoodE.miss {val : Nat → ByteArray} {p : Nat → Bool} {es : Array MapEntry} (h : GoodE val p es) {i : Nat} (hi : i ∈ insL) (hp : p i = false) : Instr.findNow (.int .i64) (.int .i64 (keyOf i)) es.toList 0 = some none :=
  find_none fun e he => by
    obtain ⟨j, hj, hpj, hk, _⟩ := h.1 e he
    exact ⟨_, hk, fun e2 => by have := key_inj j hj i hi e2; subst this; rw [hp] at hpj; cases hpj⟩
theorem GoodE.hit {val : Nat → ByteArray} {p : Nat → Bool} {es : Array MapEntry} (h : GoodE val p es) {i : Nat} (hi : i ∈ insL) (hp : p i = true) : ∃ m, Instr.findNow (.int .i64) (.int .i64 (keyOf i)) es.toList 0 = some (some (m, .string (val i))) := by
  obtain ⟨m, v, h1, h2⟩ := find_key (P := fun v => v = .string (val i)) (fun e he => by
    obtain ⟨j, hj, hpj, hk, hv⟩ := h.1 e he
    exact ⟨_, hk, fun e2 => by have := key_inj j hj i hi e2; subst this; exact hv⟩) (h.2 i hi hp)
  exact ⟨m, by rw [h1, h2]⟩
theorem GoodE.push {val : Nat → ByteArray} {p : Nat → Bool} {es : Array MapEntry} (h : GoodE val p es) {i : Nat} (hi : i ∈ insL) (c : Nat) : GoodE val (upd p i) (es.push { key := .int .i64 (keyOf i), val := .string (val i), born := c }) := by
  refine ⟨fun e he => ?_, fun j hj hp => ?_⟩
  · simp only [Array.toList_push, List.mem_append, List.mem_singleton] at he
    rcases he with he | rfl
    · obtain ⟨j, hj, hp, h3⟩ := h.1 e he
      exact ⟨j, hj, by simp [upd, hp], h3⟩
    · exact ⟨i, hi, by simp [upd], rfl, rfl⟩
  · simp only [Array.toList_push, List.mem_append, List.mem_singleton]
    by_cases e : j = i
    · subst e; exact ⟨_, Or.inr rfl, rfl⟩
    · obtain ⟨x, h1, h2⟩ := h.2 j hj (by simpa [upd, e] using hp)
      exact ⟨x, Or.inl h1, h2⟩
theorem GoodE.skip {val : Nat → ByteArray} {p : Nat → Bool} {es : Array MapEntry} (h : GoodE val p es) {i : Nat} (hi : i ∉ insL) : GoodE val (upd p i) es :=
  ⟨fun e he => by obtain ⟨j, hj, hp, h3⟩ := h.1 e he; exact ⟨j, hj, by simp [upd, hp], h3⟩, fun j hj hp => h.2 j hj (by
    have : j ≠ i := fun e => hi (e ▸ hj)
    simpa [upd, this] using hp)⟩
/-- What the frames hold while the entries come. -/
structure LitFr (ops : Array Oper) (W0 : World) (r : Nat) (n : Int) (v9 v12 v15 z v19 : ByteArray) (A0 A1 A2 : Act) : Prop where
  hr : W0.heap.size ≤ r
  m0 : ∀ A, A = A0 ∨ A = A1 ∨ A = A2 → A.eval (.tmp 7) = .map (some r) ∧ A.eval (.tmp 9) = .string v9 ∧ A.eval (.tmp 12) = .string v12 ∧ A.eval (.tmp 15) = .string v15
  m2 : A2.eval (.tmp 19) = .string v19
  n0 : A0.eval (.tmp 17) = .int .i64 n
  call : ∀ w, Below W0.heap.size W0 w → Calls Tryd.prog 81 #[.int .i64 n] w fun e w' => e = .returned (.string z) ∧ w' = w
  p1 : A0.put (some 18) (.string z) = A1
  cat : ∀ (o : Oper) (w : World), o.op = .binOp .add 9 (.const (.string ⟨#[63]⟩)) (.tmp 18) 9 → (execOp A1.eval o).run Tryd.prog w = .ok (.value (.string v19)) w
  p2 : A1.put (some 19) (.string v19) = A2
def frOf (A0 A1 A2 : Act) (p : Nat → Bool) : Act := if p 21 then A2 else if p 20 then A1 else A0
theorem eL_lt : ∀ i, i ∈ eL → i < 25 := by decide
theorem insL_eL : ∀ i, i ∈ insL → i ∈ eL := by decide
theorem dep_nil : ∀ i, i ∈ insL → i ≠ 22 → depL i = [] := by decide
theorem eL_cases : ∀ i, i ∈ eL → i ∈ insL ∨ i = 20 ∨ i = 21 := by decide
theorem ins_ne : ∀ i, i ∈ insL → (20 == i) = false ∧ (21 == i) = false := by decide
theorem argOp_eval {W0 : World} {r : Nat} {n : Int} {v9 v12 v15 z v19 : ByteArray} {A0 A1 A2 : Act} {ops : Array Oper} (F : LitFr ops W0 r n v9 v12 v15 z v19 A0 A1 A2) {A : Act} (hA : A = A0 ∨ A = A1 ∨ A = A2) {i : Nat} (hi : i ∈ insL) (h22 : i = 22 → A = A2) : A.eval (argOp i) = .string (valOf v9 v12 v15 v19 i) := by
  obtain ⟨_, h9, h12, h15⟩ := F.m0 A hA
  simp only [insL, List.mem_cons, List.not_mem_nil, or_false] at hi
  rcases hi with rfl | rfl | rfl | rfl | rfl | rfl | rfl | rfl | rfl | rfl
  · rfl
  · rfl
  · rfl
  · rfl
  · rfl
  · rfl
  · exact h9
  · exact h12
  · exact h15
  · rw [h22 rfl]; exact F.m2
theorem wpOp_at {P : Program} {ops : Array Oper} {Q : Exit → Act → World → Prop} {i : Nat} {K : Act → World → Prop} {a : Act} {w : World} {o : Oper} (ho : ops[i]? = some o) (hg : o.guard = none) (h : o.wp P a w K Q) : wpOp P ops Q i K a w := by
  unfold wpOp
  simp only [ho]
  rw [if_pos (by simp [Region.wanted, hg])]
  exact .inl h
theorem edges_ok {o : Oper} {l : List Nat} (h : edgesIn o l = true) {p : Nat → Bool} (hl : ∀ j, j ∈ l → j < 23 ∧ qL p j = true) : ∀ e ∈ o.after, Region.binds .any e = true → (listedOf p).getD e.on false = true := fun e he _ => by
  unfold edgesIn at h
  rw [Array.all_eq_true'] at h
  have h1 := h e he
  simp only [Bool.or_eq_true, decide_eq_true_eq, List.contains_iff_mem] at h1
  rcases h1 with ⟨h1, h2⟩ | h1
  · rw [listedOf_getD p (by omega)]
    unfold qL
    rw [if_neg h2]; simpa using h1
  · obtain ⟨h2, h3⟩ := hl _ h1
    rw [listedOf_getD p (by omega)]; exact h3
theorem waits_ok {o : Oper} {l : List Nat} (h : waits o l = true) {p : Nat → Bool} (ha : ∀ e ∈ o.after, Region.binds .any e = true → (listedOf p).getD e.on false = true) : ∀ j, j ∈ l → (listedOf p).getD j false = true := fun j hj => by
  unfold waits at h
  rw [List.all_eq_true] at h
  have h1 := h j hj
  rw [Array.any_eq_true'] at h1
  obtain ⟨e, he, h2⟩ := h1
  simp only [Bool.and_eq_true, beq_iff_eq] at h2
  rw [← h2.1]; exact ha e he h2.2
set_option maxRecDepth 100000 in
theorem lit_any {ops : Array Oper} (hO : LitOps ops) {W0 : World} {r : Nat} {n : Int} {v9 v12 v15 z v19 : ByteArray} {A0 A1 A2 : Act} (F : LitFr ops W0 r n v9 v12 v15 z v19 A0 A1 A2) {Q : Exit → Act → World → Prop} {f : Nat}
    (hK : ∀ w es c, w.heap[r]? = some (.map es c) → GoodE (valOf v9 v12 v15 v19) (fun _ => true) es → Below W0.heap.size W0 w → wpAnyH Tryd.prog .any ops Q (Below W0.heap.size W0) f (listedOf fun _ => true) A2 w) :
    ∀ (k : Nat) (p : Nat → Bool), (p 21 = true → p 20 = true) → (p 22 = true → p 21 = true) → cnt p = k → ∀ w es c, w.heap[r]? = some (.map es c) → GoodE (valOf v9 v12 v15 v19) p es → Below W0.heap.size W0 w → wpAnyH Tryd.prog .any ops Q (Below W0.heap.size W0) (k + f) (listedOf p) (frOf A0 A1 A2 p) w := by
  intro k
  induction k with
  | zero =>
    intro p h21 h22 hc w es c hr hG hb
    have hall := cnt_zero hc
    rw [listedOf_all hall, Nat.zero_add]
    have : frOf A0 A1 A2 p = A2 := by unfold frOf; rw [if_pos (hall 21 (by decide))]
    rw [this]
    refine hK w es c hr ⟨fun e he => ?_, fun i hi _ => hG.2 i hi (hall i (insL_eL i (by assumption)))⟩ hb
    obtain ⟨j, hj, hp, h3⟩ := hG.1 e he
    exact ⟨j, hj, rfl, h3⟩
  | succ k ih =>
    intro p h21 h22 hc w es c hr hG hb
    have hA : frOf A0 A1 A2 p = A0 ∨ frOf A0 A1 A2 p = A1 ∨ frOf A0 A1 A2 p = A2 := by
      unfold frOf; split
      · exact Or.inr (Or.inr rfl)
      · split
        · exact Or.inr (Or.inl rfl)
        · exact Or.inl rfl
    rw [show k + 1 + f = (k + f) + 1 by omega]
    refine ⟨fun h0 => ?_, fun i hi => ?_⟩
    · -- something is ready
      exfalso
      have hno : ∀ i, i ∉ Region.ready .any ops (listedOf p) := fun i hi => by rw [h0] at hi; cases hi
      have key : ∀ i o l, i ∈ eL → p i = false → ops[i]? = some o → edgesIn o l = true → (∀ j, j ∈ l → j < 23 ∧ qL p j = true) → False := fun i o l hi hp ho he hl =>
        hno i (mem_ready.2 ⟨by rw [listedOf_getD p (eL_lt i hi)]; simp [qL, hi, hp], o, ho, edges_ok he hl⟩)
      have h1 : ∀ i, i ∈ insL → i ≠ 22 → p i = true := fun i hi hne => by
        cases hp : p i with
        | true => rfl
        | false =>
          obtain ⟨o, ho, _, _, _, he⟩ := hO.ins i hi
          exact (key i o (depL i) (insL_eL i hi) hp ho he (fun j hj => by rw [dep_nil i hi hne] at hj; cases hj)).elim
      have h20 : p 20 = true := by
        cases hp : p 20 with
        | true => rfl
        | false =>
          obtain ⟨o, T, ho, _, _, _, he⟩ := hO.o20
          exact (key 20 o [] (by decide) hp ho he (fun j hj => by cases hj)).elim
      have q20 : qL p 20 = true := by simp [qL, eL, h20]
      have h21' : p 21 = true := by
        cases hp : p 21 with
        | true => rfl
        | false =>
          obtain ⟨o, ho, _, _, _, he, _⟩ := hO.o21
          exact (key 21 o [20] (by decide) hp ho he (fun j hj => by simp at hj; subst hj; exact ⟨by omega, q20⟩)).elim
      have q21 : qL p 21 = true := by simp [qL, eL, h21']
      have h22' : p 22 = true := by
        cases hp : p 22 with
        | true => rfl
        | false =>
          obtain ⟨o, ho, _, _, _, he⟩ := hO.ins 22 (by decide)
          exact (key 22 o [20, 21] (by decide) hp ho he (fun j hj => by
            simp at hj
            rcases hj with rfl | rfl
            · exact ⟨by omega, q20⟩
            · exact ⟨by omega, q21⟩)).elim
      have hall : ∀ i, i ∈ eL → p i = true := fun i hi => by
        rcases eL_cases i hi with h | rfl | rfl
        · by_cases e : i = 22
          · subst e; exact h22'
          · exact h1 i h e
        · exact h20
        · exact h21'
      have : cnt p = 0 := by
        unfold cnt
        rw [List.length_eq_zero_iff, List.filter_eq_nil_iff]
        intro i hi; simp [hall i hi]
      omega
    · obtain ⟨hun, o, ho, hed⟩ := mem_ready.1 hi
      have hi25 : i < 25 := by
        rcases Nat.lt_or_ge i 25 with h | h
        · exact h
        · rw [listedOf_past p h] at hun; cases hun
      rw [listedOf_getD p hi25] at hun
      by_cases hE : i ∈ eL
      · have hp : p i = false := by simpa [qL, hE] using hun
        have hcu := cnt_upd hE hp
        rw [listedOf_upd p hE]
        rcases eL_cases i hE with hins | rfl | rfl
        · obtain ⟨o', ho', hop, hg, hd, -⟩ := hO.ins i hins
          rw [ho'] at ho; cases ho
          have h22i : i = 22 → p 21 = true := fun e => by
            subst e
            obtain ⟨o2, ho2, hw⟩ := hO.w22
            rw [ho2] at ho'; cases ho'
            have := waits_ok hw hed 21 (by simp)
            rw [listedOf_getD p (by omega)] at this
            simpa [qL, eL] using this
          have hfr : frOf A0 A1 A2 (upd p i) = frOf A0 A1 A2 p := by
            obtain ⟨e2, e1⟩ := ins_ne i hins
            simp [frOf, upd, e1, e2]
          have hx := argOp_eval F hA hins (fun e => by unfold frOf; rw [if_pos (h22i e)])
          refine wpOp_at ho' hg ?_
          unfold Oper.wp execOp
          have hc2 : (frOf A0 A1 A2 p).eval (.const (.int .i64 (keyOf i))) = .int .i64 (keyOf i) := rfl
          simp only [hop, (F.m0 _ hA).1, hx, hc2, run_ins r es c (keyOf i) _ w hr (hG.miss hins hp), Sem.run_bind, Sem.run_pure, Result.andThen_ok]
          obtain ⟨g1, g2⟩ := MapKept.heap_set (o' := .map (es.push { key := .int .i64 (keyOf i), val := .string (valOf v9 v12 v15 v19 i), born := c }) (c + 1)) hr
          have hb2 : Below W0.heap.size W0 { w with heap := w.heap.setIfInBounds r (.map (es.push { key := .int .i64 (keyOf i), val := .string (valOf v9 v12 v15 v19 i), born := c }) (c + 1)) } := ⟨hb.os, hb.tape, hb.output, by simpa using hb.size, fun j hj => by rw [g2 j (by have := F.hr; omega)]; exact hb.block j hj⟩
          have := ih (upd p i) (fun h => by
              have e1 := (ins_ne i hins).2
              simp [upd, e1] at h ⊢; exact Or.inr (h21 h)) (fun h => by
              simp only [upd, Bool.or_eq_true, beq_iff_eq] at h ⊢
              rcases h with h | h
              · exact Or.inr (h22i h.symm)
              · exact Or.inr (h22 h)) (by omega) _ _ _ g1 (hG.push hins c) hb2
          rw [hfr] at this
          show Below W0.heap.size W0 _ ∧ wpAnyH _ _ _ _ _ _ _ ((frOf A0 A1 A2 p).put o.dst undef) _
          rw [hd]
          exact ⟨hb2, this⟩
        · obtain ⟨o', T, ho', hop, hg, hd, -⟩ := hO.o20
          rw [ho'] at ho; cases ho
          have hp21 : p 21 = false := by
            cases h : p 21 with
            | false => rfl
            | true => rw [h21 h] at hp; cases hp
          have hfr0 : frOf A0 A1 A2 p = A0 := by simp [frOf, hp, hp21]
          have hfr1 : frOf A0 A1 A2 (upd p 20) = A1 := by simp [frOf, upd, hp21]
          refine wpOp_at ho' hg ?_
          rw [hfr0]
          unfold Oper.wp
          have hv : (execOp A0.eval o).run Tryd.prog w = .ok (.enter 81 #[.int .i64 n]) w := by
            unfold execOp
            have e1 : A0.eval (.func 81) = .func (.func 81) #[] #[] := rfl
            simp only [hop, resolve, Deferred.ofValue, invoke, e1, F.n0, Sem.run_bind, Sem.run_pure, Result.andThen_ok, List.map_toArray, List.map_cons, List.map_nil]
            exact (enters_of Tryd.func81 (by kernel_rfl) rfl : Enters Tryd.prog 81) _ w
          rw [hv]
          refine (F.call w hb).mono ?_
          rintro e w' ⟨rfl, rfl⟩
          show Below W0.heap.size W0 _ ∧ wpAnyH _ _ _ _ _ _ _ (A0.put o.dst (.string z)) _
          rw [hd, F.p1, ← hfr1]
          exact ⟨hb, ih (upd p 20) (fun _ => by simp [upd]) (fun h => by simp [upd] at h ⊢; exact h22 h) (by omega) _ _ _ hr (hG.skip (by decide)) hb⟩
        · obtain ⟨o', ho', hop, hg, hd, -, hw⟩ := hO.o21
          rw [ho'] at ho; cases ho
          have hp20 : p 20 = true := by
            have := waits_ok hw hed 20 (by simp)
            rw [listedOf_getD p (by omega)] at this
            simpa [qL, eL] using this
          have hfr1 : frOf A0 A1 A2 p = A1 := by simp [frOf, hp, hp20]
          have hfr2 : frOf A0 A1 A2 (upd p 21) = A2 := by simp [frOf, upd]
          refine wpOp_at ho' hg ?_
          rw [hfr1]
          unfold Oper.wp
          rw [F.cat o w hop]
          show Below W0.heap.size W0 _ ∧ wpAnyH _ _ _ _ _ _ _ (A1.put o.dst (.string v19)) _
          rw [hd, F.p2, ← hfr2]
          exact ⟨hb, ih (upd p 21) (fun _ => by simp [upd, hp20]) (fun h => by simp [upd]) (by omega) _ _ _ hr (hG.skip (by decide)) hb⟩
      · -- 23 and 24 wait
        exfalso
        have hge : ¬ i < 23 := by simpa [qL, hE] using hun
        have : i = 23 ∨ i = 24 := by omega
        rcases this with rfl | rfl
        · obtain ⟨o', ho', hw⟩ := hO.w23
          rw [ho'] at ho; cases ho
          have hall := waits_ok hw hed
          have : cnt p = 0 := by
            unfold cnt
            rw [List.length_eq_zero_iff, List.filter_eq_nil_iff]
            intro i hi
            have := hall i hi
            rw [listedOf_getD p (eL_lt i hi)] at this
            simp [qL, hi] at this
            simp [this]
          omega
        · obtain ⟨o', ho', hw⟩ := hO.w24
          rw [ho'] at ho; cases ho
          have := waits_ok hw hed 23 (by simp)
          rw [listedOf_getD p (by omega)] at this
          simp [qL, eL] at this
end Go.Proofs.YtokmaehefenpmaaDoor
