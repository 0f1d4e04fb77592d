/- The solver's binding: plain, and the steps of its walk. -/
import Derived.Test.YtokmaehefenpmaaDoorPE3
namespace Go.Proofs.YtokmaehefenpmaaDoor
open Go.RowKit Go.ChangeMaps Go.Proofs.YtokmaehefenpmaaDoor.Nm
set_option linter.unusedSimpArgs false
theorem Keep.drew (C : Nat → Prop) (w : World) : Keep C w w.drew := Keep.of ((Below.refl w.heap.size w).drew)
theorem bind_occ {sol : List Ty} {v : Nat} {t : Ty} (h : t.occ v = true) : bindP sol v t = .error 32 := by unfold bindP; rw [if_pos h]
theorem bind_big {sol : List Ty} {v : Nat} {t : Ty} (h : t.occ v = false) (h2 : 40 < t.nodes) : bindP sol v t = .error 2 := by unfold bindP; rw [if_neg (by rw [h]; simp), if_pos h2]
theorem bind_some {sol : List Ty} {v : Nat} {t : Ty} (h : t.occ v = false) (h2 : t.nodes ≤ 40) {u : Ty} (hu : u ∈ sol) (h3 : 40 < (sub1 v t u).nodes) : bindP sol v t = .error 2 := by
  unfold bindP
  rw [if_neg (by rw [h]; simp), if_neg (by omega), if_pos]
  rw [List.any_eq_true]
  exact ⟨_, List.mem_map_of_mem hu, by simpa using h3⟩
theorem bind_all {sol : List Ty} {v : Nat} {t : Ty} (h : t.occ v = false) (h2 : t.nodes ≤ 40) (h3 : ∀ u, u ∈ sol → (sub1 v t u).nodes ≤ 40) : bindP sol v t = .ok (sol.map (sub1 v t)) := by
  unfold bindP
  rw [if_neg (by rw [h]; simp), if_neg (by omega), if_neg]
  rw [List.any_eq_true]
  rintro ⟨u, hu, h4⟩
  obtain ⟨x, hx, rfl⟩ := List.mem_map.1 hu
  have := h3 x hx
  simp at h4
  omega
/-- What one entry held, while the entries are gone through. -/
theorem gone_val {m : Nat} {sol : List Ty} {f : Nat → Option Ty} (h : KnownX m sol f) (hg : Good m sol) {v : Nat} {t : Ty} (ht : FineV m t) (hfix : applyTy sol t = t) (hoc : t.occ v = false) (hn : t.nodes ≤ 40) {P : Nat → Bool} {k : Nat} {u : Ty} (hu : goneF f v t P k = some u) (hk : k ≠ v → P k = false) :
    FineV m u ∧ applyTy sol u = u ∧ u.nodes ≤ 40 ∧ (goneF f v t (fun x => P x || decide (x = k)) = fun x => if x = k then some (sub1 v t u) else goneF f v t P x) ∧ (k ≠ v → u ∈ sol) ∧ (k = v → sub1 v t u = t) := by
  by_cases e : k = v
  · subst e
    obtain rfl : u = t := by unfold goneF at hu; rw [if_pos rfl] at hu; cases hu; rfl
    have hs := sub1_absent (v := k) (t := u) u ht hoc
    refine ⟨ht, hfix, hn, ?_, fun h => absurd rfl h, fun _ => hs⟩
    funext x
    unfold goneF
    by_cases e2 : x = k
    · rw [if_pos e2, if_pos e2, hs]
    · rw [if_neg e2, if_neg e2, if_neg e2]
      simp [e2]
  · have hp := hk e
    have hu2 : f k = some u := by unfold goneF at hu; rw [if_neg e, hp] at hu; simpa using hu
    obtain ⟨g1, g2⟩ := h.dom k u hu2
    have gm := List.mem_of_getElem? g2
    refine ⟨hg.fine u gm, hg.idem u gm, hg.size u gm, ?_, fun _ => gm, fun h => absurd h e⟩
    funext x
    by_cases e2 : x = k
    · subst e2
      rw [if_pos rfl]
      unfold goneF
      rw [if_neg e]
      simp [hu2]
    · rw [if_neg e2]
      unfold goneF
      simp [e2]
theorem gone_end {m : Nat} {sol : List Ty} {f : Nat → Option Ty} (h : KnownX m sol f) (hg : Good m sol) {v : Nat} {t : Ty} (hvar : applyTy sol (varT v) = varT v) (hoc : t.occ v = false) (hn : t.nodes ≤ 40) {P : Nat → Bool} (hP : ∀ x u, f x = some u → x ≠ v → P x = true) (hz : ∀ x u, goneF f v t P x = some u → P x = true → u.nodes ≤ 40) : bindP sol v t = .ok (sol.map (sub1 v t)) := by
  have hfv := h.none hg hvar
  refine bind_all hoc hn fun u hu => ?_
  obtain ⟨k, hk, rfl⟩ := List.mem_iff_getElem.1 hu
  have hkm : k < m := by rw [← hg.len]; exact hk
  cases hf : f k with
  | none =>
    have := h.rest k hkm hf
    rw [List.getElem?_eq_getElem hk] at this
    rw [Option.some.inj this, sub1_var]
    split
    · exact hn
    · rw [nodes_var]; omega
  | some y =>
    have hkv : k ≠ v := fun e => by rw [e, hfv] at hf; cases hf
    have := (h.dom k y hf).2
    rw [List.getElem?_eq_getElem hk] at this
    have := Option.some.inj this
    rw [this]
    exact hz k _ (by unfold goneF; rw [if_neg hkv, if_pos (hP k _ hf hkv), hf]; rfl) (hP k _ hf hkv)
theorem Four.cells {w : World} {D : Nat → Prop} {A : Option Addr} {i : Nat} {row : Array Value} (h : Four w D A i row) : Four w (fun b => D b ∧ ∃ Cs t fr, w.heap[b]? = some (.cells Cs t fr)) A i row := by
  obtain ⟨b, off, Cs, t, fr, h1, h2, h3, h4⟩ := h
  exact ⟨b, off, Cs, t, fr, h1, ⟨h2, _, _, _, h3⟩, h3, h4⟩
theorem TyAt.cells {w : World} {D : Nat → Prop} {t : Ty} {row : Array Value} (h : TyAt w D t row) : TyAt w (fun b => D b ∧ ∃ Cs t fr, w.heap[b]? = some (.cells Cs t fr)) t row := by
  induction h with
  | mk rows hk hn hs hl hc hm hf _ ih => exact .mk rows hk hn hs hl hc hm (fun i t hi => (hf i t hi).cells) ih
/-- What is no variable may change. -/
theorem TyAt.keepC {C : Nat → Prop} {w w' : World} {D : Nat → Prop} {t : Ty} {row : Array Value} (h : TyAt w D t row) (hk : Keep C w w') (hC : ∀ b, D b → C b → ∀ Cs t fr, w.heap[b]? ≠ some (.cells Cs t fr)) : TyAt w' D t row :=
  (h.cells.keep hk fun b hb hc => by
    obtain ⟨h1, Cs, t, fr, h2⟩ := hb
    exact hC b h1 hc Cs t fr h2).weak fun _ h => h.1
theorem SolR.keep {w w' : World} {ps q : Nat} {f : Nat → Option Ty} {es : Array MapEntry} {c : Nat} (h : SolR w ps q f es c) {C : Nat → Prop} (hk : Keep C w w') (hC : ∀ b, C b → b ≠ q ∧ ∀ Cs t fr, w.heap[b]? ≠ some (.cells Cs t fr)) : SolR w' ps q f es c :=
  ⟨hk.look h.var fun hc => (hC _ hc).2 _ _ _ h.var, ⟨hk.look h.map.blk fun hc => (hC _ hc).1 rfl, h.map.st, fun x hx => by
    obtain ⟨v, row, t, g1, g2, g3, g4⟩ := h.map.ent x hx
    exact ⟨v, row, t, g1, g2, g3, g4.keepC hk fun b _ hc => (hC b hc).2⟩, h.map.has⟩, h.small⟩
section
variable {ops : Array Oper} {rest : List Oper} {dst : Option Tmp} {ty' : TypeId} {x : Operand} {pos : String} {after : Array Edge} {a : Act} {w : World} {Q : Exit → Act → World → Prop}
theorem wl_range90 {q : Nat} {es : Array MapEntry} {clock : Nat} (hm : w.heap[q]? = some (.map es clock)) (hx : a.eval x = .map (some q))
    (h : ∀ W r, Below w.heap.size w W → w.heap.size ≤ r → W.heap[r]? = some (.mapIter (some q) clock #[] clock) → wpList Tryd.prog ops Q rest (a.put dst (.pointer (some ⟨r, 0, none⟩))) W) :
    wpList Tryd.prog ops Q (⟨dst, .range 90 x, ty', pos, after, none⟩ :: rest) a w :=
  wl_w rfl (ex_range x rfl hx hm) (h _ _ ((Below.refl _ w).alloc (Nat.le_refl _) _) (Nat.le_refl _) (ha_new rfl))
theorem setBlock_keep {w : World} {r : Nat} {o : Obj} (hr : r < w.heap.size) : Keep (fun b => b = r) w (setBlock w r o) ∧ (setBlock w r o).heap[r]? = some o ∧ (setBlock w r o).heap.size = w.heap.size := by
  refine ⟨⟨rfl, rfl, rfl, by simp [setBlock], fun b _ hn => ?_⟩, by simp [setBlock, hr], by simp [setBlock]⟩
  have : r ≠ b := fun e => hn e.symm
  simp [setBlock, Array.getElem?_setIfInBounds, this]
theorem wl_next90 {r q since c0 clock : Nat} {seen : Array Nat} {es : Array MapEntry} (hx : a.eval x = .pointer (some ⟨r, 0, none⟩)) (hr : w.heap[r]? = some (.mapIter (some q) since seen c0)) (hb : w.heap[q]? = some (.map es clock)) (hold : ∀ x ∈ es.toList, x.born < since) (hsc : since ≤ c0)
    (h0 : (leftOf es seen).size = 0 → wpList Tryd.prog ops Q rest (a.put dst (.tuple #[.bool false])) w)
    (h1 : ∀ e W, e ∈ (leftOf es seen).toList → Keep (fun b => b = r) w W → W.heap[r]? = some (.mapIter (some q) since (seen.push e.born) clock) → W.heap.size = w.heap.size → wpList Tryd.prog ops Q rest (a.put dst (.tuple #[.bool true, e.key, e.val])) W) :
    wpList Tryd.prog ops Q (⟨dst, .next x false, ty', pos, after, none⟩ :: rest) a w := by
  rcases run_next_at (P := Tryd.prog) w ty' r q since c0 seen es clock hr hb hold hsc with ⟨g1, g2⟩ | ⟨e, he, w1, hw1, g2⟩
  · exact wl_w rfl (ex_next x rfl hx g2) (h0 g1)
  · have hlt := heap_lt hr
    have hs1 : w1.heap = w.heap := by rcases hw1 with rfl | rfl <;> rfl
    have hk1 : Keep (fun b => b = r) w w1 := by
      rcases hw1 with rfl | rfl
      · exact Keep.refl _ _
      · exact Keep.drew _ _
    obtain ⟨k1, k2, k3⟩ := setBlock_keep (w := w1) (r := r) (o := .mapIter (some q) since (seen.push e.born) clock) (by rw [hs1]; exact hlt)
    exact wl_w rfl (ex_next x rfl hx g2) (h1 e _ he (hk1.trans (fun b h => Or.inl h) k1) k2 (by rw [k3, hs1]))
theorem wl_entry90 {r q since clock : Nat} {seen : Array Nat} {es : Array MapEntry} {e : MapEntry} (hx : a.eval x = .pointer (some ⟨r, 0, none⟩)) (hr : w.heap[r]? = some (.mapIter (some q) since (seen.push e.born) clock)) (hb : w.heap[q]? = some (.map es clock)) (he : e ∈ es.toList) (hn : (es.toList.map (·.born)).Nodup) {k v : Value} (hk : e.key = k) (hv : e.val = v)
    (h : wpList Tryd.prog ops Q rest (a.put dst (.tuple #[k, v])) w) :
    wpList Tryd.prog ops Q (⟨dst, .entry x, ty', pos, after, none⟩ :: rest) a w := by
  subst hk hv
  exact wl_w rfl (ex_entry x rfl hx (run_entry_at w r q since seen es clock e hr hb he hn)) h
end
section
variable {md : Region.Mode} {ops : Array Oper} {Q : Exit → Act → World → Prop} {S : World → Prop} {fuel : Nat} {listed : Array Bool} {a : Act} {w : World} {i : Nat} {oi : Oper}
theorem ha_new90 (hr : Region.ready md ops listed = [i]) (ho : ops[i]? = some oi) (hg : Region.wanted oi (yielded ops a.tmps) = true) (m k x : Operand) (hop : oi.op = .mapUpdate 90 m k x) {ps q v : Nat} {row : Array Value} (hm : a.eval m = .map (some q)) (hk : a.eval k = .int .i64 (v : Int)) (hx : a.eval x = .agg row) {f : Nat → Option Ty} {es : Array MapEntry} {c : Nat} (hs : SolR w ps q f es c) (hf : f v = none) {t : Ty} (ht : TyAt w (fun b => b ≠ q) t row) (hn : t.nodes ≤ 1000000) (hpq : ps ≠ q) (hS : ∀ W, Keep (fun b => b = q) w W → S W)
    (h : ∀ W es', Keep (fun b => b = q) w W → SolR W ps q (fun x => if x = v then some t else f x) es' (c + 1) → S W → wpAnyH Tryd.prog md ops Q S fuel (listed.setIfInBounds i true) (a.put oi.dst undef) W) : wpAnyH Tryd.prog md ops Q S (fuel + 1) listed a w := by
  have hmiss := (hs.map.miss (k := (v : Int)) (fun v' e => by
    have e2 : v = v' := by omega
    rw [← e2]; exact hf)).1
  have hk1 := setMap_keep (o' := .map (es.push { key := .int .i64 (v : Int), val := .agg row, born := c }) (c + 1)) hs.map.blk
  exact ha_do0 hr ho hg (ex_new90 m k x hop hm hk hx hs.map.blk hmiss) (hS _ hk1) (h _ _ hk1 ⟨hk1.look hs.var hpq, hs.map.new hf ht, fun x u hu => by
    by_cases e : x = v
    · simp only [if_pos e] at hu; cases hu; exact hn
    · simp only [if_neg e] at hu; exact hs.small x u hu⟩ (hS _ hk1))
theorem ha_upd90 (hr : Region.ready md ops listed = [i]) (ho : ops[i]? = some oi) (hg : Region.wanted oi (yielded ops a.tmps) = true) (m k x : Operand) (hop : oi.op = .mapUpdate 90 m k x) {ps q v : Nat} {row : Array Value} (hm : a.eval m = .map (some q)) (hk : a.eval k = .int .i64 (v : Int)) (hx : a.eval x = .agg row) {f : Nat → Option Ty} {es : Array MapEntry} {c : Nat} (hs : SolR w ps q f es c) {u : Ty} (hf : f v = some u) {t : Ty} (ht : TyAt w (fun b => b ≠ q) t row) (hn : t.nodes ≤ 1000000) (hpq : ps ≠ q) (hS : ∀ W, Keep (fun b => b = q) w W → S W)
    (h : ∀ W es', Keep (fun b => b = q) w W → SolR W ps q (fun x => if x = v then some t else f x) es' c → (∀ seen, (leftOf es' seen).size = (leftOf es seen).size) → (∀ x, x ∈ es'.toList → ∃ y, y ∈ es.toList ∧ y.key = x.key ∧ y.born = x.born) → S W → wpAnyH Tryd.prog md ops Q S fuel (listed.setIfInBounds i true) (a.put oi.dst undef) W) : wpAnyH Tryd.prog md ops Q S (fuel + 1) listed a w := by
  obtain ⟨j, e, row', g1, g2, g3, -⟩ := hs.map.hit hf
  have hk1 := setMap_keep (o' := .map (es.modify j fun e => { e with key := .int .i64 (v : Int), val := .agg row }) c) hs.map.blk
  refine ha_do0 hr ho hg (ex_upd90 m k x hop hm hk hx hs.map.blk g1 g2 g3) (hS _ hk1) (h _ _ hk1 ⟨hk1.look hs.var hpq, hs.map.upd g2 g3 ht, fun x u hu => ?_⟩ (fun seen => left_modify) (fun x hx => ?_) (hS _ hk1))
  · by_cases e : x = v
    · simp only [if_pos e] at hu; cases hu; exact hn
    · simp only [if_neg e] at hu; exact hs.small x u hu
  · obtain ⟨i, hi⟩ := List.mem_iff_getElem?.1 hx
    rw [Array.getElem?_toList, Array.getElem?_modify] at hi
    split at hi
    · rename_i e2
      subst e2
      rw [g2] at hi
      obtain rfl := Option.some.inj hi
      exact ⟨e, List.mem_of_getElem? (by rw [Array.getElem?_toList]; exact g2), g3, rfl⟩
    · exact ⟨x, List.mem_of_getElem? (by rw [Array.getElem?_toList]; exact hi), rfl, rfl⟩
end
end Go.Proofs.YtokmaehefenpmaaDoor
