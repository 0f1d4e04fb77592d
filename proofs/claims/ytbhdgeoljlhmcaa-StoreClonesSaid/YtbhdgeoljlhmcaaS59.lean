/- A store cloned, by the program. -/
import Derived.Test.YtbhdgeoljlhmcaaT7
import Derived.Outline
namespace Go.Proofs.Ytbhdgeoljlhmcaa
open Go.RowKit Go.Proofs.Ytbhdgeoljlhmcaa.Nm Go.Proofs.Ytbhdgeoljlhmcaa.St
set_option linter.unusedSimpArgs false
theorem u111 : Try.prog.underlying 111 = some (.map 80 80) := by kernel_rfl
theorem zero80 (w : World) : (zeroValue 80).run Try.prog w = .ok (.pointer none) w := by kernel_rfl
/-- entries whose keys and values are pointers to buffers -/
def mkE : List (Option Nat × Option Nat) → Nat → List MapEntry
  | [], _ => []
  | (k, v) :: L, i => { key := bp k, val := bp v, born := i } :: mkE L (i + 1)
def fnO (o : Option Nat) : List (Option Nat × Option Nat) → Nat → Option (Nat × Value)
  | [], _ => none
  | (k, v) :: L, i => if o = k then some (i, bp v) else fnO o L (i + 1)
/-- a pointer that is nil or to a buffer -/
def Live (w : World) (o : Option Nat) : Prop := ∀ g, o = some g → ∃ ch : Array Value, w.heap[g]? = some (.cells ch 87 (0, 0))
theorem run_ptr {w : World} {o k : Option Nat} (ho : Live w o) (hk : Live w k) : (Op.equal 80 (bp o) (bp k)).run Try.prog w = .ok (decide (o = k)) w := by
  unfold Op.equal
  cases o with
  | none =>
    cases k with
    | none => kernel_rfl
    | some g => rw [decide_eq_false (by simp)]; rw [show bp none = .pointer none from rfl, show bp (some g) = .pointer (some ⟨g, 0, none⟩) from rfl]; kernel_rfl
  | some h =>
    cases k with
    | none => rw [decide_eq_false (by simp)]; rw [show bp none = .pointer none from rfl, show bp (some h) = .pointer (some ⟨h, 0, none⟩) from rfl]; kernel_rfl
    | some g =>
      obtain ⟨c1, h1⟩ := ho h rfl
      obtain ⟨c2, h2⟩ := hk g rfl
      rw [show bp (some h) = .pointer (some ⟨h, 0, none⟩) from rfl, show bp (some g) = .pointer (some ⟨g, 0, none⟩) from rfl]
      refine (run_eqi _ h g w h1 h2).trans ?_
      simp
theorem run_ask {w : World} {o : Option Nat} (ho : Live w o) : ∀ (L : List (Option Nat × Option Nat)) (j i : Nat), (∀ e ∈ L, Live w e.1) → (Instr.findAsking 80 (bp o) (mkE L j) i).run Try.prog w = .ok (fnO o L i) w
  | [], j, i, _ => by simp [mkE, fnO, Instr.findAsking]
  | (k, v) :: L, j, i, h => by
    have h1 := run_ptr ho (h (k, v) (by simp))
    have ih := run_ask ho L (j + 1) (i + 1) (fun e he => h e (by simp [he]))
    simp only [mkE, fnO, Instr.findAsking, Sem.run_bind, h1, Result.andThen_ok]
    by_cases e : o = k
    · simp [e]
    · simp [e, ih]
theorem run_fkey {w : World} {o : Option Nat} (ho : Live w o) (L : List (Option Nat × Option Nat)) (h : ∀ e ∈ L, Live w e.1) : (Instr.findKey 80 (bp o) (mkE L 0)).run Try.prog w = .ok (fnO o L 0) w := by
  unfold Instr.findKey
  simp only [Sem.run_bind, run_underlying u80, Result.andThen_ok]
  cases L with
  | nil => simp [mkE, fnO, Instr.findNow]
  | cons e L =>
    obtain ⟨k, v⟩ := e
    have : ∀ x : TypeDesc, (∃ t, x = .pointer t) → Instr.findNow x (bp o) (mkE ((k, v) :: L) 0) 0 = none := by
      rintro x ⟨t, rfl⟩
      cases o <;> cases k <;> rfl
    rw [this _ ⟨_, rfl⟩]
    exact run_ask ho _ 0 0 h
theorem run_ckey (e : Bool) (o : Option Nat) (w : World) : (Instr.checkKey e 10000 80 (bp o)).run Try.prog w = .ok () w := by
  unfold Instr.checkKey
  simp only [Sem.run_bind, run_underlying u80, Result.andThen_ok]
  cases o <;> rfl
def MapAt (w : World) (r : Nat) (L : List (Option Nat × Option Nat)) : Prop := w.heap[r]? = some (.map (mkE L 0).toArray L.length)
theorem mkE_snoc (k v : Option Nat) : ∀ (L : List (Option Nat × Option Nat)) (i : Nat), mkE (L ++ [(k, v)]) i = mkE L i ++ [{ key := bp k, val := bp v, born := i + L.length }]
  | [], i => rfl
  | (a, b) :: L, i => by
    simp only [List.cons_append, mkE, mkE_snoc k v L (i + 1), List.length_cons, List.cons.injEq, true_and]
    rw [show i + 1 + L.length = i + (L.length + 1) by omega]
theorem run_lookP {w : World} {r : Nat} {L : List (Option Nat × Option Nat)} {o : Option Nat} (hm : MapAt w r L) (ho : Live w o) (h : ∀ e ∈ L, Live w e.1) (c : Bool) :
    (Instr.lookup 111 (.map (some r)) (bp o) c).run Try.prog w = .ok (if c then .tuple #[((fnO o L 0).map (·.2)).getD (.pointer none), .bool (fnO o L 0).isSome] else ((fnO o L 0).map (·.2)).getD (.pointer none)) w := by
  have h1 := run_fkey ho L h
  have hz := zero80 w
  unfold Instr.lookup
  cases hq : fnO o L 0 with
  | none => rw [hq] at h1; cases c <;> simp [Sem.run_bind, run_underlying u111, Result.andThen, MapKept.run_getObj_map hm, run_ckey, h1, hz]
  | some x => rw [hq] at h1; cases c <;> simp [Sem.run_bind, run_underlying u111, Result.andThen, MapKept.run_getObj_map hm, run_ckey, h1]
theorem run_updP {w : World} {r : Nat} {L : List (Option Nat × Option Nat)} {o : Option Nat} (hm : MapAt w r L) (ho : Live w o) (h : ∀ e ∈ L, Live w e.1) (hf : fnO o L 0 = none) (v : Option Nat) :
    ∃ w', (Instr.mapUpdate 111 (.map (some r)) (bp o) (bp v)).run Try.prog w = .ok () w' ∧ MapAt w' r (L ++ [(o, v)]) ∧ w'.heap.size = w.heap.size ∧ w'.os = w.os ∧ w'.tape = w.tape ∧ w'.output = w.output ∧ ∀ q, q ≠ r → w'.heap[q]? = w.heap[q]? := by
  have h1 := run_fkey ho L h
  rw [hf] at h1
  obtain ⟨g1, g2⟩ := MapKept.heap_set (o' := .map ((mkE L 0).toArray.push { key := bp o, val := bp v, born := L.length }) (L.length + 1)) hm
  refine ⟨{ w with heap := w.heap.setIfInBounds r (.map ((mkE L 0).toArray.push { key := bp o, val := bp v, born := L.length }) (L.length + 1)) }, ?_, ?_, by simp, rfl, rfl, rfl, g2⟩
  · unfold Instr.mapUpdate
    simp only [Sem.run_bind, run_underlying u111, Result.andThen_ok, MapKept.run_getObj_map hm, run_ckey, h1, MapKept.run_setObj_map _ hm]
  · unfold MapAt
    rw [mkE_snoc, List.length_append, List.length_singleton, Nat.zero_add]
    rw [show (mkE L 0 ++ [({ key := bp o, val := bp v, born := L.length } : MapEntry)]).toArray = (mkE L 0).toArray.push { key := bp o, val := bp v, born := L.length } by simp]
    exact g1
/-- the map of a clone under way -/
def cmL (rs rc : List Row) (ks : List Nat) : List (Option Nat × Option Nat) := (none, none) :: ks.zipIdx.map fun p => (some (gAt rs p.1), some (gAt rc p.2))
theorem fnO_app {o k v : Option Nat} : ∀ (L : List (Option Nat × Option Nat)) (i : Nat), fnO o (L ++ [(k, v)]) i = (fnO o L i).or (if o = k then some (i + L.length, bp v) else none)
  | [], i => by simp [fnO]
  | (a, b) :: L, i => by
    simp only [List.cons_append, fnO, fnO_app L (i + 1), List.length_cons]
    split
    · simp
    · rw [show i + 1 + L.length = i + (L.length + 1) by omega]
theorem fnO_zip {f g : Nat → Nat} {k : Nat} : ∀ (ks : List Nat) (n i : Nat), (∀ x ∈ ks, f x = f k → x = k) → fnO (some (f k)) (ks.zipIdx n |>.map fun p => (some (f p.1), some (g p.2))) i = if k ∈ ks then some (i + ks.idxOf k, bp (some (g (n + ks.idxOf k)))) else none
  | [], n, i, _ => by simp [fnO]
  | x :: ks, n, i, h => by
    simp only [List.zipIdx_cons, List.map_cons, fnO, Option.some.injEq]
    by_cases e : x = k
    · subst e
      simp
    · have hne : ¬ f k = f x := fun e2 => e (h x (by simp) e2.symm)
      rw [if_neg hne, fnO_zip ks (n + 1) (i + 1) (fun y hy => h y (by simp [hy]))]
      have hix : (x :: ks).idxOf k = ks.idxOf k + 1 := by
        rw [List.idxOf_cons, show (x == k) = false by simpa using e]
        rfl
      by_cases hm : k ∈ ks
      · rw [if_pos hm, if_pos (by simp [hm]), hix]
        rw [show i + 1 + ks.idxOf k = i + (ks.idxOf k + 1) by omega, show n + 1 + ks.idxOf k = n + (ks.idxOf k + 1) by omega]
      · rw [if_neg hm, if_neg (by simp [hm]; exact fun e2 => e e2.symm)]
def cmR (rc : List Row) (ks : List Nat) : Option Nat → Option (Nat × Value)
  | none => some (0, bp none)
  | some k => if k ∈ ks then some (1 + ks.idxOf k, bp (some (gAt rc (ks.idxOf k)))) else none
theorem fnO_cm {rs rc : List Row} {ks : List Nat} {o : Option Nat} (hi : ∀ k, o = some k → ∀ x ∈ ks, gAt rs x = gAt rs k → x = k) :
    fnO (o.map fun k => gAt rs k) (cmL rs rc ks) 0 = cmR rc ks o := by
  cases o with
  | none => simp [cmL, fnO, cmR]
  | some k =>
    unfold cmL
    simp only [Option.map_some, fnO]
    rw [if_neg (by simp)]
    have := fnO_zip (f := gAt rs) (g := gAt rc) (k := k) ks 0 1 (hi k rfl)
    rw [this]
    simp [cmR]
theorem cmL_snoc {rs rc : List Row} {ks : List Nat} {k : Nat} {r : Row} (hl : rc.length = ks.length) : cmL rs (rc ++ [r]) (ks ++ [k]) = cmL rs rc ks ++ [(some (gAt rs k), some r.g)] := by
  unfold cmL
  rw [List.zipIdx_append, List.map_append]
  simp only [List.cons_append, List.zipIdx_cons, List.zipIdx_nil, List.map_cons, List.map_nil, Nat.zero_add, List.cons.injEq, true_and]
  congr 1
  · refine List.map_congr_left (fun p hp => ?_)
    have hlt := List.snd_lt_of_mem_zipIdx hp
    rw [show gAt (rc ++ [r]) p.2 = gAt rc p.2 by unfold gAt; rw [List.getD_eq_getElem?_getD, List.getD_eq_getElem?_getD, List.getElem?_append_left (by omega)]]
  · rw [show gAt (rc ++ [r]) ks.length = r.g from gAt_eq (by rw [← hl]; simp)]
theorem live_row {w : World} {s : Nat} {A : Sto} {rs : List Row} (h : StoreAt w s A rs) {k : Nat} (hk : k < A.bufs.length) : Live w (some (gAt rs k)) := fun g hg => by
  obtain ⟨r, hr⟩ : ∃ r, rs[k]? = some r := ⟨_, List.getElem?_eq_getElem (by rw [h.len]; exact hk)⟩
  rw [gAt_eq hr] at hg
  cases hg
  exact ⟨_, (h.rows k r _ hr (List.getElem?_eq_getElem hk)).1⟩
theorem live_cm {w : World} {s : Nat} {A : Sto} {rs rc : List Row} {ks : List Nat} (h : StoreAt w s A rs) (hk : ∀ k ∈ ks, k < A.bufs.length) : ∀ e ∈ cmL rs rc ks, Live w e.1 := fun e he => by
  unfold cmL at he
  rcases List.mem_cons.1 he with rfl | he
  · intro g hg; cases hg
  · obtain ⟨p, hp, rfl⟩ := List.mem_map.1 he
    exact live_row h (hk p.1 (List.fst_mem_of_mem_zipIdx hp))
theorem gAt_inj {w : World} {s : Nat} {A : Sto} {rs : List Row} (h : StoreAt w s A rs) {x k : Nat} (hx : x < A.bufs.length) (hk : k < A.bufs.length) (e : gAt rs x = gAt rs k) : x = k := by
  obtain ⟨r, hr⟩ : ∃ r, rs[x]? = some r := ⟨_, List.getElem?_eq_getElem (by rw [h.len]; exact hx)⟩
  obtain ⟨r', hr'⟩ : ∃ r', rs[k]? = some r' := ⟨_, List.getElem?_eq_getElem (by rw [h.len]; exact hk)⟩
  rw [gAt_eq hr, gAt_eq hr'] at e
  exact h.gs x k r r' hr hr' e
theorem ex_lookP {ev : Operand → Value} {o : Oper} {w : World} (m x : Operand) (c : Bool) (ho : o.op = .lookup 111 m x c) {r : Nat} {L : List (Option Nat × Option Nat)} {k : Option Nat} (hm : ev m = .map (some r)) (hx : ev x = bp k) (hM : MapAt w r L) (hk : Live w k) (h : ∀ e ∈ L, Live w e.1) :
    (execOp ev o).run Try.prog w = .ok (.value (if c then .tuple #[((fnO k L 0).map (·.2)).getD (.pointer none), .bool (fnO k L 0).isSome] else ((fnO k L 0).map (·.2)).getD (.pointer none))) w := by
  unfold execOp
  simp only [ho, hm, hx, run_lookP hM hk h, Sem.run_bind, Result.andThen_ok]
  rfl
theorem MapAt.below {w w' : World} {r : Nat} {L : List (Option Nat × Option Nat)} (h : MapAt w r L) (hb : Below w.heap.size w w') : MapAt w' r L := below_look hb h
theorem wl_updP {ops : Array Oper} {rest : List Oper} {op : Oper} {a : Act} {w : World} {Q : Exit → Act → World → Prop} (hg : op.guard = none) (m k v : Operand) (ho : op.op = .mapUpdate 111 m k v ∨ op.op = .insert 111 m k v) {r : Nat} {L : List (Option Nat × Option Nat)} {x y : Option Nat}
    (hm : a.eval m = .map (some r)) (hk : a.eval k = bp x) (hv : a.eval v = bp y) (hM : MapAt w r L) (hx : Live w x) (hL : ∀ e ∈ L, Live w e.1) (hf : fnO x L 0 = none)
    (h : ∀ w', MapAt w' r (L ++ [(x, y)]) → Kept [r] w w' → wpList Try.prog ops Q rest (a.put op.dst undef) w') : wpList Try.prog ops Q (op :: rest) a w := by
  refine wpList_plain hg fun K hK => ?_
  obtain ⟨w', h1, h2, h3, h4, h5, h6, h7⟩ := run_updP hM hx hL hf y
  have hfin := hK _ _ (h w' h2 ⟨Nat.le_of_eq h3.symm, fun q _ hq => h7 q (by simpa using hq), h4, h5, h6⟩)
  unfold Oper.wp execOp
  rcases ho with ho | ho <;> simp only [ho, hm, hk, hv, h1, Sem.run_bind, Sem.run_pure, Result.andThen_ok] <;> exact hfin
theorem run_build83b (m sh : Int) : Try.prog.built 83 [(1, .int .i64 m), (2, .int .i64 sh)] = some (scells (List.replicate 8 none) m sh) := by kernel_rfl
theorem run_box83b (m sh : Int) (w : World) : (Instr.box 83 (.agg (scells (List.replicate 8 none) m sh))).run Try.prog w = .ok (.pointer (some ⟨w.heap.size, 0, none⟩)) (w.alloc (.cells (scells (List.replicate 8 none) m sh) 83)) := by kernel_rfl
theorem ex_box83b {ev : Operand → Value} {o : Oper} {w : World} (x : Operand) (ho : o.op = .box 83 x) {m sh : Int} (hx : ev x = .agg (scells (List.replicate 8 none) m sh)) :
    (execOp ev o).run Try.prog w = .ok (.value (.pointer (some ⟨w.heap.size, 0, none⟩))) (w.alloc (.cells (scells (List.replicate 8 none) m sh) 83)) := by
  unfold execOp
  simp only [ho, hx, run_box83b m sh w, Sem.run_bind, Result.andThen_ok]
  rfl
theorem storeAt_cl {w : World} {c : Nat} {A : Sto} (h : w.heap[c]? = some (.cells (scells (List.replicate 8 none) A.made A.shared) 83 (0, 0))) : StoreAt w c (cl A [] 0) [] :=
  ⟨by rw [cl_made]; exact h, rfl, fun k r b hr => by simp at hr, fun j k r r' hr => by simp at hr, fun j k r r' q hr => by simp at hr, fun j k r r' q hr => by simp at hr⟩
set_option maxHeartbeats 4000000 in
set_option maxRecDepth 100000 in
theorem Clone_any (s : Nat) (A : Sto) (rs : List Row) (hA : Good A) (hm : A.made ≤ 1000) (w : World) (h : StoreAt w s A rs) :
    Calls Try.prog 43 #[.pointer (some ⟨s, 0, none⟩)] w fun e w' => ∃ c B rc, e = .returned (.pointer (some ⟨c, 0, none⟩)) ∧ StoreAt w' c B rc ∧ Good B ∧ (∀ m, 0 ≤ m → m < 8 → B.buf m = A.buf m) ∧ B.made = A.made ∧ B.shared = A.shared ∧ B.bufs.length ≤ 8 ∧ Since w.heap.size c rc ∧ Below w.heap.size w w' := by
  have HS := Lib.hid h
  have HA := Lib.hid hA
  have HM := Lib.hid hm
  obtain ⟨c8, c9⟩ := sc_made h.main (by rw [nsOf_length]; exact hA.eight)
  have HN8 : Hid ((nsOf A rs).length = 8) := Lib.hid (by rw [nsOf_length]; exact hA.eight)
  clear h hA hm
  obtain ⟨M, hM⟩ : ∃ M, M = A.made := ⟨_, rfl⟩
  obtain ⟨T, hT⟩ : ∃ T, T = A.shared := ⟨_, rfl⟩
  rw [← hM] at c8
  rw [← hT] at c9
  have HMT := Lib.hid (And.intro hM hT)
  clear hM hT
  go_enter Try.func43, Try.ntmps43
  go_upto_region 3 with (fail)
  refine wp_region_held_drew (S := Kept [] w) mixed (Kept.drew [] w) (fun hS => ?_)
  refine ha_k (i := 0) rfl (by kernel_rfl) (by kernel_rfl) (by kernel_rfl) (fun _ _ _ _ h => h) hS rfl (fun K hK => ?_); go_simp; refine hK _ ?_; clear hK K; try simp only [put_lit, List.set_cons_zero, List.set_cons_succ]
  refine ha_k (i := 1) rfl (by kernel_rfl) (by kernel_rfl) (by kernel_rfl) (fun _ _ _ _ h => h) hS rfl (fun K hK => ?_); go_simp; refine hK _ ?_; clear hK K; try simp only [put_lit, List.set_cons_zero, List.set_cons_succ]
  refine ha_k (i := 2) rfl (by kernel_rfl) (by kernel_rfl) (by kernel_rfl) (fun _ _ _ _ h => h) hS rfl (fun K hK => ?_); go_simp; refine hK _ ?_; clear hK K; try simp only [put_lit, List.set_cons_zero, List.set_cons_succ]
  refine ha_val (i := 3) rfl (by kernel_rfl) (by kernel_rfl) (by kernel_rfl) (fun _ _ _ h => h) hS rfl (fun w' hw' => ex_one rfl (one3 (hw'.cell c8 (by simp <;> omega)))) ?_; try simp only [put_lit, List.set_cons_zero, List.set_cons_succ]
  refine ha_k (i := 4) rfl (by kernel_rfl) (by kernel_rfl) (by kernel_rfl) (fun _ _ _ _ h => h) hS rfl (fun K hK => ?_); go_simp; refine hK _ ?_; clear hK K; try simp only [put_lit, List.set_cons_zero, List.set_cons_succ]
  refine ha_k (i := 5) rfl (by kernel_rfl) (by kernel_rfl) (by kernel_rfl) (fun _ _ _ _ h => h) hS rfl (fun K hK => ?_); go_simp; refine hK _ ?_; clear hK K; try simp only [put_lit, List.set_cons_zero, List.set_cons_succ]
  refine ha_k (i := 6) rfl (by kernel_rfl) (by kernel_rfl) (by kernel_rfl) (fun _ _ _ _ h => h) hS rfl (fun K hK => ?_); go_simp; refine hK _ ?_; clear hK K; try simp only [put_lit, List.set_cons_zero, List.set_cons_succ]
  refine ha_val (i := 7) rfl (by kernel_rfl) (by kernel_rfl) (by kernel_rfl) (fun _ _ _ h => h) hS rfl (fun w' hw' => ex_one rfl (one3 (hw'.cell c9 (by simp <;> omega)))) ?_; try simp only [put_lit, List.set_cons_zero, List.set_cons_succ]
  (refine ha_val (i := 8) rfl (by kernel_rfl) (by kernel_rfl) (by kernel_rfl) (fun _ _ _ h => h) hS rfl (fun w' hw' => ex_build 83 _ rfl (L := [(1, .int .i64 M), (2, .int .i64 T)]) rfl (run_build83b M T)) ?_; try simp only [put_lit, List.set_cons_zero, List.set_cons_succ])
  have hS2 : Kept [] w (w.drew.alloc (.cells (scells (List.replicate 8 none) M T) 83)) := hS.below ((Below.refl _ _).alloc (Nat.le_refl _) _)
  refine ha_do (i := 9) (by kernel_rfl) rfl rfl (ex_box83b _ rfl rfl) hS2 ?_; try simp only [put_lit, List.set_cons_zero, List.set_cons_succ]
  replace hS := hS2
  clear hS2
  (refine ha_val (i := 10) rfl (by kernel_rfl) (by kernel_rfl) (by kernel_rfl) (fun _ _ _ h => h) hS rfl (fun w' hw' => rfl) ?_; try simp only [put_lit, List.set_cons_zero, List.set_cons_succ])
  refine wpAnyH_done (by kernel_rfl) ?_ _
  obtain ⟨c, hc⟩ : ∃ c, c = w.drew.heap.size := ⟨_, rfl⟩
  have hcs : c = w.heap.size := hc
  have hnew : (w.drew.alloc (.cells (scells (List.replicate 8 none) M T) 83)).heap[c]? = some (.cells (scells (List.replicate 8 none) A.made A.shared) 83 (0, 0)) := by rw [← HMT.out.1, ← HMT.out.2]; exact ha_new hc
  rw [← hc]
  have hb : Below w.heap.size w (w.drew.alloc (.cells (scells (List.replicate 8 none) M T) 83)) := hS.toBelow (Nat.le_refl _) (by simp)
  have hsold := HS.out
  replace HS := Lib.hid (HS.out.below hb)
  have HC := Lib.hid (storeAt_cl hnew)
  have HB := Lib.hid hb
  have hcw : w.heap.size ≤ c := by omega
  have HSC : Hid (¬ Foot s rs c) := Lib.hid (fun hf => by have := hsold.lt hf; omega)
  have HCI : Hid (Since w.heap.size c []) := Lib.hid (fun q hq => by
    rcases hq with rfl | ⟨k, r, hr, _⟩
    · exact hcw
    · simp at hr)
  clear hc hcs hnew hb hS c8 c9 HMT hsold
  generalize w.drew.alloc (.cells (scells (List.replicate 8 none) M T) 83) = w1 at *
  go_upto_region 4 with (fail)
  apply wp_region_lit
  refine wl_w rfl (ex_mmT rfl) ?_
  simp only [put_lit, List.set_cons_zero, List.set_cons_succ]
  obtain ⟨r, hr⟩ : ∃ r, r = w1.heap.size := ⟨_, rfl⟩
  rw [← hr]
  have hm0 : MapAt (w1.alloc (.map #[] 0)) r [] := ha_new hr
  have hb1 := (Below.refl w1.heap.size w1).alloc (Nat.le_refl _) (.map #[] 0)
  have hcl1 := HC.out.lt (Or.inl rfl)
  have hrc : Hid (¬ Foot c [] r) := Lib.hid (fun hf => by have := HC.out.lt hf; omega)
  have hrs : Hid (¬ Foot s rs r) := Lib.hid (fun hf => by have := HS.out.lt hf; omega)
  have hrw : w.heap.size ≤ r := by have := HB.out.size; omega
  replace HS := Lib.hid (HS.out.below hb1)
  replace HC := Lib.hid (HC.out.below hb1)
  replace HB := Lib.hid (HB.out.trans (hb1.mono HB.out.size))
  clear hr hb1 hcl1
  generalize w1.alloc (.map #[] 0) = w2 at *
  refine wl_updP rfl _ _ _ (Or.inr rfl) (x := none) (y := none) rfl rfl rfl hm0 (fun g hg => by cases hg) (by simp) rfl ?_
  intro w3 hm3 hK3
  rw [put_noneA]
  replace HS := Lib.hid (HS.out.same (fun q hq hf => hK3.block q hq (fun e => hrs.out (by simp at e; rw [← e]; exact hf))))
  replace HC := Lib.hid (HC.out.same (fun q hq hf => hK3.block q hq (fun e => hrc.out (by simp at e; rw [← e]; exact hf))))
  replace HB := Lib.hid (HB.out.trans (hK3.toBelow HB.out.size (fun q hq => by simp at hq; omega)))
  have HMP : Hid (MapAt w3 r (cmL rs [] [])) := Lib.hid hm3
  clear hm0 hm3 hK3
  refine wl_k rfl (fun K hK => ?_); go_simp; refine hK _ ?_; clear hK K
  refine wl_k rfl (fun K hK => ?_); go_simp; refine hK _ ?_; clear hK K
  go_upto_region 5 with (fail)
  apply wp_region_lit
  refine wl_k rfl (fun K hK => ?_); go_simp; refine hK _ ?_; clear hK K
  refine wl_k rfl (fun K hK => ?_); go_simp; refine hK _ ?_; clear hK K
  refine wl_k rfl (fun K hK => ?_); go_simp; refine hK _ ?_; clear hK K
  ((with_reducible apply wl_rowG); exact rfl; exact rfl; exact sc_row HS.out.main HN8.out)
  simp only [put_lit, List.set_cons_zero, List.set_cons_succ]
  refine wl_k rfl (fun K hK => ?_); go_simp; refine hK _ ?_; clear hK K
  go_wp2_with fail
  go_loopw [27] (fun iv wr => ∃ (i : Nat) (ks : List Nat) (rc : List Row), i ≤ 8 ∧ ks.length ≤ i ∧ iv = .int .i64 (i : Int) ∧ Hid (ClI A ks i) ∧ Hid (StoreAt wr s A rs) ∧ Hid (StoreAt wr c (cl A ks i) rc) ∧ Hid (MapAt wr r (cmL rs rc ks)) ∧ Hid (Since w.heap.size c rc) ∧ Hid (¬ Foot c rc r) ∧ Hid (Below w.heap.size w wr)) (fun iv _ => 8 - (intOf iv).toNat)
  case atStart => exact ⟨0, [], [], by omega, by simp, rfl, Lib.hid (clI_zero A), HS, HC, HMP, HCI, hrc, HB⟩
  case round =>
    clear HS HC HMP HCI hrc HB
    obtain ⟨i, ks, rc, hi, hks, rfl, HK, HS, HC, HMP, HCI, hrc, HB⟩ := hrel
    by_cases hi8 : i < 8
    · have hi8I : (i : Int) < 8 := by omega
      obtain ⟨o, ho⟩ : ∃ o, A.names[i]? = some o := ⟨_, List.getElem?_eq_getElem (by rw [HA.out.eight]; exact hi8)⟩
      have HO := Lib.hid ho
      have hno := nsOf_get (rs := rs) ho
      have HNO := Lib.hid hno
      have hkl : ∀ k, o = some k → k < A.bufs.length := fun k hk => HA.out.there i k (by rw [ho, hk])
      have hlive : Live wr (o.map fun k => gAt rs k) := fun g hg => by
        cases o with
        | none => cases hg
        | some k => exact live_row HS.out (hkl k rfl) g hg
      have HF := Lib.hid (fnO_cm (rs := rs) (rc := rc) (ks := ks) (o := o) (fun k hk x hx e => gAt_inj HS.out (HK.out.lt x hx) (hkl k hk) e))
      have HLK := Lib.hid hkl
      have HLV := Lib.hid hlive
      clear ho hno hkl hlive
      go_upto_region 7 with (fail)
      apply wp_region_lit
      refine wl_k rfl (fun K hK => ?_); go_simp; refine hK _ ?_; clear hK K
      refine wl_val rfl (ex_ix _ _ rfl HN8.out rfl rfl HNO.out) ?_
      simp only [put_lit, List.set_cons_zero, List.set_cons_succ]
      refine wl_k rfl (fun K hK => ?_); go_simp; refine hK _ ?_; clear hK K
      refine wl_k rfl (fun K hK => ?_); go_simp; refine hK _ ?_; clear hK K
      go_upto_region 8 with (fail)
      apply wp_region_lit
      refine wl_k rfl (fun K hK => ?_); go_simp; refine hK _ ?_; clear hK K
      refine wl_k rfl (fun K hK => ?_); go_simp; refine hK _ ?_; clear hK K
      refine wl_val rfl (ex_lookP _ _ true rfl rfl rfl HMP.out HLV.out (live_cm HS.out HK.out.lt)) ?_
      rw [HF.out]
      clear HF
      by_cases hfound : ∀ k, o = some k → k ∈ ks
      · obtain ⟨P1, hP1⟩ : ∃ P1, P1 = (o.map fun k => ks.idxOf k).map fun k => gAt rc k := ⟨_, rfl⟩
        have hcr : ∃ x, cmR rc ks o = some (x, bp P1) := by
          rw [hP1]
          cases o with
          | none => exact ⟨_, rfl⟩
          | some k => exact ⟨_, by simp only [cmR]; rw [if_pos (hfound k rfl)]; rfl⟩
        obtain ⟨x1, hcr⟩ := hcr
        rw [hcr]
        have HCR := Lib.hid hcr
        have HP1 := Lib.hid hP1
        clear hP1
        obtain ⟨hk2, hst⟩ := cl_step HK.out hi8 HO.out hfound
        have HFO := Lib.hid hfound
        clear hcr hfound
        simp only [Option.map_some, Option.getD_some, Option.isSome_some, if_true]
        simp only [put_lit, List.set_cons_zero, List.set_cons_succ]
        refine wl_k rfl (fun K hK => ?_); go_simp; refine hK _ ?_; clear hK K
        refine wl_k rfl (fun K hK => ?_); go_simp; refine hK _ ?_; clear hK K
        refine wl_k rfl (fun K hK => ?_); go_simp; refine hK _ ?_; clear hK K
        refine wl_k rfl (fun K hK => ?_); go_simp; refine hK _ ?_; clear hK K
        refine wl_k rfl (fun K hK => ?_); go_simp; refine hK _ ?_; clear hK K
        have hcell := sc_name HC.out.main (nsOf_get (cl_name (A := A) (ks := ks) (i := i) hi8))
        have hfro : wr.frozen? ⟨c, i, none⟩ = false := frozen_of_row _ _ _ _ _ HC.out.main
        have hren := (HC.out.below (Below.refl (wr).heap.size wr).drew).renamed (A := cl A ks i) (o.map fun k => (ks).idxOf k) (n := i) (by rw [cl_len]; omega)
        rw [← HP1.out] at hren
        have HREN := Lib.hid hren
        have HLK2 : Hid (∀ w', Kept [c] wr w' → MapAt w' r (cmL rs rc ks) ∧ StoreAt w' s A rs) := Lib.hid (fun w' hw' => ⟨(hw'.block r (heap_lt HMP.out) (fun e => hrc.out (Or.inl (by simpa using e)))).trans HMP.out, HS.out.same (fun q hq hf => hw'.block q hq (fun e => by simp at e; exact HSC.out (e ▸ hf)))⟩)
        clear hren
        go_upto_region 11 with (fail)
        refine wp_region_held_drew (S := Kept [c] wr) mixed (Kept.drew [c] wr) (fun hS => ?_)
        refine ha_k (i := 0) rfl (by kernel_rfl) (by kernel_rfl) (by kernel_rfl) (fun _ _ _ _ h => h) hS rfl (fun K hK => ?_); go_simp; refine hK _ ?_; clear hK K; try simp only [put_lit, List.set_cons_zero, List.set_cons_succ]
        refine ha_k (i := 1) rfl (by kernel_rfl) (by kernel_rfl) (by kernel_rfl) (fun _ _ _ _ h => h) hS rfl (fun K hK => ?_); go_simp; refine hK _ ?_; clear hK K; try simp only [put_lit, List.set_cons_zero, List.set_cons_succ]
        refine ha_k (i := 2) rfl (by kernel_rfl) (by kernel_rfl) (by kernel_rfl) (fun _ _ _ _ h => h) hS rfl (fun K hK => ?_); go_simp; refine hK _ ?_; clear hK K; try simp only [put_lit, List.set_cons_zero, List.set_cons_succ]
        refine ha_k (i := 3) rfl (by kernel_rfl) (by kernel_rfl) (by kernel_rfl) (fun _ _ _ _ h => h) hS rfl (fun K hK => ?_); go_simp; refine hK _ ?_; clear hK K; try simp only [put_lit, List.set_cons_zero, List.set_cons_succ]
        (refine ha_val (i := 4) (v := bp P1) rfl (by kernel_rfl) (by kernel_rfl) (by kernel_rfl) (fun _ _ _ h => h) hS rfl (fun w' hw' => (ex_lookP _ _ false rfl rfl rfl (HLK2.out w' hw').1 (fun g hg => by
          cases o with
          | none => cases hg
          | some k => exact live_row (HLK2.out w' hw').2 (HLK.out k rfl) g hg) (live_cm (HLK2.out w' hw').2 (HK.out.lt))).trans (by rw [fnO_cm (fun k hk x hx e => gAt_inj (HLK2.out w' hw').2 (HK.out.lt x hx) (HLK.out k hk) e), HCR.out]; rfl)) ?_; try simp only [put_lit, List.set_cons_zero, List.set_cons_succ])
        refine ha_k (i := 5) rfl (by kernel_rfl) (by kernel_rfl) (by kernel_rfl) (fun _ _ _ _ h => h) hS rfl (fun K hK => ?_); go_simp; refine hK _ ?_; clear hK K; try simp only [put_lit, List.set_cons_zero, List.set_cons_succ]
        refine ha_k (i := 6) rfl (by kernel_rfl) (by kernel_rfl) (by kernel_rfl) (fun _ _ _ _ h => h) hS rfl (fun K hK => ?_); go_simp; refine hK _ ?_; clear hK K; try simp only [put_lit, List.set_cons_zero, List.set_cons_succ]
        refine ha_k (i := 7) rfl (by kernel_rfl) (by kernel_rfl) (by kernel_rfl) (fun _ _ _ _ h => h) hS rfl (fun K hK => ?_); go_simp; refine hK _ ?_; clear hK K; try simp only [put_lit, List.set_cons_zero, List.set_cons_succ]
        refine ha_storeC (i := 8) (by kernel_rfl) rfl rfl 80 _ _ rfl c i (bp P1) rfl rfl info80 rfl (by rw [show World.cell? (World.drew wr) _ = World.cell? wr _ from rfl, hcell]; rfl) hfro (hS.setCell (by simp) i _) (fun hS => ?_); try simp only [put_lit, List.set_cons_zero, List.set_cons_succ]
        refine wpAnyH_done (by kernel_rfl) ?_ _
        have HC2 : Hid (StoreAt _ c (cl A ks (i + 1)) rc) := Lib.hid (by rw [hst]; exact HREN.out.1)
        have HS2 := Lib.hid ((HLK2.out _ hS).2)
        have HM2 := Lib.hid ((HLK2.out _ hS).1)
        have HB2 := Lib.hid (HB.out.trans (hS.toBelow HB.out.size (fun q hq => by simp at hq; omega)))
        have HK2 := Lib.hid hk2
        clear hst hk2 HREN HLK2 hS hcell hfro HS HC HMP HB HK HCR HP1 HO HNO HLK
        go_wp2_with fail
        go_roundw
        case rel => exact ⟨i + 1, ks, rc, by omega, by omega, by go_num, HK2, HS2, HC2, HM2, HCI, hrc, HB2⟩
        case measure => simp [intOf]; omega
      · obtain ⟨k, hok⟩ : ∃ k, o = some k := by
          cases o with
          | none => exact absurd (fun k hk => by cases hk) hfound
          | some k => exact ⟨k, rfl⟩
        subst hok
        have hkn : k ∉ ks := fun h => hfound (fun k' hk' => by cases hk'; exact h)
        have hcr : cmR rc ks (some k) = none := by simp only [cmR]; rw [if_neg hkn]
        rw [hcr]
        have hfn : fnO (some (gAt rs k)) (cmL rs rc ks) 0 = none := by
          have := fnO_cm (rs := rs) (rc := rc) (ks := ks) (o := some k) (fun k' hk' x hx e => gAt_inj HS.out (HK.out.lt x hx) (HLK.out k' hk') e)
          rw [hcr] at this
          exact this
        have HFN := Lib.hid hfn
        have HKN := Lib.hid hkn
        have hkb := HLK.out k rfl
        clear hcr hfn hkn hfound
        obtain ⟨b, hb⟩ : ∃ b, A.bufs[k]? = some b := ⟨_, List.getElem?_eq_getElem hkb⟩
        obtain ⟨r0, hr0⟩ : ∃ r, rs[k]? = some r := ⟨_, List.getElem?_eq_getElem (by rw [HS.out.len]; exact hkb)⟩
        have hat : A.at_ k = b := by unfold Sto.at_; rw [List.getD_eq_getElem?_getD, hb]; rfl
        obtain ⟨hcm, hl, ht, hnil⟩ := HS.out.rows k r0 b hr0 hb
        have hlen := (HA.out.bufs k b hb).len
        obtain ⟨A1, c1, e1, hl1⟩ := own_str hl rfl
        obtain ⟨A2, c2, e2, ht1⟩ := own_vt ht hnil
        rw [e1, e2, ← gAt_eq hr0] at hcm
        have HCM := Lib.hid hcm
        have HL1 := Lib.hid hl1
        have HT1 := Lib.hid ht1
        have HAT := Lib.hid hat
        obtain ⟨g, hg⟩ : ∃ g, g = gAt rs k := ⟨_, rfl⟩
        have HGG := Lib.hid hg
        rw [← hg] at HCM HFN
        clear hb hr0 hat hcm hl ht hnil e1 e2 hl1 ht1
        simp only [Option.map_none, Option.getD_none, Option.isSome_none, if_true, Option.map_some]
        rw [← hg]
        clear hg
        rw [show bp (some g) = .pointer (some ⟨g, 0, none⟩) from rfl]
        simp only [put_lit, List.set_cons_zero, List.set_cons_succ]
        refine wl_k rfl (fun K hK => ?_); go_simp; refine hK _ ?_; clear hK K
        refine wl_k rfl (fun K hK => ?_); go_simp; refine hK _ ?_; clear hK K
        refine wl_k rfl (fun K hK => ?_); go_simp; refine hK _ ?_; clear hK K
        refine wl_k rfl (fun K hK => ?_); go_simp; refine hK _ ?_; clear hK K
        refine wl_k rfl (fun K hK => ?_); go_simp; refine hK _ ?_; clear hK K
        go_upto_region 10 with (fail)
        apply wp_region_lit
        refine wl_k rfl (fun K hK => ?_); go_simp; refine hK _ ?_; clear hK K
        refine wl_k rfl (fun K hK => ?_); go_simp; refine hK _ ?_; clear hK K
        refine wl_k rfl (fun K hK => ?_); go_simp; refine hK _ ?_; clear hK K
        refine wl_ck rfl (fun K hK => ?_); go_simp; refine ⟨_, _, ⟨rfl, rfl⟩, hK _ _ ⟨_, copied_any g b.kd b.seed (cn b.t : Int) A1 b.l.length c1 b.l A2 c2 b.t (by omega) (by omega) _ HCM.out HL1.out HT1.out, ?_⟩⟩; clear hK K; rintro e w4 ⟨g', lv, pv, hg', rfl, hcell', ho1, ⟨ho2, hnil2⟩, hb1⟩; refine ⟨_, rfl, ?_⟩; simp only [put_lit, List.set_cons_zero, List.set_cons_succ]
        have hrK : BufAt w4 ⟨g', lv, pv⟩ b := ⟨hcell', own_weak ho1 (Nat.zero_le _), own_weak ho2 (Nat.zero_le _), hnil2⟩
        have f1 : ∀ q, lv.ownBlock = some q → wr.heap.size ≤ q := fun q hq => (own_block ho1 hq).1
        have f2 : ∀ q, pv.ownBlock = some q → wr.heap.size ≤ q := fun q hq => (own_block ho2 hq).1
        have hgood := cl_good HA.out HM.out HK.out
        have hex := HC.out.extra hb1 hrK hg' f1 f2 hgood
        obtain ⟨hk2, hmo⟩ := cl_more HK.out HKN.out hkb
        rw [← HAT.out, ← hmo] at hex
        have hcl := HC.out.len
        have hcl2 : rc.length = ks.length := by rw [hcl]; simp [cl]
        have hsn := cmL_snoc (rs := rs) (rc := rc) (ks := ks) (k := k) (r := ⟨g', lv, pv⟩) hcl2
        rw [← HGG.out] at hsn
        have hrwr := heap_lt HMP.out
        have hfp : ∀ q, Foot c (rc ++ [⟨g', lv, pv⟩]) q → Foot c rc q ∨ wr.heap.size ≤ q := fun q hq => by
          rcases foot_push hq with e | e | e | e
          · exact Or.inl e
          · exact Or.inr (by rw [e]; exact hg')
          · exact Or.inr (f1 q e)
          · exact Or.inr (f2 q e)
        have hci2 : Hid (Since w.heap.size c (rc ++ [⟨g', lv, pv⟩])) := Lib.hid (fun q hq => (hfp q hq).elim (HCI.out q) (fun e => by have := HB.out.size; omega))
        have hrc2 : Hid (¬ Foot c (rc ++ [⟨g', lv, pv⟩]) r) := Lib.hid (fun hq => (hfp r hq).elim hrc.out (fun e => by omega))
        have hlv : Live w4 (some g) := fun x hx => by cases hx; exact ⟨_, below_look hb1 HCM.out⟩
        have hlL := live_cm (rc := rc) (HS.out.below hb1) HK.out.lt
        replace HS := Lib.hid (HS.out.below hb1)
        replace HB := Lib.hid (HB.out.trans (hb1.mono HB.out.size))
        have hmp4 := HMP.out.below hb1
        clear hgood hcl hcl2 hfp hrwr hrK f1 f2 hcell' ho1 ho2 hnil2 HC HCI hrc HMP HCM HL1 HT1 HLV hmo hb1
        obtain ⟨rc2, hrc0⟩ : ∃ rc2, rc2 = rc ++ [⟨g', lv, pv⟩] := ⟨_, rfl⟩
        obtain ⟨ks2, hks0⟩ : ∃ ks2, ks2 = ks ++ [k] := ⟨_, rfl⟩
        rw [← hrc0, ← hks0] at hsn hex
        rw [← hrc0] at hci2 hrc2
        rw [← hks0] at hk2
        have hkm : k ∈ ks2 := by rw [hks0]; simp
        have hkl2 : ks2.length ≤ i + 1 := by rw [hks0]; simp; omega
        clear hrc0 hks0
        refine wl_updP rfl _ _ _ (Or.inl rfl) (x := some g) (y := some g') rfl rfl rfl hmp4 hlv hlL HFN.out ?_
        intro w5 hm5 hK5
        rw [put_noneA]
        rw [← hsn] at hm5
        have HMP := Lib.hid hm5
        replace HS := Lib.hid (HS.out.same (fun q hq hf => hK5.block q hq (fun e => hrs.out (by simp at e; rw [← e]; exact hf))))
        have HC := Lib.hid (hex.same (fun q hq hf => hK5.block q hq (fun e => hrc2.out (by simp at e; rw [← e]; exact hf))))
        replace HB := Lib.hid (HB.out.trans (hK5.toBelow HB.out.size (fun q hq => by simp at hq; omega)))
        have HCI := hci2
        have hrc := hrc2
        replace HK := Lib.hid hk2
        clear hm5 hK5 hex hci2 hrc2 hk2 hsn hmp4 hlv hlL HFN HKN
        obtain ⟨P1, hP1⟩ : ∃ P1, P1 = ((some k).map fun k => ks2.idxOf k).map fun k => gAt rc2 k := ⟨_, rfl⟩
        have hcr : ∃ x, cmR rc2 ks2 (some k) = some (x, bp P1) := by
          rw [hP1]
          exact ⟨_, by simp only [cmR]; rw [if_pos hkm]; rfl⟩
        obtain ⟨x1, hcr⟩ := hcr
        have HCR := Lib.hid hcr
        have HP1 := Lib.hid hP1
        obtain ⟨hk2, hst⟩ := cl_step HK.out hi8 HO.out (fun k' hk' => by cases hk'; exact hkm)
        clear hcr hP1
        have hcell := sc_name HC.out.main (nsOf_get (cl_name (A := A) (ks := ks2) (i := i) hi8))
        have hfro : w5.frozen? ⟨c, i, none⟩ = false := frozen_of_row _ _ _ _ _ HC.out.main
        obtain ⟨o, ho⟩ : ∃ o, o = some k := ⟨_, rfl⟩
        rw [← ho] at HP1 HCR hst HO HLK
        rw [show Value.pointer (some ⟨g, 0, none⟩) = bp (o.map fun k => gAt rs k) by rw [ho, HGG.out]; rfl]
        clear ho
        have hren := (HC.out.below (Below.refl (w5).heap.size w5).drew).renamed (A := cl A ks2 i) (o.map fun k => (ks2).idxOf k) (n := i) (by rw [cl_len]; omega)
        rw [← HP1.out] at hren
        have HREN := Lib.hid hren
        have HLK2 : Hid (∀ w', Kept [c] w5 w' → MapAt w' r (cmL rs rc2 ks2) ∧ StoreAt w' s A rs) := Lib.hid (fun w' hw' => ⟨(hw'.block r (heap_lt HMP.out) (fun e => hrc.out (Or.inl (by simpa using e)))).trans HMP.out, HS.out.same (fun q hq hf => hw'.block q hq (fun e => by simp at e; exact HSC.out (e ▸ hf)))⟩)
        clear hren
        go_upto_region 11 with (fail)
        refine wp_region_held_drew (S := Kept [c] w5) mixed (Kept.drew [c] w5) (fun hS => ?_)
        refine ha_k (i := 0) rfl (by kernel_rfl) (by kernel_rfl) (by kernel_rfl) (fun _ _ _ _ h => h) hS rfl (fun K hK => ?_); go_simp; refine hK _ ?_; clear hK K; try simp only [put_lit, List.set_cons_zero, List.set_cons_succ]
        refine ha_k (i := 1) rfl (by kernel_rfl) (by kernel_rfl) (by kernel_rfl) (fun _ _ _ _ h => h) hS rfl (fun K hK => ?_); go_simp; refine hK _ ?_; clear hK K; try simp only [put_lit, List.set_cons_zero, List.set_cons_succ]
        refine ha_k (i := 2) rfl (by kernel_rfl) (by kernel_rfl) (by kernel_rfl) (fun _ _ _ _ h => h) hS rfl (fun K hK => ?_); go_simp; refine hK _ ?_; clear hK K; try simp only [put_lit, List.set_cons_zero, List.set_cons_succ]
        refine ha_k (i := 3) rfl (by kernel_rfl) (by kernel_rfl) (by kernel_rfl) (fun _ _ _ _ h => h) hS rfl (fun K hK => ?_); go_simp; refine hK _ ?_; clear hK K; try simp only [put_lit, List.set_cons_zero, List.set_cons_succ]
        (refine ha_val (i := 4) (v := bp P1) rfl (by kernel_rfl) (by kernel_rfl) (by kernel_rfl) (fun _ _ _ h => h) hS rfl (fun w' hw' => (ex_lookP _ _ false rfl rfl rfl (HLK2.out w' hw').1 (fun g hg => by
          cases o with
          | none => cases hg
          | some k => exact live_row (HLK2.out w' hw').2 (HLK.out k rfl) g hg) (live_cm (HLK2.out w' hw').2 (HK.out.lt))).trans (by rw [fnO_cm (fun k hk x hx e => gAt_inj (HLK2.out w' hw').2 (HK.out.lt x hx) (HLK.out k hk) e), HCR.out]; rfl)) ?_; try simp only [put_lit, List.set_cons_zero, List.set_cons_succ])
        refine ha_k (i := 5) rfl (by kernel_rfl) (by kernel_rfl) (by kernel_rfl) (fun _ _ _ _ h => h) hS rfl (fun K hK => ?_); go_simp; refine hK _ ?_; clear hK K; try simp only [put_lit, List.set_cons_zero, List.set_cons_succ]
        refine ha_k (i := 6) rfl (by kernel_rfl) (by kernel_rfl) (by kernel_rfl) (fun _ _ _ _ h => h) hS rfl (fun K hK => ?_); go_simp; refine hK _ ?_; clear hK K; try simp only [put_lit, List.set_cons_zero, List.set_cons_succ]
        refine ha_k (i := 7) rfl (by kernel_rfl) (by kernel_rfl) (by kernel_rfl) (fun _ _ _ _ h => h) hS rfl (fun K hK => ?_); go_simp; refine hK _ ?_; clear hK K; try simp only [put_lit, List.set_cons_zero, List.set_cons_succ]
        refine ha_storeC (i := 8) (by kernel_rfl) rfl rfl 80 _ _ rfl c i (bp P1) rfl rfl info80 rfl (by rw [show World.cell? (World.drew w5) _ = World.cell? w5 _ from rfl, hcell]; rfl) hfro (hS.setCell (by simp) i _) (fun hS => ?_); try simp only [put_lit, List.set_cons_zero, List.set_cons_succ]
        refine wpAnyH_done (by kernel_rfl) ?_ _
        have HC2 : Hid (StoreAt _ c (cl A ks2 (i + 1)) rc2) := Lib.hid (by rw [hst]; exact HREN.out.1)
        have HS2 := Lib.hid ((HLK2.out _ hS).2)
        have HM2 := Lib.hid ((HLK2.out _ hS).1)
        have HB2 := Lib.hid (HB.out.trans (hS.toBelow HB.out.size (fun q hq => by simp at hq; omega)))
        have HK2 := Lib.hid hk2
        clear hst hk2 HREN HLK2 hS hcell hfro HS HC HMP HB HK HCR HP1 HO HNO HLK
        go_wp2_with fail
        go_roundw
        case rel => exact ⟨i + 1, ks2, rc2, by omega, by omega, by go_num, HK2, HS2, HC2, HM2, HCI, hrc, HB2⟩
        case measure => simp [intOf]; omega
    · obtain rfl : i = 8 := by omega
      have hgood := cl_good HA.out HM.out HK.out
      go_wp2_with fail
      go_ret
      exact ⟨c, cl A ks 8, rc, rfl, HC.out, hgood, fun m h0 h8 => cl_buf HA.out HK.out h0 h8, cl_made A ks 8, rfl, by simp [cl]; omega, HCI.out, HB.out⟩
end Go.Proofs.Ytbhdgeoljlhmcaa
