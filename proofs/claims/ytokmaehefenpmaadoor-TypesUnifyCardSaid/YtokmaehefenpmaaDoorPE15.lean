/- Unify: the steps of its walk; the first part of its walk. -/
import Derived.Test.YtokmaehefenpmaaDoorPE14
namespace Go.Proofs.YtokmaehefenpmaaDoor
open Go.RowKit Go.ChangeMaps Go.Proofs.YtokmaehefenpmaaDoor.Nm
set_option linter.unusedSimpArgs false
/-- What Unify hands back. -/
def UPost (w : World) (es : Eqs) (r : Except Int (List Ty)) (e : Ending) (w' : World) : Prop := Below w.heap.size w w' ∧ ((¬ OpenE es ∧ e = .returned (.tuple #[.slice none 0 0, .int .i64 30])) ∨ OpenE es ∧ match r with
  | .error c => e = .returned (.tuple #[.slice none 0 0, .int .i64 c])
  | .ok s => ∃ A l c, e = .returned (.tuple #[.slice A l c, .int .i64 0]) ∧ TysAt w' (fun b => w.heap.size ≤ b) s A l c)
theorem UPost.no {w w' : World} {es : Eqs} {r : Except Int (List Ty)} (h : ¬ OpenE es) (hb : Below w.heap.size w w') : UPost w es r (.returned (.tuple #[.slice none 0 0, .int .i64 30])) w' := ⟨hb, .inl ⟨h, rfl⟩⟩
theorem UPost.err {w w' : World} {es : Eqs} {r : Except Int (List Ty)} {c : Int} (h : OpenE es) (hr : r = .error c) (hb : Below w.heap.size w w') : UPost w es r (.returned (.tuple #[.slice none 0 0, .int .i64 c])) w' := by subst hr; exact ⟨hb, .inr ⟨h, rfl⟩⟩
theorem UPost.yes {w w' : World} {es : Eqs} {r : Except Int (List Ty)} {s : List Ty} {A : Option Addr} {l c : Nat} (h : OpenE es) (hr : r = .ok s) (hb : Below w.heap.size w w') (ht : TysAt w' (fun b => w.heap.size ≤ b) s A l c) : UPost w es r (.returned (.tuple #[.slice A l c, .int .i64 0])) w' := by subst hr; exact ⟨hb, .inr ⟨h, A, l, c, rfl, ht⟩⟩
theorem IxAt.old {w w' : World} {zs : List Int} {A : Option Addr} {l c : Nat} (h : IxAt w zs A l c) (hb : Below w.heap.size w w') : IxAt w' zs A l c := by
  obtain ⟨h1, h2, h3, h4⟩ := h
  refine ⟨h1, h2, h3, fun i z hi => ?_⟩
  obtain ⟨b, off, e, hc⟩ := h4 i z hi
  exact ⟨b, off, e, by
    have := World.block_lt_of_cell? w _ hc
    unfold World.cell? at hc ⊢
    rw [hb.block _ this]; exact hc⟩
theorem int_at {w : World} {ad : Addr} {z : Int} (h : w.cell? ad = some (.int .i64 z)) : OneAt w 3 ad (.int .i64 z) := one_of u3 rfl h
theorem run_mk90 (w : World) : (Instr.makeMap 90 none).run Tryd.prog w = .ok (.map (some w.heap.size)) (w.alloc (.map #[] 0)) := by kernel_rfl
theorem run_box92 (q : Nat) (w : World) : (Instr.box 92 (.agg #[.map (some q)])).run Tryd.prog w = .ok (.pointer (some ⟨w.heap.size, 0, none⟩)) (w.alloc (.cells #[.map (some q)] 92)) := by kernel_rfl
theorem built92 (q : Nat) : Tryd.prog.built 92 [(0, .map (some q))] = some #[.map (some q)] := by kernel_rfl
section
variable {ops : Array Oper} {rest : List Oper} {dst : Option Tmp} {ty ty' : TypeId} {x y : Operand} {pos : String} {after : Array Edge} {a : Act} {w : World} {Q : Exit → Act → World → Prop}
theorem wl_mk90 (h : ∀ W q, Below w.heap.size w W → w.heap.size ≤ q → W.heap[q]? = some (.map #[] 0) → wpList Tryd.prog ops Q rest (a.put dst (.map (some q))) W) : wpList Tryd.prog ops Q (⟨dst, .makeMap 90 none, ty', pos, after, none⟩ :: rest) a w :=
  wl_w rfl (by unfold execOp; simp [run_mk90 w, Result.andThen]) (h _ _ ((Below.refl _ w).alloc (Nat.le_refl _) _) (Nat.le_refl _) (ha_new rfl))
theorem wl_box92 {q : Nat} (hx : a.eval x = .agg #[.map (some q)]) (h : ∀ W p, Below w.heap.size w W → w.heap.size ≤ p → W.heap[p]? = some (.cells #[.map (some q)] 92 (0, 0)) → wpList Tryd.prog ops Q rest (a.put dst (.pointer (some ⟨p, 0, none⟩))) W) : wpList Tryd.prog ops Q (⟨dst, .box 92 x, ty', pos, after, none⟩ :: rest) a w :=
  wl_w rfl (by unfold execOp; simp [hx, run_box92 q w, Result.andThen]) (h _ _ ((Below.refl _ w).alloc (Nat.le_refl _) _) (Nat.le_refl _) (ha_new rfl))
end
theorem sol_new {w : World} {ps q : Nat} (hq : w.heap[q]? = some (.map #[] 0)) (hp : w.heap[ps]? = some (.cells #[.map (some q)] 92 (0, 0))) : SolR w ps q (fun _ => none) #[] 0 :=
  ⟨hp, ⟨hq, ⟨fun x h => by simp at h, by simp, by simp⟩, fun x h => by simp at h, fun v t h => by cases h⟩, fun v t h => by cases h⟩
theorem known_new (m : Nat) : KnownX m (start m) (fun _ => none) := ⟨⟨fun v t h => (by cases h), fun v hv _ => (by simp [start, hv])⟩, fun v h => (by cases h)⟩
theorem wl_mk22 {ops : Array Oper} {rest : List Oper} {dst : Option Tmp} {ty' : TypeId} {x y : Operand} {pos : String} {after : Array Edge} {a : Act} {w : World} {Q : Exit → Act → World → Prop} {n : Nat} (hn : n ≤ 60) (hx : a.eval x = .int .i64 (n : Int)) (hy : a.eval y = .int .i64 (n : Int))
    (h : ∀ W p, Below w.heap.size w W → w.heap.size ≤ p → W.heap[p]? = some (.cells (madeCells (cell4 0 ⟨#[]⟩ 0 none 0 0) (n * 4)) 24 (0, 0)) → wpList Tryd.prog ops Q rest (a.put dst (.slice (some ⟨p, 0, none⟩) n n)) W) : wpList Tryd.prog ops Q (⟨dst, .makeSlice 22 x y, ty', pos, after, none⟩ :: rest) a w :=
  wl_w rfl (by
    unfold execOp
    have := run_make22 w n hn
    simp [hx, hy, this, Result.andThen]) (h _ _ ((Below.refl _ w).alloc (Nat.le_refl _) _) (Nat.le_refl _) (ha_new rfl))
theorem built24w (n : Int) : Tryd.prog.built 24 [(0, .int .i64 12), (2, .int .i64 n)] = some (cell4 12 ⟨#[]⟩ n none 0 0) := by kernel_rfl
/-- The solution's row while it is being filled. -/
def OutR (w : World) (B g m : Nat) (s : List Ty) (j : Nat) : Prop := ∃ cs, w.heap[g]? = some (.cells cs 24 (0, 0)) ∧ cs.size = m * 4 ∧ ∀ (i : Nat) (t : Ty), i < j → s[i]? = some t → TyAt w (fun b => B ≤ b ∧ b ≠ g) t (cs.extract (i * 4) (i * 4 + 4))
theorem OutR.new {w : World} {B g m : Nat} {s : List Ty} {cs : Array Value} (h : w.heap[g]? = some (.cells cs 24 (0, 0))) (hs : cs.size = m * 4) : OutR w B g m s 0 := ⟨cs, h, hs, fun i t hi => by omega⟩
theorem OutR.old {w w' : World} {B g m j : Nat} {s : List Ty} (h : OutR w B g m s j) (hb : Below w.heap.size w w') : OutR w' B g m s j := by
  obtain ⟨cs, h1, h2, h3⟩ := h
  exact ⟨cs, below_look hb h1, h2, fun i t hi ht => (h3 i t hi ht).old hb⟩
theorem OutR.put {w : World} {B g m j : Nat} {s : List Ty} (h : OutR w B g m s j) (hj : j < m) {t : Ty} (ht : s[j]? = some t) {row : Array Value} (hr : TyAt w (fun b => B ≤ b ∧ b ≠ g) t row) :
    ∃ cs, w.heap[g]? = some (.cells cs 24 (0, 0)) ∧ j * 4 + 4 ≤ cs.size ∧ OutR (w.setRow g (put4 cs j row)) B g m s (j + 1) := by
  obtain ⟨cs, h1, h2, h3⟩ := h
  have hle : j * 4 + 4 ≤ cs.size := by omega
  refine ⟨cs, h1, hle, put4 cs j row, hr_new h1, by rw [put4_size hr.size hle, h2], fun i u hi hu => ?_⟩
  by_cases e : i = j
  · subst e
    rw [ht] at hu; cases hu
    rw [put4_same hr.size hle]
    exact hr.mono (fun _ h => h) fun b hb => setRow_other w g b _ hb.2
  · rw [put4_other hr.size hle e]
    exact (h3 i u (by omega) hu).mono (fun _ h => h) fun b hb => setRow_other w g b _ hb.2
theorem OutR.at {w : World} {B g m : Nat} {s : List Ty} (h : OutR w B g m s m) (hl : s.length = m) (hm : m ≤ 60) (hB : B ≤ g) : TysAt w (fun b => B ≤ b) s (some ⟨g, 0, none⟩) m m := by
  obtain ⟨cs, h1, h2, h3⟩ := h
  refine ⟨hl, Nat.le_refl _, by unfold maxLen; omega, fun i => cs.extract (i * 4) (i * 4 + 4), fun i t ht => ⟨g, 0, cs, 24, (0, 0), rfl, hB, h1, by rw [Nat.zero_add]⟩, fun i t ht => (h3 i t (by have := (List.getElem?_eq_some_iff.1 ht).1; omega) ht).weak fun b h => h.1⟩
theorem var_at (w : World) (D : Nat → Prop) (v : Nat) (hv : v ≤ 60) : TyAt w D (varT v) (cell4 12 ⟨#[]⟩ (v : Int) none 0 0) := by
  refine TyAt.of (by rfl) ?_ (Nat.zero_le _) (TysAt.nil _ _)
  have h1 : IntKind.i64.min = -9223372036854775808 := rfl
  have h2 : IntKind.i64.max = 9223372036854775807 := rfl
  simp only [Lit.wf, Bool.and_eq_true, decide_eq_true_eq]
  omega
def moL (M : Int) (t u : Ty) : Nat → Int | 0 => M | 1 => most1 M t | _ => most1 (most1 M t) u
def vaL (t u : Ty) (j : Nat) : Prop := (1 ≤ j → validB true t = true) ∧ (2 ≤ j → validB true u = true)
theorem two_step {w : World} {D : Nat → Prop} {t u : Ty} {k : Int} {s : ByteArray} {n : Int} {A : Option Addr} {l c : Nat} {k' : Int} {s' : ByteArray} {n' : Int} {A' : Option Addr} {l' c' : Nat} (ht : TyAt w D t (cell4 k s n A l c)) (hu : TyAt w D u (cell4 k' s' n' A' l' c')) (M : Int) {j : Nat} (hj : j < 2) :
    ∃ x k3 s3 n3 A3 l3 c3, TyAt w D x (cell4 k3 s3 n3 A3 l3 c3) ∧ ((j = 0 ∧ cell4 k3 s3 n3 A3 l3 c3 = cell4 k s n A l c) ∨ (j = 1 ∧ cell4 k3 s3 n3 A3 l3 c3 = cell4 k' s' n' A' l' c')) ∧ moL M t u (j + 1) = most1 (moL M t u j) x ∧ (vaL t u j → validB true x = true → vaL t u (j + 1)) ∧ (x = t ∨ x = u) := by
  rcases j with _ | _ | j
  · exact ⟨t, _, _, _, _, _, _, ht, .inl ⟨rfl, rfl⟩, rfl, fun _ h => ⟨fun _ => h, fun h => by omega⟩, .inl rfl⟩
  · exact ⟨u, _, _, _, _, _, _, hu, .inr ⟨rfl, rfl⟩, rfl, fun h h2 => ⟨fun _ => h.1 (Nat.le_refl _), fun _ => h2⟩, .inr rfl⟩
  · omega
theorem fold_take {zs : List Int} {j : Nat} {z M : Int} (h : zs[j]? = some z) : (zs.take (j + 1)).foldl max M = max ((zs.take j).foldl max M) z := by
  rw [List.take_add_one, h, List.foldl_append]
  rfl
set_option maxHeartbeats 8000000 in
set_option maxRecDepth 100000 in
theorem Unify_any (es : Eqs) (k : Nat) (r : Except Int (List Ty)) (hst : OpenE es → Steps k es (start (mOf es)) r) (A : Option Addr) (l c : Nat) (w : World) (D : Nat → Prop) (h : EqsAt w D es A l c) :
    Calls Tryd.prog 41 #[.slice A l c] w (UPost w es r) := by
  have HT := Lib.hid h
  have HL := Lib.hid h.len
  have HST := Lib.hid hst
  have hcm := h.cap
  have hmx := h.max
  unfold maxLen at hmx
  clear h hst
  obtain ⟨M0, hM0⟩ : ∃ M : Int, M = -1 := ⟨_, rfl⟩
  have HM0 := Lib.hid hM0
  clear hM0
  have hb := Below.refl w.heap.size w
  go_enter Tryd.func41, Tryd.ntmps41
  go_wp2_with fail
  go_loopw [4, 19] (fun m i wr => ∃ j : Nat, j ≤ l ∧ i = .int .i64 (j : Int) ∧ (∃ M : Int, m = .int .i64 M ∧ Hid (M = mostE (es.take j))) ∧ Hid (OpenE (es.take j)) ∧ Below w.heap.size w wr) (fun _ i _ => l - (intOf i).toNat)
  case atStart => exact ⟨0, by omega, rfl, ⟨_, rfl, Lib.hid rfl⟩, Lib.hid (fun p hp => by simp at hp), hb⟩
  case round =>
    clear hb
    obtain ⟨j, hj, rfl, ⟨M, rfl, HM⟩, HO, hb⟩ := hrel
    obtain ⟨wo, rfl⟩ : ∃ wo, wo = wr := ⟨_, rfl⟩
    go_upto_region 3 with (fail)
    by_cases hlt : j < l
    · have hltI : (j : Int) < (l : Int) := by omega
      obtain ⟨t, u, hi⟩ := HT.out.ex hlt
      obtain ⟨bl, off, k1, s1, n1, A1, l1, c1, k2, s2, n2, A2, l2, c2, rfl, hr8, -, -, ht, hu⟩ := (HT.out.old hb).low.get hi (C := fun b => wo.heap.size ≤ b) (fun b h1 h2 => by have := h1.2; omega)
      have HR8 := Lib.hid (hr8 wo (Keep.refl _ _))
      have HTT := Lib.hid ht
      have HUU := Lib.hid hu
      have HI := Lib.hid hi
      clear hi hr8 ht hu
      apply wp_region_lit
      (with_reducible refine wl_k ?_ ?_); exact rfl; intro K hK; go_simp; refine hK _ ?_; clear hK K
      have hz := Below.refl wo.heap.size wo
      go_upto_region 4 with (fail)
      apply wp_region_lit
      (with_reducible refine wl_k ?_ ?_); exact rfl; intro K hK; go_simp; refine hK _ ?_; clear hK K
      ((with_reducible apply wl_rowG); exact rfl; exact rfl; exact HR8.out)
      (with_reducible refine wl_all58 ?_); intro W1 p hbn hlp hp; replace hz := hz.trans (hbn.mono hz.size); clear hbn; simp only [Zq]
      (with_reducible refine wl_put58 rfl rfl hp rfl ?_); rw [put_noneA]; intro W2 hbx hsz hkx hnx; replace hz := hbx _ _ (by omega) hz; clear hp; have hp := hnx; clear hnx
      clear hbx hkx hsz HR8
      go_upto_region 5 with (fail)
      apply wp_region_lit
      ((with_reducible apply wl_rowG); exact rfl; exact rfl; exact p8 hp)
      (with_reducible refine wl_k ?_ ?_); exact rfl; intro K hK; go_simp; refine hK _ ?_; clear hK K
      clear hp
      go_wp2_with fail
      go_loopw [4, 24] (fun m i wr2 => ∃ j2 : Nat, j2 ≤ 2 ∧ i = .int .i64 (j2 : Int) ∧ (∃ M2 : Int, m = .int .i64 M2 ∧ Hid (M2 = moL M t u j2)) ∧ Hid (vaL t u j2) ∧ Below wo.heap.size wo wr2) (fun _ i _ => 2 - (intOf i).toNat)
      case atStart => exact ⟨0, by omega, rfl, ⟨_, rfl, Lib.hid rfl⟩, Lib.hid ⟨fun h => by omega, fun h => by omega⟩, hz⟩
      case round =>
        clear hz
        obtain ⟨j2, hj2, rfl, ⟨M2, rfl, HM2⟩, HV2, hz⟩ := hrel
        obtain ⟨wr2, rfl⟩ : ∃ wr2, wr2 = wr := ⟨_, rfl⟩
        go_upto_region 6 with (fail)
        by_cases hlt2 : j2 < 2
        · have hltI2 : (j2 : Int) < 2 := by omega
          obtain ⟨x, k3, s3, n3, A3, l3, c3, hx, hjx, hmo, hva, hxx⟩ := two_step HTT.out HUU.out M hlt2
          have HX := Lib.hid (hx.old hz)
          have HJX := Lib.hid hjx
          have HMO := Lib.hid hmo
          have HVA := Lib.hid hva
          have HXX := Lib.hid hxx
          clear hx hjx hmo hva hxx
          apply wp_region_lit
          (with_reducible refine wl_k ?_ ?_); exact rfl; intro K hK; go_simp; refine hK _ ?_; clear hK K
          have hy := Below.refl wr2.heap.size wr2
          go_upto_region 7 with (fail)
          apply wp_region_lit
          (with_reducible refine wl_ix58 rfl rfl HJX.out ?_); simp only [Zq]
          (with_reducible refine wl_all ?_); intro W3 p3 hbn hlp3 hp3; replace hy := hy.trans (hbn.mono hy.size); clear hbn; simp only [Zq]
          (with_reducible refine wl_put rfl rfl hp3 ?_); rw [put_noneA]; intro W4 hbx hsz hkx hnx; replace hy := hbx _ _ (by omega) hy; clear hp3; have hp3 := hnx; clear hnx
          clear hbx hkx hsz
          have HC := Lib.hid (Open_all x W4 _ _ (HX.out.old hy))
          obtain ⟨vb, hvb⟩ : ∃ vb, vb = validB true x := ⟨_, rfl⟩
          rw [← hvb] at HC
          have HVB := Lib.hid hvb
          clear hvb
          go_upto_region 8 with (fail)
          apply wp_region_lit
          (first | ((with_reducible apply wl_oneG); exact rfl; exact rfl; first | exact f0 (by with_reducible assumption) | exact f1 (by with_reducible assumption) | exact f2 (by with_reducible assumption) | exact f3 (by with_reducible assumption) | with_reducible assumption | exact g22 (by with_reducible assumption) | exact g25 (by with_reducible assumption)) | ((with_reducible apply wl_rowG); exact rfl; exact rfl; first | with_reducible assumption | exact RowK.now (by with_reducible assumption) | exact f4 (by with_reducible assumption)))
          (with_reducible refine wl_ck ?_ ?_); exact rfl; intro K hK; go_simp; refine ⟨_, _, ⟨rfl, rfl⟩, hK _ _ ⟨_, HC.out, ?_⟩⟩; clear hK K; rintro e w7 ⟨rfl, hb7⟩; refine ⟨_, rfl, ?_⟩; simp only [Zq]
          replace hp3 := below_look hb7 hp3; replace hy := hy.trans (hb7.mono hy.size); clear hb7
          (with_reducible refine wl_k ?_ ?_); exact rfl; intro K hK; go_simp; refine hK _ ?_; clear hK K
          clear HC
          cases vb with
          | false =>
            have hbb := hb.trans ((hz.trans (hy.mono hz.size)).mono hb.size)
            clear hp3
            go_upto_region 9 with (fail)
            apply wp_region_lit
            (with_reducible refine wl_k ?_ ?_); exact rfl; intro K hK; go_simp; refine hK _ ?_; clear hK K
            (with_reducible refine wl_k ?_ ?_); exact rfl; intro K hK; go_simp; refine hK _ ?_; clear hK K
            go_wp2_with fail
            go_ret2
            refine UPost.no (fun ho => ?_) hbb
            have h1 := ho (t, u) (List.mem_of_getElem? HI.out)
            have h2 := HVB.out
            rcases HXX.out with e | e
            · rw [e, h1.1] at h2; cases h2
            · rw [e, h1.2] at h2; cases h2
          | true =>
            obtain ⟨zs, hzs⟩ : ∃ zs, zs = distinctI (varsOf x) := ⟨_, rfl⟩
            have hvv := Vars_any x (by have := open_small HVB.out.symm; omega) w7 _ _ (HX.out.old hy)
            rw [← hzs] at hvv
            have HC := Lib.hid hvv
            have HZS := Lib.hid hzs
            clear hvv hzs
            go_upto_region 10 with (fail)
            apply wp_region_lit
            (first | ((with_reducible apply wl_oneG); exact rfl; exact rfl; first | exact f0 (by with_reducible assumption) | exact f1 (by with_reducible assumption) | exact f2 (by with_reducible assumption) | exact f3 (by with_reducible assumption) | with_reducible assumption | exact g22 (by with_reducible assumption) | exact g25 (by with_reducible assumption)) | ((with_reducible apply wl_rowG); exact rfl; exact rfl; first | with_reducible assumption | exact RowK.now (by with_reducible assumption) | exact f4 (by with_reducible assumption)))
            (with_reducible refine wl_ck ?_ ?_); exact rfl; intro K hK; go_simp; refine ⟨_, _, ⟨rfl, rfl⟩, hK _ _ ⟨_, HC.out, ?_⟩⟩; clear hK K; rintro e w8 ⟨A7, l7, c7, rfl, hix, hb7⟩; refine ⟨_, rfl, ?_⟩; simp only [Zq]
            have HIX := Lib.hid hix
            clear hix
            replace hy := hy.trans (hb7.mono hy.size); clear hb7
            (with_reducible refine wl_k ?_ ?_); exact rfl; intro K hK; go_simp; refine hK _ ?_; clear hK K
            (with_reducible refine wl_k ?_ ?_); exact rfl; intro K hK; go_simp; refine hK _ ?_; clear hK K
            clear HC hp3
            have HL7 := Lib.hid HIX.out.1
            go_wp2_with fail
            go_loopw [4, 33] (fun m i wr => ∃ j3 : Nat, j3 ≤ l7 ∧ i = .int .i64 (j3 : Int) ∧ (∃ M3 : Int, m = .int .i64 M3 ∧ Hid (M3 = (zs.take j3).foldl max M2)) ∧ Below w8.heap.size w8 wr) (fun _ i _ => l7 - (intOf i).toNat)
            case atStart => exact ⟨0, by omega, rfl, ⟨_, rfl, Lib.hid rfl⟩, Below.refl _ _⟩
            case round =>
              obtain ⟨j3, hj3, rfl, ⟨M3, rfl, HM3⟩, hy3⟩ := hrel
              obtain ⟨wr3, rfl⟩ : ∃ wr3, wr3 = wr := ⟨_, rfl⟩
              go_upto_region 11 with (fail)
              by_cases hlt3 : j3 < l7
              · have hltI3 : (j3 : Int) < (l7 : Int) := by omega
                apply wp_region_lit
                (with_reducible refine wl_k ?_ ?_); exact rfl; intro K hK; go_simp; refine hK _ ?_; clear hK K
                have hixo := (HIX.out.old hy3)
                obtain ⟨z, hz3⟩ : ∃ z, zs[j3]? = some z := ⟨_, List.getElem?_eq_getElem (by rw [HL7.out]; exact hlt3)⟩
                obtain ⟨b7, o7, rfl, hcell⟩ := hixo.2.2.2 j3 z hz3
                have HZ3 := Lib.hid hz3
                have HCE := Lib.hid (int_at hcell)
                clear hixo hz3 hcell
                go_upto_region 12 with (fail)
                apply wp_region_lit
                (with_reducible refine wl_k ?_ ?_); exact rfl; intro K hK; go_simp; refine hK _ ?_; clear hK K
                ((with_reducible apply wl_oneG); exact rfl; exact rfl; exact HCE.out)
                (with_reducible refine wl_k ?_ ?_); exact rfl; intro K hK; go_simp; refine hK _ ?_; clear hK K
                go_upto_region 13 with (fail)
                apply wp_region_lit
                (with_reducible refine wl_k ?_ ?_); exact rfl; intro K hK; go_simp; refine hK _ ?_; clear hK K
                (with_reducible refine wl_k ?_ ?_); exact rfl; intro K hK; go_simp; refine hK _ ?_; clear hK K
                (with_reducible refine wl_k ?_ ?_); exact rfl; intro K hK; go_simp; refine hK _ ?_; clear hK K
                (with_reducible refine wl_k ?_ ?_); exact rfl; intro K hK; go_simp; refine hK _ ?_; clear hK K
                have hl7 : l7 ≤ 9223372036854775807 := by have h1 := HIX.out.2.1; have h2 := HIX.out.2.2.1; unfold maxLen at h2; omega
                go_wp2_with fail
                go_roundw
                case rel => exact ⟨j3 + 1, by omega, by go_num, ⟨_, rfl, Lib.hid (by rw [fold_take HZ3.out, HM3.out])⟩, hy3⟩
                case measure => simp [intOf]; omega
              · have hltI3 : ¬ (j3 : Int) < (l7 : Int) := by omega
                apply wp_region_lit
                (with_reducible refine wl_k ?_ ?_); exact rfl; intro K hK; go_simp; refine hK _ ?_; clear hK K
                go_wp2_with fail
                go_roundw
                case rel => exact ⟨j2 + 1, by omega, by go_num, ⟨_, rfl, Lib.hid (by rw [HMO.out, ← HM2.out, HM3.out, List.take_of_length_le (by rw [HL7.out]; omega), HZS.out]; rfl)⟩, Lib.hid (HVA.out HV2.out HVB.out.symm), (hz.trans (hy.mono hz.size)).trans (hy3.mono (by have := hz.size; have := hy.size; omega))⟩
                case measure => simp [intOf]; omega
        · have hltI2 : ¬ (j2 : Int) < 2 := by omega
          have hj22 : j2 = 2 := by omega
          subst hj22
          apply wp_region_lit
          (with_reducible refine wl_k ?_ ?_); exact rfl; intro K hK; go_simp; refine hK _ ?_; clear hK K
          go_wp2_with fail
          go_roundw
          case rel => exact ⟨j + 1, by omega, by go_num, ⟨_, rfl, Lib.hid (by rw [most_next HI.out, HM2.out, ← HM.out]; rfl)⟩, Lib.hid (open_next HI.out HO.out (HV2.out.1 (by omega)) (HV2.out.2 (by omega))), hb.trans (hz.mono hb.size)⟩
          case measure => simp [intOf]; omega
    · have hltI : ¬ (j : Int) < (l : Int) := by omega
      apply wp_region_lit
      (with_reducible refine wl_k ?_ ?_); exact rfl; intro K hK; go_simp; refine hK _ ?_; clear hK K
      have HM9 : Hid (M = mostE es) := Lib.hid (by rw [HM.out, List.take_of_length_le (by rw [HL.out]; omega)])
      have HO9 : Hid (OpenE es) := Lib.hid (by have := HO.out; rwa [List.take_of_length_le (by rw [HL.out]; omega)] at this)
      clear HM HO hltI hlt hj
      obtain ⟨m, hm⟩ : ∃ m, m = mOf es := ⟨_, rfl⟩
      have HMM : Hid (m = mOf es) := Lib.hid hm
      have hM1 : M + 1 = (m : Int) := by rw [HM9.out, hm]; exact (mOf_eq HO9.out).1
      have hm40 : m ≤ 40 := by rw [hm]; exact (mOf_eq HO9.out).2
      clear hm
      have HWO : Hid (w.heap.size ≤ wo.heap.size) := Lib.hid hb.size
      go_upto_region 17 with (fail)
      apply wp_region_lit
      (with_reducible refine wl_mk90 ?_); intro W1 q hbn hlq hq; replace hb := hb.trans (hbn.mono hb.size); clear hbn; simp only [Zq]
      refine wl_val rfl (ex_build 92 _ rfl (L := [(0, .map (some q))]) rfl (built92 q)) ?_; simp only [Zq]
      have hltq := heap_lt hq
      (with_reducible refine wl_box92 rfl ?_); intro W2 ps hbn hlps hps; replace hq := below_look hbn hq; replace hb := hb.trans (hbn.mono hb.size); clear hbn; simp only [Zq]
      (with_reducible refine wl_k ?_ ?_); exact rfl; intro K hK; go_simp; refine hK _ ?_; clear hK K
      have HPQ : Hid (ps ≠ q) := Lib.hid (fun e => by subst e; rw [hq] at hps; cases hps)
      have HS0 := Lib.hid (sol_new hq hps)
      have HST0 : Hid (Steps k (es.drop 0) (start m) r) := Lib.hid (by rw [HMM.out]; exact HST.out HO9.out)
      have HKN0 := Lib.hid (known_new m)
      have HG0 := Lib.hid (start_good m)
      have HFE : Hid (FineE m es) := Lib.hid (by rw [HMM.out]; exact fine_open HO9.out)
      have HQW : Hid (w.heap.size ≤ q) := Lib.hid (by have := HWO.out; omega)
      have HET := Lib.hid (HT.out.low.old hb)
      have hb2 := hb
      clear hq hps hb
      go_upto_region 18 with (fail)
      apply wp_region_lit
      (with_reducible refine wl_k ?_ ?_); exact rfl; intro K hK; go_simp; refine hK _ ?_; clear hK K
      (with_reducible refine wl_k ?_ ?_); exact rfl; intro K hK; go_simp; refine hK _ ?_; clear hK K
      (with_reducible refine wl_k ?_ ?_); exact rfl; intro K hK; go_simp; refine hK _ ?_; clear hK K
      go_wp2_with fail
      go_loopw [48] (fun i wr => ∃ (j : Nat) (sol : List Ty) (f' : Nat → Option Ty) (es' : Array MapEntry) (c' k' : Nat), j ≤ l ∧ i = .int .i64 (j : Int) ∧ Hid (Steps k' (es.drop j) sol r) ∧ Hid (KnownX m sol f') ∧ Hid (Good m sol) ∧ Hid (SolR wr ps q f' es' c') ∧ Hid (Keep (fun b => b = q) W2 wr)) (fun i _ => l - (intOf i).toNat)
      case atStart => exact ⟨0, _, _, _, _, _, Nat.zero_le _, rfl, HST0, HKN0, HG0, HS0, Lib.hid (Keep.refl _ _)⟩
      case round =>
        clear HST0 HKN0 HG0 HS0
        obtain ⟨j, sol, f1, es1, c1, k1, hj, rfl, HS1, HKN, HGS, HSR, HKW⟩ := hrel
        obtain ⟨wo, rfl⟩ : ∃ wo, wo = wr := ⟨_, rfl⟩
        go_upto_region 19 with (fail)
        by_cases hlt : j < l
        · have hltI : (j : Int) < (l : Int) := by omega
          obtain ⟨t, u, hi⟩ := HT.out.ex hlt
          obtain ⟨bl, off, ka, sa, na, A1, l1, cc1, kb, sb, nb, A2, l2, c2, rfl, hr8, -, -, ht, hu⟩ := (HET.out.keep HKW.out (fun b h1 h2 => by have := h1.2; have := HQW.out; omega)).get hi (C := fun b => w.heap.size ≤ b) (fun b h1 h2 => by have := h1.2; omega)
          have HR8 := Lib.hid (hr8 wo (Keep.refl _ _))
          have HTT := Lib.hid (ht.weak (D' := fun b => b ≠ q) fun b h => by have := h.2; have := HQW.out; omega)
          have HUU := Lib.hid (hu.weak (D' := fun b => b ≠ q) fun b h => by have := h.2; have := HQW.out; omega)
          have hmem := List.mem_of_getElem? hi
          have HFT := Lib.hid (HFE.out _ hmem)
          have HVT := Lib.hid (HO9.out _ hmem)
          have HSQ : Hid ((∃ e, r = .error e ∧ Steps k1 [(t, u)] sol (.error e)) ∨ ∃ s ka kb, Steps ka [(t, u)] sol (.ok s) ∧ Steps kb (es.drop (j + 1)) s r ∧ ka + kb = k1) := Lib.hid (Steps.split (by
            have := HS1.out
            obtain ⟨h1, h2⟩ := List.getElem?_eq_some_iff.1 hi
            rw [List.drop_eq_getElem_cons h1, h2] at this
            exact this))
          clear hi hr8 ht hu hmem
          apply wp_region_lit
          (with_reducible refine wl_k ?_ ?_); exact rfl; intro K hK; go_simp; refine hK _ ?_; clear hK K
          have hz := Below.refl wo.heap.size wo
          go_upto_region 20 with (fail)
          apply wp_region_lit
          (with_reducible refine wl_k ?_ ?_); exact rfl; intro K hK; go_simp; refine hK _ ?_; clear hK K
          ((with_reducible apply wl_rowG); exact rfl; exact rfl; exact HR8.out)
          (with_reducible refine wl_all58 ?_); intro W3 p hbn hlp hp; replace hz := hz.trans (hbn.mono hz.size); clear hbn; simp only [Zq]
          (with_reducible refine wl_put58 rfl rfl hp rfl ?_); rw [put_noneA]; intro W4 hbx hsz hkx hnx; replace hz := hbx _ _ (by omega) hz; clear hp; have hp := hnx; clear hnx
          clear hbx hkx hsz HR8
          go_upto_region 21 with (fail)
          have hf2 : ∀ p, p ∈ [(t, u)] → FineV m p.1 ∧ FineV m p.2 := fun p hp => by simp at hp; subst hp; exact HFT.out
          have HF2 := Lib.hid hf2
          clear hf2
          have HST2 : Hid (SmallU m sol t) := Lib.hid (small_start HFT.out.1 (open_small HVT.out.1))
          have HSU2 : Hid (SmallU m sol u) := Lib.hid (small_start HFT.out.2 (open_small HVT.out.2))
          rcases HSQ.out with ⟨e, hre, h1⟩ | ⟨s', k2, k3, h1, h2, hkk⟩
          · have HC := Lib.hid (equal_any HPQ.out k1 sol f1 t u (.error e) es1 c1 W4 _ _ HKN.out HGS.out HFT.out.1 HFT.out.2 HST2.out HSU2.out h1 (HSR.out.old hz) (HTT.out.old hz) (HUU.out.old hz))
            rcases steps_err h1 HGS.out HF2.out e rfl with rfl | rfl | rfl
            all_goals
              have HRE := Lib.hid hre
              clear hre h1
              apply wp_region_lit
              (with_reducible refine wl_k ?_ ?_); exact rfl; intro K hK; go_simp; refine hK _ ?_; clear hK K
              (with_reducible refine wl_k ?_ ?_); exact rfl; intro K hK; go_simp; refine hK _ ?_; clear hK K
              ((with_reducible apply wl_rowG); exact rfl; exact rfl; exact p80 hp)
              (with_reducible refine wl_k ?_ ?_); exact rfl; intro K hK; go_simp; refine hK _ ?_; clear hK K
              ((with_reducible apply wl_rowG); exact rfl; exact rfl; exact p84 hp)
              (with_reducible refine wl_ck ?_ ?_); exact rfl; intro K hK; go_simp; refine ⟨_, _, ⟨rfl, rfl⟩, hK _ _ ⟨_, HC.out, ?_⟩⟩; clear hK K; rintro e w9 ⟨hk9, rfl⟩; refine ⟨_, rfl, ?_⟩; simp only [Zq]
              (with_reducible refine wl_k ?_ ?_); exact rfl; intro K hK; go_simp; refine hK _ ?_; clear hK K
              have HBB := Lib.hid (Below.keep hb2 (HKW.out.trans (fun b h => .inl h) ((Keep.of (C := fun b => b = q) hz).trans (fun b h => .inl h) hk9)) (fun b h => by have := HQW.out; omega))
              clear hk9 hp hz HC
              go_upto_region 22 with (fail)
              apply wp_region_lit
              (with_reducible refine wl_k ?_ ?_); exact rfl; intro K hK; go_simp; refine hK _ ?_; clear hK K
              (with_reducible refine wl_k ?_ ?_); exact rfl; intro K hK; go_simp; refine hK _ ?_; clear hK K
              go_upto_region 23 with (fail)
              apply wp_region_lit
              (with_reducible refine wl_k ?_ ?_); exact rfl; intro K hK; go_simp; refine hK _ ?_; clear hK K
              (with_reducible refine wl_k ?_ ?_); exact rfl; intro K hK; go_simp; refine hK _ ?_; clear hK K
              (with_reducible refine wl_k ?_ ?_); exact rfl; intro K hK; go_simp; refine hK _ ?_; clear hK K
              go_wp2_with fail
              go_ret2
              exact UPost.err HO9.out HRE.out HBB.out
          · obtain ⟨hgs, -, -, -⟩ := steps_sound h1 HGS.out HF2.out s' rfl
            have HC := Lib.hid (equal_any HPQ.out k2 sol f1 t u (.ok s') es1 c1 W4 _ _ HKN.out HGS.out HFT.out.1 HFT.out.2 HST2.out HSU2.out h1 (HSR.out.old hz) (HTT.out.old hz) (HUU.out.old hz))
            have HGN := Lib.hid hgs
            have HS3 := Lib.hid h2
            clear h1 h2 hkk hgs HS1
            apply wp_region_lit
            (with_reducible refine wl_k ?_ ?_); exact rfl; intro K hK; go_simp; refine hK _ ?_; clear hK K
            (with_reducible refine wl_k ?_ ?_); exact rfl; intro K hK; go_simp; refine hK _ ?_; clear hK K
            ((with_reducible apply wl_rowG); exact rfl; exact rfl; exact p80 hp)
            (with_reducible refine wl_k ?_ ?_); exact rfl; intro K hK; go_simp; refine hK _ ?_; clear hK K
            ((with_reducible apply wl_rowG); exact rfl; exact rfl; exact p84 hp)
            (with_reducible refine wl_ck ?_ ?_); exact rfl; intro K hK; go_simp; refine ⟨_, _, ⟨rfl, rfl⟩, hK _ _ ⟨_, HC.out, ?_⟩⟩; clear hK K; rintro e w9 ⟨hk9, rfl, f9, es9, c9, hs9, hkn9⟩; refine ⟨_, rfl, ?_⟩; simp only [Zq]
            (with_reducible refine wl_k ?_ ?_); exact rfl; intro K hK; go_simp; refine hK _ ?_; clear hK K
            have HKF := Lib.hid (HKW.out.trans (fun b h => .inl h) ((Keep.of (C := fun b => b = q) hz).trans (fun b h => .inl h) hk9))
            have HSN := Lib.hid hs9
            have HKM := Lib.hid hkn9
            clear hk9 hp hz HC hs9 hkn9
            go_upto_region 22 with (fail)
            apply wp_region_lit
            (with_reducible refine wl_k ?_ ?_); exact rfl; intro K hK; go_simp; refine hK _ ?_; clear hK K
            (with_reducible refine wl_k ?_ ?_); exact rfl; intro K hK; go_simp; refine hK _ ?_; clear hK K
            go_wp2_with fail
            go_roundw
            case rel => exact ⟨j + 1, s', f9, es9, c9, k3, by omega, by go_num, HS3, HKM, HGN, HSN, HKF⟩
            case measure => simp [intOf]; omega
        · have hltI : ¬ (j : Int) < (l : Int) := by omega
          have HRE : Hid (r = .ok sol) := Lib.hid (by
            have := HS1.out
            rw [List.drop_of_length_le (by rw [HL.out]; omega)] at this
            cases this
            rfl)
          apply wp_region_lit
          (with_reducible refine wl_k ?_ ?_); exact rfl; intro K hK; go_simp; refine hK _ ?_; clear hK K
          clear hltI hlt HS1
          have HBW := Lib.hid (Below.keep hb2 HKW.out (fun b h => by have := HQW.out; omega))
          have hnw : IntKind.i64.wrap (m : Int) = (m : Int) := IntWalk.i64_in _ (by omega)
          have hz := Below.refl wo.heap.size wo
          go_upto_region 25 with (fail)
          apply wp_region_lit
          (with_reducible refine wl_k ?_ ?_); exact rfl; intro K hK; go_simp; refine hK _ ?_; clear hK K
          (with_reducible refine wl_k ?_ ?_); exact rfl; intro K hK; go_simp; refine hK _ ?_; clear hK K
          (with_reducible refine wl_mk22 (by omega) rfl rfl ?_); intro W5 g hbn hlg hg; replace hz := hz.trans (hbn.mono hz.size); clear hbn; simp only [Zq]
          (with_reducible refine wl_k ?_ ?_); exact rfl; intro K hK; go_simp; refine hK _ ?_; clear hK K
          clear hM1 hnw
          have HWG : Hid (w.heap.size ≤ g) := Lib.hid (by have := HBW.out.size; omega)
          have HWL : Hid (wo.heap.size ≤ g) := Lib.hid hlg
          have HOR := Lib.hid (OutR.new (B := w.heap.size) (m := m) (s := sol) hg (by rw [size_madeCells]))
          clear hg
          go_upto_region 26 with (fail)
          apply wp_region_lit
          (with_reducible refine wl_k ?_ ?_); exact rfl; intro K hK; go_simp; refine hK _ ?_; clear hK K
          (with_reducible refine wl_k ?_ ?_); exact rfl; intro K hK; go_simp; refine hK _ ?_; clear hK K
          (with_reducible refine wl_k ?_ ?_); exact rfl; intro K hK; go_simp; refine hK _ ?_; clear hK K
          go_wp2_with fail
          go_loopw [67] (fun i wr => ∃ j : Nat, j ≤ m ∧ i = .int .i64 (j : Int) ∧ Hid (OutR wr w.heap.size g m sol j) ∧ Below wo.heap.size wo wr ∧ g < wr.heap.size) (fun i _ => m - (intOf i).toNat)
          case atStart => exact ⟨0, by omega, rfl, HOR, hz, by obtain ⟨cs, h1, -⟩ := HOR.out; exact heap_lt h1⟩
          case round =>
            clear HOR hz
            obtain ⟨v, hv, rfl, HOR, hz, hgl⟩ := hrel
            obtain ⟨wv, rfl⟩ : ∃ wv, wv = wr := ⟨_, rfl⟩
            go_upto_region 27 with (fail)
            by_cases hlt : v < m
            · have hltI : (v : Int) < (m : Int) := by omega
              obtain ⟨x, hx1, hx2, hx3⟩ := app_at HGS.out.len HGS.out.fine hlt
              have HX := Lib.hid hx1
              have hc := put_any f1 ps q es1 c1 wv (HSR.out.old hz) (varT v) (by rw [nodes_var]; omega) (fun _ => True) _ (var_at wv _ v (by omega))
              rw [put_app HKN.out.toKnown HGS.out (varT v) (fine_var hlt), hx3] at hc
              have HC := Lib.hid hc
              clear hx1 hx2 hx3 hc
              apply wp_region_lit
              (with_reducible refine wl_k ?_ ?_); exact rfl; intro K hK; go_simp; refine hK _ ?_; clear hK K
              go_upto_region 28 with (fail)
              apply wp_region_lit
              (with_reducible refine wl_k ?_ ?_); exact rfl; intro K hK; go_simp; refine hK _ ?_; clear hK K
              (with_reducible refine wl_k ?_ ?_); exact rfl; intro K hK; go_simp; refine hK _ ?_; clear hK K
              go_upto_region 29 with (fail)
              apply wp_region_lit
              (with_reducible refine wl_k ?_ ?_); exact rfl; intro K hK; go_simp; refine hK _ ?_; clear hK K
              (with_reducible refine wl_k ?_ ?_); exact rfl; intro K hK; go_simp; refine hK _ ?_; clear hK K
              (with_reducible refine wl_k ?_ ?_); exact rfl; intro K hK; go_simp; refine hK _ ?_; clear hK K
              (with_reducible refine wl_k ?_ ?_); exact rfl; intro K hK; go_simp; refine hK _ ?_; clear hK K
              refine wl_val rfl (ex_build 24 _ rfl (L := [(0, .int .i64 12), (2, .int .i64 (v : Int))]) rfl (built24w (v : Int))) ?_
              simp only [Zq]
              (with_reducible refine wl_ck ?_ ?_); exact rfl; intro K hK; go_simp; refine ⟨_, _, ⟨rfl, rfl⟩, hK _ _ ⟨_, HC.out, ?_⟩⟩; clear hK K; rintro e w9 ⟨row9, rfl, hta9, hb9⟩; refine ⟨_, rfl, ?_⟩; simp only [Zq]
              obtain ⟨k9, s9, n9, A9, l9, cc9, ts9, hu9, rfl, -⟩ := hta9.parts
              have HA9 := Lib.hid (hta9.weak (D' := fun b => w.heap.size ≤ b ∧ b ≠ g) fun b (hb : wv.heap.size ≤ b) => ⟨by have := HWG.out; omega, by omega⟩)
              have HOR9 := Lib.hid (HOR.out.old hb9)
              have hgs := hb9.size
              replace hz := hz.trans (hb9.mono hz.size); clear hb9
              clear hta9 hu9
              (with_reducible refine wl_k ?_ ?_); exact rfl; intro K hK; go_simp; refine hK _ ?_; clear hK K
              obtain ⟨cs, hcs, hle, hor⟩ := HOR9.out.put hlt HX.out HA9.out
              have HOR2 := Lib.hid hor
              refine wl_store4 rfl rfl hcs hle ?_
              rw [put_noneA]
              have hz2 : Below wo.heap.size wo (w9.setRow g (put4 cs v (cell4 k9 s9 n9 A9 l9 cc9))) := below_setRow hz HWL.out _
              have hgl2 : g < (w9.setRow g (put4 cs v (cell4 k9 s9 n9 A9 l9 cc9))).heap.size := by simp; omega
              clear hor hcs hle HOR9 HA9 HC hz hgl hgs HOR
              go_wp2_with fail
              go_roundw
              case rel => exact ⟨v + 1, by omega, by go_num, HOR2, hz2, hgl2⟩
              case measure => simp [intOf]; omega
            · have hltI : ¬ (v : Int) < (m : Int) := by omega
              obtain rfl : v = m := by omega
              apply wp_region_lit
              (with_reducible refine wl_k ?_ ?_); exact rfl; intro K hK; go_simp; refine hK _ ?_; clear hK K
              clear hltI hlt hgl
              go_upto_region 31 with (fail)
              apply wp_region_lit
              (with_reducible refine wl_k ?_ ?_); exact rfl; intro K hK; go_simp; refine hK _ ?_; clear hK K
              (with_reducible refine wl_k ?_ ?_); exact rfl; intro K hK; go_simp; refine hK _ ?_; clear hK K
              (with_reducible refine wl_k ?_ ?_); exact rfl; intro K hK; go_simp; refine hK _ ?_; clear hK K
              go_wp2_with fail
              go_ret2
              exact UPost.yes HO9.out HRE.out (HBW.out.trans (hz.mono HBW.out.size)) (HOR.out.at HGS.out.len (by omega) HWG.out)
end Go.Proofs.YtokmaehefenpmaaDoor
