/- The program's Objects and Buffers: copies. The program's Objects. The law's awake: the chapter's first example holds. What a missing heap returns: Counts, Cycles, Leaks. The law HeapNil: what a missing heap returns. -/
import Derived.Test.YtpamocglecangaaPB11
import Derived.Test.YtpamocglecangaaPB21
import Derived.Test.YtpamocglecangaaPB4
import Derived.Test.YtpamocglecangaaPB6
import Derived.Test.YtpamocglecangaaPB14
namespace Go.Proofs.Ytpamocglecangaa
open Go.RowKit Go.Proofs.Ytpamocglecangaa.Nm
set_option linter.unusedSimpArgs false
theorem run_copyN {P : Program} (w : World) (dT sT ty elem : TypeId) (g dCap sz n : Nat) (a : Addr) (sCap : Nat) (cur : Array Value) (t : TypeId) (cs : List Value)
    (hu : P.underlying dT = some (.slice elem)) (hs : (P.info? elem).map (·.size) = some sz)
    (hg : w.heap[g]? = some (.cells cur t (0, 0))) (hn : cs.length = n * sz)
    (hsrc : ∀ j v, cs[j]? = some v → w.cell? (a.add j) = some v) (hfit : cs.length ≤ cur.size) (h1 : ∀ v ∈ cs, v.oneCell' = true) :
    (Builtin.copy_ #[dT, sT] ty #[.slice (some ⟨g, 0, none⟩) n dCap, .slice (some a) n sCap]).run P w =
      .ok (goInt n) (w.setRow g (cs ++ cur.toList.drop cs.length).toArray) := by
  have hl := run_loadCells_list (P := P) w a cs hsrc
  have hst := run_storeCells_at (P := P) g 0 t cs 0 cur w hg (by simpa using hfit) h1
  cases hq : P.info? elem with
  | none => simp [hq] at hs
  | some i =>
    have hi : i.size = sz := by simpa [hq] using hs
    rw [hn] at hl
    simp only [Nat.zero_add, List.take_zero, List.nil_append] at hst
    simp [Builtin.copy_, run_underlying hu, Builtin.lenOf, Builtin.firstCells, sizeOf, typeInfo, hq, hi, hl, hst]
set_option maxRecDepth 20000 in
/-- A copy of all rows into a block of as many. -/
theorem run_copyL {w : World} {dT ty : TypeId} {sz by0 : Nat} {z : Array Value} (he : Elt dT ty sz by0 z) (oty : TypeId) {q cc n : Nat} {old rows : List (Array Value)} {A : Option Addr} {c : Nat} (hd : OwnL w ty sz (some ⟨q, 0, none⟩) cc old) (hol : old.length = n) (hcc : cc = n) (hr : OwnL w ty sz A c rows) (hrl : rows.length = n) (h1 : ∀ r, r ∈ rows → r.all (·.oneCell') = true) (hq : q < w.heap.size) :
    ∃ w', (Builtin.copy_ #[dT, dT] oty #[.slice (some ⟨q, 0, none⟩) n cc, .slice A n c]).run Try.prog w = .ok (goInt n) w' ∧ OwnL w' ty sz (some ⟨q, 0, none⟩) cc rows ∧ Keep (fun b => b = q) w w' := by
  obtain ⟨hu, h0, hz, i0, z0, hi, hz0, hz1, hz2, hzl⟩ := he
  rcases hr.el with ⟨rfl, rfl, rfl⟩ | ⟨g, cur, rfl, hg, hcs, hx⟩
  · have hn0 : n = 0 := by simpa using hrl.symm
    subst hn0
    refine ⟨w, run_copy_nil (P := Try.prog) w dT dT oty ty ⟨q, 0, none⟩ 0 cc hu (by rw [hi]; rfl), ?_, Keep.refl _ _⟩
    have : old = [] := List.length_eq_zero_iff.1 hol
    rw [this] at hd; exact hd
  · have hfl := hr.owns
    have hlen : (rows.flatMap (·.toList)).length = n * sz := by rw [flatn_len hr.size, hrl]
    have hex : ∃ cd, w.heap[q]? = some (.cells cd ty (0, 0)) ∧ cd.size = cc * sz := by
      rcases hd.el with ⟨e, -⟩ | ⟨g', cd, e, hg', hs', -⟩
      · cases e
      · cases e; exact ⟨cd, hg', hs'⟩
    obtain ⟨cd, hgd, hcd⟩ := hex
    have hcopy := run_copyN (P := Try.prog) w dT dT oty ty q cc sz n ⟨g, 0, none⟩ c cd ty (rows.flatMap (·.toList)) hu (by rw [hi]; simp [hz1]) hgd hlen (fun j u hj => by
      obtain ⟨-, ⟨e, -⟩ | ⟨g', cap, cur', e, -, hg', -, -, -, htk⟩⟩ := hfl
      · cases e
      · cases e
        rw [show (Addr.add ⟨g, 0, none⟩ j) = ⟨g, j, none⟩ by rw [Addr.add_mid]; simp, cell_of_row _ _ _ _ _ _ hg']
        rw [← htk, List.getElem?_take] at hj
        split at hj
        · simpa using hj
        · cases hj) (by rw [hlen, hcd, hcc]; exact Nat.le_refl _) (fun u hu => by
      obtain ⟨r, hr2, hu2⟩ := List.mem_flatMap.1 hu
      exact one_list (h1 r hr2) u hu2)
    have hdrop : cd.toList.drop (rows.flatMap (·.toList)).length = [] := List.drop_of_length_le (by rw [hlen, Array.length_toList, hcd, hcc]; exact Nat.le_refl _)
    rw [hdrop, List.append_nil] at hcopy
    refine ⟨_, hcopy, ⟨hr.size, by omega, hd.max, .inr ⟨q, _, rfl, hr_new hgd, by simp [hlen, hcc], fun i r hri => ?_⟩⟩, Keep.rowOne w q _⟩
    have h7 := flatn_get hr.size i r hri
    apply Array.ext'
    rw [Array.toList_extract, List.extract_eq_take_drop, ← h7, show i * sz + sz - i * sz = sz by omega]
theorem wl_copyL {ops : Array Oper} {rest : List Oper} {o : Oper} {a : Act} {w : World} {Q : Exit → Act → World → Prop} {dT ty : TypeId} {sz by0 : Nat} {z : Array Value} (he : Elt dT ty sz by0 z) (hg : o.guard = none) (s x : Operand) (ho : o.op = .call { callee := .builtin .copy, args := #[s, x], argTypes := #[dT, dT] }) {q cc n : Nat} {old rows : List (Array Value)} {A : Option Addr} {c : Nat}
    (hs : a.eval s = .slice (some ⟨q, 0, none⟩) n cc) (hx : a.eval x = .slice A n c) (hd : OwnL w ty sz (some ⟨q, 0, none⟩) cc old) (hol : old.length = n) (hcc : cc = n) (hr : OwnL w ty sz A c rows) (hrl : rows.length = n) (h1 : ∀ r, r ∈ rows → r.all (·.oneCell') = true) (hq : q < w.heap.size)
    (hK : ∀ w', OwnL w' ty sz (some ⟨q, 0, none⟩) cc rows → Keep (fun b => b = q) w w' → wpList Try.prog ops Q rest (a.put o.dst (goInt n)) w') : wpList Try.prog ops Q (o :: rest) a w := by
  obtain ⟨w', hrun, h3, h4⟩ := run_copyL he o.type hd hol hcc hr hrl h1 hq
  refine wl_w hg ?_ (hK w' h3 h4)
  unfold execOp
  simp only [ho, resolve, invoke, builtin, Sem.run_bind, Sem.run_pure, Result.andThen_ok, List.map_toArray, List.map_cons, List.map_nil, hs, hx, hrun]
end Go.Proofs.Ytpamocglecangaa
namespace Go.Proofs.Ytpamocglecangaa
open Go.RowKit Go.Proofs.Ytpamocglecangaa.Nm
set_option linter.unusedSimpArgs false
/-- A copy of an object, with fields of its own. -/
def FinO (w w' : World) (G : Gh) (q : Nat) (o : Ob) (row : Array Value) : Prop := ∃ tr fA fc frows, row = cell8 tr o.state o.count o.weak fA o.fields.length fc ∧ TyAt w' (Lw w (Imm G)) o.t tr ∧ OwnL w' 35 9 fA fc frows ∧ frows.length = o.fields.length ∧ (∀ g, fA = some ⟨g, 0, none⟩ → q < g) ∧ ∀ (j : Nat) (v : Va) (r : Array Value), o.fields[j]? = some v → frows[j]? = some r → VAt w' (Lw w (Imm G)) v r
theorem FinO.keep {w w1 w2 : World} {G : Gh} {q : Nat} {o : Ob} {row : Array Value} (h : FinO w w1 G q o row) (hq : w.heap.size ≤ q) (hk : Keep (fun b => b = q) w1 w2) : FinO w w2 G q o row := by
  obtain ⟨tr, fA, fc, frows, h1, h2, h3, h4, h5, h6⟩ := h
  have hC : ∀ b, Lw w (Imm G) b → ¬ b = q := fun b hb e => by have := hb.2; omega
  exact ⟨tr, fA, fc, frows, h1, h2.keep hk hC, h3.keep hk (fun g e hg => by have := h5 g e; omega), h4, h5, fun j v r e1 e2 => (h6 j v r e1 e2).keep hk hC⟩
theorem FinO.old {w w1 w2 : World} {G : Gh} {q : Nat} {o : Ob} {row : Array Value} (h : FinO w w1 G q o row) (hb : Below w1.heap.size w1 w2) : FinO w w2 G q o row := by
  obtain ⟨tr, fA, fc, frows, h1, h2, h3, h4, h5, h6⟩ := h
  exact ⟨tr, fA, fc, frows, h1, h2.old hb, h3.old hb, h4, h5, fun j v r e1 e2 => (h6 j v r e1 e2).old hb⟩
def ObsOut (w : World) (G : Gh) (obs : List Ob) (e : Ending) (w' : World) : Prop := ∃ q c rows, e = .returned (.slice (some ⟨q, 0, none⟩) obs.length c) ∧ OwnL w' 41 8 (some ⟨q, 0, none⟩) c rows ∧ rows.length = obs.length ∧ w.heap.size ≤ q ∧ (∀ (i : Nat) (o : Ob) (row : Array Value), obs[i]? = some o → rows[i]? = some row → FinO w w' G q o row) ∧ Below w.heap.size w w'
set_option maxHeartbeats 8000000 in
set_option maxRecDepth 100000 in
theorem Objects_any {G : Gh} {k p : Nat} {h : Hp} {w : World} (hh : HeapAt w G k p h) (hno : h.obs.length ≤ 1000000) (hfl : ∀ o, o ∈ h.obs → o.fields.length ≤ 2000000) : Calls Try.prog 13 #[.pointer (some ⟨p, 0, none⟩)] w (ObsOut w G h.obs) := by
  obtain ⟨oA, oc, bA, bc, m, lA, lc, hh⟩ := hh
  obtain ⟨rows0, ho0, hl0, hr0, hv0⟩ := hh.obs
  have hone : ∀ r, r ∈ rows0 → r.all (·.oneCell') = true := fun r hr => by
    obtain ⟨j, hj⟩ := List.mem_iff_getElem?.1 hr
    have hjl := (List.getElem?_eq_some_iff.1 hj).1
    obtain ⟨tr, fA, fc, hx⟩ := hv0 j _ r (List.getElem?_eq_getElem (by omega)) hj
    obtain ⟨tk, ts, tn, tA, tl, tc, tt, -, e2, -⟩ := hx.ty.parts
    rw [hx.eq, e2]
    simp [cell8, cell4, Value.oneCell']
  have HO0 := Lib.hid ho0
  have HL0 := Lib.hid hl0
  have HV0 := Lib.hid hv0
  have HON := Lib.hid hone
  have HFL := Lib.hid hfl
  have hp := hh.blk
  obtain ⟨n, hn⟩ : ∃ n, n = h.obs.length := ⟨_, rfl⟩
  rw [← hn] at hp hno
  have HNN := Lib.hid hn
  have hb := Below.refl w.heap.size w
  clear hh ho0 hl0 hr0 hv0 hone hfl hn
  go_enter Try.func13, Try.ntmps13
  go_upto_region 0 with (fail)
  apply wp_region_lit
  (with_reducible refine wl_k ?_ ?_); exact rfl; intro K hK; go_simp; refine hK _ ?_; clear hK K
  go_upto_region 1 with (fail)
  apply wp_region_lit
  (with_reducible refine wl_k ?_ ?_); exact rfl; intro K hK; go_simp; refine hK _ ?_; clear hK K
  (with_reducible refine wl_k ?_ ?_); exact rfl; intro K hK; go_simp; refine hK _ ?_; clear hK K
  go_upto_region 3 with (fail)
  apply wp_region_lit
  (with_reducible refine wl_k ?_ ?_); exact rfl; intro K hK; go_simp; refine hK _ ?_; clear hK K
  (with_reducible refine wl_k ?_ ?_); exact rfl; intro K hK; go_simp; refine hK _ ?_; clear hK K
  (with_reducible refine wl_k ?_ ?_); exact rfl; intro K hK; go_simp; refine hK _ ?_; clear hK K
  ((with_reducible apply wl_oneG); exact rfl; exact rfl; exact h0 hp)
  (with_reducible refine wl_k ?_ ?_); exact rfl; intro K hK; go_simp; refine hK _ ?_; clear hK K
  refine wl_makeL elt38 rfl _ _ rfl (n := n) (c := n) rfl rfl (Nat.le_refl _) (by omega) (by unfold maxLen; omega) ?_
  intro W q hbn hlq hlt hown
  simp only [put_lit, List.set_cons_zero, List.set_cons_succ]
  have HOW := Lib.hid hown
  replace hp := below_look hbn hp
  have hb1 := hb.trans (hbn.mono hb.size)
  clear hbn hown hb
  (with_reducible refine wl_k ?_ ?_); exact rfl; intro K hK; go_simp; refine hK _ ?_; clear hK K
  go_upto_region 4 with (fail)
  apply wp_region_lit
  (with_reducible refine wl_k ?_ ?_); exact rfl; intro K hK; go_simp; refine hK _ ?_; clear hK K
  (with_reducible refine wl_k ?_ ?_); exact rfl; intro K hK; go_simp; refine hK _ ?_; clear hK K
  (with_reducible refine wl_k ?_ ?_); exact rfl; intro K hK; go_simp; refine hK _ ?_; clear hK K
  (with_reducible refine wl_k ?_ ?_); exact rfl; intro K hK; go_simp; refine hK _ ?_; clear hK K
  ((with_reducible apply wl_oneG); exact rfl; exact rfl; exact h0 hp)
  refine wl_copyL elt38 rfl _ _ rfl rfl rfl HOW.out (by simp) rfl (HO0.out.old hb1) (by rw [HL0.out, HNN.out]) HON.out hlt ?_
  intro W2 hown2 hk2
  try simp only [put_lit, List.set_cons_zero, List.set_cons_succ]
  have HO2 := Lib.hid hown2
  have hb := Below.keep hb1 hk2 (fun b e => by omega)
  have hq2 : q < W2.heap.size := by have := hk2.size; omega
  have HB2 := Lib.hid hb
  have H0 : Hid (∀ (i : Nat) (o : Ob) (row : Array Value), h.obs[i]? = some o → rows0[i]? = some row → (i < 0 → FinO w W2 G q o row) ∧ (0 ≤ i → rows0[i]? = some row)) := Lib.hid (fun i o row h1 h2 => ⟨fun h => absurd h (by omega), fun _ => h2⟩)
  have HRL : Hid (rows0.length = n) := Lib.hid (by rw [HL0.out, HNN.out])
  clear HOW hp hb1 hown2 hk2 hlt hb
  go_upto_region 5 with (fail)
  apply wp_region_lit
  (with_reducible refine wl_k ?_ ?_); exact rfl; intro K hK; go_simp; refine hK _ ?_; clear hK K
  (with_reducible refine wl_k ?_ ?_); exact rfl; intro K hK; go_simp; refine hK _ ?_; clear hK K
  (with_reducible refine wl_k ?_ ?_); exact rfl; intro K hK; go_simp; refine hK _ ?_; clear hK K
  go_wp2_with fail
  go_loopw [21] (fun i wr => ∃ (j : Nat) (rows : List (Array Value)), j ≤ n ∧ i = .int .i64 (j : Int) ∧ Hid (OwnL wr 41 8 (some ⟨q, 0, none⟩) n rows) ∧ Hid (rows.length = n) ∧ Hid (∀ (i : Nat) (o : Ob) (row : Array Value), h.obs[i]? = some o → rows[i]? = some row → (i < j → FinO w wr G q o row) ∧ (j ≤ i → rows0[i]? = some row)) ∧ Hid (Below w.heap.size w wr) ∧ q < wr.heap.size) (fun i _ => n - (intOf i).toNat)
  case atStart => exact ⟨0, rows0, by omega, rfl, HO2, HRL, H0, HB2, hq2⟩
  case round =>
    clear HO2 HRL H0 HB2 hq2
    obtain ⟨j, rows, hj, rfl, HO, HRL, HF, HB, hq⟩ := hrel
    go_upto_region 6 with (fail)
    by_cases hlt : j < n
    · have hltI : (j : Int) < (n : Int) := by omega
      have hojl : j < h.obs.length := by rw [← HNN.out]; exact hlt
      have ho := List.getElem?_eq_getElem hojl
      obtain ⟨o, hoe⟩ : ∃ o, o = h.obs[j] := ⟨_, rfl⟩
      rw [← hoe] at ho
      have hr1 : rows[j]? = some (rows[j]'(by rw [HRL.out]; exact hlt)) := List.getElem?_eq_getElem _
      obtain ⟨row, hrow⟩ : ∃ row, row = rows[j]'(by rw [HRL.out]; exact hlt) := ⟨_, rfl⟩
      rw [← hrow] at hr1
      have hr0 := (HF.out j o row ho hr1).2 (Nat.le_refl _)
      obtain ⟨tr, fA, fc, hx⟩ := HV0.out j o row ho hr0
      obtain ⟨frows, hfo, hfl, hfr, hfv⟩ := hx.fld
      have h8 := cell8_at hx.size o.state o.count o.weak fA o.fields.length fc
      rw [← hx.eq] at h8
      have HLD := Lib.hid (one_of Go.Proofs.Ytpamocglecangaa.u33 rfl (HO.out.cell hr1 h8.2.2.2.2))
      have hcc := CloneR_any (hfo.old HB.out) (fun r hr => by
        obtain ⟨i, hi⟩ := List.mem_iff_getElem?.1 hr
        have hil := (List.getElem?_eq_some_iff.1 hi).1
        exact (hfv i _ r (List.getElem?_eq_getElem (by omega)) hi).one) (by have := HFL.out o (List.mem_of_getElem? ho); omega)
      rw [hfl] at hcc
      have HC := Lib.hid hcc
      have HOO := Lib.hid ho
      have HR1 := Lib.hid hr1
      have HXX := Lib.hid hx
      have HFV := Lib.hid hfv
      have HFLN := Lib.hid hfl
      clear hoe hrow hr0 hx hfo hfl hfr hfv h8 hcc ho hr1 hojl
      apply wp_region_lit
      (with_reducible refine wl_k ?_ ?_); exact rfl; intro K hK; go_simp; refine hK _ ?_; clear hK K
      go_upto_region 7 with (fail)
      apply wp_region_lit
      (with_reducible refine wl_k ?_ ?_); exact rfl; intro K hK; go_simp; refine hK _ ?_; clear hK K
      (with_reducible refine wl_k ?_ ?_); exact rfl; intro K hK; go_simp; refine hK _ ?_; clear hK K
      go_upto_region 8 with (fail)
      apply wp_region_lit
      (with_reducible refine wl_k ?_ ?_); exact rfl; intro K hK; go_simp; refine hK _ ?_; clear hK K
      (with_reducible refine wl_k ?_ ?_); exact rfl; intro K hK; go_simp; refine hK _ ?_; clear hK K
      (with_reducible refine wl_k ?_ ?_); exact rfl; intro K hK; go_simp; refine hK _ ?_; clear hK K
      (with_reducible refine wl_k ?_ ?_); exact rfl; intro K hK; go_simp; refine hK _ ?_; clear hK K
      (with_reducible refine wl_k ?_ ?_); exact rfl; intro K hK; go_simp; refine hK _ ?_; clear hK K
      (with_reducible refine wl_k ?_ ?_); exact rfl; intro K hK; go_simp; refine hK _ ?_; clear hK K
      ((with_reducible apply wl_oneG); exact rfl; exact rfl; exact HLD.out)
      (with_reducible refine wl_ck ?_ ?_); exact rfl; intro K hK; go_simp; refine ⟨_, _, ⟨rfl, rfl⟩, hK _ _ ⟨_, HC.out, ?_⟩⟩; clear hK K; rintro e w7 ⟨A7, c7, rfl, hown7, hA7, hb7⟩; refine ⟨_, rfl, ?_⟩; simp only [put_lit, List.set_cons_zero, List.set_cons_succ]
      rw [HFLN.out]
      try simp only [put_lit, List.set_cons_zero, List.set_cons_succ]
      (with_reducible refine wl_k ?_ ?_); exact rfl; intro K hK; go_simp; refine hK _ ?_; clear hK K
      (with_reducible refine wl_k ?_ ?_); exact rfl; intro K hK; go_simp; refine hK _ ?_; clear hK K
      have hown8 := HO.out.old hb7
      obtain ⟨hs1, hs2⟩ := hown8.lies (j := 7) HR1.out (by omega)
      have hown9 := hown8.set (j := 7) HR1.out (by omega) (.slice A7 o.fields.length c7)
      have hk9 := Keep.cellOne w7 q (j * 8 + 7) (.slice A7 o.fields.length c7)
      have hA7q : ∀ g, A7 = some ⟨g, 0, none⟩ → q < g := fun g e => by have := hA7 g e; omega
      have hwq : w.heap.size ≤ q := by have := HB.out.size; omega
      have HF9 : Hid (∀ (i : Nat) (o' : Ob) (row' : Array Value), h.obs[i]? = some o' → (rows.set j (row.setIfInBounds 7 (.slice A7 o.fields.length c7)))[i]? = some row' → (i < j + 1 → FinO w (w7.setCell ⟨q, j * 8 + 7, none⟩ (.slice A7 o.fields.length c7)) G q o' row') ∧ (j + 1 ≤ i → rows0[i]? = some row')) := Lib.hid (fun i o' row' e1 e2 => by
        by_cases e : j = i
        · subst e
          rw [HOO.out] at e1
          cases e1
          rw [List.getElem?_set_self (by rw [HRL.out]; exact hlt)] at e2
          cases e2
          refine ⟨fun _ => ?_, fun h => absurd h (by omega)⟩
          have hb77 := HB.out.trans (hb7.mono HB.out.size)
          have hC : ∀ b, Lw w (Imm G) b → ¬ b = q := fun b hb e => by have := hb.2; omega
          exact ⟨tr, A7, c7, frows, by rw [HXX.out.eq]; exact (cell8_set HXX.out.size _ _ _ _ _ _ 0 _ _ _).2.2.2, ((HXX.out.ty.low : TyAt w (Lw w (Imm G)) o.t tr).old hb77).keep hk9 hC, hown7.keep hk9 (fun g e hg => by have := hA7q g e; omega), HFLN.out, hA7q, fun j v r e1 e2 => (((HFV.out j v r e1 e2).low : VAt w (Lw w (Imm G)) v r).old hb77).keep hk9 hC⟩
        · rw [List.getElem?_set_ne e] at e2
          obtain ⟨f1, f2⟩ := HF.out i o' row' e1 e2
          exact ⟨fun h => ((f1 (by omega)).old hb7).keep hwq hk9, fun h => f2 (by omega)⟩)
      have HO9 := Lib.hid hown9
      have HB9 := Lib.hid (Below.keep (HB.out.trans (hb7.mono HB.out.size)) hk9 (fun b e => by omega))
      have HRL9 : Hid ((rows.set j (row.setIfInBounds 7 (.slice A7 o.fields.length c7))).length = n) := Lib.hid (by rw [List.length_set]; exact HRL.out)
      have hq9 : q < (w7.setCell ⟨q, j * 8 + 7, none⟩ (.slice A7 o.fields.length c7)).heap.size := by have := hb7.size; have := hk9.size; omega
      clear hown8 hown9 hk9 hA7q hown7 hA7 HF HO HB HC HLD HXX HFV HOO HR1 hb7
      refine wl_storeC rfl 33 _ _ rfl q (j * 8 + 7) (.slice A7 o.fields.length c7) rfl rfl info33 rfl hs1 hs2 ?_
      rw [put_noneA]
      clear hs1 hs2
      obtain ⟨W9, hW⟩ : ∃ W, W = w7.setCell ⟨q, j * 8 + 7, none⟩ (.slice A7 o.fields.length c7) := ⟨_, rfl⟩
      rw [← hW] at HF9 HO9 HB9 hq9 ⊢
      clear hW
      go_wp2_with fail
      go_roundw
      case rel => exact ⟨j + 1, _, by omega, by go_num, HO9, HRL9, HF9, HB9, hq9⟩
      case measure => simp [intOf]; omega
    · have hltI : ¬ (j : Int) < (n : Int) := by omega
      apply wp_region_lit
      (with_reducible refine wl_k ?_ ?_); exact rfl; intro K hK; go_simp; refine hK _ ?_; clear hK K
      go_upto_region 10 with (fail)
      apply wp_region_lit
      (with_reducible refine wl_k ?_ ?_); exact rfl; intro K hK; go_simp; refine hK _ ?_; clear hK K
      (with_reducible refine wl_k ?_ ?_); exact rfl; intro K hK; go_simp; refine hK _ ?_; clear hK K
      go_wp2_with fail
      go_ret
      refine ⟨q, n, rows, by rw [← HNN.out]; rfl, HO.out, by rw [HRL.out, HNN.out], by have := HB.out.size; omega, fun i o row e1 e2 => (HF.out i o row e1 e2).1 ?_, HB.out⟩
      have := (List.getElem?_eq_some_iff.1 e1).1
      rw [← HNN.out] at this
      omega
end Go.Proofs.Ytpamocglecangaa
namespace Go.Proofs.Ytpamocglecangaa
open Go.RowKit Go.Proofs.Ytpamocglecangaa.Nm
set_option linter.unusedSimpArgs false
/-- A heap made behind w, and what was done with it, leave what lay in w. -/
theorem Done.below {w w1 w' : World} {G1 G' : Gh} {k p : Nat} {h' : Hp} (hb : Below w.heap.size w w1) (hg : ∀ b, b < w.heap.size → G1 b = none) (d : Done w1 G1 k p h' w' G') : Below w.heap.size w w' :=
  ⟨d.keep.os.trans hb.os, d.keep.tape.trans hb.tape, d.keep.output.trans hb.output, Nat.le_trans hb.size d.keep.size, fun b hlt => (d.keep.block b (by have := hb.size; omega) (by rintro ⟨r, e, -⟩; rw [hg b hlt] at e; cases e)).trans (hb.block b hlt)⟩
theorem ss_nil (w : World) : SsAt w [] none 0 := ⟨rfl, Nat.zero_le _, fun j s h => by simp at h⟩
def tyC : Ty := .node 6 ⟨#[67]⟩ 0 []
theorem tyC_at (w : World) (D : Nat → Prop) : TyAt w D tyC (cell4 6 ⟨#[67]⟩ 0 none 0 0) := TyAt.of (by rfl) (by rfl) (by decide) (TysAt.nil w D)
theorem built32c : Try.prog.built 32 [(0, .int .i64 6), (1, .string ⟨#[67]⟩)] = some (cell4 6 ⟨#[67]⟩ 0 none 0 0) := by kernel_rfl
/-- The example's heaps. -/
def aw1 : Hp := ⟨[], [⟨tyC, 1, 1, 0, []⟩], [], []⟩
def awV : Va := .node 7 0 ⟨#[]⟩ zeroTy [] []
def aw2 : Hp := ⟨[], [⟨tyC, 1, 2, 0, []⟩], [], []⟩
def aw3 : Hp := ⟨[], [⟨tyC, 1, 2, 0, []⟩], [], [[.val awV]]⟩
theorem aw_make : makeP (hp0 []) tyC [] = (aw1, awV) := rfl
theorem aw_copy : copyP aw1 awV = (aw2, awV, 0) := by
  have e1 : ofV aw1.obs.length aw1.bus.length awV = true := by rw [ofV_eq]; rfl
  have e2 : deadV aw1 awV = false := by rw [deadV_eq]; rfl
  unfold copyP
  rw [e1, e2, cntV_eq]
  rfl
theorem aw_end : endP aw2 awV = (aw3, 0) := by
  have e1 : ofV aw2.obs.length aw2.bus.length awV = true := by rw [ofV_eq]; rfl
  have e2 : deadV aw2 awV = false := by rw [deadV_eq]; rfl
  unfold endP
  rw [e1, e2]
  rfl
theorem aw_step : stepV' aw3 [] (.val awV) = ({ aw1 with lev := [[.val awV]] }, [], none) := rfl
theorem aw_next : nextP aw3 = (aw1, va0, false) := by
  have h0 : ∃ m, weight aw3 [.val awV] = m + 1 := ⟨weight aw3 [.val awV] - 1, by
    have := weight_len (h := aw3) (ts := []) (t := .val awV)
    have := wT_pos aw3 (.val awV)
    simp only [List.nil_append] at *
    omega⟩
  obtain ⟨m, hm⟩ := h0
  have h1 : runN (weight aw3 [.val awV]) aw3 [.val awV] = ({ aw1 with lev := [[.val awV]] }, [], none) := by
    rw [hm]
    have := runN_snoc m aw3 [] (.val awV)
    rw [List.nil_append] at this
    rw [this, aw_step]
    exact runN_nil m _
  have h2 : aw3.lev.getLast? = some [.val awV] := rfl
  unfold nextP
  rw [h2]
  simp only [h1]
  rfl
theorem aw_wf : Wf aw3 where
  fld := fun o ho u hu => by
    rcases List.mem_cons.1 ho with e | e
    · rw [e] at hu; cases hu
    · cases e
  elm := fun b hb => by cases hb
  tsk := fun ts hts t ht => by
    rcases List.mem_cons.1 hts with e | e
    · rw [e] at ht
      rw [List.mem_singleton.1 ht]
      exact ⟨fun v e => by cases e; rw [ofV_eq]; rfl, fun o i e => by cases e⟩
    · cases e
theorem aw_wt : ∀ l, aw3.lev.getLast? = some l → weight aw3 l ≤ 700000000000 := fun l hl => by
  have e : l = [.val awV] := by
    have h2 : aw3.lev.getLast? = some [.val awV] := rfl
    rw [h2] at hl; cases hl; rfl
  have h1 : wV awV = 1 := by rw [wV_eq]; rfl
  rw [e]
  unfold weight
  simp [aw3, sumN, wT, wO, h1, wVs]
theorem aw_fl : ∀ o, o ∈ aw3.obs → o.fields.length ≤ 1000000000 := fun o ho => by
  rcases List.mem_cons.1 ho with e | e
  · rw [e]; exact Nat.zero_le _
  · cases e
set_option maxHeartbeats 8000000 in
set_option maxRecDepth 100000 in
theorem awake_any {w : World} : Calls Try.prog 10 #[] w fun e w' => e = .returned (.bool true) ∧ Below w.heap.size w w' := by
  have hzs : zrow.size = 9 := rfl
  have HC := Lib.hid (New_any (w := w) (G := fun _ => none) 0 (fun _ _ => rfl) (c := 0) (ss_nil w))
  go_enter Try.func10, Try.ntmps10
  go_upto_region 0 with (fail)
  apply wp_region_lit
  (with_reducible refine wl_k ?_ ?_); exact rfl; intro K hK; go_simp; refine hK _ ?_; clear hK K
  go_upto_region 1 with (fail)
  apply wp_region_lit
  (with_reducible refine wl_ck ?_ ?_); exact rfl; intro K hK; go_simp; refine ⟨_, _, ⟨rfl, rfl⟩, hK _ _ ⟨_, HC.out, ?_⟩⟩; clear hK K; rintro e w1 ⟨p, G1, rfl, hh, hf, hg1, hg2, hb⟩; refine ⟨_, rfl, ?_⟩; simp only [put_lit, List.set_cons_zero, List.set_cons_succ]
  (with_reducible refine wl_k ?_ ?_); exact rfl; intro K hK; go_simp; refine hK _ ?_; clear hK K
  clear HC
  have HB := Lib.hid hb
  have HG := Lib.hid hg1
  have HDn := Lib.hid (Done.calm hh hf (Below.refl _ w1))
  clear hh hf hg1 hg2 hb
  have hmk := Make_any HDn.out.heap HDn.out.fr (by show 0 ≤ 1000000; omega) (tyC_at w1 (Imm G1)) (VsAt.nil w1 (Imm G1)) (by omega)
  rw [aw_make] at hmk
  have HC := Lib.hid hmk
  clear hmk
  go_upto_region 2 with (fail)
  apply wp_region_lit
  (with_reducible refine wl_k ?_ ?_); exact rfl; intro K hK; go_simp; refine hK _ ?_; clear hK K
  refine wl_w rfl (ex_build 32 _ rfl (by simp only [List.map_cons, List.map_nil]; rfl) built32c) ?_
  simp only [put_lit, List.set_cons_zero, List.set_cons_succ]
  (with_reducible refine wl_ck ?_ ?_); exact rfl; intro K hK; go_simp; refine ⟨_, _, ⟨rfl, rfl⟩, hK _ _ ⟨_, HC.out, ?_⟩⟩; clear hK K; rintro e w2 ⟨G2, row, rfl, hva, hd2⟩; refine ⟨_, rfl, ?_⟩; simp only [put_lit, List.set_cons_zero, List.set_cons_succ]
  clear HC
  have hvs := hva.size
  have hv1 := hva.one
  have hzz := Below.refl w2.heap.size w2
  (with_reducible refine wl_allV ?_); intro W3 q3 hbn hlq3 hq3; replace hzz := hzz.trans (hbn.mono hzz.size); clear hbn; simp only [put_lit, List.set_cons_zero, List.set_cons_succ]
  (with_reducible refine wl_putV hvs hv1 hzs rfl rfl hq3 ?_); rw [put_noneA]; intro W4 hbx hsz hkx hnx
  replace hzz := hbx _ _ (by omega) hzz
  clear hq3
  have hq3 := hnx
  clear hnx hbx hkx hsz
  replace HDn := Lib.hid ((HDn.out.trans hd2).quiet hzz)
  have HV := Lib.hid (hva.old hzz)
  have hqw : q3 < W4.heap.size := heap_lt hq3
  have HQW := Lib.hid hqw
  have HQ3 : Hid (¬ Mine G2 0 q3) := Lib.hid (by rintro ⟨z, e, -⟩; rw [hd2.fr q3 (by omega)] at e; cases e)
  clear hd2 hzz hva hqw hlq3
  have hcp := Copy_any HDn.out.heap HDn.out.fr HV.out
  rw [aw_copy] at hcp
  have HC := Lib.hid hcp
  clear hcp
  go_upto_region 3 with (fail)
  apply wp_region_lit
  (with_reducible refine wl_k ?_ ?_); exact rfl; intro K hK; go_simp; refine hK _ ?_; clear hK K
  ((with_reducible apply wl_rowG); exact rfl; exact rfl; exact row35 hq3 hvs)
  (with_reducible refine wl_ck ?_ ?_); exact rfl; intro K hK; go_simp; refine ⟨_, _, ⟨rfl, rfl⟩, hK _ _ ⟨_, HC.out, ?_⟩⟩; clear hK K; rintro e w5 ⟨G3, row3, rfl, hva3, hd3⟩; refine ⟨_, rfl, ?_⟩; simp only [put_lit, List.set_cons_zero, List.set_cons_succ]
  clear HC
  replace HV := Lib.hid (hd3.va HV.out)
  replace hq3 := hd3.look hq3 HQ3.out
  have hvs3 := hva3.size
  have hv13 := hva3.one
  have hql3 := heap_lt hq3
  (with_reducible refine wl_k ?_ ?_); exact rfl; intro K hK; go_simp; refine hK _ ?_; clear hK K
  (with_reducible refine wl_k ?_ ?_); exact rfl; intro K hK; go_simp; refine hK _ ?_; clear hK K
  (with_reducible refine wl_k ?_ ?_); exact rfl; intro K hK; go_simp; refine hK _ ?_; clear hK K
  have hzz := Below.refl w5.heap.size w5
  (with_reducible refine wl_allV ?_); intro W6 q6 hbn hlq6 hq6; replace hzz := hzz.trans (hbn.mono hzz.size); clear hbn; simp only [put_lit, List.set_cons_zero, List.set_cons_succ]
  (with_reducible refine wl_putV hvs3 hv13 hzs rfl rfl hq6 ?_); rw [put_noneA]; intro W7 hbx hsz hkx hnx
  replace hzz := hbx _ _ (by omega) hzz
  clear hq6 hnx hbx hkx hsz hlq6
  have HQ4 : Hid (¬ Mine G3 0 q3) := Lib.hid (by
    rintro ⟨z, e, h5⟩
    rw [hd3.old q3 HQW.out] at e
    exact HQ3.out ⟨z, e, h5⟩)
  replace HDn := Lib.hid ((HDn.out.trans hd3).quiet hzz)
  replace HV := Lib.hid (HV.out.old hzz)
  replace hq3 := below_look hzz hq3
  clear hd3 hzz hql3 hva3
  (with_reducible refine wl_k ?_ ?_); exact rfl; intro K hK; go_simp; refine hK _ ?_; clear hK K
  have hen := End_any HDn.out.heap HDn.out.fr (by show 0 ≤ 1000000; omega) HV.out
  rw [aw_end] at hen
  have HC := Lib.hid hen
  clear hen
  go_upto_region 4 with (fail)
  apply wp_region_lit
  (with_reducible refine wl_k ?_ ?_); exact rfl; intro K hK; go_simp; refine hK _ ?_; clear hK K
  ((with_reducible apply wl_rowG); exact rfl; exact rfl; exact row35 hq3 hvs)
  (with_reducible refine wl_ck ?_ ?_); exact rfl; intro K hK; go_simp; refine ⟨_, _, ⟨rfl, rfl⟩, hK _ _ ⟨_, HC.out, ?_⟩⟩; clear hK K; rintro e w8 ⟨G4, rfl, hd4⟩; refine ⟨_, rfl, ?_⟩; simp only [put_lit, List.set_cons_zero, List.set_cons_succ]
  clear HC
  replace HDn := Lib.hid (HDn.out.trans hd4)
  clear hd4 HV hq3 HQ4 HQ3 HQW
  (with_reducible refine wl_k ?_ ?_); exact rfl; intro K hK; go_simp; refine hK _ ?_; clear hK K
  have hnx := Next_any HDn.out.heap HDn.out.fr aw_wf aw_wt aw_fl
  rw [aw_next] at hnx
  have HC := Lib.hid hnx
  clear hnx
  go_upto_region 5 with (fail)
  apply wp_region_lit
  (with_reducible refine wl_k ?_ ?_); exact rfl; intro K hK; go_simp; refine hK _ ?_; clear hK K
  (with_reducible refine wl_ck ?_ ?_); exact rfl; intro K hK; go_simp; refine ⟨_, _, ⟨rfl, rfl⟩, hK _ _ ⟨_, HC.out, ?_⟩⟩; clear hK K; rintro e w9 ⟨G5, row5, rfl, hva5, hd5⟩; refine ⟨_, rfl, ?_⟩; simp only [put_lit, List.set_cons_zero, List.set_cons_succ]
  clear HC
  have hvs5 := hva5.size
  have hv15 := hva5.one
  (with_reducible refine wl_k ?_ ?_); exact rfl; intro K hK; go_simp; refine hK _ ?_; clear hK K
  (with_reducible refine wl_k ?_ ?_); exact rfl; intro K hK; go_simp; refine hK _ ?_; clear hK K
  (with_reducible refine wl_k ?_ ?_); exact rfl; intro K hK; go_simp; refine hK _ ?_; clear hK K
  have hzz := Below.refl w9.heap.size w9
  (with_reducible refine wl_allV ?_); intro W10 q10 hbn hlq10 hq10; replace hzz := hzz.trans (hbn.mono hzz.size); clear hbn; simp only [put_lit, List.set_cons_zero, List.set_cons_succ]
  (with_reducible refine wl_putV hvs5 hv15 hzs rfl rfl hq10 ?_); rw [put_noneA]; intro W11 hbx hsz hkx hnx
  replace hzz := hbx _ _ (by omega) hzz
  clear hq10 hnx hbx hkx hsz hlq10
  replace HDn := Lib.hid ((HDn.out.trans hd5).quiet hzz)
  clear hd5 hzz hva5
  (with_reducible refine wl_k ?_ ?_); exact rfl; intro K hK; go_simp; refine hK _ ?_; clear hK K
  have HC := Lib.hid (Objects_any HDn.out.heap (by show 1 ≤ 1000000; omega) (fun o ho => by
    rcases List.mem_cons.1 ho with e | e
    · rw [e]; exact Nat.zero_le _
    · cases e))
  go_upto_region 6 with (fail)
  apply wp_region_lit
  (with_reducible refine wl_k ?_ ?_); exact rfl; intro K hK; go_simp; refine hK _ ?_; clear hK K
  (with_reducible refine wl_ck ?_ ?_); exact rfl; intro K hK; go_simp; refine ⟨_, _, ⟨rfl, rfl⟩, hK _ _ ⟨_, HC.out, ?_⟩⟩; clear hK K; rintro e w12 ⟨q6, c6, rows6, rfl, ho6, hl6, hq6, hf6, hb6⟩; refine ⟨_, rfl, ?_⟩; simp only [put_lit, List.set_cons_zero, List.set_cons_succ]
  clear HC
  have hr0 : ∃ r0, rows6[0]? = some r0 := ⟨_, List.getElem?_eq_getElem (by rw [hl6]; exact Nat.zero_lt_one)⟩
  obtain ⟨r0, hr0⟩ := hr0
  obtain ⟨tr, fA, fc, frows, er, htr, -⟩ := hf6 0 _ r0 rfl hr0
  have hc8 := cell8_at htr.size 1 1 0 fA 0 fc
  have e4 : OneAt w12 3 ⟨q6, 4, none⟩ (.int .i64 1) := by
    have := ho6.cell hr0 (j := 4) (by rw [er]; exact hc8.2.1)
    exact one_of u3 rfl (by simpa using this)
  have e5 : OneAt w12 3 ⟨q6, 5, none⟩ (.int .i64 1) := by
    have := ho6.cell hr0 (j := 5) (by rw [er]; exact hc8.2.2.1)
    exact one_of u3 rfl (by simpa using this)
  replace HDn := Lib.hid (HDn.out.quiet hb6)
  clear ho6 hl6 hf6 hb6 hr0 er htr hc8
  (with_reducible refine wl_k ?_ ?_); exact rfl; intro K hK; go_simp; refine hK _ ?_; clear hK K
  go_upto_region 7 with (fail)
  have hl1 : aw1.obs.length = 1 := rfl
  rw [hl1]
  apply wp_region_lit
  (with_reducible refine wl_k ?_ ?_); exact rfl; intro K hK; go_simp; refine hK _ ?_; clear hK K
  (with_reducible refine wl_k ?_ ?_); exact rfl; intro K hK; go_simp; refine hK _ ?_; clear hK K
  (with_reducible refine wl_k ?_ ?_); exact rfl; intro K hK; go_simp; refine hK _ ?_; clear hK K
  (with_reducible refine wl_k ?_ ?_); exact rfl; intro K hK; go_simp; refine hK _ ?_; clear hK K
  (with_reducible refine wl_k ?_ ?_); exact rfl; intro K hK; go_simp; refine hK _ ?_; clear hK K
  (with_reducible refine wl_k ?_ ?_); exact rfl; intro K hK; go_simp; refine hK _ ?_; clear hK K
  (with_reducible refine wl_k ?_ ?_); exact rfl; intro K hK; go_simp; refine hK _ ?_; clear hK K
  (with_reducible refine wl_k ?_ ?_); exact rfl; intro K hK; go_simp; refine hK _ ?_; clear hK K
  (with_reducible refine wl_k ?_ ?_); exact rfl; intro K hK; go_simp; refine hK _ ?_; clear hK K
  (with_reducible refine wl_k ?_ ?_); exact rfl; intro K hK; go_simp; refine hK _ ?_; clear hK K
  (with_reducible refine wl_k ?_ ?_); exact rfl; intro K hK; go_simp; refine hK _ ?_; clear hK K
  (with_reducible refine wl_k ?_ ?_); exact rfl; intro K hK; go_simp; refine hK _ ?_; clear hK K
  (with_reducible refine wl_k ?_ ?_); exact rfl; intro K hK; go_simp; refine hK _ ?_; clear hK K
  (with_reducible refine wl_k ?_ ?_); exact rfl; intro K hK; go_simp; refine hK _ ?_; clear hK K
  (with_reducible refine wl_k ?_ ?_); exact rfl; intro K hK; go_simp; refine hK _ ?_; clear hK K
  (with_reducible refine wl_k ?_ ?_); exact rfl; intro K hK; go_simp; refine hK _ ?_; clear hK K
  (with_reducible refine wl_k ?_ ?_); exact rfl; intro K hK; go_simp; refine hK _ ?_; clear hK K
  (with_reducible refine wl_k ?_ ?_); exact rfl; intro K hK; go_simp; refine hK _ ?_; clear hK K
  (with_reducible refine wl_k ?_ ?_); exact rfl; intro K hK; go_simp; refine hK _ ?_; clear hK K
  ((with_reducible apply wl_oneG); exact rfl; exact rfl; exact e5)
  (with_reducible refine wl_k ?_ ?_); exact rfl; intro K hK; go_simp; refine hK _ ?_; clear hK K
  (with_reducible refine wl_k ?_ ?_); exact rfl; intro K hK; go_simp; refine hK _ ?_; clear hK K
  (with_reducible refine wl_k ?_ ?_); exact rfl; intro K hK; go_simp; refine hK _ ?_; clear hK K
  (with_reducible refine wl_k ?_ ?_); exact rfl; intro K hK; go_simp; refine hK _ ?_; clear hK K
  (with_reducible refine wl_k ?_ ?_); exact rfl; intro K hK; go_simp; refine hK _ ?_; clear hK K
  (with_reducible refine wl_k ?_ ?_); exact rfl; intro K hK; go_simp; refine hK _ ?_; clear hK K
  ((with_reducible apply wl_oneG); exact rfl; exact rfl; exact e4)
  (with_reducible refine wl_k ?_ ?_); exact rfl; intro K hK; go_simp; refine hK _ ?_; clear hK K
  (with_reducible refine wl_k ?_ ?_); exact rfl; intro K hK; go_simp; refine hK _ ?_; clear hK K
  (with_reducible refine wl_k ?_ ?_); exact rfl; intro K hK; go_simp; refine hK _ ?_; clear hK K
  go_wp2_with fail
  go_ret
  exact ⟨rfl, Done.below HB.out HG.out HDn.out⟩
end Go.Proofs.Ytpamocglecangaa
namespace Go.Proofs.Ytpamocglecangaa
open Go.RowKit Go.Proofs.Ytpamocglecangaa.Nm
set_option linter.unusedSimpArgs false
theorem u28 : Try.prog.underlying 28 = some (.slice 3) := by kernel_rfl
end Go.Proofs.Ytpamocglecangaa
namespace Go.Proofs.Ytpamocglecangaa
open Go.RowKit Go.Proofs.Ytpamocglecangaa.Nm
set_option linter.unusedSimpArgs false
section
variable {w w' : World} {D : Nat → Prop} {q : Cl} {row rv rx tr : Array Value} {A : Option Addr} {l c p : Nat} {t : TypeId} {fr : Nat × Nat}
theorem cl_v (hp : w.heap[p]? = some (.cells row t fr)) (h : Hid (ClAt w' D q row rv rx tr A l c)) : RowAt w 35 ⟨p, 3, none⟩ rv := row_mid (n := 9) hp h.out.cells.2.2.2.1 u35 rfl h.out.v.size info35
theorem cl_x (hp : w.heap[p]? = some (.cells row t fr)) (h : Hid (ClAt w' D q row rv rx tr A l c)) : RowAt w 35 ⟨p, 12, none⟩ rx := row_mid (n := 9) hp h.out.cells.2.2.2.2.1 u35 rfl h.out.x.size info35
theorem cl_t (hp : w.heap[p]? = some (.cells row t fr)) (h : Hid (ClAt w' D q row rv rx tr A l c)) : RowAt w 32 ⟨p, 21, none⟩ tr := row_mid (n := 4) hp h.out.cells.2.2.2.2.2.1 u24 rfl h.out.t.size info24
theorem cl_l (hp : w.heap[p]? = some (.cells row t fr)) (h : Hid (ClAt w' D q row rv rx tr A l c)) : OneAt w 33 ⟨p, 25, none⟩ (.slice A l c) := one_of u33 rfl (by rw [cell_of_row _ _ _ _ _ _ hp]; exact h.out.cells.2.2.2.2.2.2)
theorem cl_k (hp : w.heap[p]? = some (.cells row t fr)) (h : Hid (ClAt w' D q row rv rx tr A l c)) : OneAt w 3 ⟨p, 0, none⟩ (.int .i64 q.k) := one_of u3 rfl (by rw [cell_of_row _ _ _ _ _ _ hp]; exact h.out.cells.1)
theorem cl_a (hp : w.heap[p]? = some (.cells row t fr)) (h : Hid (ClAt w' D q row rv rx tr A l c)) : OneAt w 3 ⟨p, 1, none⟩ (.int .i64 q.a) := one_of u3 rfl (by rw [cell_of_row _ _ _ _ _ _ hp]; exact h.out.cells.2.1)
theorem cl_b (hp : w.heap[p]? = some (.cells row t fr)) (h : Hid (ClAt w' D q row rv rx tr A l c)) : OneAt w 3 ⟨p, 2, none⟩ (.int .i64 q.b) := one_of u3 rfl (by rw [cell_of_row _ _ _ _ _ _ hp]; exact h.out.cells.2.2.1)
end
theorem run_box37 (row : Array Value) (w : World) : (Instr.box 37 (.agg row)).run Try.prog w = .ok (.pointer (some ⟨w.heap.size, 0, none⟩)) (w.alloc (.cells row 37)) := by kernel_rfl
theorem ex_box37 {ev : Operand → Value} {o : Oper} {w : World} (x : Operand) (ho : o.op = .box 37 x) {row : Array Value} (hx : ev x = .agg row) :
    (execOp ev o).run Try.prog w = .ok (.value (.pointer (some ⟨w.heap.size, 0, none⟩))) (w.alloc (.cells row 37)) := by
  unfold execOp
  simp [ho, hx, run_box37 row w, Result.andThen]
/-- One call in a block of its own. -/
theorem ClsAt.one {w : World} {D : Nat → Prop} {q : Cl} {row rv rx tr : Array Value} {A : Option Addr} {l c b : Nat} {fr : Nat × Nat} {t : TypeId} (hb : w.heap[b]? = some (.cells row t fr)) (h : ClAt w D q row rv rx tr A l c) (hD : D b) : ClsAt w D [q] (some ⟨b, 0, none⟩) 1 1 :=
  ⟨rfl, Nat.le_refl _, by unfold maxLen; omega, fun i q' hi => by
    match i, hi with
    | 0, hi =>
      cases hi
      exact ⟨b, 0, row, t, fr, row, rv, rx, tr, A, l, c, rfl, hD, hb, (by have := h.size; simp [← this]), h⟩⟩
end Go.Proofs.Ytpamocglecangaa
