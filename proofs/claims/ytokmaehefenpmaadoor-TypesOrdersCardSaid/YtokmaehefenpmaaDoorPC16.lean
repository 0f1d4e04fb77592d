/- TypesOrders: the law function answers true. -/
import Derived.Test.YtokmaehefenpmaaDoorPC12
import Derived.Test.YtokmaehefenpmaaDoorPC15
namespace Go.Proofs.YtokmaehefenpmaaDoor
open Go.RowKit Go.ChangeMaps Go.Proofs.YtokmaehefenpmaaDoor.Nm
set_option linter.unusedSimpArgs false
/-- A row of small numbers. -/
def OrdAt (w : World) (A : Option Addr) (l : Nat) : Prop := ∀ i, i < l → ∃ bl off x, A = some ⟨bl, off, none⟩ ∧ w.cell? ⟨bl, off + i, none⟩ = some (.int .u8 x) ∧ 0 ≤ x ∧ x < 256
theorem OrdAt.old {w w' : World} {A : Option Addr} {l : Nat} (h : OrdAt w A l) (hb : Below w.heap.size w w') : OrdAt w' A l := fun i hi => by
  obtain ⟨bl, off, x, h1, h2, h3⟩ := h i hi
  exact ⟨bl, off, x, h1, by
    have := World.block_lt_of_cell? w _ h2
    unfold World.cell? at h2 ⊢
    rw [hb.block _ this]; exact h2, h3⟩
theorem OrdAt.get {w : World} {A : Option Addr} {l : Nat} (h : OrdAt w A l) {j : Nat} (hj : j < l) : ∃ bl off x, A = some ⟨bl, off, none⟩ ∧ 0 ≤ x ∧ x < 256 ∧ ∀ w', Below w.heap.size w w' → OneAt w' 5 ⟨bl, off + j, none⟩ (.int .u8 x) := by
  obtain ⟨bl, off, x, h1, h2, h3, h4⟩ := h j hj
  refine ⟨bl, off, x, h1, h3, h4, fun w' hb => one_of u5 rfl ?_⟩
  have := World.block_lt_of_cell? w _ h2
  unfold World.cell? at h2 ⊢
  rw [hb.block _ this]; exact h2
theorem SrcE.get {w : World} {B : Nat} {es : Eqs} {A : Option Addr} (h : SrcE w B es A) {i : Nat} {t u : Ty} (hi : es[i]? = some (t, u)) : ∃ bl off k s n A1 l1 c1 k' s' n' A2 l2 c2, A = some ⟨bl, off, none⟩ ∧
    (∀ w', Below w.heap.size w w' → RowAt w' 58 ⟨bl, off + i * 8, none⟩ (cell8 k s n A1 l1 c1 k' s' n' A2 l2 c2)) ∧ TyAt w (fun b => b < B) t (cell4 k s n A1 l1 c1) ∧ TyAt w (fun b => b < B) u (cell4 k' s' n' A2 l2 c2) := by
  obtain ⟨bl, off, Cs, ty, fr, rowa, rowb, h1, h3, h4, h5, h6, h7⟩ := h i t u hi
  obtain ⟨k, s, n, A1, l1, c1, rfl⟩ := row4 h6
  obtain ⟨k', s', n', A2, l2, c2, rfl⟩ := row4 h7
  have h8 : Cs.extract (off + i * 8) (off + i * 8 + 8) = cell8 k s n A1 l1 c1 k' s' n' A2 l2 c2 := by
    have : Cs.extract (off + i * 8) (off + i * 8 + 4) ++ Cs.extract (off + i * 8 + 4) (off + i * 8 + 8) = Cs.extract (off + i * 8) (off + i * 8 + 8) := by
      rw [Array.extract_append_extract]
      congr 1 <;> omega
    rw [← this, h4, h5]
    rfl
  exact ⟨bl, off, k, s, n, A1, l1, c1, k', s', n', A2, l2, c2, h1, fun w' hb => row_mid (n := 8) (below_look hb h3) h8 u58 rfl rfl info58, h6, h7⟩
theorem built58 (k : Int) (s : ByteArray) (n : Int) (A : Option Addr) (l c : Nat) (k' : Int) (s' : ByteArray) (n' : Int) (A' : Option Addr) (l' c' : Nat) : Tryd.prog.built 58 [(0, .agg (cell4 k s n A l c)), (1, .agg (cell4 k' s' n' A' l' c'))] = some (cell8 k s n A l c k' s' n' A' l' c') := by kernel_rfl
theorem OwnE.parts {w : World} {B : Nat} {es : Eqs} {A : Option Addr} {l c : Nat} (h : OwnE w B (.slice A l c) es) : es.length = l ∧ SrcE w B es A ∧ l ≤ c ∧ c ≤ maxLen ∧ ∀ a, A = some a → ∃ g, a = ⟨g, 0, none⟩ := by
  obtain ⟨A', c', e, h1, h2, h3, h4⟩ := h.src
  injection e with e1 e2 e3
  subst e1 e2 e3
  exact ⟨rfl, h1, h2, h3, h4⟩
theorem SrcE.old {w w' : World} {B : Nat} {es : Eqs} {A : Option Addr} (h : SrcE w B es A) (hb : Below w.heap.size w w') : SrcE w' B es A := fun i a b hi => by
  obtain ⟨bl, off, Cs, t, fr, rowa, rowb, h1, h3, h4, h5, h6, h7⟩ := h i a b hi
  exact ⟨bl, off, Cs, t, fr, rowa, rowb, h1, below_look hb h3, h4, h5, h6.old hb, h7.old hb⟩
theorem lo_some {c k bl off : Nat} {p : Prop} : (if c = k then some (⟨bl, off, none⟩ : Addr) else (some (⟨bl, off, none⟩ : Addr)).map (·.add (k * 8))) = none → p := fun e => by
  split at e <;> simp at e
theorem eqTys_same {w : World} {ts : List Ty} {A A' : Option Addr} {l c l' c' : Nat} {D D' : Nat → Prop} (h : TysAt w D ts A l c) (h' : TysAt w D' ts A' l' c') : Calls Tryd.prog 31 #[.slice A l c, .slice A' l' c'] w fun e w' => e = .returned (.bool true) ∧ Below w.heap.size w w' := by
  have := EqTypes_any ts ts A A' l c l' c' w D D' h h'
  rw [show eqTys ts ts = true by simp [eqTys]] at this
  exact this
def lenV : Value → Nat | .slice _ l _ => l | _ => 0
set_option maxHeartbeats 8000000 in
set_option maxRecDepth 100000 in
theorem TypesOrders_any (es : Eqs) (A : Option Addr) (l c : Nat) (Ao : Option Addr) (lo co : Nat) (w : World) (D : Nat → Prop) (h : EqsAt w D es A l c) (ho : OrdAt w Ao lo) (hAn : A = none → es = [] ∧ c = 0) :
    Calls Tryd.prog 12 #[.slice A l c, .slice Ao lo co] w fun e w' => e = .returned (.bool true) ∧ Below w.heap.size w w' := by
  have HT := Lib.hid h
  have HL := Lib.hid h.len
  have HO := Lib.hid ho
  have HAS := Lib.hid hAn
  clear h ho hAn
  have hb := Below.refl w.heap.size w
  go_enter Tryd.func12, Tryd.ntmps12
  have HC := Lib.hid (pairs_any es A l c w D HT.out)
  go_upto_region 1 with (fail)
  apply wp_region_lit
  (with_reducible refine wl_k ?_ ?_); exact rfl; intro K hK; go_simp; refine hK _ ?_; clear hK K
  (with_reducible refine wl_ck ?_ ?_); exact rfl; intro K hK; go_simp; refine ⟨_, _, ⟨rfl, rfl⟩, hK _ _ ⟨_, HC.out, ?_⟩⟩; clear hK K; rintro e w7 ⟨⟨b7, rfl, hes⟩, hb7⟩; refine ⟨_, rfl, ?_⟩; simp only [put_lit, List.set_cons_zero, List.set_cons_succ]
  replace hb := hb.trans (hb7.mono hb.size); clear hb7
  clear HC
  cases b7 with
  | false =>
    clear hes
    (with_reducible refine wl_k ?_ ?_); exact rfl; intro K hK; go_simp; refine hK _ ?_; clear hK K
    (with_reducible refine wl_k ?_ ?_); exact rfl; intro K hK; go_simp; refine hK _ ?_; clear hK K
    (first | ((with_reducible refine wl_skipU ?_ ?_ ?_); exact rfl; exact rfl) | ((with_reducible refine wl_skip ?_ ?_); exact rfl; simp only [put_lit, List.set_cons_zero, List.set_cons_succ]))
    (first | ((with_reducible refine wl_skipU ?_ ?_ ?_); exact rfl; exact rfl) | ((with_reducible refine wl_skip ?_ ?_); exact rfl; simp only [put_lit, List.set_cons_zero, List.set_cons_succ]))
    (first | ((with_reducible refine wl_skipU ?_ ?_ ?_); exact rfl; exact rfl) | ((with_reducible refine wl_skip ?_ ?_); exact rfl; simp only [put_lit, List.set_cons_zero, List.set_cons_succ]))
    (with_reducible refine wl_k ?_ ?_); exact rfl; intro K hK; go_simp; refine hK _ ?_; clear hK K
    go_upto_region 2 with (fail)
    apply wp_region_lit
    (with_reducible refine wl_k ?_ ?_); exact rfl; intro K hK; go_simp; refine hK _ ?_; clear hK K
    go_wp2_with fail
    go_ret
    exact ⟨rfl, hb⟩
  | true =>
    have HES := Lib.hid (hes rfl)
    clear hes
    by_cases hlo : 40 < lo
    · have hloI : (40 : Int) < (lo : Int) := by omega
      (with_reducible refine wl_k ?_ ?_); exact rfl; intro K hK; go_simp; refine hK _ ?_; clear hK K
      (with_reducible refine wl_k ?_ ?_); exact rfl; intro K hK; go_simp; refine hK _ ?_; clear hK K
      (with_reducible refine wl_k ?_ ?_); exact rfl; intro K hK; go_simp; refine hK _ ?_; clear hK K
      (with_reducible refine wl_k ?_ ?_); exact rfl; intro K hK; go_simp; refine hK _ ?_; clear hK K
      (with_reducible refine wl_k ?_ ?_); exact rfl; intro K hK; go_simp; refine hK _ ?_; clear hK K
      (with_reducible refine wl_k ?_ ?_); exact rfl; intro K hK; go_simp; refine hK _ ?_; clear hK K
      go_upto_region 2 with (fail)
      apply wp_region_lit
      (with_reducible refine wl_k ?_ ?_); exact rfl; intro K hK; go_simp; refine hK _ ?_; clear hK K
      go_wp2_with fail
      go_ret
      exact ⟨rfl, hb⟩
    · have hloI : ¬ (40 : Int) < (lo : Int) := by omega
      (with_reducible refine wl_k ?_ ?_); exact rfl; intro K hK; go_simp; refine hK _ ?_; clear hK K
      (with_reducible refine wl_k ?_ ?_); exact rfl; intro K hK; go_simp; refine hK _ ?_; clear hK K
      (with_reducible refine wl_k ?_ ?_); exact rfl; intro K hK; go_simp; refine hK _ ?_; clear hK K
      (with_reducible refine wl_k ?_ ?_); exact rfl; intro K hK; go_simp; refine hK _ ?_; clear hK K
      (with_reducible refine wl_k ?_ ?_); exact rfl; intro K hK; go_simp; refine hK _ ?_; clear hK K
      (with_reducible refine wl_k ?_ ?_); exact rfl; intro K hK; go_simp; refine hK _ ?_; clear hK K
      clear hloI hlo
      have HB : Hid (w.heap.size ≤ w7.heap.size) := Lib.hid hb.size
      have hls : es.length + 0 ≤ 40 := HES.out
      go_upto_region 3 with (fail)
      apply wp_region_lit
      (with_reducible refine wl_bs0 ?_); intro W p hbn hlp hp; replace hb := hb.trans (hbn.mono hb.size); clear hbn; simp only [put_lit, List.set_cons_zero, List.set_cons_succ]
      (with_reducible refine wl_k ?_ ?_); exact rfl; intro K hK; go_simp; refine hK _ ?_; clear hK K
      refine wl_catE (v := .slice (some ⟨p, 0, none⟩) 0 0) rfl _ _ rfl rfl rfl (own_none (B := w.heap.size) hp (by have := HB.out; omega)) ((HT.out.low.old hb).src fun b h => h.2) HL.out HAS.out (by have := HES.out; simp; omega) hb.size ?_
      intro v5 W5 hown hk5 hv5; clear hv5
      replace hb := Below.keep hb hk5 (fun b e => by simp [Value.ownBlock] at e; have := HB.out; omega)
      have HOW := Lib.hid hown
      clear hown hk5 hp
      simp only [put_lit, List.set_cons_zero, List.set_cons_succ]
      (with_reducible refine wl_k ?_ ?_); exact rfl; intro K hK; go_simp; refine hK _ ?_; clear hK K
      rw [List.nil_append] at HOW
      go_upto_region 4 with (fail)
      apply wp_region_lit
      (with_reducible refine wl_k ?_ ?_); exact rfl; intro K hK; go_simp; refine hK _ ?_; clear hK K
      go_wp2_with fail
      go_loopw [5, 6] (fun lv ov wr => ∃ ls os : Eqs, Hid (OwnE wr w.heap.size lv ls) ∧ Hid (OwnE wr w.heap.size ov os) ∧ Hid (∀ b, lv.ownBlock = some b → ov.ownBlock ≠ some b) ∧ Hid (SameE es (os ++ ls)) ∧ Hid (ls.length + os.length ≤ 40) ∧ Below w.heap.size w wr) (fun lv _ _ => lenV lv)
      case atStart => exact ⟨es, [], HOW, Lib.hid (own_nil _ _), Lib.hid (fun b _ e => by simp [Value.ownBlock] at e), Lib.hid (SameE.refl es), Lib.hid (by simpa using HES.out), hb⟩
      case round =>
        clear hb HOW
        obtain ⟨ls, os, HLS, HOS, HAP, HSM, HLN, hb⟩ := hrel
        obtain ⟨A5, c5, rfl, hsrc5, hc5, hm5, hz5⟩ := HLS.out.src
        obtain ⟨A6, c6, rfl, hsrc6, hc6, hm6, -⟩ := HOS.out.src
        obtain ⟨n5, hn5⟩ : ∃ n, n = ls.length := ⟨_, rfl⟩
        obtain ⟨n6, hn6⟩ : ∃ n, n = os.length := ⟨_, rfl⟩
        rw [← hn5] at hc5 HLS HAP HLN
        rw [← hn6] at hc6 HOS HAP HLN
        simp only [← hn5, ← hn6]
        have HN5 := Lib.hid hn5
        have HN6 := Lib.hid hn6
        have HS5 := Lib.hid hsrc5
        have HZ5 := Lib.hid hz5
        have hmx5 : n5 ≤ 40 := by have := HLN.out; omega
        clear hn5 hn6 hsrc5 hsrc6 hz5 hm5 hm6 hc6
        go_upto_region 5 with (fail)
        by_cases hpos : 0 < n5
        · have hposI : (0 : Int) < (n5 : Int) := by omega
          apply wp_region_lit
          (with_reducible refine wl_k ?_ ?_); exact rfl; intro K hK; go_simp; refine hK _ ?_; clear hK K
          (with_reducible refine wl_k ?_ ?_); exact rfl; intro K hK; go_simp; refine hK _ ?_; clear hK K
          (with_reducible refine wl_k ?_ ?_); exact rfl; intro K hK; go_simp; refine hK _ ?_; clear hK K
          go_upto_region 6 with (fail)
          apply wp_region_lit
          (with_reducible refine wl_k ?_ ?_); exact rfl; intro K hK; go_simp; refine hK _ ?_; clear hK K
          (with_reducible refine wl_k ?_ ?_); exact rfl; intro K hK; go_simp; refine hK _ ?_; clear hK K
          go_upto_region 7 with (fail)
          apply wp_region_lit
          (with_reducible refine wl_k ?_ ?_); exact rfl; intro K hK; go_simp; refine hK _ ?_; clear hK K
          (with_reducible refine wl_k ?_ ?_); exact rfl; intro K hK; go_simp; refine hK _ ?_; clear hK K
          (with_reducible refine wl_k ?_ ?_); exact rfl; intro K hK; go_simp; refine hK _ ?_; clear hK K
          obtain ⟨bl6, hbl6⟩ : ∃ b : Bool, b = decide ((n6 : Int) < (lo : Int)) := ⟨_, rfl⟩
          go_upto_region 8 with (fail)
          apply wp_region_lit
          (with_reducible refine wl_k ?_ ?_); exact rfl; intro K hK; go_simp; refine hK _ ?_; clear hK K
          (with_reducible refine wl_k ?_ ?_); exact rfl; intro K hK; go_simp; refine hK _ ?_; clear hK K
          (with_reducible refine wl_k ?_ ?_); exact rfl; intro K hK; go_simp; refine hK _ ?_; clear hK K
          (with_reducible refine wl_k ?_ ?_); exact rfl; intro K hK; go_simp; refine hK _ ?_; clear hK K
          go_upto_if 34 with (fail)
          go_cut [7, 8] (fun k turn wx => ∃ (kn : Nat) (b : Bool), k = .int .i64 (kn : Int) ∧ kn < n5 ∧ turn = .bool b ∧ Below wr.heap.size wr wx)
          case first =>
            by_cases hlt6 : n6 < lo
            · have hlt6I : (n6 : Int) < (lo : Int) := by omega
              obtain ⟨bl, off, x, rfl, hx0, hx1, hord⟩ := (HO.out.old hb).get hlt6
              obtain ⟨xn, rfl⟩ : ∃ xn : Nat, x = (xn : Int) := ⟨x.toNat, by omega⟩
              obtain ⟨x2, hx2⟩ : ∃ x2 : Nat, x2 = xn / 2 := ⟨_, rfl⟩
              obtain ⟨x3, hx3⟩ : ∃ x3 : Nat, x3 = xn % 2 := ⟨_, rfl⟩
              obtain ⟨kn, hkn⟩ : ∃ kn : Nat, kn = x2 % n5 := ⟨_, rfl⟩
              have hknl : kn < n5 := by rw [hkn]; exact Nat.mod_lt _ hpos
              have d1 : (xn : Int).tdiv 2 = (x2 : Int) := by rw [hx2]; rfl
              have d2 : (xn : Int).tmod 2 = (x3 : Int) := by rw [hx3]; rfl
              have d3 : (x2 : Int).tmod (n5 : Int) = (kn : Int) := by rw [hkn]; rfl
              have d4 : IntKind.u8.wrap (x2 : Int) = (x2 : Int) := IntWalk.u8_in _ (by omega)
              have d5 : IntKind.i64.wrap (x2 : Int) = (x2 : Int) := IntWalk.i64_in _ (by omega)
              have d6 : IntKind.i64.wrap (kn : Int) = (kn : Int) := IntWalk.i64_in _ (by omega)
              have d7 : IntKind.u8.wrap (x3 : Int) = (x3 : Int) := IntWalk.u8_in _ (by omega)
              have d8 : ¬ (n5 : Int) = 0 := by omega
              have d9 : ¬ n5 = 0 := by omega
              have d10 : ((n5 : Int) == 0) = false := beq_eq_false_iff_ne.2 d8
              clear hx2 hx3 hkn hx0 hx1
              have HORD := Lib.hid hord
              clear hord
              go_upto_region 9 with (fail)
              refine wp_region_held_drew (S := Below wr.heap.size wr) mixed ((Below.refl _ _).drew) (fun hS => ?_)
              refine ha_k (i := 0) rfl (by kernel_rfl) (by kernel_rfl) (by kernel_rfl) (fun _ _ _ _ h => h) hS rfl (fun K hK => ?_); go_simp; refine hK _ ?_; clear hK K; try simp only [put_lit, List.set_cons_zero, List.set_cons_succ]
              refine ha_k (i := 1) rfl (by kernel_rfl) (by kernel_rfl) (by kernel_rfl) (fun _ _ _ _ h => h) hS rfl (fun K hK => ?_); go_simp; refine hK _ ?_; clear hK K; try simp only [put_lit, List.set_cons_zero, List.set_cons_succ]
              refine ha_k (i := 2) rfl (by kernel_rfl) (by kernel_rfl) (by kernel_rfl) (fun _ _ _ _ h => h) hS rfl (fun K hK => ?_); go_simp; refine hK _ ?_; clear hK K; try simp only [put_lit, List.set_cons_zero, List.set_cons_succ]
              refine ha_val (i := 3) rfl (by kernel_rfl) (by kernel_rfl) (by kernel_rfl) (fun _ _ _ h => h) hS rfl (fun w' hw' => ex_one rfl (HORD.out w' hw')) ?_; try simp only [List.getElem_toArray, List.getElem_cons_succ, List.getElem_cons_zero, put_lit, List.set_cons_zero, List.set_cons_succ]
              refine ha_k (i := 4) rfl (by kernel_rfl) (by kernel_rfl) (by kernel_rfl) (fun _ _ _ _ h => h) hS rfl (fun K hK => ?_); go_simp; refine hK _ ?_; clear hK K; try simp only [put_lit, List.set_cons_zero, List.set_cons_succ]
              refine ha_k (i := 5) rfl (by kernel_rfl) (by kernel_rfl) (by kernel_rfl) (fun _ _ _ _ h => h) hS rfl (fun K hK => ?_); go_simp; refine hK _ ?_; clear hK K; try simp only [put_lit, List.set_cons_zero, List.set_cons_succ]
              refine ha_k (i := 6) rfl (by kernel_rfl) (by kernel_rfl) (by kernel_rfl) (fun _ _ _ _ h => h) hS rfl (fun K hK => ?_); go_simp; refine hK _ ?_; clear hK K; try simp only [put_lit, List.set_cons_zero, List.set_cons_succ]
              refine ha_k (i := 7) rfl (by kernel_rfl) (by kernel_rfl) (by kernel_rfl) (fun _ _ _ _ h => h) hS rfl (fun K hK => ?_); go_simp; refine hK _ ?_; clear hK K; try simp only [put_lit, List.set_cons_zero, List.set_cons_succ]
              refine ha_k (i := 8) rfl (by kernel_rfl) (by kernel_rfl) (by kernel_rfl) (fun _ _ _ _ h => h) hS rfl (fun K hK => ?_); go_simp; refine hK _ ?_; clear hK K; try simp only [put_lit, List.set_cons_zero, List.set_cons_succ]
              refine ha_k (i := 9) rfl (by kernel_rfl) (by kernel_rfl) (by kernel_rfl) (fun _ _ _ _ h => h) hS rfl (fun K hK => ?_); go_simp; refine hK _ ?_; clear hK K; try simp only [put_lit, List.set_cons_zero, List.set_cons_succ]
              refine ha_k (i := 10) rfl (by kernel_rfl) (by kernel_rfl) (by kernel_rfl) (fun _ _ _ _ h => h) hS rfl (fun K hK => ?_); go_simp; refine hK _ ?_; clear hK K; try simp only [put_lit, List.set_cons_zero, List.set_cons_succ]
              refine ha_k (i := 11) rfl (by kernel_rfl) (by kernel_rfl) (by kernel_rfl) (fun _ _ _ _ h => h) hS rfl (fun K hK => ?_); go_simp; refine hK _ ?_; clear hK K; try simp only [put_lit, List.set_cons_zero, List.set_cons_succ]
              refine ha_val (i := 12) rfl (by kernel_rfl) (by kernel_rfl) (by kernel_rfl) (fun _ _ _ h => h) hS rfl (fun w' hw' => ex_one rfl (HORD.out w' hw')) ?_; try simp only [List.getElem_toArray, List.getElem_cons_succ, List.getElem_cons_zero, put_lit, List.set_cons_zero, List.set_cons_succ]
              refine ha_k (i := 13) rfl (by kernel_rfl) (by kernel_rfl) (by kernel_rfl) (fun _ _ _ _ h => h) hS rfl (fun K hK => ?_); go_simp; refine hK _ ?_; clear hK K; try simp only [put_lit, List.set_cons_zero, List.set_cons_succ]
              refine ha_k (i := 14) rfl (by kernel_rfl) (by kernel_rfl) (by kernel_rfl) (fun _ _ _ _ h => h) hS rfl (fun K hK => ?_); go_simp; refine hK _ ?_; clear hK K; try simp only [put_lit, List.set_cons_zero, List.set_cons_succ]
              refine ha_k (i := 15) rfl (by kernel_rfl) (by kernel_rfl) (by kernel_rfl) (fun _ _ _ _ h => h) hS rfl (fun K hK => ?_); go_simp; refine hK _ ?_; clear hK K; try simp only [put_lit, List.set_cons_zero, List.set_cons_succ]
              refine ha_k (i := 16) rfl (by kernel_rfl) (by kernel_rfl) (by kernel_rfl) (fun _ _ _ _ h => h) hS rfl (fun K hK => ?_); go_simp; refine hK _ ?_; clear hK K; try simp only [put_lit, List.set_cons_zero, List.set_cons_succ]
              refine wpAnyH_done (by kernel_rfl) ?_ _
              clear d1 d2 d3 d4 d5 d6 d7 d8 d9 d10
              go_wp2_with fail
              go_meet
              exact ⟨kn, _, rfl, hknl, rfl, hS⟩
            · have hlt6I : ¬ (n6 : Int) < (lo : Int) := by omega
              go_wp2_with fail
              go_meet
              exact ⟨0, false, rfl, hpos, rfl, Below.refl _ _⟩
          case rest =>
            obtain ⟨kn, b, rfl, hkn, rfl, hz⟩ := hcut
            have hil : kn < ls.length := by have := HN5.out; omega
            obtain ⟨⟨t, u⟩, hi⟩ : ∃ p, ls[kn]? = some p := ⟨_, List.getElem?_eq_getElem hil⟩
            obtain ⟨bl, off, k1, s1, m1, A1, l1, c1, k2, s2, m2, A2, l2, c2, rfl, hr8, ht, hu⟩ := HS5.out.get hi
            have HR8 := Lib.hid (hr8 wc hz)
            have HTT := Lib.hid (ht.old hz)
            have HUU := Lib.hid (hu.old hz)
            have HI := Lib.hid hi
            clear hil hi hr8 ht hu
            have hknI : (kn : Int) < (n5 : Int) := by omega
            have hWZ := hz.size
            have HOS9 := Lib.hid (HOS.out.old hz)
            have HLS9 := Lib.hid (HLS.out.old hz)
            replace hb := hb.trans (hz.mono hb.size)
            have hy := Below.refl wc.heap.size wc
            clear hz HOS HLS HS5
            go_upto_region 10 with (fail)
            apply wp_region_lit
            (with_reducible refine wl_k ?_ ?_); exact rfl; intro K hK; go_simp; refine hK _ ?_; clear hK K
            (with_reducible refine wl_k ?_ ?_); exact rfl; intro K hK; go_simp; refine hK _ ?_; clear hK K
            (with_reducible refine wl_k ?_ ?_); exact rfl; intro K hK; go_simp; refine hK _ ?_; clear hK K
            ((with_reducible apply wl_rowG); exact rfl; exact rfl; exact HR8.out)
            (with_reducible refine wl_all58 ?_); intro W3 q hbn hlq hq; replace hy := hy.trans (hbn.mono hy.size); clear hbn; simp only [put_lit, List.set_cons_zero, List.set_cons_succ]
            (with_reducible refine wl_put58 rfl rfl hq rfl ?_); rw [put_noneA]; intro W4 hbx hsz hkx hnx; replace hy := hbx _ _ (by omega) hy; clear hq; have hq := hnx; clear hnx
            clear hbx hkx hsz HR8
            go_upto_region 11 with (fail)
            apply wp_region_lit
            (with_reducible refine wl_k ?_ ?_); exact rfl; intro K hK; go_simp; refine hK _ ?_; clear hK K
            go_upto_if 54 with (fail)
            have HTX := Lib.hid (HTT.out.old hy)
            have HUX := Lib.hid (HUU.out.old hy)
            go_cut [9] (fun _ wx => ∃ (x : Ty × Ty) (k3 : Int) (s3 : ByteArray) (m3 : Int) (A3 : Option Addr) (l3 c3 : Nat) (k4 : Int) (s4 : ByteArray) (m4 : Int) (A4 : Option Addr) (l4 c4 : Nat), Hid (x = (t, u) ∨ x = (u, t)) ∧ Hid (TyAt wx (fun b => b < w.heap.size) x.1 (cell4 k3 s3 m3 A3 l3 c3)) ∧ Hid (TyAt wx (fun b => b < w.heap.size) x.2 (cell4 k4 s4 m4 A4 l4 c4)) ∧ Below wc.heap.size wc wx ∧ wx.heap[q]? = some (.cells (cell8 k3 s3 m3 A3 l3 c3 k4 s4 m4 A4 l4 c4) 58 (0, 0)))
            case first =>
              cases b with
              | false =>
                go_wp2_with fail
                go_meet
                exact ⟨(t, u), _, _, _, _, _, _, _, _, _, _, _, _, Lib.hid (.inl rfl), HTX, HUX, hy, hq⟩
              | true =>
                go_upto_region 12 with (fail)
                apply wp_region_lit
                (with_reducible refine wl_k ?_ ?_); exact rfl; intro K hK; go_simp; refine hK _ ?_; clear hK K
                ((with_reducible apply wl_rowG); exact rfl; exact rfl; exact p84 hq)
                (with_reducible refine wl_k ?_ ?_); exact rfl; intro K hK; go_simp; refine hK _ ?_; clear hK K
                ((with_reducible apply wl_rowG); exact rfl; exact rfl; exact p80 hq)
                refine wl_val rfl (ex_build 58 _ rfl (L := [(0, .agg (cell4 k2 s2 m2 A2 l2 c2)), (1, .agg (cell4 k1 s1 m1 A1 l1 c1))]) rfl (built58 _ _ _ _ _ _ _ _ _ _ _ _)) ?_
                simp only [put_lit, List.set_cons_zero, List.set_cons_succ]
                (with_reducible refine wl_put58 rfl rfl hq rfl ?_); rw [put_noneA]; intro W5 hbx hsz hkx hnx; replace hy := hbx _ _ (by omega) hy; clear hq; have hq := hnx; clear hnx
                have HTY := Lib.hid (HTX.out.mono (w' := W5) (fun _ h => h) (fun b h => hkx b (by have := hb.size; omega)))
                have HUY := Lib.hid (HUX.out.mono (w' := W5) (fun _ h => h) (fun b h => hkx b (by have := hb.size; omega)))
                clear hbx hkx hsz
                go_wp2_with fail
                go_meet
                exact ⟨(u, t), _, _, _, _, _, _, _, _, _, _, _, _, Lib.hid (.inr rfl), HUY, HTY, hy, hq⟩
            case rest =>
              clear hy hq HTX HUX
              obtain ⟨x, k3, s3, m3, A3, l3, c3, k4, s4, m4, A4, l4, c4, HXX, HX1, HX2, hy, hq⟩ := hcut
              have HLY := Lib.hid (HLS9.out.old hy)
              have HOY := Lib.hid (HOS9.out.old hy)
              have hwy := hy.size
              have hwc := hb.size
              replace hb := hb.trans (hy.mono hb.size)
              have hlx : os.length + [x].length ≤ 1000000 := by have := HLN.out; have := HN6.out; simp; omega
              have hli : ls.length ≤ 40 := by have := HN5.out; omega
              clear HLS9 HOS9 hy
              go_upto_region 13 with (fail)
              apply wp_region_lit
              (with_reducible refine wl_k ?_ ?_); exact rfl; intro K hK; go_simp; refine hK _ ?_; clear hK K
              ((with_reducible apply wl_rowG); exact rfl; exact rfl; exact p8 hq)
              (with_reducible refine wl_bs1 rfl ?_); intro W7 q7 hbn hlq7 hq7
              have HLY7 := Lib.hid (HLY.out.old hbn)
              have HOY7 := Lib.hid (HOY.out.old hbn)
              have HX17 := Lib.hid (HX1.out.old hbn)
              have HX27 := Lib.hid (HX2.out.old hbn)
              have hn7 := hbn.size
              replace hb := hb.trans (hbn.mono hb.size); clear hbn
              clear hq HLY HOY HX1 HX2
              simp only [put_lit, List.set_cons_zero, List.set_cons_succ]
              refine wl_catE (v := .slice A6 n6 c6) rfl _ _ rfl rfl rfl HOY7.out (src_one hq7 HX17.out HX27.out) rfl (fun e => by cases e) hlx hb.size ?_
              intro v6 W6 hown hk6 hv6
              have HOW6 := Lib.hid hown
              have HLW6 := Lib.hid (HLY7.out.keep hk6 (fun b e => ⟨(HOY7.out.lt b e).1, fun e2 => HAP.out b e2 e⟩))
              have HAP6 : Hid (∀ b, (Value.slice (some ⟨bl, off, none⟩) n5 c5).ownBlock = some b → v6.ownBlock ≠ some b) := Lib.hid (fun b e e2 => by
                have h1 := HLY7.out.lt b e
                rcases hv6 with h | h
                · exact HAP.out b e (by rw [← h]; exact e2)
                · rw [h] at e2; simp at e2; omega)
              replace hb := Below.keep hb hk6 (fun b e => (HOY7.out.lt b e).1)
              clear hown hk6 hv6 hq7 HLY7 HOY7 HX17 HX27
              simp only [put_lit, List.set_cons_zero, List.set_cons_succ]
              (with_reducible refine wl_k ?_ ?_); exact rfl; intro K hK; go_simp; refine hK _ ?_; clear hK K
              obtain ⟨hl6, hsrc6, hc6, hm6, hz6⟩ := HLW6.out.parts
              have HSR6 := Lib.hid hsrc6
              have HZ6 := Lib.hid hz6
              have hkl : kn + 1 ≤ n5 := by omega
              have hkc : kn ≤ c5 := by omega
              have htk : (ls.take kn).length = kn := by simp; omega
              have hdr : (ls.drop (kn + 1)).length = n5 - (kn + 1) := by simp; omega
              have d1 : (kn : Int) + 1 = ((kn + 1 : Nat) : Int) := by omega
              obtain ⟨kn1, hkn1⟩ : ∃ kn1, kn1 = kn + 1 := ⟨_, rfl⟩
              rw [← hkn1] at d1 hkl hdr
              have d2 : IntKind.i64.wrap (kn1 : Int) = (kn1 : Int) := IntWalk.i64_in _ (by omega)
              have HTK := Lib.hid htk
              have HDR := Lib.hid hdr
              have HK1 := Lib.hid hkn1
              clear hsrc6 hz6 htk hdr hkn1
              go_upto_region 14 with (fail)
              refine wp_region_held_drew (S := Below W6.heap.size W6) mixed ((Below.refl _ _).drew) (fun hS => ?_)
              refine ha_k (i := 1) rfl (by kernel_rfl) (by kernel_rfl) (by kernel_rfl) (fun _ _ _ _ h => h) hS rfl (fun K hK => ?_); go_simp; refine hK _ ?_; clear hK K; try simp only [put_lit, List.set_cons_zero, List.set_cons_succ]
              refine ha_k (i := 2) rfl (by kernel_rfl) (by kernel_rfl) (by kernel_rfl) (fun _ _ _ _ h => h) hS rfl (fun K hK => ?_); go_simp; refine hK _ ?_; clear hK K; try simp only [put_lit, List.set_cons_zero, List.set_cons_succ]
              refine ha_val (i := 3) rfl (by kernel_rfl) (by kernel_rfl) (by kernel_rfl) (fun _ _ _ h => h) hS rfl (fun w' hw' => ex_hi _ _ rfl rfl rfl hkc w') ?_; try simp only [List.getElem_toArray, List.getElem_cons_succ, List.getElem_cons_zero, put_lit, List.set_cons_zero, List.set_cons_succ]
              refine ha_k (i := 5) rfl (by kernel_rfl) (by kernel_rfl) (by kernel_rfl) (fun _ _ _ _ h => h) hS rfl (fun K hK => ?_); go_simp; refine hK _ ?_; clear hK K; try simp only [put_lit, List.set_cons_zero, List.set_cons_succ]
              refine ha_k (i := 6) rfl (by kernel_rfl) (by kernel_rfl) (by kernel_rfl) (fun _ _ _ _ h => h) hS rfl (fun K hK => ?_); go_simp; refine hK _ ?_; clear hK K; try simp only [put_lit, List.set_cons_zero, List.set_cons_succ]
              refine ha_k (i := 7) rfl (by kernel_rfl) (by kernel_rfl) (by kernel_rfl) (fun _ _ _ _ h => h) hS rfl (fun K hK => ?_); go_simp; refine hK _ ?_; clear hK K; try simp only [put_lit, List.set_cons_zero, List.set_cons_succ]
              refine ha_val (i := 8) rfl (by kernel_rfl) (by kernel_rfl) (by kernel_rfl) (fun _ _ _ h => h) hS rfl (fun w' hw' => ex_lo _ _ rfl rfl rfl hkl w') ?_; try simp only [List.getElem_toArray, List.getElem_cons_succ, List.getElem_cons_zero, put_lit, List.set_cons_zero, List.set_cons_succ]
              refine ha_bs0 (i := 0) (by kernel_rfl) rfl rfl rfl (fun W hW => hS.trans (hW.mono hS.size)) ?_
              intro W8 q8 hb8 hlq8 hq8 hS8
              try simp only [List.getElem_toArray, List.getElem_cons_succ, List.getElem_cons_zero, put_lit, List.set_cons_zero, List.set_cons_succ]
              have hs68 : W6.heap.size ≤ q8 := by have := hS.size; omega
              have hwq : w.heap.size ≤ q8 := by have := hb.size; omega
              refine ha_catE (i := 4) (v := .slice (some ⟨q8, 0, none⟩) 0 0) (by kernel_rfl) rfl rfl _ _ rfl rfl rfl (own_none (B := w.heap.size) hq8 hwq) ((HSR6.out.old hS8).take kn) HTK.out (fun e => by cases e) (by rw [HTK.out]; simp; omega) (by have := hS8.size; have := hb.size; omega) (fun w' hk => Below.keep hS8 hk (fun b e => by simp [Value.ownBlock] at e; omega)) ?_
              intro v9 W9 hown9 hk9 hv9 hS9
              try simp only [List.getElem_toArray, List.getElem_cons_succ, List.getElem_cons_zero, put_lit, List.set_cons_zero, List.set_cons_succ]
              have hv9b : ∀ b, v9.ownBlock = some b → W6.heap.size ≤ b := fun b e => by
                rcases hv9 with h | h
                · rw [h] at e; simp [Value.ownBlock] at e; omega
                · rw [h] at e; simp at e; have := hS8.size; omega
              refine ha_catE (i := 9) (v := v9) (by kernel_rfl) rfl rfl _ _ rfl rfl rfl hown9 ((HSR6.out.old hS9).lo (c := c5) (k := kn1) (by omega) HZ6.out) HDR.out lo_some (by rw [List.nil_append, HTK.out, HDR.out]; omega) (by have := hS9.size; have := hb.size; omega) (fun w' hk => Below.keep hS9 hk hv9b) ?_
              intro v10 W10 hown10 hk10 hv10 hS10
              try simp only [List.getElem_toArray, List.getElem_cons_succ, List.getElem_cons_zero, put_lit, List.set_cons_zero, List.set_cons_succ]
              have hv10b : ∀ b, v10.ownBlock = some b → W6.heap.size ≤ b := fun b e => by
                rcases hv10 with h | h
                · rw [h] at e; exact hv9b b e
                · rw [h] at e; simp at e; have := hS9.size; omega
              rw [List.nil_append] at hown10
              have HO10 := Lib.hid (HOW6.out.old hS10)
              have HAP10 : Hid (∀ b, v10.ownBlock = some b → v6.ownBlock ≠ some b) := Lib.hid (fun b e e2 => by have h1 := hv10b b e; have h2 := (HOW6.out.lt b e2).2; omega)
              have HL10 := Lib.hid hown10
              have HLE : Hid ((ls.take kn ++ ls.drop kn1).length = n5 - 1) := Lib.hid (by rw [List.length_append, HTK.out, HDR.out]; omega)
              have HSM2 : Hid (SameE es ((os ++ [x]) ++ (ls.take kn ++ ls.drop kn1))) := Lib.hid (by rw [HK1.out]; exact HSM.out.step HI.out HXX.out)
              obtain ⟨A10, c10, rfl, -⟩ := hown10.src
              obtain ⟨n10, hn10⟩ : ∃ n, n = (ls.take kn ++ ls.drop kn1).length := ⟨_, rfl⟩
              rw [← hn10] at HL10 HAP10 HLE
              rw [← hn10]
              have HN10 := Lib.hid hn10
              clear hn10
              replace hb := hb.trans (hS10.mono hb.size)
              have HS11 := hS10
              clear hown9 hk9 hv9 hS9 hv9b hown10 hk10 hv10 hv10b hS8 hb8 hq8 hS
              have hS := HS11
              clear HS11
              refine ha_k (i := 10) rfl (by kernel_rfl) (by kernel_rfl) (by kernel_rfl) (fun _ _ _ _ h => h) hS rfl (fun K hK => ?_); go_simp; refine hK _ ?_; clear hK K; try simp only [put_lit, List.set_cons_zero, List.set_cons_succ]
              refine wpAnyH_done (by kernel_rfl) ?_ _
              clear hS
              go_wp2_with fail
              go_roundw
              case rel => exact ⟨_, _, HL10, HO10, HAP10, HSM2, Lib.hid (by have h1 := HLE.out; have h2 := HLN.out; have h3 := HN6.out; rw [← HN10.out, h1]; simp; omega), hb⟩
              case measure =>
                have := HLE.out
                simp [lenV]
                omega
        · have hposI : ¬ (0 : Int) < (n5 : Int) := by omega
          have hl0 : ls = [] := List.length_eq_zero_iff.1 (by have := HN5.out; omega)
          have HSE : Hid (SameE es os) := Lib.hid (by have := HSM.out; rwa [hl0, List.append_nil] at this)
          clear hl0
          obtain ⟨ka, ra, hsta⟩ := unify_run es
          obtain ⟨kb, rb, hstb⟩ := unify_run os
          have HSTA := Lib.hid hsta
          have HSTB := Lib.hid hstb
          clear hsta hstb
          apply wp_region_lit
          (with_reducible refine wl_k ?_ ?_); exact rfl; intro K hK; go_simp; refine hK _ ?_; clear hK K
          (with_reducible refine wl_k ?_ ?_); exact rfl; intro K hK; go_simp; refine hK _ ?_; clear hK K
          (with_reducible refine wl_k ?_ ?_); exact rfl; intro K hK; go_simp; refine hK _ ?_; clear hK K
          clear hposI hpos
          have HC := Lib.hid ((Unify_any es ka ra HSTA.out A l c wr D (HT.out.old hb)).mono fun e w' h => h.say)
          go_upto_region 15 with (fail)
          apply wp_region_lit
          (with_reducible refine wl_k ?_ ?_); exact rfl; intro K hK; go_simp; refine hK _ ?_; clear hK K
          (with_reducible refine wl_ck ?_ ?_); exact rfl; intro K hK; go_simp; refine ⟨_, _, ⟨rfl, rfl⟩, hK _ _ ⟨_, HC.out, ?_⟩⟩; clear hK K; rintro e w8 ⟨A8, l8, c8, e8, rfl, hsay⟩; refine ⟨_, rfl, ?_⟩; simp only [put_lit, List.set_cons_zero, List.set_cons_succ]
          (with_reducible refine wl_k ?_ ?_); exact rfl; intro K hK; go_simp; refine hK _ ?_; clear hK K
          (with_reducible refine wl_k ?_ ?_); exact rfl; intro K hK; go_simp; refine hK _ ?_; clear hK K
          (with_reducible refine wl_k ?_ ?_); exact rfl; intro K hK; go_simp; refine hK _ ?_; clear hK K
          (with_reducible refine wl_k ?_ ?_); exact rfl; intro K hK; go_simp; refine hK _ ?_; clear hK K
          (with_reducible refine wl_k ?_ ?_); exact rfl; intro K hK; go_simp; refine hK _ ?_; clear hK K
          clear HC
          have HU1 := Lib.hid hsay
          have hb8 := hsay.1
          have HW8 : Hid (w.heap.size ≤ wr.heap.size) := Lib.hid hb.size
          clear hsay
          obtain ⟨hq1, hq2, hq3, hq4, -⟩ := HOS.out.parts
          have HC := Lib.hid ((Unify_any os kb rb HSTB.out A6 n6 c6 w8 Any ((hq2.eqs hq1 hq3 hq4).old hb8)).mono fun e w' h => h.say)
          replace hb := hb.trans (hb8.mono hb.size); clear hb8
          clear hq1 hq2 hq3 hq4
          go_upto_region 16 with (fail)
          apply wp_region_lit
          (with_reducible refine wl_k ?_ ?_); exact rfl; intro K hK; go_simp; refine hK _ ?_; clear hK K
          (with_reducible refine wl_ck ?_ ?_); exact rfl; intro K hK; go_simp; refine ⟨_, _, ⟨rfl, rfl⟩, hK _ _ ⟨_, HC.out, ?_⟩⟩; clear hK K; rintro e w9 ⟨A9, l9, c9, e9, rfl, hsay⟩; refine ⟨_, rfl, ?_⟩; simp only [put_lit, List.set_cons_zero, List.set_cons_succ]
          (with_reducible refine wl_k ?_ ?_); exact rfl; intro K hK; go_simp; refine hK _ ?_; clear hK K
          (with_reducible refine wl_k ?_ ?_); exact rfl; intro K hK; go_simp; refine hK _ ?_; clear hK K
          (with_reducible refine wl_k ?_ ?_); exact rfl; intro K hK; go_simp; refine hK _ ?_; clear hK K
          (with_reducible refine wl_k ?_ ?_); exact rfl; intro K hK; go_simp; refine hK _ ?_; clear hK K
          (with_reducible refine wl_k ?_ ?_); exact rfl; intro K hK; go_simp; refine hK _ ?_; clear hK K
          clear HC
          have HU2 := Lib.hid hsay
          have hb9 := hsay.1
          have HB9 := Lib.hid hb9
          replace hb := hb.trans (hb9.mono hb.size); clear hb9
          clear hsay
          by_cases hop : OpenE es
          · have hop2 := HSE.out.opn.1 hop
            rcases orders_plain HSE.out hop (HSTA.out hop) (HSTB.out hop2) with ⟨s, rfl, rfl⟩ | ⟨e, f, rfl, rfl⟩
            · obtain ⟨-, ⟨h, -⟩ | ⟨-, h, -⟩ | ⟨-, rfl, s1, h1, ht1⟩⟩ := HU1.out
              · exact absurd hop h
              · cases h
              obtain ⟨-, ⟨h, -⟩ | ⟨-, h, -⟩ | ⟨-, rfl, s2, h2, ht2⟩⟩ := HU2.out
              · exact absurd hop2 h
              · cases h
              cases h1
              cases h2
              have hq := eqTys_same (ht1.old HB9.out) ht2
              clear ht1 ht2 hop hop2 HU1 HU2
              have HE := Lib.hid hq
              clear hq
              go_upto_region 17 with (fail)
              apply wp_region_lit
              (with_reducible refine wl_k ?_ ?_); exact rfl; intro K hK; go_simp; refine hK _ ?_; clear hK K
              (with_reducible refine wl_k ?_ ?_); exact rfl; intro K hK; go_simp; refine hK _ ?_; clear hK K
              (with_reducible refine wl_k ?_ ?_); exact rfl; intro K hK; go_simp; refine hK _ ?_; clear hK K
              (with_reducible refine wl_k ?_ ?_); exact rfl; intro K hK; go_simp; refine hK _ ?_; clear hK K
              (with_reducible refine wl_k ?_ ?_); exact rfl; intro K hK; go_simp; refine hK _ ?_; clear hK K
              (with_reducible refine wl_k ?_ ?_); exact rfl; intro K hK; go_simp; refine hK _ ?_; clear hK K
              (with_reducible refine wl_k ?_ ?_); exact rfl; intro K hK; go_simp; refine hK _ ?_; clear hK K
              (with_reducible refine wl_k ?_ ?_); exact rfl; intro K hK; go_simp; refine hK _ ?_; clear hK K
              (with_reducible refine wl_k ?_ ?_); exact rfl; intro K hK; go_simp; refine hK _ ?_; clear hK K
              (with_reducible refine wl_k ?_ ?_); exact rfl; intro K hK; go_simp; refine hK _ ?_; clear hK K
              (with_reducible refine wl_k ?_ ?_); exact rfl; intro K hK; go_simp; refine hK _ ?_; clear hK K
              (with_reducible refine wl_k ?_ ?_); exact rfl; intro K hK; go_simp; refine hK _ ?_; clear hK K
              (with_reducible refine wl_k ?_ ?_); exact rfl; intro K hK; go_simp; refine hK _ ?_; clear hK K
              (with_reducible refine wl_k ?_ ?_); exact rfl; intro K hK; go_simp; refine hK _ ?_; clear hK K
              (with_reducible refine wl_k ?_ ?_); exact rfl; intro K hK; go_simp; refine hK _ ?_; clear hK K
              (with_reducible refine wl_ck ?_ ?_); exact rfl; intro K hK; go_simp; refine ⟨_, _, ⟨rfl, rfl⟩, hK _ _ ⟨_, HE.out, ?_⟩⟩; clear hK K; rintro e wa ⟨rfl, hba⟩; refine ⟨_, rfl, ?_⟩; simp only [put_lit, List.set_cons_zero, List.set_cons_succ]
              have HAW := Lib.hid (awake_any wa)
              replace hb := hb.trans (hba.mono hb.size); clear hba
              (with_reducible refine wl_k ?_ ?_); exact rfl; intro K hK; go_simp; refine hK _ ?_; clear hK K
              (with_reducible refine wl_k ?_ ?_); exact rfl; intro K hK; go_simp; refine hK _ ?_; clear hK K
              (with_reducible refine wl_ck ?_ ?_); exact rfl; intro K hK; go_simp; refine ⟨_, _, ⟨rfl, rfl⟩, hK _ _ ⟨_, HAW.out, ?_⟩⟩; clear hK K; rintro e wb ⟨rfl, hbb⟩; refine ⟨_, rfl, ?_⟩; simp only [put_lit, List.set_cons_zero, List.set_cons_succ]
              (with_reducible refine wl_k ?_ ?_); exact rfl; intro K hK; go_simp; refine hK _ ?_; clear hK K
              (with_reducible refine wl_k ?_ ?_); exact rfl; intro K hK; go_simp; refine hK _ ?_; clear hK K
              replace hb := hb.trans (hbb.mono hb.size); clear hbb
              clear HE HAW
              go_wp2_with fail
              go_ret
              exact ⟨rfl, hb⟩
            · have hea := steps_err (HSTA.out hop) (start_good _) (fine_open hop) e rfl
              have hfa := steps_err (HSTB.out hop2) (start_good _) (fine_open hop2) f rfl
              obtain ⟨-, ⟨h, -⟩ | ⟨-, h1, rfl, rfl, rfl⟩ | ⟨-, -, s1, h1, -⟩⟩ := HU1.out
              · exact absurd hop h
              · obtain ⟨-, ⟨h, -⟩ | ⟨-, h2, rfl, rfl, rfl⟩ | ⟨-, -, s2, h2, -⟩⟩ := HU2.out
                · exact absurd hop2 h
                · cases h1
                  cases h2
                  have hq := eqTys_same (w := w9) (TysAt.nil w9 Any) (TysAt.nil w9 Any)
                  clear hop hop2 HU1 HU2 HSTA HSTB
                  rcases hea with rfl | rfl | rfl
                  all_goals rcases hfa with rfl | rfl | rfl
                  all_goals
                    have HE := Lib.hid hq
                    clear hq
                    go_upto_region 17 with (fail)
                    apply wp_region_lit
                    (with_reducible refine wl_k ?_ ?_); exact rfl; intro K hK; go_simp; refine hK _ ?_; clear hK K
                    (with_reducible refine wl_k ?_ ?_); exact rfl; intro K hK; go_simp; refine hK _ ?_; clear hK K
                    (with_reducible refine wl_k ?_ ?_); exact rfl; intro K hK; go_simp; refine hK _ ?_; clear hK K
                    (with_reducible refine wl_k ?_ ?_); exact rfl; intro K hK; go_simp; refine hK _ ?_; clear hK K
                    (with_reducible refine wl_k ?_ ?_); exact rfl; intro K hK; go_simp; refine hK _ ?_; clear hK K
                    (with_reducible refine wl_k ?_ ?_); exact rfl; intro K hK; go_simp; refine hK _ ?_; clear hK K
                    (with_reducible refine wl_k ?_ ?_); exact rfl; intro K hK; go_simp; refine hK _ ?_; clear hK K
                    (with_reducible refine wl_k ?_ ?_); exact rfl; intro K hK; go_simp; refine hK _ ?_; clear hK K
                    (with_reducible refine wl_k ?_ ?_); exact rfl; intro K hK; go_simp; refine hK _ ?_; clear hK K
                    (with_reducible refine wl_k ?_ ?_); exact rfl; intro K hK; go_simp; refine hK _ ?_; clear hK K
                    (with_reducible refine wl_k ?_ ?_); exact rfl; intro K hK; go_simp; refine hK _ ?_; clear hK K
                    (with_reducible refine wl_k ?_ ?_); exact rfl; intro K hK; go_simp; refine hK _ ?_; clear hK K
                    (with_reducible refine wl_k ?_ ?_); exact rfl; intro K hK; go_simp; refine hK _ ?_; clear hK K
                    (with_reducible refine wl_k ?_ ?_); exact rfl; intro K hK; go_simp; refine hK _ ?_; clear hK K
                    (with_reducible refine wl_k ?_ ?_); exact rfl; intro K hK; go_simp; refine hK _ ?_; clear hK K
                    (with_reducible refine wl_ck ?_ ?_); exact rfl; intro K hK; go_simp; refine ⟨_, _, ⟨rfl, rfl⟩, hK _ _ ⟨_, HE.out, ?_⟩⟩; clear hK K; rintro e wa ⟨rfl, hba⟩; refine ⟨_, rfl, ?_⟩; simp only [put_lit, List.set_cons_zero, List.set_cons_succ]
                    have HAW := Lib.hid (awake_any wa)
                    replace hb := hb.trans (hba.mono hb.size); clear hba
                    (with_reducible refine wl_k ?_ ?_); exact rfl; intro K hK; go_simp; refine hK _ ?_; clear hK K
                    (with_reducible refine wl_k ?_ ?_); exact rfl; intro K hK; go_simp; refine hK _ ?_; clear hK K
                    (with_reducible refine wl_ck ?_ ?_); exact rfl; intro K hK; go_simp; refine ⟨_, _, ⟨rfl, rfl⟩, hK _ _ ⟨_, HAW.out, ?_⟩⟩; clear hK K; rintro e wb ⟨rfl, hbb⟩; refine ⟨_, rfl, ?_⟩; simp only [put_lit, List.set_cons_zero, List.set_cons_succ]
                    (with_reducible refine wl_k ?_ ?_); exact rfl; intro K hK; go_simp; refine hK _ ?_; clear hK K
                    (with_reducible refine wl_k ?_ ?_); exact rfl; intro K hK; go_simp; refine hK _ ?_; clear hK K
                    replace hb := hb.trans (hbb.mono hb.size); clear hbb
                    clear HE HAW
                    go_wp2_with fail
                    go_ret
                    exact ⟨rfl, hb⟩
                · cases h2
              · cases h1
          · have hop2 : ¬ OpenE os := fun h => hop (HSE.out.opn.2 h)
            obtain ⟨-, ⟨-, rfl, rfl, rfl, rfl⟩ | ⟨h, -⟩ | ⟨h, -⟩⟩ := HU1.out
            · obtain ⟨-, ⟨-, rfl, rfl, rfl, rfl⟩ | ⟨h, -⟩ | ⟨h, -⟩⟩ := HU2.out
              · have hq := eqTys_same (w := w9) (TysAt.nil w9 Any) (TysAt.nil w9 Any)
                clear hop hop2 HU1 HU2 HSTA HSTB
                have HE := Lib.hid hq
                clear hq
                go_upto_region 17 with (fail)
                apply wp_region_lit
                (with_reducible refine wl_k ?_ ?_); exact rfl; intro K hK; go_simp; refine hK _ ?_; clear hK K
                (with_reducible refine wl_k ?_ ?_); exact rfl; intro K hK; go_simp; refine hK _ ?_; clear hK K
                (with_reducible refine wl_k ?_ ?_); exact rfl; intro K hK; go_simp; refine hK _ ?_; clear hK K
                (with_reducible refine wl_k ?_ ?_); exact rfl; intro K hK; go_simp; refine hK _ ?_; clear hK K
                (with_reducible refine wl_k ?_ ?_); exact rfl; intro K hK; go_simp; refine hK _ ?_; clear hK K
                (with_reducible refine wl_k ?_ ?_); exact rfl; intro K hK; go_simp; refine hK _ ?_; clear hK K
                (with_reducible refine wl_k ?_ ?_); exact rfl; intro K hK; go_simp; refine hK _ ?_; clear hK K
                (with_reducible refine wl_k ?_ ?_); exact rfl; intro K hK; go_simp; refine hK _ ?_; clear hK K
                (with_reducible refine wl_k ?_ ?_); exact rfl; intro K hK; go_simp; refine hK _ ?_; clear hK K
                (with_reducible refine wl_k ?_ ?_); exact rfl; intro K hK; go_simp; refine hK _ ?_; clear hK K
                (with_reducible refine wl_k ?_ ?_); exact rfl; intro K hK; go_simp; refine hK _ ?_; clear hK K
                (with_reducible refine wl_k ?_ ?_); exact rfl; intro K hK; go_simp; refine hK _ ?_; clear hK K
                (with_reducible refine wl_k ?_ ?_); exact rfl; intro K hK; go_simp; refine hK _ ?_; clear hK K
                (with_reducible refine wl_k ?_ ?_); exact rfl; intro K hK; go_simp; refine hK _ ?_; clear hK K
                (with_reducible refine wl_k ?_ ?_); exact rfl; intro K hK; go_simp; refine hK _ ?_; clear hK K
                (with_reducible refine wl_ck ?_ ?_); exact rfl; intro K hK; go_simp; refine ⟨_, _, ⟨rfl, rfl⟩, hK _ _ ⟨_, HE.out, ?_⟩⟩; clear hK K; rintro e wa ⟨rfl, hba⟩; refine ⟨_, rfl, ?_⟩; simp only [put_lit, List.set_cons_zero, List.set_cons_succ]
                have HAW := Lib.hid (awake_any wa)
                replace hb := hb.trans (hba.mono hb.size); clear hba
                (with_reducible refine wl_k ?_ ?_); exact rfl; intro K hK; go_simp; refine hK _ ?_; clear hK K
                (with_reducible refine wl_k ?_ ?_); exact rfl; intro K hK; go_simp; refine hK _ ?_; clear hK K
                (with_reducible refine wl_ck ?_ ?_); exact rfl; intro K hK; go_simp; refine ⟨_, _, ⟨rfl, rfl⟩, hK _ _ ⟨_, HAW.out, ?_⟩⟩; clear hK K; rintro e wb ⟨rfl, hbb⟩; refine ⟨_, rfl, ?_⟩; simp only [put_lit, List.set_cons_zero, List.set_cons_succ]
                (with_reducible refine wl_k ?_ ?_); exact rfl; intro K hK; go_simp; refine hK _ ?_; clear hK K
                (with_reducible refine wl_k ?_ ?_); exact rfl; intro K hK; go_simp; refine hK _ ?_; clear hK K
                replace hb := hb.trans (hbb.mono hb.size); clear hbb
                clear HE HAW
                go_wp2_with fail
                go_ret
                exact ⟨rfl, hb⟩
              · exact absurd h hop2
              · exact absurd h hop2
            · exact absurd h hop
            · exact absurd h hop
end Go.Proofs.YtokmaehefenpmaaDoor
